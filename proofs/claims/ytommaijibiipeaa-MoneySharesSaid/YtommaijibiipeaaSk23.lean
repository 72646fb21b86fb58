import Derived.Test.YtommaijibiipeaaSk22
/-! Sk, part twenty-three: make of elements of two like cells. -/
namespace Go.Proofs.Ytommaijibiipeaa.Sk
open Go Go.RowKit
set_option linter.unusedVariables false
set_option linter.unusedSimpArgs false
section
variable {P : Program} {ρ : Operand → Value} {dst : Option Tmp} {ty : TypeId} {pos : String} {af : Array Edge} {gd : Option (Nat × Bool)} {w : World} {E : Nat}
theorem ef_make2 {t by_ : Nat} {x y : Operand} {z v : Value} {k k' : IntKind} {m : Nat} (ht : sliceB P t E 2 = true) (he : elemB P E 2 by_ = true) (hz : zeroO P E = some z) (hz1 : z.cells = #[v, v]) (hx : ρ x = .int k m) (hy : ρ y = .int k' m) (hb : by_ * m ≤ 281474976710656) (h63 : m ≤ 9223372036854775807) :
    (execOp ρ ⟨dst, .makeSlice t x y, ty, pos, af, gd⟩).run P w = .ok (.value (.slice (some ⟨w.heap.size, 0, none⟩) m m)) (w.alloc (.cells (List.replicate (m * 2) v).toArray E)) := by
  obtain ⟨hu, _⟩ := sliceB_spec ht
  obtain ⟨i, z', hi, hs, hby, hz', _⟩ := elemB_spec he
  have ez : z' = z := by
    unfold zeroO at hz
    rw [hi] at hz
    have : i.zero = some z := hz
    rw [hz'] at this
    injection this
  subst ez
  subst hby
  have hr := run_make (P := P) w t E i z' hu hi hz' k k' m m (by omega) (by omega) (by
    have : ((i.bytes * m : Nat) : Int) ≤ 281474976710656 := by omega
    rwa [Int.natCast_mul] at this) (by omega)
  simp only [Int.toNat_natCast, hs] at hr
  have e : madeCells z'.cells (m * 2) = (List.replicate (m * 2) v).toArray := by
    apply Array.ext'
    apply List.ext_getElem?
    intro j
    rw [hz1]
    simp only [madeCells, Array.toList_map, Array.toList_range, List.getElem?_map, List.getElem?_range', List.getElem?_replicate]
    by_cases hj : j < m * 2
    · have h2 : j % 2 = 0 ∨ j % 2 = 1 := by omega
      rcases h2 with h2 | h2 <;> simp [hj, h2]
    · simp [hj]
  rw [e] at hr
  simp only [execOp, hx, hy, Sem.run_bind, hr, Result.andThen_ok]
  rfl
end
end Go.Proofs.Ytommaijibiipeaa.Sk
