import Derived.Test.YtbpkfifiigpdcaaSk7
/-! Sk, part eight: the slices that came in. -/
namespace Go.Proofs.Ytbpkfifiigpdcaa.Sk
open Go Go.RowKit
set_option linter.unusedVariables false
set_option linter.unusedSimpArgs false

section ops
variable {P : Program} {ρ : Operand → Value} {dst : Option Tmp} {ty : TypeId} {pos : String} {af : Array Edge} {g : Option (Nat × Bool)}
theorem pu_elemA {t e n : Nat} {x y : Operand} {k : IntKind} {A : Addr} {len cap : Nat} {i : Int} (ht : sliceB P t e n = true) (hx : ρ x = .slice (some A) len cap) (hy : ρ y = .int k i) (h0 : 0 ≤ i) (h1 : i < len) :
    Pu P ρ ⟨dst, .indexAddr t x y, ty, pos, af, g⟩ (.pointer (some (A.add (i.toNat * n)))) := fun w => by
  obtain ⟨hu, j, hj, hn⟩ := sliceB_spec ht
  simp [execOp, hx, hy, Instr.indexAt, asIntOf, underlying, program, hu, sizeOf, typeInfo, hj, hn, h0, h1, Sem.run, Sem.bind, bind, pure]
end ops

theorem Sat.whole_at {w0 w W : World} {C : List Chunk} {i : Nat} {p : Addr} {v : Value} (h : Sat w0 w C) (hi : nth C i = some (whole W)) (hv : W.cell? p = some v) : w.cell? p = some v := (h.front i hi).whole_cell hv

/-- A slice of whole numbers that came in: what each place holds. -/
structure IntsIn (W : World) (a : Option Addr) (len : Nat) (zs : List Int) : Prop where
  at_ : ∀ i, i < len → ∃ x, a = some x ∧ W.cell? (x.add i) = some (.int .i64 (zs.getD i 0)) ∧ -9223372036854775808 ≤ zs.getD i 0 ∧ zs.getD i 0 ≤ 9223372036854775807
  len : len ≤ zs.length
def IsRow (k : IntKind) (w : World) (a : Option Addr) (len cap : Nat) (zs : List Int) : Prop :=
  (a = none ∧ len = 0 ∧ cap = 0 ∧ zs = []) ∨
  ∃ x, a = some x ∧ len ≤ cap ∧ cap ≤ maxLen ∧ zs.length = cap ∧ (∀ i, i < zs.length → w.cell? (x.add i) = some (.int k (zs.getD i 0))) ∧ ∀ n ∈ zs, (Lit.int k n).wf = true
theorem wf64 {n : Int} (h : (Lit.int .i64 n).wf = true) : -9223372036854775808 ≤ n ∧ n ≤ 9223372036854775807 := by
  simp only [Lit.wf, Bool.and_eq_true, decide_eq_true_eq] at h
  have e1 : IntKind.min .i64 = -9223372036854775808 := by decide
  have e2 : IntKind.max .i64 = 9223372036854775807 := by decide
  rw [e1, e2] at h
  exact h
theorem IsRow.ints {w : World} {a : Option Addr} {len cap : Nat} {zs : List Int} (h : IsRow .i64 w a len cap zs) : IntsIn w a len zs := by
  rcases h with ⟨rfl, rfl, rfl, rfl⟩ | ⟨x, rfl, hl, hm, hz, hc, hw⟩
  · exact ⟨fun i hi => absurd hi (by omega), Nat.le_refl _⟩
  · refine ⟨fun i hi => ⟨x, rfl, hc i (by omega), ?_⟩, by omega⟩
    have hlt : i < zs.length := by omega
    have := hw (zs.getD i 0) (by
      rw [List.getD_eq_getElem?_getD, List.getElem?_eq_getElem hlt]
      exact List.getElem_mem hlt)
    exact wf64 this
end Go.Proofs.Ytbpkfifiigpdcaa.Sk
