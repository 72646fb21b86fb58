import Derived.Test.YtbpkfifiigpdcaaSk16
/-! Sk, part seventeen: clear(l[i:]) of numbers. -/
namespace Go.Proofs.Ytbpkfifiigpdcaa.Sk
open Go Go.RowKit
set_option linter.unusedVariables false
set_option linter.unusedSimpArgs false
section
variable {P : Program} {ops : Array Oper} {Q : Exit → Act → World → Prop} {rest : List Oper} {a : Act} {w0 w : World} {n : Shape} {L : List (Nat × Value)} {C : List Chunk}
  {ty : TypeId} {pos : String} {af : Array Edge} {gd : Option (Nat × Bool)} {E m c g t : Nat} {x : Operand} {xs : List Value}
/-- Elements of one cell, from number k on (there is one at least). -/
theorem s_clear_tail {z : Value} {k : Nat} (i : Nat) (hF : Fr a n L) (hg : wantedB ops L ⟨none, .call { callee := .builtin .clear, args := #[x], argTypes := #[t] }, ty, pos, af, gd⟩ = some true) (ht : sliceB P t E 1 = true) (hz : zeroO P E = some z) (hz1 : z.cells = #[z]) (hzo : z.oneCell' = true)
    (hx : a.eval x = .slice (some (if c = ((k : Nat) : Int).toNat then ⟨g, 0, none⟩ else (⟨g, 0, none⟩ : Addr).add (((k : Nat) : Int).toNat * 1))) (m - ((k : Nat) : Int).toNat) (c - ((k : Nat) : Int).toNat))
    (hS : Sat w0 w C) (hi : nth C i = some (rowC E 1 (.slice (some ⟨g, 0, none⟩) m c) m xs)) (hk : k < m)
    (kk : ∀ w' xs', xs'.take k = xs.take k → Sat w0 w' (upd C i (rowC E 1 (.slice (some ⟨g, 0, none⟩) m c) m xs')) → wpList P ops Q rest a w') : wpList P ops Q (⟨none, .call { callee := .builtin .clear, args := #[x], argTypes := #[t] }, ty, pos, af, gd⟩ :: rest) a w := by
  have h' := hS.front i hi
  have hlen := row_len h'
  obtain ⟨g', c', e, hnc, _⟩ := row_cell h' (by omega)
  injection e with e _ e2
  subst e2
  rw [Int.toNat_natCast, if_neg (by omega), show (⟨g, 0, none⟩ : Addr).add (k * 1) = ⟨g, k, none⟩ by rw [addr_add]; simp] at hx
  have hzl : (Builtin.zeroCells z.cells (m - k)).toList = List.replicate (m - k) z := by
    apply List.ext_getElem?
    intro j
    rw [hz1]
    simp only [Builtin.zeroCells, Array.toList_map, Array.toList_range, List.getElem?_map, List.getElem?_replicate]
    by_cases hj : j < m - k
    · simp [hj, Nat.mod_one]
    · simp [hj]
  obtain ⟨cs, hg', hfit, hS'⟩ := row_write (o := k) (vs := List.replicate (m - k) z) hS hi (by simp; omega)
  refine s_ev0 hF hg rfl (run_clear ht hz hx (by omega) hzl (fun u hu => by rw [List.eq_of_mem_replicate hu]; exact hzo) hg' hfit) (kk _ _ ?_ hS')
  rw [List.append_assoc, List.take_append_of_le_length (by rw [List.length_take, hlen]; omega), List.take_take, Nat.min_self]
end
end Go.Proofs.Ytbpkfifiigpdcaa.Sk
