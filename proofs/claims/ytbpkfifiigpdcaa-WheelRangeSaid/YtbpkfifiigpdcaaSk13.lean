import Derived.Test.YtbpkfifiigpdcaaSk12
/-! Sk, part thirteen: the first element goes: copy(l, l[1:]), clear(l[n:]), l[:n]. -/
namespace Go.Proofs.Ytbpkfifiigpdcaa.Sk
open Go Go.RowKit
set_option linter.unusedVariables false
set_option linter.unusedSimpArgs false

section
variable {w0 w : World} {C : List Chunk} {E sz n c g i : Nat} {xs : List Value}
theorem storeA_list {cs : Array Value} {o : Nat} {vs : List Value} : (storeA cs o vs).toList = cs.toList.take o ++ vs ++ cs.toList.drop (o + vs.length) := by
  unfold storeA putL
  simp
/-- A row's begin. -/
theorem row_cut {A : Addr} {m : Nat} (h : Sat w0 w (rowC E sz (.slice (some A) n c) n xs :: C)) (hm : m ≤ n) : Sat w0 w (rowC E sz (.slice (some A) m c) m (xs.take (m * sz)) :: C) := by
  rcases (row_open h).2 with ⟨e, _⟩ | ⟨g, cap, cur, e, h1, h2, h3, h4, h5⟩
  · cases e
  · injection e with e _ e2
    injection e with e
    subst e; subst e2
    refine row_shut h5 (by omega) h2 h3 ?_
    rw [← h4, List.take_take, Nat.min_eq_left (Nat.mul_le_mul_right _ hm)]
/-- What is stored within a row. -/
theorem row_write {o : Nat} {vs : List Value} (hS : Sat w0 w C) (hi : nth C i = some (rowC E sz (.slice (some ⟨g, 0, none⟩) n c) n xs)) (ho : o + vs.length ≤ n * sz) :
    ∃ cs, w.heap[g]? = some (.cells cs E (0, 0)) ∧ o + vs.length ≤ cs.size ∧ Sat w0 (w.setRow g (storeA cs o vs)) (upd C i (rowC E sz (.slice (some ⟨g, 0, none⟩) n c) n (xs.take o ++ vs ++ xs.drop (o + vs.length)))) := by
  have h' := hS.front i hi
  rcases (row_open h').2 with ⟨e, _⟩ | ⟨g', cap, cur, e, h1, h2, h3, h4, h5⟩
  · cases e
  · injection e with e e1 e2
    injection e with e
    injection e with e
    subst e
    subst e2
    have hle : n * sz ≤ c * sz := Nat.mul_le_mul_right _ h1
    refine ⟨cur, h5.obj, by omega, ?_⟩
    have h6 := sat_setRow (i := 0) (cs' := storeA cur o vs) h5 rfl
    refine (row_shut (n := n) (cap := c) h6 h1 h2 ?_ ?_).back hi
    · have : (storeA cur o vs).toList.length = c * sz := by
        rw [storeA_list]
        simp [h3]
        omega
      simpa using this
    · rw [storeA_list, ← h4]
      apply List.ext_getElem?
      intro j
      simp only [List.getElem?_take, List.getElem?_append, List.length_append, List.length_take, List.getElem?_drop, Array.length_toList, h3]
      by_cases hj : j < n * sz
      · rw [if_pos hj]
        have e1 : min o (c * sz) = o := by omega
        have e2 : min o (min (n * sz) (c * sz)) = o := by omega
        rw [e1, e2]
        by_cases h7 : j < o + vs.length
        · rw [if_pos h7, if_pos h7]
          by_cases h8 : j < o
          · simp [h8, hj]
          · simp [h8]
        · rw [if_neg h7, if_neg h7]
          have : o + vs.length + (j - (o + vs.length)) < n * sz := by omega
          simp [this]
      · rw [if_neg hj]
        have e2 : min o (min (n * sz) (c * sz)) = o := by omega
        rw [e2]
        have h7 : ¬ j < o + vs.length := by omega
        have : ¬ o + vs.length + (j - (o + vs.length)) < n * sz := by omega
        rw [if_neg h7]
        simp [this]
end
section ops
variable {P : Program} {ρ : Operand → Value} {dst : Option Tmp} {ty : TypeId} {pos : String} {af : Array Edge} {gd : Option (Nat × Bool)} {w0 w : World} {C : List Chunk} {E sz n c g : Nat} {xs : List Value}
theorem copy_down {t t' : Nat} {x y : Operand} (i : Nat) (ht : sliceB P t E sz = true) (hx : ρ x = .slice (some ⟨g, 0, none⟩) n c) (hy : ρ y = .slice (some (if c = 1 then ⟨g, 0, none⟩ else (⟨g, 0, none⟩ : Addr).add (1 * sz))) (n - 1) (c - 1))
    (hS : Sat w0 w C) (hi : nth C i = some (rowC E sz (.slice (some ⟨g, 0, none⟩) n c) n xs)) (hn : 0 < n) (h1 : ∀ u ∈ xs, u.oneCell' = true) :
    ∃ w' xs', (execOp ρ ⟨dst, .call { callee := .builtin .copy, args := #[x, y], argTypes := #[t, t'] }, ty, pos, af, gd⟩).run P w = .ok (.value (.int .i64 (n - 1 : Nat))) w' ∧ xs'.take ((n - 1) * sz) = xs.drop sz ∧ (∀ u ∈ xs', u.oneCell' = true) ∧
      Sat w0 w' (upd C i (rowC E sz (.slice (some ⟨g, 0, none⟩) n c) n xs')) := by
  have h' := hS.front i hi
  have hlen := row_len h'
  obtain ⟨g', c', e, hnc, hcell⟩ := row_cell h' hn
  injection e with e e1 e2
  injection e with e
  injection e with e
  subst e; subst e2
  have hvl : (xs.drop sz).length = (n - 1) * sz := by
    rw [List.length_drop, hlen, Nat.sub_mul, Nat.one_mul]
  have hle : (n - 1) * sz + sz = n * sz := by
    have : n = (n - 1) + 1 := by omega
    rw [this, Nat.add_sub_cancel, Nat.add_mul, Nat.one_mul]
  obtain ⟨cs, hg, hfit, hS'⟩ := row_write (o := 0) (vs := xs.drop sz) hS hi (by omega)
  refine ⟨_, _, run_copy ht hx hy (n := n - 1) (Nat.min_eq_left (by omega)) ?_ hvl (fun u hu => h1 u (List.mem_of_mem_drop hu)) hg hfit, ?_, ?_, hS'⟩
  · intro j v hj
    rw [List.getElem?_drop] at hj
    by_cases hc : c = 1
    · have : n = 1 := by omega
      subst this
      have := (List.getElem?_eq_some_iff.1 hj).1
      omega
    · rw [if_neg hc, Nat.one_mul, add_add]
      have := hcell _ _ hj
      unfold Addr.add
      split
      · rename_i h0; rw [h0] at this; exact this
      · simpa using this
  · rw [List.take_zero, List.nil_append, Nat.zero_add, ← hvl]
    simp
  · intro u hu
    rw [List.take_zero, List.nil_append] at hu
    rcases List.mem_append.1 hu with hu | hu
    · exact h1 u (List.mem_of_mem_drop hu)
    · exact h1 u (List.mem_of_mem_drop hu)
theorem clear_last {t : Nat} {x : Operand} {z : Value} (i : Nat) (ht : sliceB P t E sz = true) (hz : zeroO P E = some z) (hzs : z.cells.size = sz) (hz1 : ∀ u ∈ z.cells.toList, u.oneCell' = true) (hx : ρ x = .slice (some (if c = ((n - 1 : Nat) : Int).toNat then ⟨g, 0, none⟩ else (⟨g, 0, none⟩ : Addr).add (((n - 1 : Nat) : Int).toNat * sz))) (n - ((n - 1 : Nat) : Int).toNat) (c - ((n - 1 : Nat) : Int).toNat))
    (hS : Sat w0 w C) (hi : nth C i = some (rowC E sz (.slice (some ⟨g, 0, none⟩) n c) n xs)) (hn : 0 < n) :
    ∃ w' xs', (execOp ρ ⟨dst, .call { callee := .builtin .clear, args := #[x], argTypes := #[t] }, ty, pos, af, gd⟩).run P w = .ok (.value (.tuple #[])) w' ∧ xs'.take ((n - 1) * sz) = xs.take ((n - 1) * sz) ∧
      Sat w0 w' (upd C i (rowC E sz (.slice (some ⟨g, 0, none⟩) n c) n xs')) := by
  have h' := hS.front i hi
  have hlen := row_len h'
  obtain ⟨g', c', e, hnc, hcell⟩ := row_cell h' hn
  injection e with e e1 e2
  injection e with e
  injection e with e
  subst e; subst e2
  have hle : (n - 1) * sz + sz = n * sz := by
    have : n = (n - 1) + 1 := by omega
    rw [this, Nat.add_sub_cancel, Nat.add_mul, Nat.one_mul]
  rw [Int.toNat_natCast, if_neg (by omega), show n - (n - 1) = 1 by omega, show (⟨g, 0, none⟩ : Addr).add ((n - 1) * sz) = ⟨g, 0 + (n - 1) * sz, none⟩ from addr_add g 0 _, Nat.zero_add] at hx
  have hzl : (Builtin.zeroCells z.cells 1).toList = z.cells.toList := by
    apply List.ext_getElem?
    intro j
    by_cases hj : j < z.cells.size
    · have : j % z.cells.size = j := Nat.mod_eq_of_lt hj
      simp [Builtin.zeroCells, hj, this]
    · simp [Builtin.zeroCells, hj]
  obtain ⟨cs, hg, hfit, hS'⟩ := row_write (o := (n - 1) * sz) (vs := z.cells.toList) hS hi (by rw [Array.length_toList, hzs]; omega)
  refine ⟨_, _, run_clear ht hz hx (by omega) hzl hz1 hg hfit, ?_, hS'⟩
  rw [List.append_assoc, List.take_append_of_le_length (by rw [List.length_take, hlen]; omega), List.take_take, Nat.min_self]
end ops
section steps
variable {P : Program} {ops : Array Oper} {Q : Exit → Act → World → Prop} {rest : List Oper} {a : Act} {w0 w : World} {n : Shape} {d : Nat} {L : List (Nat × Value)} {C : List Chunk} {S : World → Prop} {ds : List Nat} {ord : List (Nat × How)} {p j : Nat}
  {ty : TypeId} {pos : String} {af : Array Edge} {gd : Option (Nat × Bool)} {E sz m c g t t' : Nat} {x y : Operand} {xs : List Value}
theorem l_copy_down (i : Nat) (hD : Drawn P ops Q S ds ord) (hF : Fr a n L) (hp : ord[p]? = some (j, .ls)) (ho : ops[j]? = some ⟨some d, .call { callee := .builtin .copy, args := #[x, y], argTypes := #[t, t'] }, ty, pos, af, gd⟩)
    (hg : wantedB ops L ⟨some d, .call { callee := .builtin .copy, args := #[x, y], argTypes := #[t, t'] }, ty, pos, af, gd⟩ = some true) (hn : Nat.blt d n.size = true) (ht : sliceB P t E sz = true) (hx : a.eval x = .slice (some ⟨g, 0, none⟩) m c) (hy : a.eval y = .slice (some (if c = 1 then ⟨g, 0, none⟩ else (⟨g, 0, none⟩ : Addr).add (1 * sz))) (m - 1) (c - 1))
    (hS : Sat w0 w C) (hi : nth C i = some (rowC E sz (.slice (some ⟨g, 0, none⟩) m c) m xs)) (hm : 0 < m) (h1 : ∀ u ∈ xs, u.oneCell' = true)
    (k : ∀ w' xs', xs'.take ((m - 1) * sz) = xs.drop sz → (∀ u ∈ xs', u.oneCell' = true) → Sat w0 w' (upd C i (rowC E sz (.slice (some ⟨g, 0, none⟩) m c) m xs')) → ∀ a', Fr a' n ((d, .int .i64 (m - 1 : Nat)) :: L) → wpD P ops Q S ds ord (p + 1) a' w') : wpD P ops Q S ds ord p a w := by
  obtain ⟨w', xs', hr, h2, h3, hS'⟩ := copy_down (dst := some d) (ty := ty) (pos := pos) (af := af) (gd := gd) (t' := t') (ρ := a.eval) i ht hx hy hS hi hm h1
  exact l_ev hD hF hp ho hg rfl hn hr (k w' xs' h2 h3 hS')
theorem s_clear_last {z : Value} (i : Nat) (hF : Fr a n L) (hg : wantedB ops L ⟨none, .call { callee := .builtin .clear, args := #[x], argTypes := #[t] }, ty, pos, af, gd⟩ = some true) (ht : sliceB P t E sz = true) (hz : zeroO P E = some z) (hzs : z.cells.size = sz) (hz1 : ∀ u ∈ z.cells.toList, u.oneCell' = true)
    (hx : a.eval x = .slice (some (if c = ((m - 1 : Nat) : Int).toNat then ⟨g, 0, none⟩ else (⟨g, 0, none⟩ : Addr).add (((m - 1 : Nat) : Int).toNat * sz))) (m - ((m - 1 : Nat) : Int).toNat) (c - ((m - 1 : Nat) : Int).toNat))
    (hS : Sat w0 w C) (hi : nth C i = some (rowC E sz (.slice (some ⟨g, 0, none⟩) m c) m xs)) (hm : 0 < m)
    (k : ∀ w' xs', xs'.take ((m - 1) * sz) = xs.take ((m - 1) * sz) → Sat w0 w' (upd C i (rowC E sz (.slice (some ⟨g, 0, none⟩) m c) m xs')) → wpList P ops Q rest a w') : wpList P ops Q (⟨none, .call { callee := .builtin .clear, args := #[x], argTypes := #[t] }, ty, pos, af, gd⟩ :: rest) a w := by
  obtain ⟨w', xs', hr, h2, hS'⟩ := clear_last (dst := none) (ty := ty) (pos := pos) (af := af) (gd := gd) (ρ := a.eval) i ht hz hzs hz1 hx hS hi hm
  exact s_ev0 hF hg rfl hr (k w' xs' h2 hS')
end steps
end Go.Proofs.Ytbpkfifiigpdcaa.Sk
