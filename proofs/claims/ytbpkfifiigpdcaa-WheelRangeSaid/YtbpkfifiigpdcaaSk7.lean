import Derived.Test.YtbpkfifiigpdcaaSk6
/-! Sk, part seven: single elements of rows. -/
namespace Go.Proofs.Ytbpkfifiigpdcaa.Sk
open Go Go.RowKit
open Go.Proofs.YtbpkfifiigpdcaaW.PrintLast
set_option linter.unusedVariables false
set_option linter.unusedSimpArgs false

section rows
variable {w0 w : World} {C : List Chunk} {E sz : Nat} {n : Nat} {xs : List Value}
/-- Element k of a row of one-cell elements, told at place i. -/
theorem row_at {i g c k : Nat} {v : Value} (h : Sat w0 w C) (hi : nth C i = some (rowC E 1 (.slice (some ⟨g, 0, none⟩) n c) n xs)) (hv : xs[k]? = some v) : w.cell? ⟨g, 0 + (k : Int).toNat * 1, none⟩ = some v := by
  have hl := row_len (h.front i hi)
  have hk : k < xs.length := (List.getElem?_eq_some_iff.1 hv).1
  obtain ⟨g', c', e, _, hh⟩ := row_cell (h.front i hi) (by omega)
  injection e with e _ _
  injection e with e
  injection e with e
  subst e
  have := hh _ _ hv
  rw [Int.toNat_natCast, Nat.zero_add, Nat.mul_one]
  exact this
theorem row_at0 {i g c : Nat} {v : Value} (h : Sat w0 w C) (hi : nth C i = some (rowC E 1 (.slice (some ⟨g, 0, none⟩) n c) n xs)) (hv : xs[0]? = some v) : w.cell? ⟨g, 0 + (0 : Int).toNat * 1, none⟩ = some v := row_at (k := 0) h hi hv
/-- A row that is not empty has an address. -/
theorem row_some {i c : Nat} {A : Option Addr} (h : Sat w0 w C) (hi : nth C i = some (rowC E sz (.slice A n c) n xs)) (hk : 0 < n) : ∃ g, A = some ⟨g, 0, none⟩ := by
  obtain ⟨g', c', e, _, _⟩ := row_cell (h.front i hi) hk
  injection e with e _ _
  exact ⟨g', e⟩
/-- Element k of a row of one-cell elements is written. -/
theorem sat_rstore {i g c k : Nat} {v : Value} (h : Sat w0 w C) (hi : nth C i = some (rowC E 1 (.slice (some ⟨g, 0, none⟩) n c) n xs)) (hk : k < n) : ∃ cs, w.heap[g]? = some (.cells cs E (0, 0)) ∧ k + 1 ≤ cs.size ∧
    Sat w0 (w.setRow g (storeA cs k [v])) (upd C i (rowC E 1 (.slice (some ⟨g, 0, none⟩) n c) n (xs.set k v))) := by
  have h' := h.front i hi
  rcases (row_open h').2 with ⟨e, _⟩ | ⟨g', cap, cur, e, h1, h2, h3, h4, h5⟩
  · cases e
  · injection e with e e1 e2
    injection e with e
    injection e with e
    subst e
    subst e2
    have hsz : k < cur.size := by omega
    refine ⟨cur, h5.obj, hsz, ?_⟩
    have h6 := sat_setRow (i := 0) (cs' := storeA cur k [v]) h5 rfl
    refine (row_shut (n := n) (cap := c) h6 h1 h2 ?_ ?_).back hi
    · simp only [storeA, putL, List.size_toArray, List.length_append, List.length_take, List.length_drop, List.length_cons, List.length_nil, Array.length_toList]
      omega
    · rw [← h4]
      have : (storeA cur k [v]).toList = cur.toList.set k v := by
        unfold storeA putL
        rw [List.set_eq_take_append_cons_drop, if_pos (by simpa using hsz)]
        simp
      rw [this, List.take_set]
end rows

section steps
variable {P : Program} {ops : Array Oper} {Q : Exit → Act → World → Prop} {rest : List Oper} {o : Oper} {a : Act} {w0 w w' : World} {n : Shape} {d : Nat} {L : List (Nat × Value)} {v : Value} {C : List Chunk}
variable {S : World → Prop} {ds : List Nat} {ord : List (Nat × How)} {k j : Nat}
theorem rstore_run {dst : Option Tmp} {ty : TypeId} {pos : String} {af : Array Edge} {gd : Option (Nat × Bool)} {t g i E nn c : Nat} {x y : Operand} {xs : List Value} (hx : a.eval x = .pointer (some ⟨g, 0 + (k : Int).toNat * 1, none⟩)) (hy : a.eval y = v) (hz : sizeB P t 1 = true)
    (h1 : v.oneCell' = true) (hS : Sat w0 w C) (hi : nth C i = some (rowC E 1 (.slice (some ⟨g, 0, none⟩) nn c) nn xs)) (hk : k < nn) :
    ∃ w', (execOp a.eval ⟨dst, .store t x y, ty, pos, af, gd⟩).run P w = .ok .skip w' ∧ Sat w0 w' (upd C i (rowC E 1 (.slice (some ⟨g, 0, none⟩) nn c) nn (xs.set k v))) := by
  obtain ⟨cs, hg, hfit, hS'⟩ := sat_rstore (v := v) hS hi hk
  rw [Int.toNat_natCast, Nat.zero_add, Nat.mul_one] at hx
  exact ⟨_, run_store_row hx hy (cells_one h1) hz (fun u hu => by simp at hu; subst hu; exact h1) hg hfit, hS'⟩
theorem s_rstore {t g E nn c : Nat} {x y : Operand} {ty : TypeId} {pos : String} {af : Array Edge} {gd : Option (Nat × Bool)} (i : Nat) {xs : List Value} (hF : Fr a n L) (hg : wantedB ops L ⟨none, .store t x y, ty, pos, af, gd⟩ = some true)
    (hx : a.eval x = .pointer (some ⟨g, 0 + (k : Int).toNat * 1, none⟩)) (hy : a.eval y = v) (hS : Sat w0 w C) (hi : nth C i = some (rowC E 1 (.slice (some ⟨g, 0, none⟩) nn c) nn xs)) (hz : sizeB P t 1 = true) (h1 : v.oneCell' = true) (hk : k < nn)
    (kk : ∀ w', Sat w0 w' (upd C i (rowC E 1 (.slice (some ⟨g, 0, none⟩) nn c) nn (xs.set k v))) → wpList P ops Q rest a w') : wpList P ops Q (⟨none, .store t x y, ty, pos, af, gd⟩ :: rest) a w :=
  let ⟨_, hr, hS'⟩ := rstore_run hx hy hz h1 hS hi hk
  s_sk hF hg rfl hr (kk _ hS')
theorem l_rstore {p t g E nn c : Nat} {x y : Operand} {ty : TypeId} {pos : String} {af : Array Edge} {gd : Option (Nat × Bool)} (i : Nat) {xs : List Value} (hD : Drawn P ops Q S ds ord) (hF : Fr a n L) (hp : ord[p]? = some (j, .ls))
    (ho : ops[j]? = some ⟨none, .store t x y, ty, pos, af, gd⟩) (hg : wantedB ops L ⟨none, .store t x y, ty, pos, af, gd⟩ = some true)
    (hx : a.eval x = .pointer (some ⟨g, 0 + (k : Int).toNat * 1, none⟩)) (hy : a.eval y = v) (hS : Sat w0 w C) (hi : nth C i = some (rowC E 1 (.slice (some ⟨g, 0, none⟩) nn c) nn xs)) (hz : sizeB P t 1 = true) (h1 : v.oneCell' = true) (hk : k < nn)
    (kk : ∀ w', Sat w0 w' (upd C i (rowC E 1 (.slice (some ⟨g, 0, none⟩) nn c) nn (xs.set k v))) → wpD P ops Q S ds ord (p + 1) a w') : wpD P ops Q S ds ord p a w :=
  let ⟨_, hr, hS'⟩ := rstore_run hx hy hz h1 hS hi hk
  l_sk hD hF hp ho hg rfl hr (kk _ hS')
end steps

section passed
variable {P : Program} {ops : Array Oper} {Q : Exit → Act → World → Prop} {S : World → Prop} {ds : List Nat} {ord : List (Nat × How)} {i j : Nat} {o : Oper} {a : Act} {w w' : World} {n : Shape} {d : Nat} {L : List (Nat × Value)} {v : Value}
/-- An effect that is passed by. -/
theorem d_noon (hD : Drawn P ops Q S ds ord) (hF : Fr a n L) (hp : ord[i]? = some (j, .on)) (ho : ops[j]? = some o) (hg : wantedB ops L o = some false) (hd : o.dst = some d) (hn : Nat.blt d n.size = true) (hS : S w)
    (k : ∀ a', Fr a' n ((d, undef) :: L) → wpD P ops Q S ds ord (i + 1) a' w) : wpD P ops Q S ds ord i a w := by
  obtain ⟨hc, hi⟩ := chk_at hD.ok hp
  simp only [chk1, Bool.and_eq_true] at hc
  unfold wpD
  rw [show ops.size - i = (ops.size - (i + 1)) + 1 by omega]
  refine one_ (lst ops.size ord (i + 1)) ho hd hc.1 (by simpa using hc.2) fun K hK => ?_
  rw [wanted_of hF hg, if_neg (by simp)]
  exact hK _ _ hS fun _ => k _ (hF.put hn _)
theorem l_no (hD : Drawn P ops Q S ds ord) (hF : Fr a n L) (hp : ord[i]? = some (j, .ls)) (ho : ops[j]? = some o) (hg : wantedB ops L o = some false) (hd : o.dst = some d) (hn : Nat.blt d n.size = true)
    (k : ∀ a', Fr a' n ((d, undef) :: L) → wpD P ops Q S ds ord (i + 1) a' w) : wpD P ops Q S ds ord i a w := by
  obtain ⟨hc, hi⟩ := chk_at hD.ok hp
  simp only [chk1, Bool.and_eq_true] at hc
  unfold wpD
  rw [show ops.size - i = (ops.size - (i + 1)) + 1 by omega]
  refine last_ (lst ops.size ord (i + 1)) ho hd hc.1 (by simpa using hc.2) fun K hK => ?_
  rw [wanted_of hF hg, if_neg (by simp)]
  exact hK _ _ (k _ (hF.put hn _))
end passed

/-- What a call does to the chunk at place i. -/
theorem at_place {P : Program} {f : FuncId} {args : Array Value} {w0 w : World} {C : List Chunk} {c : Chunk} {R : Ending → World → Prop} (i : Nat) (hS : Sat w0 w C) (hi : nth C i = some c) (h : Sat w0 w (c :: del C i) → Calls P f args w R) : Calls P f args w R := h (hS.front i hi)
theorem same_place {w0 w : World} {C : List Chunk} {c : Chunk} (i : Nat) (h : Sat w0 w (c :: del C i)) (hi : nth C i = some c) : Sat w0 w C := by
  have := h.perm (nth_perm C i c hi).symm
  exact this
end Go.Proofs.Ytbpkfifiigpdcaa.Sk
