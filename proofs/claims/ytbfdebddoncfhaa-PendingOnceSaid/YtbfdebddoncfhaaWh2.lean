import Derived.Test.YtbfdebddoncfhaaWh1
/-! The wheel: Left, New, Add. -/
namespace Go.Proofs.Ytbfdebddoncfhaa
open Go Go.RowKit Go.Proofs.Ytbfdebddoncfhaa.Sk
set_option linter.unusedVariables false
set_option linter.unusedSimpArgs false
set_option maxRecDepth 100000

/-! ### one row out of the slots, and back -/
theorem zip_erase {α β γ : Type} (f : α → β → γ) : ∀ (hs : List α) (ls : List β) (k : Nat) (h : α) (l : β), hs[k]? = some h → ls[k]? = some l → (List.zipWith f hs ls).Perm (f h l :: (List.zipWith f hs ls).eraseIdx k)
  | [], _, k, _, _, h1, _ => by simp at h1
  | _ :: _, [], k, _, _, _, h2 => by simp at h2
  | a :: hs, b :: ls, 0, h, l, h1, h2 => by simp at h1 h2; subst h1; subst h2; simp
  | a :: hs, b :: ls, k + 1, h, l, h1, h2 => by
    simp only [List.zipWith_cons_cons, List.eraseIdx_cons_succ]
    exact (List.Perm.cons _ (zip_erase f hs ls k h l (by simpa using h1) (by simpa using h2))).trans (List.Perm.swap _ _ _)
theorem zip_set {α β γ : Type} (f : α → β → γ) : ∀ (hs : List α) (ls : List β) (k : Nat) (h h' : α) (l l' : β), hs[k]? = some h → ls[k]? = some l → (f h' l' :: (List.zipWith f hs ls).eraseIdx k).Perm (List.zipWith f (hs.set k h') (ls.set k l'))
  | [], _, k, _, _, _, _, h1, _ => by simp at h1
  | _ :: _, [], k, _, _, _, _, _, h2 => by simp at h2
  | a :: hs, b :: ls, 0, h, h', l, l', h1, h2 => by simp
  | a :: hs, b :: ls, k + 1, h, h', l, l', h1, h2 => by
    simp only [List.zipWith_cons_cons, List.eraseIdx_cons_succ, List.set_cons_succ]
    exact (List.Perm.swap _ _ _).trans (List.Perm.cons _ (zip_set f hs ls k h h' l l' (by simpa using h1) (by simpa using h2)))
theorem rows_take {w0 w : World} {A B C : Chunk} {E k : Nat} {hs : List Value} {ls : List (List Ent)} {h : Value} {l : List Ent} {F : List Chunk} (hS : Sat w0 w (A :: B :: C :: (rowsC E hs ls ++ F))) (h1 : hs[k]? = some h) (h2 : ls[k]? = some l) :
    Sat w0 w (rowC E 3 h l.length (entCells l) :: A :: B :: C :: ((rowsC E hs ls).eraseIdx k ++ F)) := by
  refine hS.perm ?_
  have := (zip_erase (fun h l => rowC E 3 h l.length (entCells l)) hs ls k h l h1 h2).append_right F
  refine ((((this.cons C).cons B).cons A)).trans ?_
  exact ((List.Perm.swap _ _ _).cons B |>.cons A).trans (((List.Perm.swap _ _ _).cons A).trans (List.Perm.swap _ _ _))
theorem rows_put {w0 w : World} {A B C : Chunk} {E k : Nat} {hs : List Value} {ls : List (List Ent)} {h h' : Value} {l l' : List Ent} {F : List Chunk} (hS : Sat w0 w (rowC E 3 h' l'.length (entCells l') :: A :: B :: C :: ((rowsC E hs ls).eraseIdx k ++ F))) (h1 : hs[k]? = some h) (h2 : ls[k]? = some l) :
    Sat w0 w (A :: B :: C :: (rowsC E (hs.set k h') (ls.set k l') ++ F)) := by
  refine hS.perm ?_
  have := (zip_set (fun h l => rowC E 3 h l.length (entCells l)) hs ls k h h' l l' h1 h2).append_right F
  refine List.Perm.trans ?_ ((((this.cons C).cons B).cons A))
  exact (List.Perm.swap _ _ _).trans (((List.Perm.swap _ _ _).cons A).trans ((List.Perm.swap _ _ _).cons B |>.cons A))


/-- The bounds under which all goes well: TB bytes an entry. -/
structure WOk (TB : Nat) (W : Whl) : Prop where
  one : 1 ≤ W.slots.length
  most : W.slots.length ≤ 4096
  now0 : 0 ≤ W.now
  now1 : W.now ≤ 4611686018427387904
  last0 : 0 ≤ W.last
  last1 : W.last ≤ 4611686018427387904
  room : ∀ l ∈ W.slots, (l.length + 1) * TB ≤ 140737488355328
def Whl.slotOf (W : Whl) (at_ : Int) : Nat := (at_ % W.slots.length).toNat
def Whl.add (W : Whl) (t : Int) (v : Value) (hv : v.oneCell' = true) : Whl :=
  { slots := W.slots.set (W.slotOf (W.now + t)) (W.slots.getD (W.slotOf (W.now + t)) [] ++ [⟨W.last + 1, W.now + t, v, hv⟩]), ticks := mPut W.ticks (W.last + 1) (W.now + t), now := W.now, last := W.last + 1 }

theorem add_no_i {w0 w : World} {g : Nat} {W : Whl} {F : List Chunk} {t : Int} {v : Value} (hS : Sat w0 w (wheelC 123 124 126 g W :: F)) (ht : t < 1 ∨ 100000 < t) :
    Calls Try.prog 31 #[.pointer (some ⟨g, 0, none⟩), .int .i64 t, v] w fun e w' => e = .returned (.tuple #[.int .i64 0, .int .i64 1]) ∧ Sat w0 w' (wheelC 123 124 126 g W :: F) := by
  refine enter Try.func31 rfl Try.ntmps31 (Nat.le_of_ble_eq_true rfl) fun a hF => ?_
  refine wp_seq_k fun K0 hK0 => ?_
  refine wp_region_lit ?_
  refine s_pu hF rfl rfl rfl (pu_assign (hF.ev rfl)) ?_; clear hF; intro a hF
  refine s_pu hF rfl rfl rfl (pu_assign (hF.ev rfl)) ?_; clear hF; intro a hF
  refine s_done ?_
  refine hK0 _ _ ?_; clear hK0
  refine wp_seq_k fun K1 hK1 => ?_
  refine wp_seq_k fun K2 hK2 => ?_
  refine wp_region_lit ?_
  refine s_pu hF rfl rfl rfl (pu_move (hF.ev rfl)) ?_; clear hF; intro a hF
  refine s_pu hF rfl rfl rfl (pu_lss (hF.ev rfl) (hF.ev rfl)) ?_; clear hF; intro a hF
  refine s_pu hF rfl rfl rfl (pu_move (hF.ev rfl)) ?_; clear hF; intro a hF
  refine fr_split hF (t := 12) rfl ?_ ?_
  · clear hF; intro hg12 hF   -- slot 12 true
    try simp only [decide_eq_true_eq, decide_eq_false_iff_not, Bool.not_eq_true', Bool.not_eq_false', Int.not_lt, Int.not_le, ne_eq, Decidable.not_not, Bool.or_eq_true, Bool.or_eq_false_iff, Bool.and_eq_true, Bool.and_eq_false_imp] at hg12
    refine s_no hF rfl rfl rfl ?_; clear hF; intro a hF
    refine s_no hF rfl rfl rfl ?_; clear hF; intro a hF
    refine s_pu hF rfl rfl rfl ((by exact pu_pick_t (hF.ev rfl) (hF.ev rfl))) ?_; clear hF; intro a hF
    refine s_done ?_
    refine hK2 _ _ ?_; clear hK2
    refine wp_cond_true (hF.ev rfl) ?_
    refine wp_seq_k fun K3 hK3 => ?_
    refine wp_region_lit ?_
    refine s_pu hF rfl rfl rfl (pu_assign (hF.ev rfl)) ?_; clear hF; intro a hF
    refine s_pu hF rfl rfl rfl (pu_assign (hF.ev rfl)) ?_; clear hF; intro a hF
    refine s_done ?_
    refine hK3 _ _ ?_; clear hK3
    refine wp_ret ?_
    refine then_ret ?_
    refine fin2 Try.results31 hF rfl rfl ?_
    exact ⟨rfl, hS⟩
  · clear hF; intro hg12 hF   -- slot 12 false
    try simp only [decide_eq_true_eq, decide_eq_false_iff_not, Bool.not_eq_true', Bool.not_eq_false', Int.not_lt, Int.not_le, ne_eq, Decidable.not_not, Bool.or_eq_true, Bool.or_eq_false_iff, Bool.and_eq_true, Bool.and_eq_false_imp] at hg12
    refine s_pu hF rfl rfl rfl (pu_move (hF.ev rfl)) ?_; clear hF; intro a hF
    refine s_pu hF rfl rfl rfl (pu_gtr (hF.ev rfl) (hF.ev rfl)) ?_; clear hF; intro a hF
    refine s_pu hF rfl rfl rfl ((by exact pu_pick_f (hF.ev rfl) (hF.ev rfl))) ?_; clear hF; intro a hF
    refine s_done ?_
    refine hK2 _ _ ?_; clear hK2
    refine wp_cond_split (hF.ev rfl) (fun hc0 => ?_) (fun hc0 => ?_)
    · -- cond 0 true
      try simp only [decide_eq_true_eq, decide_eq_false_iff_not, Bool.not_eq_true', Bool.not_eq_false', Int.not_lt, Int.not_le, ne_eq, Decidable.not_not, Bool.or_eq_true, Bool.or_eq_false_iff, Bool.and_eq_true, Bool.and_eq_false_imp] at hc0
      refine wp_seq_k fun K3 hK3 => ?_
      refine wp_region_lit ?_
      refine s_pu hF rfl rfl rfl (pu_assign (hF.ev rfl)) ?_; clear hF; intro a hF
      refine s_pu hF rfl rfl rfl (pu_assign (hF.ev rfl)) ?_; clear hF; intro a hF
      refine s_done ?_
      refine hK3 _ _ ?_; clear hK3
      refine wp_ret ?_
      refine then_ret ?_
      refine fin2 Try.results31 hF rfl rfl ?_
      exact ⟨rfl, hS⟩
    · -- cond 0 false
      try simp only [decide_eq_true_eq, decide_eq_false_iff_not, Bool.not_eq_true', Bool.not_eq_false', Int.not_lt, Int.not_le, ne_eq, Decidable.not_not, Bool.or_eq_true, Bool.or_eq_false_iff, Bool.and_eq_true, Bool.and_eq_false_imp] at hc0
      exfalso
      omega
theorem add_i {w0 w : World} {g : Nat} {W : Whl} {F : List Chunk} {t : Int} {x : Int} (hS : Sat w0 w (wheelC 123 124 126 g W :: F)) (ht : 1 ≤ t) (ht1 : t ≤ 100000) (hW : WOk 24 W) :
    Calls Try.prog 31 #[.pointer (some ⟨g, 0, none⟩), .int .i64 t, .int .i64 x] w fun e w' => e = .returned (.tuple #[.int .i64 (W.last + 1), .int .i64 0]) ∧ Sat w0 w' (wheelC 123 124 126 g (W.add t (.int .i64 x) rfl) :: F) := by
  rw [wheel_open] at hS; obtain ⟨s, m, hs, hl, hS⟩ := hS
  obtain ⟨k, hk⟩ : ∃ k, k = W.slotOf (W.now + t) := ⟨_, rfl⟩
  obtain ⟨h1, h2, h3, h4, h5, h6, h7⟩ := hW
  have hk2 : k < W.slots.length := by
    have := Int.emod_lt_of_pos (W.now + t) (show (0 : Int) < W.slots.length by omega)
    have h0 := Int.emod_nonneg (W.now + t) (show (W.slots.length : Int) ≠ 0 by omega)
    rw [hk]; unfold Whl.slotOf; omega
  have e0 := Int.emod_nonneg (W.now + t) (show (W.slots.length : Int) ≠ 0 by omega)
  have e1 := Int.emod_lt_of_pos (W.now + t) (show (0 : Int) < W.slots.length by omega)
  have hkk : 0 + ((W.now + t) % (W.slots.length : Int)).toNat * 1 = k := by rw [hk]; unfold Whl.slotOf; omega
  obtain ⟨h, hh⟩ : ∃ h, hs[k]? = some h := ⟨hs[k]'(by omega), List.getElem?_eq_getElem _⟩
  obtain ⟨l, hll⟩ : ∃ l, W.slots[k]? = some l := ⟨W.slots[k], List.getElem?_eq_getElem _⟩
  have hroom : (l.length + 1) * 24 ≤ 140737488355328 := h7 l (List.mem_of_getElem? hll)
  replace hS := rows_take hS hh hll
  have hcell : hs.toArray[0 + ((W.now + t) % (W.slots.length : Int)).toNat * 1]? = some h := by rw [hkk]; simpa using hh
  refine enter Try.func31 rfl Try.ntmps31 (Nat.le_of_ble_eq_true rfl) fun a hF => ?_
  refine wp_seq_k fun K0 hK0 => ?_
  refine wp_region_lit ?_
  refine s_pu hF rfl rfl rfl (pu_assign (hF.ev rfl)) ?_; clear hF; intro a hF
  refine s_pu hF rfl rfl rfl (pu_assign (hF.ev rfl)) ?_; clear hF; intro a hF
  refine s_done ?_
  refine hK0 _ _ ?_; clear hK0
  refine wp_seq_k fun K1 hK1 => ?_
  refine wp_seq_k fun K2 hK2 => ?_
  refine wp_region_lit ?_
  refine s_pu hF rfl rfl rfl (pu_move (hF.ev rfl)) ?_; clear hF; intro a hF
  refine s_pu hF rfl rfl rfl (pu_lss (hF.ev rfl) (hF.ev rfl)) ?_; clear hF; intro a hF
  refine s_pu hF rfl rfl rfl (pu_move (hF.ev rfl)) ?_; clear hF; intro a hF
  refine fr_split hF (t := 12) rfl ?_ ?_
  · clear hF; intro hg12 hF   -- slot 12 true
    try simp only [decide_eq_true_eq, decide_eq_false_iff_not, Bool.not_eq_true', Bool.not_eq_false', Int.not_lt, Int.not_le, ne_eq, Decidable.not_not, Bool.or_eq_true, Bool.or_eq_false_iff, Bool.and_eq_true, Bool.and_eq_false_imp] at hg12
    omega
  · clear hF; intro hg12 hF   -- slot 12 false
    try simp only [decide_eq_true_eq, decide_eq_false_iff_not, Bool.not_eq_true', Bool.not_eq_false', Int.not_lt, Int.not_le, ne_eq, Decidable.not_not, Bool.or_eq_true, Bool.or_eq_false_iff, Bool.and_eq_true, Bool.and_eq_false_imp] at hg12
    refine s_pu hF rfl rfl rfl (pu_move (hF.ev rfl)) ?_; clear hF; intro a hF
    refine s_pu hF rfl rfl rfl (pu_gtr (hF.ev rfl) (hF.ev rfl)) ?_; clear hF; intro a hF
    refine s_pu hF rfl rfl rfl ((by exact pu_pick_f (hF.ev rfl) (hF.ev rfl))) ?_; clear hF; intro a hF
    refine s_done ?_
    refine hK2 _ _ ?_; clear hK2
    refine wp_cond_split (hF.ev rfl) (fun hc0 => ?_) (fun hc0 => ?_)
    · -- cond 0 true
      try simp only [decide_eq_true_eq, decide_eq_false_iff_not, Bool.not_eq_true', Bool.not_eq_false', Int.not_lt, Int.not_le, ne_eq, Decidable.not_not, Bool.or_eq_true, Bool.or_eq_false_iff, Bool.and_eq_true, Bool.and_eq_false_imp] at hc0
      omega
    · -- cond 0 false
      try simp only [decide_eq_true_eq, decide_eq_false_iff_not, Bool.not_eq_true', Bool.not_eq_false', Int.not_lt, Int.not_le, ne_eq, Decidable.not_not, Bool.or_eq_true, Bool.or_eq_false_iff, Bool.and_eq_true, Bool.and_eq_false_imp] at hc0
      refine wp_skip ?_
      refine hK1 _ _ ?_; clear hK1
      refine wp_seq_k fun K3 hK3 => ?_
      refine wp_region_lit ?_
      refine s_pu hF rfl rfl rfl (pu_move (hF.ev rfl)) ?_; clear hF; intro a hF
      refine s_pu hF rfl rfl rfl ((by exact pu_nil (hF.ev rfl))) ?_; clear hF; intro a hF
      refine s_pu hF rfl rfl rfl ((by exact pu_field fd123_3 (hF.ev rfl))) ?_; clear hF; intro a hF
      refine s_rd hF rfl rfl rfl (by exact rd_load pl3 (hF.ev rfl) (hS.cellL (i := 1) rfl rfl)) ?_; clear hF; intro a hF
      refine s_pu hF rfl rfl rfl ((by exact pu_add64 (hF.ev rfl) (hF.ev rfl) (by omega))) ?_; clear hF; intro a hF
      refine s_pu hF rfl rfl rfl ((by exact pu_nil (hF.ev rfl))) ?_; clear hF; intro a hF
      refine s_pu hF rfl rfl rfl ((by exact pu_field fd123_3 (hF.ev rfl))) ?_; clear hF; intro a hF
      ((refine s_store (vs := [_]) (cs' := #[_, _, _, _]) 1 hF rfl (hF.ev rfl) (hF.ev rfl) hS rfl rfl sz3 (by rfl) (by exact Nat.le_of_ble_eq_true rfl) rfl ?_))
      clear hS; intro w hS; (try simp only [upd, del] at hS)
      refine s_done ?_
      refine hK3 _ _ ?_; clear hK3
      refine wp_seq_k fun K4 hK4 => ?_
      refine wp_region_lit ?_
      refine s_pu hF rfl rfl rfl (pu_move (hF.ev rfl)) ?_; clear hF; intro a hF
      refine s_pu hF rfl rfl rfl ((by exact pu_nil (hF.ev rfl))) ?_; clear hF; intro a hF
      refine s_pu hF rfl rfl rfl ((by exact pu_field fd123_2 (hF.ev rfl))) ?_; clear hF; intro a hF
      refine s_rd hF rfl rfl rfl (by exact rd_load pl3 (hF.ev rfl) (hS.cellL (i := 1) rfl rfl)) ?_; clear hF; intro a hF
      refine s_pu hF rfl rfl rfl (pu_move (hF.ev rfl)) ?_; clear hF; intro a hF
      refine s_pu hF rfl rfl rfl ((by exact pu_add64 (hF.ev rfl) (hF.ev rfl) (by omega))) ?_; clear hF; intro a hF
      refine s_pu hF rfl rfl rfl (pu_assign (hF.ev rfl)) ?_; clear hF; intro a hF
      refine s_done ?_
      refine hK4 _ _ ?_; clear hK4
      refine wp_seq_k fun K5 hK5 => ?_
      refine wp_region_lit ?_
      refine s_pu hF rfl rfl rfl (pu_move (hF.ev rfl)) ?_; clear hF; intro a hF
      refine s_pu hF rfl rfl rfl (pu_move (hF.ev rfl)) ?_; clear hF; intro a hF
      refine s_pu hF rfl rfl rfl ((by exact pu_nil (hF.ev rfl))) ?_; clear hF; intro a hF
      refine s_pu hF rfl rfl rfl ((by exact pu_field fd123_0 (hF.ev rfl))) ?_; clear hF; intro a hF
      refine s_rd hF rfl rfl rfl (by exact rd_load pl120 (hF.ev rfl) (hS.cellL (i := 1) rfl rfl)) ?_; clear hF; intro a hF
      refine s_pu hF rfl rfl rfl (pu_len sl120 (hF.ev rfl)) ?_; clear hF; intro a hF
      refine s_pu hF rfl rfl rfl (pu_rem64 (hF.ev rfl) (hF.ev rfl) (by omega)) ?_; clear hF; intro a hF
      refine s_pu hF rfl rfl rfl (pu_assign (hF.ev rfl)) ?_; clear hF; intro a hF
      refine s_done ?_
      refine hK5 _ _ ?_; clear hK5
      refine wp_seq_k fun K6 hK6 => ?_
      refine d_start (S := (fun w => Sat w0 w _)) (ds := [22]) (ord := [(0, .pu), (1, .pu), (2, .pu), (3, .tk), (4, .pu), (5, .pu), (6, .pu), (7, .pu), (8, .tk), (9, .pu), (10, .pu), (11, .tk), (12, .pu), (13, .pu), (14, .pu), (15, .tk), (16, .pu), (17, .pu), (18, .pu), (19, .on), (20, .on), (21, .pu), (22, .ls)]) mixed ⟨by kernel_rfl, fun _ d _ _ _ h => by cases d <;> exact h⟩ hS.tail.drew fun hD => ?_
      replace hS := hS.drew; generalize w.drew = w at hS ⊢
      refine d_pu hD hF rfl rfl rfl rfl rfl (pu_move (hF.ev rfl)) ?_; clear hF; intro a hF
      refine d_pu hD hF rfl rfl rfl rfl rfl ((by exact pu_nil (hF.ev rfl))) ?_; clear hF; intro a hF
      refine d_pu hD hF rfl rfl rfl rfl rfl ((by exact pu_field fd123_0 (hF.ev rfl))) ?_; clear hF; intro a hF
      refine d_rd hD hF rfl rfl rfl rfl rfl (by exact hS.tail) (fun w hS => (by exact rd_load pl120 (hF.ev rfl) (hS.cellL (i := 0) rfl rfl))) ?_; clear hF; intro a hF
      refine d_pu hD hF rfl rfl rfl rfl rfl (pu_move (hF.ev rfl)) ?_; clear hF; intro a hF
      refine d_pu hD hF rfl rfl rfl rfl rfl (pu_move (hF.ev rfl)) ?_; clear hF; intro a hF
      refine d_pu hD hF rfl rfl rfl rfl rfl ((by exact pu_nil (hF.ev rfl))) ?_; clear hF; intro a hF
      refine d_pu hD hF rfl rfl rfl rfl rfl ((by exact pu_field fd123_0 (hF.ev rfl))) ?_; clear hF; intro a hF
      refine d_rd hD hF rfl rfl rfl rfl rfl (by exact hS.tail) (fun w hS => (by exact rd_load pl120 (hF.ev rfl) (hS.cellL (i := 0) rfl rfl))) ?_; clear hF; intro a hF
      refine d_pu hD hF rfl rfl rfl rfl rfl (pu_move (hF.ev rfl)) ?_; clear hF; intro a hF
      refine d_pu hD hF rfl rfl rfl rfl rfl ((by exact pu_elem sl120 (hF.ev rfl) (hF.ev rfl) (by omega) (by omega))) ?_; clear hF; intro a hF
      refine d_rd hD hF rfl rfl rfl rfl rfl (by exact hS.tail) (fun w hS => (by exact rd_load pl124 (hF.ev rfl) (hS.cell (i := 2) rfl (by assumption)))) ?_; clear hF; intro a hF
      refine d_pu hD hF rfl rfl rfl rfl rfl (pu_move (hF.ev rfl)) ?_; clear hF; intro a hF
      refine d_pu hD hF rfl rfl rfl rfl rfl ((by exact pu_nil (hF.ev rfl))) ?_; clear hF; intro a hF
      refine d_pu hD hF rfl rfl rfl rfl rfl ((by exact pu_field fd123_3 (hF.ev rfl))) ?_; clear hF; intro a hF
      refine d_rd hD hF rfl rfl rfl rfl rfl (by exact hS.tail) (fun w hS => (by exact rd_load pl3 (hF.ev rfl) (hS.cellL (i := 0) rfl rfl))) ?_; clear hF; intro a hF
      refine d_pu hD hF rfl rfl rfl rfl rfl (pu_move (hF.ev rfl)) ?_; clear hF; intro a hF
      refine d_pu hD hF rfl rfl rfl rfl rfl (pu_move (hF.ev rfl)) ?_; clear hF; intro a hF
      refine d_pu hD hF rfl rfl rfl rfl rfl ((pu_build st126 (hF.evp rfl) rfl rfl : Pu _ _ _ (.agg #[_, _, _]))) ?_; clear hF; intro a hF
      refine d_news hD hF rfl rfl rfl rfl rfl (ef_lit1 (cs := [_, _, _]) sl124 ze126 rfl (hF.ev rfl) (by rfl) rfl (by omega) (by omega)) hS (fun _ _ h => h.tail.tail) ?_; clear hF hS; intro b55 w hS a hF
      (((refine d_append 1 0 hD hF rfl rfl rfl rfl sl124 el126 (hF.ev rfl) (hF.ev rfl) hS rfl rfl rfl (by rfl) (by unfold maxLen; omega) (by omega) (fun _ _ h => h.tail.tail) ?_))); (clear hS hF; intro A56 q56 w hS a hF; (try simp only [upd, del] at hS))
      refine d_pu hD hF rfl rfl rfl rfl rfl ((by exact pu_elem sl120 (hF.ev rfl) (hF.ev rfl) (by omega) (by omega))) ?_; clear hF; intro a hF
      (((refine l_store (vs := [_]) (cs' := _) 4 hD hF rfl rfl rfl (hF.ev rfl) (hF.ev rfl) hS rfl rfl sz124 (by rfl) (by ((simp [Value.cells]; omega))) rfl ?_)))
      clear hS; intro w hS; (try simp only [upd, del] at hS)
      refine d_done hD rfl ?_; clear hD
      refine hK6 _ _ ?_; clear hK6
      refine wp_seq_k fun K7 hK7 => ?_
      refine d_start (S := (fun w => Sat w0 w _)) (ds := [9]) (ord := [(0, .pu), (1, .pu), (2, .pu), (3, .tk), (4, .pu), (5, .pu), (6, .pu), (7, .tk), (8, .pu), (9, .ls)]) mixed ⟨by kernel_rfl, fun _ d _ _ _ h => by cases d <;> exact h⟩ hS.drew fun hD => ?_
      replace hS := hS.drew; generalize w.drew = w at hS ⊢
      refine d_pu hD hF rfl rfl rfl rfl rfl (pu_move (hF.ev rfl)) ?_; clear hF; intro a hF
      refine d_pu hD hF rfl rfl rfl rfl rfl ((by exact pu_nil (hF.ev rfl))) ?_; clear hF; intro a hF
      refine d_pu hD hF rfl rfl rfl rfl rfl ((by exact pu_field fd123_1 (hF.ev rfl))) ?_; clear hF; intro a hF
      refine d_rd hD hF rfl rfl rfl rfl rfl hS (fun w hS => (by exact rd_load pl121 (hF.ev rfl) (hS.cellL (i := 2) rfl rfl))) ?_; clear hF; intro a hF
      refine d_pu hD hF rfl rfl rfl rfl rfl (pu_move (hF.ev rfl)) ?_; clear hF; intro a hF
      refine d_pu hD hF rfl rfl rfl rfl rfl ((by exact pu_nil (hF.ev rfl))) ?_; clear hF; intro a hF
      refine d_pu hD hF rfl rfl rfl rfl rfl ((by exact pu_field fd123_3 (hF.ev rfl))) ?_; clear hF; intro a hF
      refine d_rd hD hF rfl rfl rfl rfl rfl hS (fun w hS => (by exact rd_load pl3 (hF.ev rfl) (hS.cellL (i := 2) rfl rfl))) ?_; clear hF; intro a hF
      refine d_pu hD hF rfl rfl rfl rfl rfl (pu_move (hF.ev rfl)) ?_; clear hF; intro a hF
      ((refine l_put 3 hD hF rfl rfl rfl (int_keys Try.underlying3) Try.underlying121 (hF.ev rfl) (hF.ev rfl) (hF.ev rfl) hS rfl ?_))
      clear hS; intro w hS; (try simp only [upd, del] at hS)
      refine d_done hD rfl ?_; clear hD
      refine hK7 _ _ ?_; clear hK7
      refine wp_seq_k fun K8 hK8 => ?_
      refine wp_region_lit ?_
      refine s_pu hF rfl rfl rfl (pu_move (hF.ev rfl)) ?_; clear hF; intro a hF
      refine s_pu hF rfl rfl rfl ((by exact pu_nil (hF.ev rfl))) ?_; clear hF; intro a hF
      refine s_pu hF rfl rfl rfl ((by exact pu_field fd123_3 (hF.ev rfl))) ?_; clear hF; intro a hF
      refine s_rd hF rfl rfl rfl (by exact rd_load pl3 (hF.ev rfl) (hS.cellL (i := 2) rfl rfl)) ?_; clear hF; intro a hF
      refine s_pu hF rfl rfl rfl (pu_assign (hF.ev rfl)) ?_; clear hF; intro a hF
      refine s_pu hF rfl rfl rfl (pu_assign (hF.ev rfl)) ?_; clear hF; intro a hF
      refine s_done ?_
      refine hK8 _ _ ?_; clear hK8
      refine wp_ret ?_
      refine fin2 Try.results31 hF rfl rfl ?_
      refine ⟨rfl, ?_⟩
      replace hS := hS.drop 1
      simp only [del] at hS
      rw [hkk, storeA_one (by omega)] at hS
      have e2 : entCells l ++ [.int .i64 (W.last + 1), .int .i64 (W.now + t), .int .i64 x] = entCells (l ++ [⟨W.last + 1, W.now + t, .int .i64 x, rfl⟩]) := by simp [entCells, Ent.cells]
      have e3 : l.length + 1 = (l ++ [(⟨W.last + 1, W.now + t, .int .i64 x, rfl⟩ : Ent)]).length := by simp
      rw [e2, e3] at hS
      have hS2 := rows_put hS hh hll
      have e4 : W.slots.getD (W.slotOf (W.now + t)) [] = l := by rw [← hk]; simp [List.getD, hll]
      have e5 : W.add t (.int .i64 x) rfl = { slots := W.slots.set k (l ++ [⟨W.last + 1, W.now + t, .int .i64 x, rfl⟩]), ticks := mPut W.ticks (W.last + 1) (W.now + t), now := W.now, last := W.last + 1 } := by
        unfold Whl.add
        rw [e4, ← hk]
      rw [wheel_open, e5]
      exact ⟨s, m, hs.set k (.slice A56 (l.length + 1) q56), by simp [hl], by simpa using hS2⟩
end Go.Proofs.Ytbfdebddoncfhaa
