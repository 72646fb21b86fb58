import Derived.Test.YtbfdebddoncfhaaWh4
/-! The wheel: New, Tick. -/
namespace Go.Proofs.Ytbfdebddoncfhaa
open Go Go.RowKit Go.Proofs.Ytbfdebddoncfhaa.Sk
set_option linter.unusedVariables false
set_option linter.unusedSimpArgs false
set_option maxRecDepth 100000

def Whl.empty (n : Nat) : Whl := { slots := List.replicate n [], ticks := [], now := 0, last := 0 }
theorem rows_empty {w0 w : World} {E : Nat} {F : List Chunk} (n : Nat) (hS : Sat w0 w F) : Sat w0 w (rowsC E (List.replicate n (.slice none 0 0)) (List.replicate n []) ++ F) := by
  induction n with
  | zero => exact hS
  | succ n ih => exact row_nil ih

theorem new_no_i {w0 w : World} {F : List Chunk} {n : Int} (hS : Sat w0 w F) (hn : n < 1 ∨ 4096 < n) :
    Calls Try.prog 30 #[.int .i64 n] w fun e w' => e = .returned (.tuple #[.pointer none, .int .i64 1]) ∧ Sat w0 w' F := by
  refine enter Try.func30 rfl Try.ntmps30 (Nat.le_of_ble_eq_true rfl) fun a hF => ?_
  refine wp_seq_k fun K0 hK0 => ?_
  refine wp_region_lit ?_
  refine s_pu hF rfl rfl rfl (pu_assign (hF.ev rfl)) ?_; clear hF; intro a hF
  refine s_pu hF rfl rfl rfl (pu_assign (hF.ev rfl)) ?_; clear hF; intro a hF
  refine s_done ?_
  refine hK0 _ _ ?_; clear hK0
  refine wp_seq_k fun K1 hK1 => ?_
  refine wp_seq_k fun K2 hK2 => ?_
  refine wp_region_lit ?_
  refine s_pu hF rfl rfl rfl (pu_move (hF.ev rfl)) ?_; clear hF; intro a hF
  refine s_pu hF rfl rfl rfl (pu_lss (hF.ev rfl) (hF.ev rfl)) ?_; clear hF; intro a hF
  refine s_pu hF rfl rfl rfl (pu_move (hF.ev rfl)) ?_; clear hF; intro a hF
  refine fr_split hF (t := 6) rfl ?_ ?_
  · clear hF; intro hg6 hF   -- slot 6 true
    try simp only [decide_eq_true_eq, decide_eq_false_iff_not, Bool.not_eq_true', Bool.not_eq_false', Int.not_lt, Int.not_le, ne_eq, Decidable.not_not, Bool.or_eq_true, Bool.or_eq_false_iff, Bool.and_eq_true, Bool.and_eq_false_imp] at hg6
    refine s_no hF rfl rfl rfl ?_; clear hF; intro a hF
    refine s_no hF rfl rfl rfl ?_; clear hF; intro a hF
    refine s_pu hF rfl rfl rfl ((by exact pu_pick_t (hF.ev rfl) (hF.ev rfl))) ?_; clear hF; intro a hF
    refine s_done ?_
    refine hK2 _ _ ?_; clear hK2
    refine wp_cond_true (hF.ev rfl) ?_
    refine wp_seq_k fun K3 hK3 => ?_
    refine wp_region_lit ?_
    refine s_pu hF rfl rfl rfl (pu_assign (hF.ev rfl)) ?_; clear hF; intro a hF
    refine s_pu hF rfl rfl rfl (pu_assign (hF.ev rfl)) ?_; clear hF; intro a hF
    refine s_done ?_
    refine hK3 _ _ ?_; clear hK3
    refine wp_ret ?_
    refine then_ret ?_
    refine fin2 Try.results30 hF rfl rfl ?_
    exact ⟨rfl, hS⟩
  · clear hF; intro hg6 hF   -- slot 6 false
    try simp only [decide_eq_true_eq, decide_eq_false_iff_not, Bool.not_eq_true', Bool.not_eq_false', Int.not_lt, Int.not_le, ne_eq, Decidable.not_not, Bool.or_eq_true, Bool.or_eq_false_iff, Bool.and_eq_true, Bool.and_eq_false_imp] at hg6
    refine s_pu hF rfl rfl rfl (pu_move (hF.ev rfl)) ?_; clear hF; intro a hF
    refine s_pu hF rfl rfl rfl (pu_gtr (hF.ev rfl) (hF.ev rfl)) ?_; clear hF; intro a hF
    refine s_pu hF rfl rfl rfl ((by exact pu_pick_f (hF.ev rfl) (hF.ev rfl))) ?_; clear hF; intro a hF
    refine s_done ?_
    refine hK2 _ _ ?_; clear hK2
    refine wp_cond_split (hF.ev rfl) (fun hc0 => ?_) (fun hc0 => ?_)
    · -- cond 0 true
      try simp only [decide_eq_true_eq, decide_eq_false_iff_not, Bool.not_eq_true', Bool.not_eq_false', Int.not_lt, Int.not_le, ne_eq, Decidable.not_not, Bool.or_eq_true, Bool.or_eq_false_iff, Bool.and_eq_true, Bool.and_eq_false_imp] at hc0
      refine wp_seq_k fun K3 hK3 => ?_
      refine wp_region_lit ?_
      refine s_pu hF rfl rfl rfl (pu_assign (hF.ev rfl)) ?_; clear hF; intro a hF
      refine s_pu hF rfl rfl rfl (pu_assign (hF.ev rfl)) ?_; clear hF; intro a hF
      refine s_done ?_
      refine hK3 _ _ ?_; clear hK3
      refine wp_ret ?_
      refine then_ret ?_
      refine fin2 Try.results30 hF rfl rfl ?_
      exact ⟨rfl, hS⟩
    · -- cond 0 false
      try simp only [decide_eq_true_eq, decide_eq_false_iff_not, Bool.not_eq_true', Bool.not_eq_false', Int.not_lt, Int.not_le, ne_eq, Decidable.not_not, Bool.or_eq_true, Bool.or_eq_false_iff, Bool.and_eq_true, Bool.and_eq_false_imp] at hc0
      omega
theorem new_i {w0 w : World} {F : List Chunk} {n : Nat} (hS : Sat w0 w F) (h1 : 1 ≤ n) (h2 : n ≤ 4096) :
    Calls Try.prog 30 #[.int .i64 n] w fun e w' => ∃ g, e = .returned (.tuple #[.pointer (some ⟨g, 0, none⟩), .int .i64 0]) ∧ Sat w0 w' (wheelC 123 124 126 g (Whl.empty n) :: F) := by
  refine enter Try.func30 rfl Try.ntmps30 (Nat.le_of_ble_eq_true rfl) fun a hF => ?_
  refine wp_seq_k fun K0 hK0 => ?_
  refine wp_region_lit ?_
  refine s_pu hF rfl rfl rfl (pu_assign (hF.ev rfl)) ?_; clear hF; intro a hF
  refine s_pu hF rfl rfl rfl (pu_assign (hF.ev rfl)) ?_; clear hF; intro a hF
  refine s_done ?_
  refine hK0 _ _ ?_; clear hK0
  refine wp_seq_k fun K1 hK1 => ?_
  refine wp_seq_k fun K2 hK2 => ?_
  refine wp_region_lit ?_
  refine s_pu hF rfl rfl rfl (pu_move (hF.ev rfl)) ?_; clear hF; intro a hF
  refine s_pu hF rfl rfl rfl (pu_lss (hF.ev rfl) (hF.ev rfl)) ?_; clear hF; intro a hF
  refine s_pu hF rfl rfl rfl (pu_move (hF.ev rfl)) ?_; clear hF; intro a hF
  refine fr_split hF (t := 6) rfl ?_ ?_
  · clear hF; intro hg6 hF   -- slot 6 true
    try simp only [decide_eq_true_eq, decide_eq_false_iff_not, Bool.not_eq_true', Bool.not_eq_false', Int.not_lt, Int.not_le, ne_eq, Decidable.not_not, Bool.or_eq_true, Bool.or_eq_false_iff, Bool.and_eq_true, Bool.and_eq_false_imp] at hg6
    omega
  · clear hF; intro hg6 hF   -- slot 6 false
    try simp only [decide_eq_true_eq, decide_eq_false_iff_not, Bool.not_eq_true', Bool.not_eq_false', Int.not_lt, Int.not_le, ne_eq, Decidable.not_not, Bool.or_eq_true, Bool.or_eq_false_iff, Bool.and_eq_true, Bool.and_eq_false_imp] at hg6
    refine s_pu hF rfl rfl rfl (pu_move (hF.ev rfl)) ?_; clear hF; intro a hF
    refine s_pu hF rfl rfl rfl (pu_gtr (hF.ev rfl) (hF.ev rfl)) ?_; clear hF; intro a hF
    refine s_pu hF rfl rfl rfl ((by exact pu_pick_f (hF.ev rfl) (hF.ev rfl))) ?_; clear hF; intro a hF
    refine s_done ?_
    refine hK2 _ _ ?_; clear hK2
    refine wp_cond_split (hF.ev rfl) (fun hc0 => ?_) (fun hc0 => ?_)
    · -- cond 0 true
      try simp only [decide_eq_true_eq, decide_eq_false_iff_not, Bool.not_eq_true', Bool.not_eq_false', Int.not_lt, Int.not_le, ne_eq, Decidable.not_not, Bool.or_eq_true, Bool.or_eq_false_iff, Bool.and_eq_true, Bool.and_eq_false_imp] at hc0
      omega
    · -- cond 0 false
      try simp only [decide_eq_true_eq, decide_eq_false_iff_not, Bool.not_eq_true', Bool.not_eq_false', Int.not_lt, Int.not_le, ne_eq, Decidable.not_not, Bool.or_eq_true, Bool.or_eq_false_iff, Bool.and_eq_true, Bool.and_eq_false_imp] at hc0
      refine wp_skip ?_
      refine hK1 _ _ ?_; clear hK1
      refine wp_seq_k fun K3 hK3 => ?_
      refine wp_region_lit ?_
      refine s_pu hF rfl rfl rfl (pu_move (hF.ev rfl)) ?_; clear hF; intro a hF
      refine s_news hF rfl rfl rfl (ef_make1 sl120 el124 ze124 rfl (hF.ev rfl) (hF.ev rfl) (by omega) (by omega)) hS ?_; clear hF hS; intro b11 w hS a hF
      refine s_newm (Value.int .i64) (Value.int .i64) hF rfl rfl rfl ef_map hS ?_; clear hF hS; intro b12 w hS a hF
      refine s_pu hF rfl rfl rfl ((pu_build st123 (hF.evp rfl) rfl rfl : Pu _ _ _ (.agg #[_, _, _, _]))) ?_; clear hF; intro a hF
      refine s_newp hF rfl rfl rfl (ef_box (cs := #[_, _, _, _]) (hF.ev rfl) rfl) hS ?_; clear hF hS; intro b14 w hS a hF
      refine s_pu hF rfl rfl rfl (pu_assign (hF.ev rfl)) ?_; clear hF; intro a hF
      refine s_pu hF rfl rfl rfl (pu_assign (hF.ev rfl)) ?_; clear hF; intro a hF
      refine s_done ?_
      refine hK3 _ _ ?_; clear hK3
      refine wp_ret ?_
      refine fin2 Try.results30 hF rfl rfl ?_
      refine ⟨_, rfl, ?_⟩
      rw [wheel_open]
      refine ⟨b11, b12, List.replicate n (.slice none 0 0), by simp [Whl.empty], ?_⟩
      have h := (rows_empty (E := 126) n hS).perm (List.perm_append_comm_assoc _ [_, _, _] F)
      simpa only [Whl.empty, List.length_replicate, List.cons_append, List.nil_append] using h

def Whl.tick (W : Whl) : Whl := ({ W with now := W.now + 1 } : Whl).part (({ W with now := W.now + 1 } : Whl).slotOf (W.now + 1)) (fun e => decide (e.at_ = W.now + 1))
/-- The entries whose tick it is. -/
def Whl.due (W : Whl) : List Ent := (W.slots.getD (({ W with now := W.now + 1 } : Whl).slotOf (W.now + 1)) []).filter (fun e => decide (e.at_ = W.now + 1))
/-- The things' kind: all are of the type's form. -/
theorem tick_i {w0 w : World} {g : Nat} {W : Whl} {F : List Chunk} (hS : Sat w0 w (wheelC 123 124 126 g W :: F)) (h1 : 1 ≤ W.slots.length) (h0 : 0 ≤ W.now) (hnow : W.now + 1 ≤ 4611686018427387904)
    (hroom : ∀ l ∈ W.slots, (l.length + 1) * 24 ≤ 140737488355328) :
    Calls Try.prog 36 #[.pointer (some ⟨g, 0, none⟩)] w fun e w' => ∃ A c, e = .returned (.slice A W.due.length c) ∧
      Sat w0 w' (rowC 3 1 (.slice A W.due.length c) W.due.length (W.due.map Ent.v) :: wheelC 123 124 126 g W.tick :: F) := by
  rw [wheel_open] at hS; obtain ⟨s, m, hs, hl, hS⟩ := hS
  have e0 := Int.emod_nonneg (W.now + 1) (show (W.slots.length : Int) ≠ 0 by omega)
  have e1 := Int.emod_lt_of_pos (W.now + 1) (show (0 : Int) < W.slots.length by omega)
  obtain ⟨W1, hW1⟩ : ∃ W1 : Whl, W1 = { W with now := W.now + 1 } := ⟨_, rfl⟩
  have hs1 : W1.slots = W.slots := by rw [hW1]
  have hki : (W.now + 1) % (W.slots.length : Int) = (W1.slotOf (W.now + 1) : Int) := by rw [hW1]; unfold Whl.slotOf; simp only; omega
  have hk : W1.slotOf (W.now + 1) < W1.slots.length := by rw [hs1]; omega
  have hDue : (W1.slots.getD (W1.slotOf (W.now + 1)) []).filter (fun e => decide (e.at_ = W.now + 1)) = W.due := by rw [hs1, hW1]; rfl
  have hT : W1.part (W1.slotOf (W.now + 1)) (fun e => decide (e.at_ = W.now + 1)) = W.tick := by rw [hW1]; rfl
  have hdl : (W.due.length + 1) * 24 ≤ 140737488355328 := by
    have h2 : W1.slotOf (W.now + 1) < W.slots.length := by rw [← hs1]; exact hk
    have h3 := hroom _ (List.getElem_mem h2)
    have h4 := List.length_filter_le (fun e : Ent => decide (e.at_ = W.now + 1)) (W1.slots.getD (W1.slotOf (W.now + 1)) [])
    rw [hDue, hs1, List.getD_eq_getElem?_getD, List.getElem?_eq_getElem h2, Option.getD_some] at h4
    omega
  refine enter Try.func36 rfl Try.ntmps36 (Nat.le_of_ble_eq_true rfl) fun a hF => ?_
  refine wp_seq_k fun K0 hK0 => ?_
  refine wp_region_lit ?_
  refine s_pu hF rfl rfl rfl (pu_assign (hF.ev rfl)) ?_; clear hF; intro a hF
  refine s_done ?_
  refine hK0 _ _ ?_; clear hK0
  refine wp_seq_k fun K1 hK1 => ?_
  refine wp_region_lit ?_
  refine s_pu hF rfl rfl rfl (pu_move (hF.ev rfl)) ?_; clear hF; intro a hF
  refine s_pu hF rfl rfl rfl ((by exact pu_nil (hF.ev rfl))) ?_; clear hF; intro a hF
  refine s_pu hF rfl rfl rfl ((by exact pu_field fd123_2 (hF.ev rfl))) ?_; clear hF; intro a hF
  refine s_rd hF rfl rfl rfl (by exact rd_load pl3 (hF.ev rfl) (hS.cellL (i := 0) rfl rfl)) ?_; clear hF; intro a hF
  refine s_pu hF rfl rfl rfl ((by exact pu_add64 (hF.ev rfl) (hF.ev rfl) (by omega))) ?_; clear hF; intro a hF
  refine s_pu hF rfl rfl rfl ((by exact pu_nil (hF.ev rfl))) ?_; clear hF; intro a hF
  refine s_pu hF rfl rfl rfl ((by exact pu_field fd123_2 (hF.ev rfl))) ?_; clear hF; intro a hF
  ((refine s_store (vs := [_]) (cs' := #[_, _, _, _]) 0 hF rfl (hF.ev rfl) (hF.ev rfl) hS rfl rfl sz3 (by rfl) (by exact Nat.le_of_ble_eq_true rfl) rfl ?_))
  clear hS; intro w hS; (try simp only [upd, del] at hS)
  refine s_done ?_
  refine hK1 _ _ ?_; clear hK1
  refine wp_seq_k fun K2 hK2 => ?_
  refine wp_region_lit ?_
  refine s_pu hF rfl rfl rfl (pu_move (hF.ev rfl)) ?_; clear hF; intro a hF
  refine s_pu hF rfl rfl rfl ((by exact pu_nil (hF.ev rfl))) ?_; clear hF; intro a hF
  refine s_pu hF rfl rfl rfl ((by exact pu_field fd123_2 (hF.ev rfl))) ?_; clear hF; intro a hF
  refine s_rd hF rfl rfl rfl (by exact rd_load pl3 (hF.ev rfl) (hS.cellL (i := 0) rfl rfl)) ?_; clear hF; intro a hF
  refine s_newp hF rfl rfl rfl (ef_alloc (cs := #[_]) ze3 rfl) hS ?_; clear hF hS; intro b3 w hS a hF
  ((refine s_store (vs := [_]) (cs' := #[_]) 0 hF rfl (hF.ev rfl) (hF.ev rfl) hS rfl rfl sz3 (by rfl) (by exact Nat.le_of_ble_eq_true rfl) rfl ?_))
  clear hS; intro w hS; (try simp only [upd, del] at hS)
  refine s_done ?_
  refine hK2 _ _ ?_; clear hK2
  refine wp_seq_k fun K3 hK3 => ?_
  refine wp_region_lit ?_
  refine s_pu hF rfl rfl rfl (pu_assign (hF.ev rfl)) ?_; clear hF; intro a hF
  refine s_done ?_
  refine hK3 _ _ ?_; clear hK3
  refine wp_seq_k fun K4 hK4 => ?_
  refine wp_seq_k fun K5 hK5 => ?_
  refine d_start (S := (fun w => Sat w0 w _)) (ds := [9]) (ord := [(0, .pu), (1, .tk), (2, .pu), (3, .pu), (4, .pu), (5, .tk), (6, .pu), (7, .pu), (8, .pu), (11, .pu), (9, .ls), (10, .pu)]) mixed ⟨by kernel_rfl, fun _ d _ _ _ h => by cases d <;> exact h⟩ hS.drew fun hD => ?_
  replace hS := hS.drew; generalize w.drew = w at hS ⊢
  refine d_pu hD hF rfl rfl rfl rfl rfl (pu_move (hF.ev rfl)) ?_; clear hF; intro a hF
  refine d_rd hD hF rfl rfl rfl rfl rfl hS (fun w hS => (by exact rd_load pl3 (hF.ev rfl) (hS.cellL (i := 0) rfl rfl))) ?_; clear hF; intro a hF
  refine d_pu hD hF rfl rfl rfl rfl rfl (pu_move (hF.ev rfl)) ?_; clear hF; intro a hF
  refine d_pu hD hF rfl rfl rfl rfl rfl ((by exact pu_nil (hF.ev rfl))) ?_; clear hF; intro a hF
  refine d_pu hD hF rfl rfl rfl rfl rfl ((by exact pu_field fd123_0 (hF.ev rfl))) ?_; clear hF; intro a hF
  refine d_rd hD hF rfl rfl rfl rfl rfl hS (fun w hS => (by exact rd_load pl120 (hF.ev rfl) (hS.cellL (i := 1) rfl rfl))) ?_; clear hF; intro a hF
  refine d_pu hD hF rfl rfl rfl rfl rfl (pu_len sl120 (hF.ev rfl)) ?_; clear hF; intro a hF
  refine d_pu hD hF rfl rfl rfl rfl rfl (pu_rem64 (hF.ev rfl) (hF.ev rfl) (by omega)) ?_; clear hF; intro a hF
  refine d_pu hD hF rfl rfl rfl rfl rfl (pu_func (hF.evs rfl)) ?_; clear hF; intro a hF
  refine d_pu hD hF rfl rfl rfl rfl rfl (pu_move (hF.ev rfl)) ?_; clear hF; intro a hF
  refine l_en hD hF rfl rfl rfl rfl rfl (run_fn fk49 (hF.ev rfl) (hF.evs rfl)) (part_i (F := .obj b3 (.cells #[.int .i64 (W.now + 1)] 3 (0, 0)) :: F) (W := W1) ((wheel_open.2 ⟨s, m, hs, by rw [hs1]; exact hl, by rw [hW1]; exact hS.perm (List.perm_middle (l₁ := _ :: _ :: _ :: rowsC 126 hs W.slots)).symm⟩)) hk (by rw [hs1]; exact hroom) hki (meant_tk_i w0 b3 (W.now + 1)) (by simp)) ?_
  clear hS; rintro e w ⟨A, c, rfl, hS⟩
  rw [hDue, hT] at hS
  rw [hDue]
  obtain ⟨_, _, hv0, hlc, hA⟩ := row_val hS
  clear hv0
  refine ⟨_, rfl, ?_⟩; clear hF; intro a hF
  refine d_pu hD hF rfl rfl rfl rfl rfl (pu_len sl124 (hF.ev rfl)) ?_; clear hF; intro a hF
  refine d_done hD rfl ?_; clear hD
  replace hS := row_nil (E := 3) (sz := 1) hS
  refine hK5 _ _ ?_; clear hK5
  refine wp_block ?_
  refine wp_ind (fun j a w => ∃ (i : Nat) (o : Option Addr) (d : Nat), j = W.due.length - i ∧ i ≤ W.due.length ∧
    Fr a 40 [(4, .slice o i d), (27, .slice A W.due.length c), (28, .int .i64 W.due.length), (29, .int .i64 i)] ∧
    Sat w0 w (rowC 3 1 (.slice o i d) i ((W.due.take i).map Ent.v) :: rowC 126 3 (.slice A W.due.length c) W.due.length (entCells W.due) :: wheelC 123 124 126 g W.tick :: F)) W.due.length
    ⟨0, none, 0, by omega, by omega, hF.sub ⟨rfl, rfl, rfl, rfl, trivial⟩, by simpa [del] using hS.drop 3⟩ ?_
  clear hS hF
  rintro j a w ⟨i, o, d, rfl, hi, hF, hS⟩
  refine wp_seq_k fun K6 hK6 => ?_
  refine wp_region_lit ?_
  refine s_pu hF rfl rfl rfl (pu_lss (hF.ev rfl) (hF.ev rfl)) ?_; clear hF; intro a hF
  refine s_done ?_
  refine hK6 _ _ ?_; clear hK6
  refine wp_seq_k fun K7 hK7 => ?_
  refine wp_cond_split (hF.ev rfl) (fun hc0 => ?_) (fun hc0 => ?_)
  · -- cond 0 true
    try simp only [decide_eq_true_eq, decide_eq_false_iff_not, Bool.not_eq_true', Bool.not_eq_false', Int.not_lt, Int.not_le, ne_eq, Decidable.not_not, Bool.or_eq_true, Bool.or_eq_false_iff, Bool.and_eq_true, Bool.and_eq_false_imp] at hc0
    have hil : i < W.due.length := by omega
    obtain ⟨e, he⟩ : ∃ e, W.due[i]? = some e := ⟨W.due[i], List.getElem?_eq_getElem _⟩
    obtain ⟨gh, ch, hAe, _, _⟩ := row_cell (hS.sel [1]) (by omega)
    injection hAe with hAe _ hce
    subst hAe
    have hev := e.one
    refine wp_skip ?_
    refine hK7 _ _ ?_; clear hK7
    refine wp_seq_k fun K8 hK8 => ?_
    refine wp_block ?_
    refine wp_seq_k fun K9 hK9 => ?_
    refine wp_region_lit ?_
    refine s_pu hF rfl rfl rfl ((by exact pu_elem sl124 (hF.ev rfl) (hF.ev rfl) (by omega) (by omega))) ?_; clear hF; intro a hF
    refine s_rd hF rfl rfl rfl (rd_loadN (vs := [.int .i64 e.timer, .int .i64 e.at_, e.v]) ag126 (hF.ev rfl) rfl (row_load (i := 1) hS rfl (by omega) (entCells_at he))) ?_; clear hF; intro a hF
    refine s_newp hF rfl rfl rfl (ef_alloc (cs := #[_, _, _]) ze126 rfl) hS ?_; clear hF hS; intro b6 w hS a hF
    (((refine s_store (vs := [_, _, _]) (cs' := #[_, _, _]) 0 hF rfl (hF.ev rfl) (hF.ev rfl) hS rfl rfl sz126 (by ((simp only [List.all_cons, List.all_nil, Value.oneCell', Bool.and_true, Bool.true_and]; assumption))) (by exact Nat.le_of_ble_eq_true rfl) rfl ?_)))
    clear hS; intro w hS; (try simp only [upd, del] at hS)
    refine s_done ?_
    refine hK9 _ _ ?_; clear hK9
    refine wp_region_lit ?_
    refine s_pu hF rfl rfl rfl (pu_move (hF.ev rfl)) ?_; clear hF; intro a hF
    refine s_pu hF rfl rfl rfl ((by exact pu_field fd126_2 (hF.ev rfl))) ?_; clear hF; intro a hF
    refine s_rd hF rfl rfl rfl (by exact rd_load pl3 (hF.ev rfl) (hS.cellL (i := 0) rfl rfl)) ?_; clear hF; intro a hF
    refine s_news hF rfl rfl rfl (ef_lit1 (cs := [_]) sl22 ze3 rfl (hF.ev rfl) (by exact cells_one (by assumption)) rfl (by omega) (by omega)) hS ?_; clear hF hS; intro b36 w hS a hF
    (((refine s_append 2 0 hF rfl rfl sl22 el3 (hF.ev rfl) (hF.ev rfl) hS rfl rfl rfl (by ((simp only [List.all_cons, List.all_nil, Value.oneCell', Bool.and_true, Bool.true_and]; assumption))) (by unfold maxLen; omega) (by omega) ?_))); (clear hS hF; intro A37 q37 w hS a hF; (try simp only [upd, del] at hS))
    refine s_pu hF rfl rfl rfl (pu_assign (hF.ev rfl)) ?_; clear hF; intro a hF
    refine s_done ?_
    refine blk_normal ?_
    refine hK8 _ _ ?_; clear hK8
    refine wp_region_lit ?_
    refine s_pu hF rfl rfl rfl ((by exact pu_add64 (hF.ev rfl) (hF.ev rfl) (by omega))) ?_; clear hF; intro a hF
    refine s_pu hF rfl rfl rfl (pu_move (hF.ev rfl)) ?_; clear hF; intro a hF
    refine s_done ?_
    refine ⟨W.due.length - (i + 1), by omega, i + 1, A37, q37, rfl, by omega, hF.sub ⟨rfl, rfl, rfl, rfl, trivial⟩, ?_⟩
    replace hS := (hS.drop 1).drop 1
    simp only [del] at hS
    have e2 : (W.due.take (i + 1)).map Ent.v = (W.due.take i).map Ent.v ++ [e.v] := by rw [List.take_add_one, he]; simp
    rw [e2]
    exact hS
  · -- cond 0 false
    try simp only [decide_eq_true_eq, decide_eq_false_iff_not, Bool.not_eq_true', Bool.not_eq_false', Int.not_lt, Int.not_le, ne_eq, Decidable.not_not, Bool.or_eq_true, Bool.or_eq_false_iff, Bool.and_eq_true, Bool.and_eq_false_imp] at hc0
    refine wp_exit ?_
    refine then_exit ?_
    refine then_exit ?_
    refine blk_exit ?_
    refine hK4 _ _ ?_; clear hK4
    refine wp_seq_k fun K8 hK8 => ?_
    refine wp_region_lit ?_
    refine s_pu hF rfl rfl rfl (pu_move (hF.ev rfl)) ?_; clear hF; intro a hF
    refine s_pu hF rfl rfl rfl (pu_assign (hF.ev rfl)) ?_; clear hF; intro a hF
    refine s_done ?_
    refine hK8 _ _ ?_; clear hK8
    refine wp_ret ?_
    refine fin1 Try.results36 hF rfl ?_
    have hil : i = W.due.length := by omega
    subst hil
    rw [List.take_length] at hS
    exact ⟨o, d, rfl, hS.drop 1⟩
end Go.Proofs.Ytbfdebddoncfhaa
