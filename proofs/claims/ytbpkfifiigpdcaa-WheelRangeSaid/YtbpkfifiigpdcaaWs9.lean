import Derived.Test.YtbpkfifiigpdcaaWs8
import Derived.Test.YtbpkfifiigpdcaaSk22
/-! The book: are all lists apart? -/
namespace Go.Proofs.Ytbpkfifiigpdcaa
open Go Go.RowKit Go.Proofs.Ytbpkfifiigpdcaa.Sk
set_option linter.unusedVariables false
set_option linter.unusedSimpArgs false
set_option maxRecDepth 100000

def mq (q : Nat) : List Value := [.int .i64 (-1000 - (q : Int))]
def mk20 (i : Nat) : List Value := mq (i / 20)
/-- Each list says what it should. -/
structure Told (fs ws : List Lst) : Prop where
  len : ws.length = fs.length
  same : ∀ (i : Nat) (p q : Lst), fs[i]? = some p → ws[i]? = some q → ∃ (zs : List Int) (A B : Option Addr) (c d : Nat), p = lst (.slice A zs.length c) zs ∧ q = lst (.slice B zs.length d) zs ∧ zs.length ≤ 6000000000000
theorem told_nil : Told [] [] := ⟨rfl, fun i p q h => by simp at h⟩
theorem Told.snoc {fs ws : List Lst} {A B : Option Addr} {c d : Nat} {zs : List Int} (h : Told fs ws) (hz : zs.length ≤ 6000000000000) : Told (fs ++ [lst (.slice A zs.length c) zs]) (ws ++ [lst (.slice B zs.length d) zs]) := by
  refine ⟨by simp [h.len], fun i p q hp hq => ?_⟩
  by_cases hi : i < fs.length
  · rw [List.getElem?_append_left hi] at hp
    rw [List.getElem?_append_left (by rw [h.len]; exact hi)] at hq
    exact h.same i p q hp hq
  · have hl := (List.getElem?_eq_some_iff.1 hp).1
    simp at hl
    have : i = fs.length := by omega
    subst this
    rw [List.getElem?_append_right (by omega), Nat.sub_self] at hp
    rw [← h.len, List.getElem?_append_right (by omega), Nat.sub_self] at hq
    simp at hp hq
    exact ⟨zs, A, B, c, d, hp.symm, hq.symm, hz⟩
theorem lrow_rep {v : Value} {k : Nat} {m : List Value} : rowC 3 1 v k (rep k m) = lRow 3 1 ⟨v, k, rep k m⟩ := rfl
theorem lr_at {fs : List Lst} {j : Nat} {p : Lst} (hj : fs[j]? = some p) : (fs.map Lst.v)[j]? = some p.v := by rw [List.getElem?_map, hj]; rfl
section
variable {w0 w : World} {C : List Chunk} {b : Nat} {fs ws : List Lst}
set_option maxHeartbeats 1000000 in
theorem apart_c (hS : Sat w0 w (bkC b fs ws :: C)) (ht : Told fs ws) (hf : fs.length ≤ 1000000) :
    Calls Try.prog 20 #[.pointer (some ⟨b, 0, none⟩)] w fun e w' => e = .returned (.bool true) ∧ Sat w0 w' C := by
  have hwl := ht.len
  obtain ⟨Af, cf, Aw, cw, hS⟩ := bk_open hS
  refine enter Try.func20 rfl Try.ntmps20 (Nat.le_of_ble_eq_true rfl) fun a hF => ?_
  refine wp_seq_k fun K0 hK0 => ?_
  refine wp_region_lit ?_
  refine s_pu hF rfl rfl rfl (pu_assign (hF.ev rfl)) ?_; clear hF; intro a hF
  refine s_done ?_
  refine hK0 _ _ ?_; clear hK0
  refine wp_seq_k fun K1 hK1 => ?_
  refine wp_seq_k fun K2 hK2 => ?_
  refine wp_region_lit ?_
  refine s_pu hF rfl rfl rfl (pu_assign (hF.ev rfl)) ?_; clear hF; intro a hF
  refine s_done ?_
  refine hK2 _ _ ?_; clear hK2
  refine wp_block ?_
  refine wp_ind (fun j a w => ∃ (i : Nat), j = fs.length - i ∧ i ≤ fs.length ∧ Fr a 126 [(0, .pointer (some ⟨b, 0, none⟩)), (3, .int .i64 i)] ∧
    Sat w0 w (.obj b (.cells #[.slice Af fs.length cf, .slice Aw ws.length cw] 47) :: rowC 22 1 (.slice Af fs.length cf) fs.length (fs.map Lst.v) :: rowC 22 1 (.slice Aw ws.length cw) ws.length (ws.map Lst.v) :: LR 3 1 fs :: LR 3 1 ws :: C)) fs.length
    ⟨0, by omega, by omega, hF.sub ⟨rfl, rfl, trivial⟩, hS⟩ ?_
  clear hS hF
  rintro j a w ⟨i, rfl, hi, hF, hS⟩
  refine wp_seq_k fun K3 hK3 => ?_
  refine wp_seq_k fun K4 hK4 => ?_
  refine wp_region_lit ?_
  refine s_pu hF rfl rfl rfl (pu_move (hF.ev rfl)) ?_; clear hF; intro a hF
  refine s_pu hF rfl rfl rfl (pu_move (hF.ev rfl)) ?_; clear hF; intro a hF
  refine s_pu hF rfl rfl rfl ((by exact pu_nil (hF.ev rfl))) ?_; clear hF; intro a hF
  refine s_pu hF rfl rfl rfl ((by exact pu_field fd47_0 (hF.ev rfl))) ?_; clear hF; intro a hF
  refine s_rd hF rfl rfl rfl (by exact rd_load pl45 (hF.ev rfl) (hS.cellL (i := 0) rfl rfl)) ?_; clear hF; intro a hF
  refine s_pu hF rfl rfl rfl (pu_len sl45 (hF.ev rfl)) ?_; clear hF; intro a hF
  refine s_pu hF rfl rfl rfl (pu_lss (hF.ev rfl) (hF.ev rfl)) ?_; clear hF; intro a hF
  refine s_done ?_
  refine hK4 _ _ ?_; clear hK4
  refine wp_cond_split (hF.ev rfl) (fun hc0 => ?_) (fun hc0 => ?_)
  · -- cond 0 true
    try simp only [decide_eq_true_eq, decide_eq_false_iff_not, Bool.not_eq_true', Bool.not_eq_false', Int.not_lt, Int.not_le, ne_eq, Decidable.not_not, Bool.or_eq_true, Bool.or_eq_false_iff, Bool.and_eq_true, Bool.and_eq_false_imp] at hc0
    have hil : i < fs.length := by omega
    obtain ⟨p1, hp⟩ : ∃ p, fs[i]? = some p := ⟨_, List.getElem?_eq_getElem hil⟩
    obtain ⟨p2, hp2⟩ : ∃ p, ws[i]? = some p := ⟨_, List.getElem?_eq_getElem (by omega)⟩
    obtain ⟨zs, A1, A2, c1, c2, rfl, rfl, hzb⟩ := ht.same i p1 p2 hp hp2
    have hr1 := rd_LR (i := 3) hS rfl hp
    have hr2 := rd_LR (i := 4) hS rfl hp2
    have hx1 := lr_at hp
    have hx2 := lr_at hp2
    simp only [lst] at hx1 hx2
    obtain ⟨gf, rfl⟩ := row_some (i := 1) hS rfl (by omega)
    obtain ⟨gw, rfl⟩ := row_some (i := 2) hS rfl (by omega)
    refine wp_skip ?_
    refine hK3 _ _ ?_; clear hK3
    refine wp_seq_k fun K5 hK5 => ?_
    refine wp_block ?_
    refine wp_seq_k fun K6 hK6 => ?_
    refine d_start (S := (fun w => Sat w0 w _)) (ds := [14]) (ord := [(0, .pu), (1, .pu), (2, .pu), (3, .tk), (4, .pu), (5, .pu), (6, .tk), (7, .pu), (8, .pu), (9, .pu), (10, .tk), (11, .pu), (12, .pu), (13, .tk), (14, .ls), (15, .pu)]) mixed ⟨by kernel_rfl, fun _ d _ _ _ h => by cases d <;> exact h⟩ hS.drew fun hD => ?_
    replace hS := hS.drew; generalize w.drew = w at hS ⊢
    refine d_pu hD hF rfl rfl rfl rfl rfl (pu_move (hF.ev rfl)) ?_; clear hF; intro a hF
    refine d_pu hD hF rfl rfl rfl rfl rfl ((by exact pu_nil (hF.ev rfl))) ?_; clear hF; intro a hF
    refine d_pu hD hF rfl rfl rfl rfl rfl ((by exact pu_field fd47_0 (hF.ev rfl))) ?_; clear hF; intro a hF
    refine d_rd hD hF rfl rfl rfl rfl rfl hS (fun w hS => (by exact rd_load pl45 (hF.ev rfl) (hS.cellL (i := 0) rfl rfl))) ?_; clear hF; intro a hF
    refine d_pu hD hF rfl rfl rfl rfl rfl (pu_move (hF.ev rfl)) ?_; clear hF; intro a hF
    refine d_pu hD hF rfl rfl rfl rfl rfl ((by exact pu_elem sl45 (hF.ev rfl) (hF.ev rfl) (by omega) (by omega))) ?_; clear hF; intro a hF
    refine d_rd hD hF rfl rfl rfl rfl rfl hS (fun w hS => (by exact rd_load pl22 (hF.ev rfl) (row_at (i := 1) hS rfl (by assumption)))) ?_; clear hF; intro a hF
    refine d_pu hD hF rfl rfl rfl rfl rfl (pu_move (hF.ev rfl)) ?_; clear hF; intro a hF
    refine d_pu hD hF rfl rfl rfl rfl rfl ((by exact pu_nil (hF.ev rfl))) ?_; clear hF; intro a hF
    refine d_pu hD hF rfl rfl rfl rfl rfl ((by exact pu_field fd47_1 (hF.ev rfl))) ?_; clear hF; intro a hF
    refine d_rd hD hF rfl rfl rfl rfl rfl hS (fun w hS => (by exact rd_load pl45 (hF.ev rfl) (hS.cellL (i := 0) rfl rfl))) ?_; clear hF; intro a hF
    refine d_pu hD hF rfl rfl rfl rfl rfl (pu_move (hF.ev rfl)) ?_; clear hF; intro a hF
    refine d_pu hD hF rfl rfl rfl rfl rfl ((by exact pu_elem sl45 (hF.ev rfl) (hF.ev rfl) (by omega) (by omega))) ?_; clear hF; intro a hF
    refine d_rd hD hF rfl rfl rfl rfl rfl hS (fun w hS => (by exact rd_load pl22 (hF.ev rfl) (row_at (i := 2) hS rfl (by assumption)))) ?_; clear hF; intro a hF
    refine l_en hD hF rfl rfl rfl rfl rfl (run_fn fk30 (hF.ev rfl) (hF.evs rfl)) (same_c hS hr1 hr2 (by omega)) ?_
    clear hS; rintro e w ⟨rfl, hS⟩
    refine ⟨_, rfl, ?_⟩; clear hF; intro a hF
    refine d_pu hD hF rfl rfl rfl rfl rfl (pu_assign (hF.ev rfl)) ?_; clear hF; intro a hF
    refine d_done hD rfl ?_; clear hD
    refine hK6 _ _ ?_; clear hK6
    refine wp_seq_k fun K7 hK7 => ?_
    refine wp_region_lit ?_
    refine s_pu hF rfl rfl rfl (pu_move (hF.ev rfl)) ?_; clear hF; intro a hF
    refine s_pu hF rfl rfl rfl (pu_not (hF.ev rfl)) ?_; clear hF; intro a hF
    refine s_done ?_
    refine hK7 _ _ ?_; clear hK7
    refine wp_cond_split (hF.ev rfl) (fun hc1 => ?_) (fun hc1 => ?_)
    · -- cond 1 true
      try simp only [decide_eq_true_eq, decide_eq_false_iff_not, Bool.not_eq_true', Bool.not_eq_false', Int.not_lt, Int.not_le, ne_eq, Decidable.not_not, Bool.or_eq_true, Bool.or_eq_false_iff, Bool.and_eq_true, Bool.and_eq_false_imp] at hc1
      simp at hc1
    · -- cond 1 false
      try simp only [decide_eq_true_eq, decide_eq_false_iff_not, Bool.not_eq_true', Bool.not_eq_false', Int.not_lt, Int.not_le, ne_eq, Decidable.not_not, Bool.or_eq_true, Bool.or_eq_false_iff, Bool.and_eq_true, Bool.and_eq_false_imp] at hc1
      refine wp_skip ?_
      refine blk_normal ?_
      refine hK5 _ _ ?_; clear hK5
      refine wp_region_lit ?_
      refine s_pu hF rfl rfl rfl (pu_move (hF.ev rfl)) ?_; clear hF; intro a hF
      refine s_pu hF rfl rfl rfl ((by exact pu_add64 (hF.ev rfl) (hF.ev rfl) (by omega))) ?_; clear hF; intro a hF
      refine s_pu hF rfl rfl rfl (pu_assign (hF.ev rfl)) ?_; clear hF; intro a hF
      refine s_done ?_
      exact ⟨_, by omega, i + 1, rfl, by omega, hF.sub ⟨rfl, rfl, trivial⟩, hS⟩
  · -- cond 0 false
    try simp only [decide_eq_true_eq, decide_eq_false_iff_not, Bool.not_eq_true', Bool.not_eq_false', Int.not_lt, Int.not_le, ne_eq, Decidable.not_not, Bool.or_eq_true, Bool.or_eq_false_iff, Bool.and_eq_true, Bool.and_eq_false_imp] at hc0
    refine wp_exit ?_
    refine then_exit ?_
    refine then_exit ?_
    refine blk_exit ?_
    refine hK1 _ _ ?_; clear hK1
    refine wp_seq_k fun K5 hK5 => ?_
    refine wp_seq_k fun K6 hK6 => ?_
    refine wp_region_lit ?_
    refine s_pu hF rfl rfl rfl (pu_assign (hF.ev rfl)) ?_; clear hF; intro a hF
    refine s_done ?_
    refine hK6 _ _ ?_; clear hK6
    refine wp_block ?_
    have hil0 : i = fs.length := by omega
    subst hil0
    refine wp_ind (fun j a w => ∃ (i : Nat) (gs : List Lst), j = fs.length - i ∧ i ≤ fs.length ∧ Filled mq fs gs i ∧ (∀ p ∈ gs, p.n ≤ 6000000000000) ∧ Fr a 126 [(0, .pointer (some ⟨b, 0, none⟩)), (5, .int .i64 i)] ∧
      Sat w0 w (.obj b (.cells #[.slice Af fs.length cf, .slice Aw ws.length cw] 47) :: rowC 22 1 (.slice Af fs.length cf) fs.length (fs.map Lst.v) :: LR 3 1 gs :: C)) fs.length
      ⟨0, fs, by omega, by omega, .none, fun p hp => by
        obtain ⟨j, hj⟩ := List.getElem?_of_mem hp
        have hjl := (List.getElem?_eq_some_iff.1 hj).1
        obtain ⟨zs, A, B, c, d, rfl, _, hz⟩ := ht.same j p _ hj (List.getElem?_eq_getElem (by omega))
        exact hz, hF.sub ⟨rfl, rfl, trivial⟩, (hS.drop 4).drop 2⟩ ?_
    clear hS hF
    rintro j a w ⟨i, gs, rfl, hi, hfi, hgb, hF, hS⟩
    refine wp_seq_k fun K7 hK7 => ?_
    refine wp_seq_k fun K8 hK8 => ?_
    refine wp_region_lit ?_
    refine s_pu hF rfl rfl rfl (pu_move (hF.ev rfl)) ?_; clear hF; intro a hF
    refine s_pu hF rfl rfl rfl (pu_move (hF.ev rfl)) ?_; clear hF; intro a hF
    refine s_pu hF rfl rfl rfl ((by exact pu_nil (hF.ev rfl))) ?_; clear hF; intro a hF
    refine s_pu hF rfl rfl rfl ((by exact pu_field fd47_0 (hF.ev rfl))) ?_; clear hF; intro a hF
    refine s_rd hF rfl rfl rfl (by exact rd_load pl45 (hF.ev rfl) (hS.cellL (i := 0) rfl rfl)) ?_; clear hF; intro a hF
    refine s_pu hF rfl rfl rfl (pu_len sl45 (hF.ev rfl)) ?_; clear hF; intro a hF
    refine s_pu hF rfl rfl rfl (pu_lss (hF.ev rfl) (hF.ev rfl)) ?_; clear hF; intro a hF
    refine s_done ?_
    refine hK8 _ _ ?_; clear hK8
    refine wp_cond_split (hF.ev rfl) (fun hc2 => ?_) (fun hc2 => ?_)
    · -- cond 2 true
      try simp only [decide_eq_true_eq, decide_eq_false_iff_not, Bool.not_eq_true', Bool.not_eq_false', Int.not_lt, Int.not_le, ne_eq, Decidable.not_not, Bool.or_eq_true, Bool.or_eq_false_iff, Bool.and_eq_true, Bool.and_eq_false_imp] at hc2
      have hil : i < fs.length := by omega
      have hig : i < gs.length := by rw [hfi.len]; exact hil
      obtain ⟨⟨v1, n1, xs1⟩, hp⟩ : ∃ p, gs[i]? = some p := ⟨_, List.getElem?_eq_getElem hig⟩
      obtain ⟨A1, c1, e1, hnc1⟩ := lr_val (i := 2) hS rfl hp
      dsimp only at e1 hnc1
      subst e1
      have hx1 : (fs.map Lst.v)[i]? = some (.slice A1 n1 c1) := by rw [← hfi.val]; exact lr_at hp
      obtain ⟨gf, rfl⟩ := row_some (i := 1) hS rfl (by omega)
      have hzb : n1 ≤ 6000000000000 := hgb _ (List.mem_of_getElem? hp)
      have hS5 := lr_out (hS.front 2 rfl) hp
      unfold lRow at hS5
      dsimp only at hS5
      have hxl := row_len hS5
      replace hS := hS5.sel [2, 2]
      simp only [selR, nth, del] at hS
      clear hS5
      replace hS : Sat w0 w (.obj b (.cells #[.slice (some ⟨gf, 0, none⟩) fs.length cf, .slice Aw ws.length cw] 47) :: rowC 22 1 (.slice (some ⟨gf, 0, none⟩) fs.length cf) fs.length (fs.map Lst.v) :: rowC 3 1 (.slice A1 n1 c1) n1 (rep 0 (mq i) ++ xs1.drop (0 * 1)) :: LR 3 1 (gs.eraseIdx i) :: C) := hS
      refine wp_skip ?_
      refine hK7 _ _ ?_; clear hK7
      refine wp_seq_k fun K9 hK9 => ?_
      refine wp_block ?_
      refine wp_seq_k fun K10 hK10 => ?_
      refine wp_region_lit ?_
      refine s_pu hF rfl rfl rfl (pu_assign (hF.ev rfl)) ?_; clear hF; intro a hF
      refine s_done ?_
      refine hK10 _ _ ?_; clear hK10
      refine wp_block ?_
      refine wp_ind (fun j a w => ∃ (k : Nat), j = n1 - k ∧ k ≤ n1 ∧ Fr a 126 [(0, .pointer (some ⟨b, 0, none⟩)), (5, .int .i64 i), (6, .int .i64 k)] ∧
        Sat w0 w (.obj b (.cells #[.slice (some ⟨gf, 0, none⟩) fs.length cf, .slice Aw ws.length cw] 47) :: rowC 22 1 (.slice (some ⟨gf, 0, none⟩) fs.length cf) fs.length (fs.map Lst.v) :: rowC 3 1 (.slice A1 n1 c1) n1 (rep k (mq i) ++ xs1.drop (k * 1)) :: LR 3 1 (gs.eraseIdx i) :: C)) n1
        ⟨0, by omega, by omega, hF.sub ⟨rfl, rfl, rfl, trivial⟩, hS⟩ ?_
      clear hS hF
      rintro j a w ⟨k, rfl, hk, hF, hS⟩
      refine wp_seq_k fun K11 hK11 => ?_
      refine wp_seq_k fun K12 hK12 => ?_
      refine wp_region_lit ?_
      refine s_pu hF rfl rfl rfl (pu_move (hF.ev rfl)) ?_; clear hF; intro a hF
      refine s_pu hF rfl rfl rfl (pu_move (hF.ev rfl)) ?_; clear hF; intro a hF
      refine s_pu hF rfl rfl rfl ((by exact pu_nil (hF.ev rfl))) ?_; clear hF; intro a hF
      refine s_pu hF rfl rfl rfl ((by exact pu_field fd47_0 (hF.ev rfl))) ?_; clear hF; intro a hF
      refine s_rd hF rfl rfl rfl (by exact rd_load pl45 (hF.ev rfl) (hS.cellL (i := 0) rfl rfl)) ?_; clear hF; intro a hF
      refine s_pu hF rfl rfl rfl (pu_move (hF.ev rfl)) ?_; clear hF; intro a hF
      refine s_pu hF rfl rfl rfl ((by exact pu_elem sl45 (hF.ev rfl) (hF.ev rfl) (by omega) (by omega))) ?_; clear hF; intro a hF
      refine s_rd hF rfl rfl rfl (by exact rd_load pl22 (hF.ev rfl) (row_at (i := 1) hS rfl (by assumption))) ?_; clear hF; intro a hF
      refine s_pu hF rfl rfl rfl (pu_len sl22 (hF.ev rfl)) ?_; clear hF; intro a hF
      refine s_pu hF rfl rfl rfl (pu_lss (hF.ev rfl) (hF.ev rfl)) ?_; clear hF; intro a hF
      refine s_done ?_
      refine hK12 _ _ ?_; clear hK12
      refine wp_cond_split (hF.ev rfl) (fun hc3 => ?_) (fun hc3 => ?_)
      · -- cond 3 true
        try simp only [decide_eq_true_eq, decide_eq_false_iff_not, Bool.not_eq_true', Bool.not_eq_false', Int.not_lt, Int.not_le, ne_eq, Decidable.not_not, Bool.or_eq_true, Bool.or_eq_false_iff, Bool.and_eq_true, Bool.and_eq_false_imp] at hc3
        have hkn : k < n1 := by omega
        obtain ⟨g1, rfl⟩ := row_some (i := 2) hS rfl (by omega)
        refine wp_skip ?_
        refine hK11 _ _ ?_; clear hK11
        refine wp_seq_k fun K13 hK13 => ?_
        refine wp_block ?_
        refine wp_region_lit ?_
        refine s_pu hF rfl rfl rfl (pu_move (hF.ev rfl)) ?_; clear hF; intro a hF
        refine s_pu hF rfl rfl rfl ((by exact pu_nil (hF.ev rfl))) ?_; clear hF; intro a hF
        refine s_pu hF rfl rfl rfl ((by exact pu_field fd47_0 (hF.ev rfl))) ?_; clear hF; intro a hF
        refine s_rd hF rfl rfl rfl (by exact rd_load pl45 (hF.ev rfl) (hS.cellL (i := 0) rfl rfl)) ?_; clear hF; intro a hF
        refine s_pu hF rfl rfl rfl (pu_move (hF.ev rfl)) ?_; clear hF; intro a hF
        refine s_pu hF rfl rfl rfl ((by exact pu_elem sl45 (hF.ev rfl) (hF.ev rfl) (by omega) (by omega))) ?_; clear hF; intro a hF
        refine s_rd hF rfl rfl rfl (by exact rd_load pl22 (hF.ev rfl) (row_at (i := 1) hS rfl (by assumption))) ?_; clear hF; intro a hF
        refine s_pu hF rfl rfl rfl (pu_move (hF.ev rfl)) ?_; clear hF; intro a hF
        refine s_pu hF rfl rfl rfl (pu_move (hF.ev rfl)) ?_; clear hF; intro a hF
        refine s_pu hF rfl rfl rfl ((by exact pu_sub64 (hF.ev rfl) (hF.ev rfl) (by omega))) ?_; clear hF; intro a hF
        refine s_pu hF rfl rfl rfl ((by exact pu_elem sl22 (hF.ev rfl) (hF.ev rfl) (by omega) (by omega))) ?_; clear hF; intro a hF
        refine s_rstoreN 2 hF rfl (hF.ev rfl) (hF.ev rfl) hS rfl (vs := mq i) rfl sz3 rfl rfl hkn ?_; clear hS; intro w hS
        (try simp only [upd] at hS)
        refine s_done ?_
        rw [rep_fill (sz := 1) rfl hxl hkn] at hS
        refine blk_normal ?_
        refine hK13 _ _ ?_; clear hK13
        refine wp_region_lit ?_
        refine s_pu hF rfl rfl rfl (pu_move (hF.ev rfl)) ?_; clear hF; intro a hF
        refine s_pu hF rfl rfl rfl ((by exact pu_add64 (hF.ev rfl) (hF.ev rfl) (by omega))) ?_; clear hF; intro a hF
        refine s_pu hF rfl rfl rfl (pu_assign (hF.ev rfl)) ?_; clear hF; intro a hF
        refine s_done ?_
        exact ⟨_, by omega, k + 1, rfl, by omega, hF.sub ⟨rfl, rfl, rfl, trivial⟩, hS⟩
      · -- cond 3 false
        try simp only [decide_eq_true_eq, decide_eq_false_iff_not, Bool.not_eq_true', Bool.not_eq_false', Int.not_lt, Int.not_le, ne_eq, Decidable.not_not, Bool.or_eq_true, Bool.or_eq_false_iff, Bool.and_eq_true, Bool.and_eq_false_imp] at hc3
        refine wp_exit ?_
        refine then_exit ?_
        refine then_exit ?_
        refine blk_exit ?_
        refine blk_normal ?_
        refine hK9 _ _ ?_; clear hK9
        refine wp_region_lit ?_
        refine s_pu hF rfl rfl rfl (pu_move (hF.ev rfl)) ?_; clear hF; intro a hF
        refine s_pu hF rfl rfl rfl ((by exact pu_add64 (hF.ev rfl) (hF.ev rfl) (by omega))) ?_; clear hF; intro a hF
        refine s_pu hF rfl rfl rfl (pu_assign (hF.ev rfl)) ?_; clear hF; intro a hF
        refine s_done ?_
        have hkk : k = n1 := by omega
        subst hkk
        rw [List.drop_of_length_le (by omega), List.append_nil] at hS
        have hfi2 := hfi.step hp
        have h1 := hS.sel [2, 2]
        simp only [selR, nth, del] at h1
        rw [lrow_rep] at h1
        have h3 := (lr_in h1 hig).sel [1, 1]
        simp only [selR, nth, del] at h3
        exact ⟨_, by omega, i + 1, _, rfl, by omega, hfi2, fun p hp => by
          rcases List.mem_or_eq_of_mem_set hp with hp | rfl
          · exact hgb p hp
          · exact hzb, hF.sub ⟨rfl, rfl, trivial⟩, h3⟩
    · -- cond 2 false
      try simp only [decide_eq_true_eq, decide_eq_false_iff_not, Bool.not_eq_true', Bool.not_eq_false', Int.not_lt, Int.not_le, ne_eq, Decidable.not_not, Bool.or_eq_true, Bool.or_eq_false_iff, Bool.and_eq_true, Bool.and_eq_false_imp] at hc2
      refine wp_exit ?_
      refine then_exit ?_
      refine then_exit ?_
      refine blk_exit ?_
      refine hK5 _ _ ?_; clear hK5
      refine wp_seq_k fun K9 hK9 => ?_
      refine wp_region_lit ?_
      refine s_pu hF rfl rfl rfl (pu_assign (hF.ev rfl)) ?_; clear hF; intro a hF
      refine s_done ?_
      have hil0 : i = fs.length := by omega
      subst hil0
      replace hS := row_nil (E := 22) (sz := 1) (marks_nil (E := 3) (sz := 1) (mk := mk20) hS)
      refine hK9 _ _ ?_; clear hK9
      refine wp_seq_k fun K10 hK10 => ?_
      refine wp_seq_k fun K11 hK11 => ?_
      refine wp_region_lit ?_
      refine s_pu hF rfl rfl rfl (pu_assign (hF.ev rfl)) ?_; clear hF; intro a hF
      refine s_done ?_
      refine hK11 _ _ ?_; clear hK11
      refine wp_block ?_
      refine wp_ind (fun j a w => ∃ (i : Nat) (l : List Value) (Al : Option Addr) (cl : Nat), j = fs.length - i ∧ i ≤ fs.length ∧ l.length = 20 * i ∧ Fr a 126 [(0, .pointer (some ⟨b, 0, none⟩)), (7, .slice Al l.length cl), (8, .int .i64 i)] ∧
        Sat w0 w (rowC 22 1 (.slice Al l.length cl) l.length l :: marksC 3 1 mk20 l :: .obj b (.cells #[.slice Af fs.length cf, .slice Aw ws.length cw] 47) :: rowC 22 1 (.slice Af fs.length cf) fs.length (fs.map Lst.v) :: LR 3 1 (gs.drop i) :: C)) fs.length
        ⟨0, [], none, 0, by omega, by omega, rfl, hF.sub ⟨rfl, rfl, rfl, trivial⟩, hS⟩ ?_
      clear hS hF
      rintro j a w ⟨i, l, Al, cl, rfl, hi, hll, hF, hS⟩
      refine wp_seq_k fun K12 hK12 => ?_
      refine wp_seq_k fun K13 hK13 => ?_
      refine wp_region_lit ?_
      refine s_pu hF rfl rfl rfl (pu_move (hF.ev rfl)) ?_; clear hF; intro a hF
      refine s_pu hF rfl rfl rfl (pu_move (hF.ev rfl)) ?_; clear hF; intro a hF
      refine s_pu hF rfl rfl rfl ((by exact pu_nil (hF.ev rfl))) ?_; clear hF; intro a hF
      refine s_pu hF rfl rfl rfl ((by exact pu_field fd47_0 (hF.ev rfl))) ?_; clear hF; intro a hF
      refine s_rd hF rfl rfl rfl (by exact rd_load pl45 (hF.ev rfl) (hS.cellL (i := 2) rfl rfl)) ?_; clear hF; intro a hF
      refine s_pu hF rfl rfl rfl (pu_len sl45 (hF.ev rfl)) ?_; clear hF; intro a hF
      refine s_pu hF rfl rfl rfl (pu_lss (hF.ev rfl) (hF.ev rfl)) ?_; clear hF; intro a hF
      refine s_done ?_
      refine hK13 _ _ ?_; clear hK13
      refine wp_cond_split (hF.ev rfl) (fun hc4 => ?_) (fun hc4 => ?_)
      · -- cond 4 true
        try simp only [decide_eq_true_eq, decide_eq_false_iff_not, Bool.not_eq_true', Bool.not_eq_false', Int.not_lt, Int.not_le, ne_eq, Decidable.not_not, Bool.or_eq_true, Bool.or_eq_false_iff, Bool.and_eq_true, Bool.and_eq_false_imp] at hc4
        have hil : i < fs.length := by omega
        have hig : i < gs.length := by rw [hfi.len]; exact hil
        obtain ⟨⟨v1, n1, xs1⟩, hp⟩ : ∃ p, gs[i]? = some p := ⟨_, List.getElem?_eq_getElem hig⟩
        have hgd : gs.drop i = ⟨v1, n1, xs1⟩ :: gs.drop (i + 1) := by
          rw [List.drop_eq_getElem_cons hig, (List.getElem?_eq_some_iff.1 hp).2]
        rw [hgd] at hS
        have hfull := hfi.full i _ hil hp
        obtain ⟨A1, c1, e1, hnc1⟩ := lr_val (i := 4) (j := 0) hS rfl rfl
        dsimp only at e1 hfull hnc1
        subst e1
        subst hfull
        have hx1 : (fs.map Lst.v)[i]? = some (.slice A1 n1 c1) := by rw [← hfi.val]; exact lr_at hp
        obtain ⟨gf, rfl⟩ := row_some (i := 3) hS rfl (by omega)
        have hzb : n1 ≤ 6000000000000 := hgb _ (List.mem_of_getElem? hp)
        have hS5 := (lr_cons.1 (hS.front 4 rfl))
        clear hS
        have hS := hS5
        clear hS5
        unfold lRow at hS
        dsimp only at hS
        replace hS := hS.sel [2, 2, 2, 2]
        simp only [selR, nth, del] at hS
        refine wp_skip ?_
        refine hK12 _ _ ?_; clear hK12
        refine wp_seq_k fun K14 hK14 => ?_
        refine wp_block ?_
        refine wp_seq_k fun K15 hK15 => ?_
        refine wp_region_lit ?_
        refine s_pu hF rfl rfl rfl (pu_move (hF.ev rfl)) ?_; clear hF; intro a hF
        refine s_pu hF rfl rfl rfl ((by exact pu_nil (hF.ev rfl))) ?_; clear hF; intro a hF
        refine s_pu hF rfl rfl rfl ((by exact pu_field fd47_0 (hF.ev rfl))) ?_; clear hF; intro a hF
        refine s_rd hF rfl rfl rfl (by exact rd_load pl45 (hF.ev rfl) (hS.cellL (i := 2) rfl rfl)) ?_; clear hF; intro a hF
        refine s_pu hF rfl rfl rfl (pu_move (hF.ev rfl)) ?_; clear hF; intro a hF
        refine s_pu hF rfl rfl rfl ((by exact pu_elem sl45 (hF.ev rfl) (hF.ev rfl) (by omega) (by omega))) ?_; clear hF; intro a hF
        refine s_rd hF rfl rfl rfl (by exact rd_load pl22 (hF.ev rfl) (row_at (i := 3) hS rfl (by assumption))) ?_; clear hF; intro a hF
        refine s_pu hF rfl rfl rfl (pu_assign (hF.ev rfl)) ?_; clear hF; intro a hF
        refine s_done ?_
        refine hK15 _ _ ?_; clear hK15
        refine wp_seq_k fun K16 hK16 => ?_
        refine wp_region_lit ?_
        refine s_pu hF rfl rfl rfl (pu_assign (hF.ev rfl)) ?_; clear hF; intro a hF
        refine s_done ?_
        refine hK16 _ _ ?_; clear hK16
        refine wp_block ?_
        refine wp_ind (fun j a w => ∃ (k : Nat) (l2 : List Value) (Al A : Option Addr) (cl n c j0 : Nat), j = 20 - k ∧ k ≤ 20 ∧ l2.length = l.length + k ∧ l.length ≤ j0 ∧ j0 ≤ l2.length ∧ n ≤ n1 + k ∧ (∀ j v, j0 ≤ j → l2[j]? = some v → ∃ n' c', v = .slice A n' c' ∧ n' ≤ n) ∧
          Fr a 126 [(0, .pointer (some ⟨b, 0, none⟩)), (7, .slice Al l2.length cl), (8, .int .i64 i), (9, .slice A n c), (10, .int .i64 k)] ∧
          Sat w0 w (rowC 22 1 (.slice Al l2.length cl) l2.length l2 :: marksC 3 1 mk20 (l2.take j0) :: .obj b (.cells #[.slice (some ⟨gf, 0, none⟩) fs.length cf, .slice Aw ws.length cw] 47) :: rowC 22 1 (.slice (some ⟨gf, 0, none⟩) fs.length cf) fs.length (fs.map Lst.v) ::
            rowC 3 1 (.slice A n c) n (rep n (mq i)) :: LR 3 1 (gs.drop (i + 1)) :: C)) 20
          ⟨0, l, Al, A1, cl, n1, c1, l.length, by omega, by omega, by omega, by omega, by omega, by omega, fun j v hj hv => by
            have := (List.getElem?_eq_some_iff.1 hv).1
            omega, hF.sub ⟨rfl, rfl, rfl, rfl, rfl, trivial⟩, by rw [List.take_length]; exact hS⟩ ?_
        clear hS hF
        rintro j a w ⟨k, l2, Al, A, cl, n, c, j0, rfl, hk, hl2, hj1, hj2, hn2, hnew, hF, hS⟩
        refine wp_seq_k fun K17 hK17 => ?_
        refine wp_seq_k fun K18 hK18 => ?_
        refine wp_region_lit ?_
        refine s_pu hF rfl rfl rfl (pu_move (hF.ev rfl)) ?_; clear hF; intro a hF
        refine s_pu hF rfl rfl rfl (pu_lss (hF.ev rfl) (hF.ev rfl)) ?_; clear hF; intro a hF
        refine s_done ?_
        refine hK18 _ _ ?_; clear hK18
        refine wp_cond_split (hF.ev rfl) (fun hc5 => ?_) (fun hc5 => ?_)
        · -- cond 5 true
          try simp only [decide_eq_true_eq, decide_eq_false_iff_not, Bool.not_eq_true', Bool.not_eq_false', Int.not_lt, Int.not_le, ne_eq, Decidable.not_not, Bool.or_eq_true, Bool.or_eq_false_iff, Bool.and_eq_true, Bool.and_eq_false_imp] at hc5
          have hk20 : k < 20 := by omega
          refine wp_skip ?_
          refine hK17 _ _ ?_; clear hK17
          refine wp_seq_k fun K19 hK19 => ?_
          refine wp_block ?_
          refine wp_seq_k fun K20 hK20 => ?_
          refine wp_region_lit ?_
          refine s_pu hF rfl rfl rfl (pu_move (hF.ev rfl)) ?_; clear hF; intro a hF
          refine s_pu hF rfl rfl rfl (pu_move (hF.ev rfl)) ?_; clear hF; intro a hF
          refine s_news hF rfl rfl rfl (ef_lit1 (cs := [_]) sl45 ze22 rfl (hF.ev rfl) (by rfl) rfl (by omega) (by omega)) hS ?_; clear hF hS; intro b93 w hS a hF
          (((refine s_append 1 0 hF rfl rfl sl45 el22 (hF.ev rfl) (hF.ev rfl) hS rfl rfl rfl (by rfl) (by unfold maxLen; omega) (by omega) ?_))); (clear hS hF; intro A94 q94 w hS a hF; (try simp only [upd, del] at hS))
          refine s_pu hF rfl rfl rfl (pu_assign (hF.ev rfl)) ?_; clear hF; intro a hF
          refine s_done ?_
          replace hS := hS.drop 1
          simp only [del] at hS
          refine hK20 _ _ ?_; clear hK20
          refine wp_region_lit ?_
          refine s_pu hF rfl rfl rfl (pu_move (hF.ev rfl)) ?_; clear hF; intro a hF
          refine s_pu hF rfl rfl rfl (pu_move (hF.ev rfl)) ?_; clear hF; intro a hF
          refine s_pu hF rfl rfl rfl ((by exact pu_sub64 (hF.ev rfl) (hF.ev rfl) (by omega))) ?_; clear hF; intro a hF
          refine s_news hF rfl rfl rfl (ef_lit1 (cs := [_]) sl22 ze3 rfl (hF.ev rfl) (by rfl) rfl (by omega) (by omega)) hS ?_; clear hF hS; intro b98 w hS a hF
          refine s_append3 5 0 hF rfl rfl sl22 el3 (hF.ev rfl) (hF.ev rfl) hS rfl rfl rfl rfl (by unfold maxLen; omega) (by omega) ?_; clear hF hS; intro A99 q99 w C1 hcs hS a hF
          have er : rep n (mq i) ++ [Value.int IntKind.i64 (-1000 - (i : Int))] = rep (n + 1) (mq i) := rep_snoc.symm
          rw [er] at hS
          have key : ∃ j1, l.length ≤ j1 ∧ j1 ≤ (l2 ++ [Value.slice A n c]).length ∧ (∀ j v, j1 ≤ j → (l2 ++ [Value.slice A n c])[j]? = some v → ∃ n' c', v = .slice A99 n' c' ∧ n' ≤ n + 1) ∧
              Sat w0 w (rowC 3 1 (.slice A99 (n + 1) q99) (n + 1) (rep (n + 1) (mq i)) :: marksC 3 1 mk20 ((l2 ++ [Value.slice A n c]).take j1) :: .obj b98 (.cells #[.int .i64 (-1000 - (i : Int))] 3) :: rowC 22 1 (.slice A94 (l2.length + 1) q94) (l2.length + 1) (l2 ++ [Value.slice A n c]) ::
                .obj b (.cells #[.slice (some ⟨gf, 0, none⟩) fs.length cf, .slice Aw ws.length cw] 47) :: rowC 22 1 (.slice (some ⟨gf, 0, none⟩) fs.length cf) fs.length (fs.map Lst.v) :: LR 3 1 (gs.drop (i + 1)) :: C) := by
            have hnew2 : ∀ j v, j0 ≤ j → (l2 ++ [Value.slice A n c])[j]? = some v → ∃ n' c', v = .slice A n' c' ∧ n' ≤ n := by
              intro j v hj hv
              by_cases h : j < l2.length
              · rw [List.getElem?_append_left h] at hv
                exact hnew j v hj hv
              · rw [List.getElem?_append_right (by omega)] at hv
                have h0 := (List.getElem?_eq_some_iff.1 hv).1
                simp only [List.length_singleton] at h0
                rw [show j - l2.length = 0 by omega] at hv
                cases hv
                exact ⟨n, c, rfl, Nat.le_refl _⟩
            rcases hcs with ⟨rfl, rfl⟩ | rfl
            · refine ⟨j0, hj1, by simp; omega, fun j v hj hv => ?_, ?_⟩
              · obtain ⟨n', c', e, h⟩ := hnew2 j v hj hv
                exact ⟨n', c', e, by omega⟩
              · have h1 := hS.sel [0, 2]
                simp only [selR, nth, del] at h1
                rw [List.take_append_of_le_length hj2]
                exact h1
            · refine ⟨(l2 ++ [Value.slice A n c]).length, by simp; omega, Nat.le_refl _, fun j v hj hv => ?_, ?_⟩
              · have := (List.getElem?_eq_some_iff.1 hv).1
                omega
              · have h1 := hS.sel [1, 3]
                simp only [selR, nth, del] at h1
                rw [← List.take_append_of_le_length (l₂ := [Value.slice A n c]) hj2] at h1
                have h2 := marks_split (far := 20) (mq := mq) (q := i) (fun _ => rfl) h1 rfl (by omega) (by omega) (by simp; omega) (by omega) (by simp; omega) hnew2
                have h3 := h2.front 1 rfl
                rw [List.take_length]
                exact h3
          obtain ⟨j1, hj3, hj4, hnew3, hS⟩ := key
          refine s_pu hF rfl rfl rfl (pu_assign (hF.ev rfl)) ?_; clear hF; intro a hF
          refine s_done ?_
          refine blk_normal ?_
          refine hK19 _ _ ?_; clear hK19
          refine wp_region_lit ?_
          refine s_pu hF rfl rfl rfl (pu_move (hF.ev rfl)) ?_; clear hF; intro a hF
          refine s_pu hF rfl rfl rfl ((by exact pu_add64 (hF.ev rfl) (hF.ev rfl) (by omega))) ?_; clear hF; intro a hF
          refine s_pu hF rfl rfl rfl (pu_assign (hF.ev rfl)) ?_; clear hF; intro a hF
          refine s_done ?_
          replace hS := (hS.drop 2).sel [2, 1, 1, 1, 0]
          simp only [selR, nth, del] at hS
          have e2 : (l2 ++ [Value.slice A n c]).length = l2.length + 1 := by simp
          refine ⟨_, by omega, k + 1, l2 ++ [Value.slice A n c], A94, A99, q94, n + 1, q99, j1, rfl, by omega, by rw [e2]; omega, hj3, hj4, ?_, hnew3, hF.sub ⟨rfl, by rw [e2]; rfl, rfl, rfl, rfl, trivial⟩, ?_⟩
          · omega
          · rw [e2]
            exact hS
        · -- cond 5 false
          try simp only [decide_eq_true_eq, decide_eq_false_iff_not, Bool.not_eq_true', Bool.not_eq_false', Int.not_lt, Int.not_le, ne_eq, Decidable.not_not, Bool.or_eq_true, Bool.or_eq_false_iff, Bool.and_eq_true, Bool.and_eq_false_imp] at hc5
          refine wp_exit ?_
          refine then_exit ?_
          refine then_exit ?_
          refine blk_exit ?_
          refine blk_normal ?_
          refine hK14 _ _ ?_; clear hK14
          refine wp_region_lit ?_
          refine s_pu hF rfl rfl rfl (pu_move (hF.ev rfl)) ?_; clear hF; intro a hF
          refine s_pu hF rfl rfl rfl ((by exact pu_add64 (hF.ev rfl) (hF.ev rfl) (by omega))) ?_; clear hF; intro a hF
          refine s_pu hF rfl rfl rfl (pu_assign (hF.ev rfl)) ?_; clear hF; intro a hF
          refine s_done ?_
          have hkk : k = 20 := by omega
          subst hkk
          have h1 := hS.sel [4, 1]
          simp only [selR, nth, del] at h1
          have h2 := (marks_split (far := 20) (mq := mq) (q := i) (fun _ => rfl) h1 rfl (by omega) (by omega) hj2 (by omega) (by omega) hnew).sel [1, 0]
          simp only [selR, nth, del] at h2
          exact ⟨_, by omega, i + 1, l2, _, _, rfl, by omega, by omega, hF.sub ⟨rfl, rfl, rfl, trivial⟩, h2⟩
      · -- cond 4 false
        try simp only [decide_eq_true_eq, decide_eq_false_iff_not, Bool.not_eq_true', Bool.not_eq_false', Int.not_lt, Int.not_le, ne_eq, Decidable.not_not, Bool.or_eq_true, Bool.or_eq_false_iff, Bool.and_eq_true, Bool.and_eq_false_imp] at hc4
        refine wp_exit ?_
        refine then_exit ?_
        refine then_exit ?_
        refine blk_exit ?_
        refine hK10 _ _ ?_; clear hK10
        refine wp_seq_k fun K14 hK14 => ?_
        refine wp_seq_k fun K15 hK15 => ?_
        refine wp_region_lit ?_
        refine s_pu hF rfl rfl rfl (pu_assign (hF.ev rfl)) ?_; clear hF; intro a hF
        refine s_done ?_
        have hii : i = fs.length := by omega
        subst hii
        refine hK15 _ _ ?_; clear hK15
        refine wp_block ?_
        replace hS := (hS.drop 3).drop 2
        simp only [del] at hS
        refine wp_ind (fun j a w => ∃ (i : Nat), j = l.length - i ∧ i ≤ l.length ∧ Fr a 126 [(7, .slice Al l.length cl), (11, .int .i64 i)] ∧
          Sat w0 w (rowC 22 1 (.slice Al l.length cl) l.length l :: marksC 3 1 mk20 l :: LR 3 1 (gs.drop fs.length) :: C)) l.length
          ⟨0, by omega, by omega, hF.sub ⟨rfl, rfl, trivial⟩, hS⟩ ?_
        clear hS hF
        rintro j a w ⟨i, rfl, hi, hF, hS⟩
        refine wp_seq_k fun K16 hK16 => ?_
        refine wp_seq_k fun K17 hK17 => ?_
        refine wp_region_lit ?_
        refine s_pu hF rfl rfl rfl (pu_move (hF.ev rfl)) ?_; clear hF; intro a hF
        refine s_pu hF rfl rfl rfl (pu_move (hF.ev rfl)) ?_; clear hF; intro a hF
        refine s_pu hF rfl rfl rfl (pu_len sl45 (hF.ev rfl)) ?_; clear hF; intro a hF
        refine s_pu hF rfl rfl rfl (pu_lss (hF.ev rfl) (hF.ev rfl)) ?_; clear hF; intro a hF
        refine s_done ?_
        refine hK17 _ _ ?_; clear hK17
        refine wp_cond_split (hF.ev rfl) (fun hc6 => ?_) (fun hc6 => ?_)
        · -- cond 6 true
          try simp only [decide_eq_true_eq, decide_eq_false_iff_not, Bool.not_eq_true', Bool.not_eq_false', Int.not_lt, Int.not_le, ne_eq, Decidable.not_not, Bool.or_eq_true, Bool.or_eq_false_iff, Bool.and_eq_true, Bool.and_eq_false_imp] at hc6
          have hil : i < l.length := by omega
          obtain ⟨v, hv⟩ : ∃ v, l[i]? = some v := ⟨_, List.getElem?_eq_getElem hil⟩
          obtain ⟨gl, rfl⟩ := row_some (i := 0) hS rfl (by omega)
          obtain ⟨A, n, c, rfl, hn, _⟩ := marks_read (hS.front 1 rfl) hv
          refine wp_skip ?_
          refine hK16 _ _ ?_; clear hK16
          refine wp_seq_k fun K18 hK18 => ?_
          refine wp_block ?_
          refine wp_seq_k fun K19 hK19 => ?_
          refine wp_region_lit ?_
          refine s_pu hF rfl rfl rfl (pu_assign (hF.ev rfl)) ?_; clear hF; intro a hF
          refine s_done ?_
          refine hK19 _ _ ?_; clear hK19
          refine wp_block ?_
          refine wp_ind (fun j a w => ∃ (k : Nat), j = n - k ∧ k ≤ n ∧ Fr a 126 [(7, .slice (some ⟨gl, 0, none⟩) l.length cl), (11, .int .i64 i), (12, .int .i64 k)] ∧
            Sat w0 w (rowC 22 1 (.slice (some ⟨gl, 0, none⟩) l.length cl) l.length l :: marksC 3 1 mk20 l :: LR 3 1 (gs.drop fs.length) :: C)) n
            ⟨0, by omega, by omega, hF.sub ⟨rfl, rfl, rfl, trivial⟩, hS⟩ ?_
          clear hS hF
          rintro j a w ⟨k, rfl, hk, hF, hS⟩
          refine wp_seq_k fun K20 hK20 => ?_
          refine wp_seq_k fun K21 hK21 => ?_
          refine wp_region_lit ?_
          refine s_pu hF rfl rfl rfl (pu_move (hF.ev rfl)) ?_; clear hF; intro a hF
          refine s_pu hF rfl rfl rfl (pu_move (hF.ev rfl)) ?_; clear hF; intro a hF
          refine s_pu hF rfl rfl rfl (pu_move (hF.ev rfl)) ?_; clear hF; intro a hF
          refine s_pu hF rfl rfl rfl ((by exact pu_elem sl45 (hF.ev rfl) (hF.ev rfl) (by omega) (by omega))) ?_; clear hF; intro a hF
          refine s_rd hF rfl rfl rfl (by exact rd_load pl22 (hF.ev rfl) (row_at (i := 0) hS rfl (by assumption))) ?_; clear hF; intro a hF
          refine s_pu hF rfl rfl rfl (pu_len sl22 (hF.ev rfl)) ?_; clear hF; intro a hF
          refine s_pu hF rfl rfl rfl (pu_lss (hF.ev rfl) (hF.ev rfl)) ?_; clear hF; intro a hF
          refine s_done ?_
          refine hK21 _ _ ?_; clear hK21
          refine wp_cond_split (hF.ev rfl) (fun hc7 => ?_) (fun hc7 => ?_)
          · -- cond 7 true
            try simp only [decide_eq_true_eq, decide_eq_false_iff_not, Bool.not_eq_true', Bool.not_eq_false', Int.not_lt, Int.not_le, ne_eq, Decidable.not_not, Bool.or_eq_true, Bool.or_eq_false_iff, Bool.and_eq_true, Bool.and_eq_false_imp] at hc7
            have hkn : k < n := by omega
            obtain ⟨A2, n2, c2, e, _, hr⟩ := marks_read (hS.front 1 rfl) hv
            injection e with e1 e2 e3
            subst e1
            subst e2
            obtain ⟨g1, rfl, hv2⟩ := hr k hkn
            have hv3 : w.cell? ⟨g1, 0 + (k : Int).toNat * 1, none⟩ = some (.int .i64 (-1000 - ((i / 20 : Nat) : Int))) := hv2 0 _ rfl
            refine wp_skip ?_
            refine hK20 _ _ ?_; clear hK20
            refine wp_seq_k fun K22 hK22 => ?_
            refine wp_block ?_
            refine wp_seq_k fun K23 hK23 => ?_
            refine wp_region_lit ?_
            refine s_pu hF rfl rfl rfl (pu_move (hF.ev rfl)) ?_; clear hF; intro a hF
            refine s_pu hF rfl rfl rfl (pu_move (hF.ev rfl)) ?_; clear hF; intro a hF
            refine s_pu hF rfl rfl rfl ((by exact pu_elem sl45 (hF.ev rfl) (hF.ev rfl) (by omega) (by omega))) ?_; clear hF; intro a hF
            refine s_rd hF rfl rfl rfl (by exact rd_load pl22 (hF.ev rfl) (row_at (i := 0) hS rfl (by assumption))) ?_; clear hF; intro a hF
            refine s_pu hF rfl rfl rfl (pu_move (hF.ev rfl)) ?_; clear hF; intro a hF
            refine s_pu hF rfl rfl rfl ((by exact pu_elem sl22 (hF.ev rfl) (hF.ev rfl) (by omega) (by omega))) ?_; clear hF; intro a hF
            refine s_rd hF rfl rfl rfl (by exact rd_load pl3 (hF.ev rfl) (by assumption)) ?_; clear hF; intro a hF
            refine s_pu hF rfl rfl rfl (pu_move (hF.ev rfl)) ?_; clear hF; intro a hF
            refine s_pu hF rfl rfl rfl (pu_quo64 (hF.ev rfl) (hF.ev rfl) (by omega)) ?_; clear hF; intro a hF
            refine s_pu hF rfl rfl rfl ((by exact pu_sub64 (hF.ev rfl) (hF.ev rfl) (by omega))) ?_; clear hF; intro a hF
            refine s_pu hF rfl rfl rfl (pu_neq (hF.ev rfl) (hF.ev rfl)) ?_; clear hF; intro a hF
            refine s_done ?_
            refine hK23 _ _ ?_; clear hK23
            refine wp_cond_split (hF.ev rfl) (fun hc8 => ?_) (fun hc8 => ?_)
            · -- cond 8 true
              try simp only [decide_eq_true_eq, decide_eq_false_iff_not, Bool.not_eq_true', Bool.not_eq_false', Int.not_lt, Int.not_le, ne_eq, Decidable.not_not, Bool.or_eq_true, Bool.or_eq_false_iff, Bool.and_eq_true, Bool.and_eq_false_imp] at hc8
              omega
            · -- cond 8 false
              try simp only [decide_eq_true_eq, decide_eq_false_iff_not, Bool.not_eq_true', Bool.not_eq_false', Int.not_lt, Int.not_le, ne_eq, Decidable.not_not, Bool.or_eq_true, Bool.or_eq_false_iff, Bool.and_eq_true, Bool.and_eq_false_imp] at hc8
              refine wp_skip ?_
              refine blk_normal ?_
              refine hK22 _ _ ?_; clear hK22
              refine wp_region_lit ?_
              refine s_pu hF rfl rfl rfl (pu_move (hF.ev rfl)) ?_; clear hF; intro a hF
              refine s_pu hF rfl rfl rfl ((by exact pu_add64 (hF.ev rfl) (hF.ev rfl) (by omega))) ?_; clear hF; intro a hF
              refine s_pu hF rfl rfl rfl (pu_assign (hF.ev rfl)) ?_; clear hF; intro a hF
              refine s_done ?_
              exact ⟨_, by omega, k + 1, rfl, by omega, hF.sub ⟨rfl, rfl, rfl, trivial⟩, hS⟩
          · -- cond 7 false
            try simp only [decide_eq_true_eq, decide_eq_false_iff_not, Bool.not_eq_true', Bool.not_eq_false', Int.not_lt, Int.not_le, ne_eq, Decidable.not_not, Bool.or_eq_true, Bool.or_eq_false_iff, Bool.and_eq_true, Bool.and_eq_false_imp] at hc7
            refine wp_exit ?_
            refine then_exit ?_
            refine then_exit ?_
            refine blk_exit ?_
            refine blk_normal ?_
            refine hK18 _ _ ?_; clear hK18
            refine wp_region_lit ?_
            refine s_pu hF rfl rfl rfl (pu_move (hF.ev rfl)) ?_; clear hF; intro a hF
            refine s_pu hF rfl rfl rfl ((by exact pu_add64 (hF.ev rfl) (hF.ev rfl) (by omega))) ?_; clear hF; intro a hF
            refine s_pu hF rfl rfl rfl (pu_assign (hF.ev rfl)) ?_; clear hF; intro a hF
            refine s_done ?_
            exact ⟨_, by omega, i + 1, rfl, by omega, hF.sub ⟨rfl, rfl, trivial⟩, hS⟩
        · -- cond 6 false
          try simp only [decide_eq_true_eq, decide_eq_false_iff_not, Bool.not_eq_true', Bool.not_eq_false', Int.not_lt, Int.not_le, ne_eq, Decidable.not_not, Bool.or_eq_true, Bool.or_eq_false_iff, Bool.and_eq_true, Bool.and_eq_false_imp] at hc6
          refine wp_exit ?_
          refine then_exit ?_
          refine then_exit ?_
          refine blk_exit ?_
          refine hK14 _ _ ?_; clear hK14
          refine wp_seq_k fun K18 hK18 => ?_
          refine wp_region_lit ?_
          refine s_pu hF rfl rfl rfl (pu_assign (hF.ev rfl)) ?_; clear hF; intro a hF
          refine s_done ?_
          refine hK18 _ _ ?_; clear hK18
          refine wp_ret ?_
          refine fin1 Try.results20 hF rfl ?_
          exact ⟨rfl, hS.right (C := [_, _, _])⟩
end
end Go.Proofs.Ytbpkfifiigpdcaa
