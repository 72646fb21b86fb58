import Derived.Test.YtbpkfifiigpdcaaWh8
/-! WheelOnce: comes, a tick. -/
namespace Go.Proofs.Ytbpkfifiigpdcaa
open Go Go.RowKit Go.Proofs.Ytbpkfifiigpdcaa.Sk
set_option linter.unusedVariables false
set_option linter.unusedSimpArgs false
set_option maxRecDepth 100000

theorem comes_c {w0 w : World} {g n c d : Nat} {A B : Option Addr} {R : List Th} {now : Int} {G : Chunk}
    (hS : Sat w0 w (whC_s g n (pend R) now R.length :: rowC 3 1 (.slice A R.length c) R.length (dues R) :: rowC 4 1 (.slice B R.length d) R.length (dones R) :: G :: R.map Th.chunk))
    (hN : Numbered R) (h1 : 1 ≤ n) (hnow : 0 ≤ now) (hnow1 : now ≤ 1000000000) (hlen : R.length ≤ 1000) (hdue : ∀ r ∈ R, r.done = false → now < r.due ∧ r.due ≤ 2000000000) :
    Calls Try.prog 12 #[.pointer (some ⟨g, 0, none⟩), .slice A R.length c, .slice B R.length d] w fun e w' => e = .returned (.bool true) ∧
      Sat w0 w' (whC_s g n (pend (ring now R)) (now + 1) R.length :: rowC 3 1 (.slice A R.length c) R.length (dues (ring now R)) :: rowC 4 1 (.slice B R.length d) R.length (dones (ring now R)) :: G :: (ring now R).map Th.chunk) := by
  refine enter Try.func12 rfl Try.ntmps12 (Nat.le_of_ble_eq_true rfl) fun a hF => ?_
  refine wp_seq_k fun K0 hK0 => ?_
  -- region 0
  refine wp_region_lit ?_
  refine s_pu hF rfl rfl rfl (pu_assign (hF.ev rfl)) ?_; clear hF; intro a hF
  refine s_done ?_
  refine hK0 _ _ ?_; clear hK0
  refine wp_seq_k fun K1 hK1 => ?_
  -- region 1
  refine wp_region_lit ?_
  refine s_pu hF rfl rfl rfl (pu_assign (hF.ev rfl)) ?_; clear hF; intro a hF
  refine s_done ?_
  refine hK1 _ _ ?_; clear hK1
  refine wp_seq_k fun K2 hK2 => ?_
  refine wp_seq_k fun K3 hK3 => ?_
  -- region 2
  refine wp_region_lit ?_
  refine s_pu hF rfl rfl rfl (pu_assign (hF.ev rfl)) ?_; clear hF; intro a hF
  refine s_done ?_
  refine hK3 _ _ ?_; clear hK3
  refine wp_block ?_
  refine wp_ind (fun j a w => ∃ (i : Nat), j = R.length - i ∧ i ≤ R.length ∧
    Fr a 141 [(0, .pointer (some ⟨g, 0, none⟩)), (1, .slice A R.length c), (2, .slice B R.length d), (7, .int .i64 (undone i R)), (8, .int .i64 i)] ∧
    Sat w0 w (whC_s g n (pend R) now R.length :: rowC 3 1 (.slice A R.length c) R.length (dues R) :: rowC 4 1 (.slice B R.length d) R.length (dones R) :: G :: R.map Th.chunk)) R.length
    ⟨0, by omega, by omega, hF.sub ⟨rfl, rfl, rfl, rfl, rfl, trivial⟩, hS⟩ ?_
  clear hS hF
  rintro j a w ⟨i, rfl, hi, hF, hS⟩
  refine wp_seq_k fun K4 hK4 => ?_
  refine wp_seq_k fun K5 hK5 => ?_
  -- region 3
  refine wp_region_lit ?_
  refine s_pu hF rfl rfl rfl (pu_move (hF.ev rfl)) ?_; clear hF; intro a hF
  refine s_pu hF rfl rfl rfl (pu_move (hF.ev rfl)) ?_; clear hF; intro a hF
  refine s_pu hF rfl rfl rfl (pu_len sl22 (hF.ev rfl)) ?_; clear hF; intro a hF
  refine s_pu hF rfl rfl rfl (pu_lss (hF.ev rfl) (hF.ev rfl)) ?_; clear hF; intro a hF
  refine s_done ?_
  refine hK5 _ _ ?_; clear hK5
  refine wp_cond_split (hF.ev rfl) (fun hc0 => ?_) (fun hc0 => ?_)
  · -- cond 0 true
    try simp only [decide_eq_true_eq, decide_eq_false_iff_not, Bool.not_eq_true', Bool.not_eq_false', Int.not_lt, Int.not_le, ne_eq, Decidable.not_not, Bool.or_eq_true, Bool.or_eq_false_iff, Bool.and_eq_true, Bool.and_eq_false_imp] at hc0
    have hil : i < R.length := by omega
    obtain ⟨r, hr⟩ : ∃ r, R[i]? = some r := ⟨R[i], List.getElem?_eq_getElem _⟩
    have hrm := List.mem_of_getElem? hr
    have hri := hN i r hr
    have hu := undone_le (j := i) (R := R)
    have hrd := dues_at hr
    have hrn := dones_at hr
    obtain ⟨gA, rfl⟩ := row_some (i := 1) hS rfl (by omega)
    obtain ⟨gB, rfl⟩ := row_some (i := 2) hS rfl (by omega)
    refine wp_skip ?_
    refine hK4 _ _ ?_; clear hK4
    refine wp_seq_k fun K6 hK6 => ?_
    refine wp_block ?_
    refine wp_seq_k fun K7 hK7 => ?_
    -- region 5
    cases hd : r.done
    · -- nd
      rw [hd] at hrn
      have hdb := hdue r hrm hd
      -- region 5
      refine wp_region_lit ?_
      refine s_pu hF rfl rfl rfl (pu_move (hF.ev rfl)) ?_; clear hF; intro a hF
      refine s_pu hF rfl rfl rfl (pu_move (hF.ev rfl)) ?_; clear hF; intro a hF
      refine s_pu hF rfl rfl rfl ((by first | exact pu_add64 (hF.ev rfl) (hF.ev rfl) (by omega) | exact pu_add (hF.ev rfl) (hF.ev rfl))) ?_; clear hF; intro a hF
      refine s_en hF rfl rfl rfl (run_fn fk38 (hF.ev rfl) (hF.evs rfl)) (wLeft_s hS (pend_rising hN) (mem_pend hrm hd) (by simp [Th.ent, hri]) (by have := hdue r hrm hd; simp only [Th.ent]; omega)) ?_
      clear hS; rintro e w ⟨rfl, hS⟩
      refine ⟨_, rfl, ?_⟩; clear hF; intro a hF
      refine s_pu hF rfl rfl rfl (pu_move (hF.ev rfl)) ?_; clear hF; intro a hF
      refine s_pu hF rfl rfl rfl (pu_extract (hF.ev rfl) rfl) ?_; clear hF; intro a hF
      refine s_pu hF rfl rfl rfl (pu_extract (hF.ev rfl) rfl) ?_; clear hF; intro a hF
      refine s_pu hF rfl rfl rfl (pu_assign (hF.ev rfl)) ?_; clear hF; intro a hF
      refine s_pu hF rfl rfl rfl (pu_assign (hF.ev rfl)) ?_; clear hF; intro a hF
      refine s_done ?_
      refine hK7 _ _ ?_; clear hK7
      refine wp_seq_k fun K8 hK8 => ?_
      refine wp_seq_k fun K9 hK9 => ?_
      -- region 6
      refine d_start (S := (fun w => Sat w0 w _)) (ds := []) (ord := [(0, .pu), (1, .pu), (2, .pu), (3, .tk), (4, .pu), (5, .pu), (6, .pu), (7, .pu), (8, .pu), (9, .pu), (10, .pu), (11, .tk), (12, .pu), (13, .pu), (14, .pu), (15, .pu), (16, .pu), (17, .pu), (18, .tk), (19, .pu), (20, .on), (21, .pu), (22, .pu), (23, .pu), (24, .pu)]) mixed ⟨by kernel_rfl, fun _ d _ _ _ h => by cases d <;> exact h⟩ hS.drew fun hD => ?_
      replace hS := hS.drew; generalize w.drew = w at hS ⊢
      refine d_pu hD hF rfl rfl rfl rfl rfl (pu_move (hF.ev rfl)) ?_; clear hF; intro a hF
      refine d_pu hD hF rfl rfl rfl rfl rfl (pu_move (hF.ev rfl)) ?_; clear hF; intro a hF
      refine d_pu hD hF rfl rfl rfl rfl rfl ((by first | exact pu_elem sl29 (hF.ev rfl) (hF.ev rfl) (by first | omega | simp) (by first | omega | (simp; done) | (simp; omega)) | exact pu_elemA sl29 (hF.ev rfl) (hF.ev rfl) (by omega) (by omega))) ?_; clear hF; intro a hF
      refine d_rd hD hF rfl rfl rfl rfl rfl hS (fun w hS => (by first | exact rd_load pl4 (hF.ev rfl) (by assumption) | exact rd_load pl4 (hF.ev rfl) (hS.cellL (i := 0) rfl rfl) | exact rd_load pl4 (hF.ev rfl) (hS.cellL (i := 1) rfl rfl) | exact rd_load pl4 (hF.ev rfl) (hS.cellL (i := 2) rfl rfl) | exact rd_load pl4 (hF.ev rfl) (hS.cellL (i := 3) rfl rfl) | exact rd_load pl4 (hF.ev rfl) (hS.cellL (i := 4) rfl rfl) | exact rd_load pl4 (hF.ev rfl) (hS.cellL (i := 5) rfl rfl) | exact rd_load pl4 (hF.ev rfl) (hS.cell (i := 0) rfl (by assumption)) | exact rd_load pl4 (hF.ev rfl) (hS.cell (i := 1) rfl (by assumption)) | exact rd_load pl4 (hF.ev rfl) (hS.cell (i := 2) rfl (by assumption)) | exact rd_load pl4 (hF.ev rfl) (hS.cell (i := 3) rfl (by assumption)) | exact rd_load pl4 (hF.ev rfl) (hS.cell (i := 4) rfl (by assumption)) | exact rd_load pl4 (hF.ev rfl) (hS.cell (i := 5) rfl (by assumption)) | exact rd_load pl4 (hF.ev rfl) (row_at (i := 0) hS rfl (by first | assumption | rfl)) | exact rd_load pl4 (hF.ev rfl) (row_at0 (i := 0) hS rfl (by first | assumption | rfl)) | exact rd_load pl4 (hF.ev rfl) (row_at (i := 1) hS rfl (by first | assumption | rfl)) | exact rd_load pl4 (hF.ev rfl) (row_at0 (i := 1) hS rfl (by first | assumption | rfl)) | exact rd_load pl4 (hF.ev rfl) (row_at (i := 2) hS rfl (by first | assumption | rfl)) | exact rd_load pl4 (hF.ev rfl) (row_at0 (i := 2) hS rfl (by first | assumption | rfl)) | exact rd_load pl4 (hF.ev rfl) (row_at (i := 3) hS rfl (by first | assumption | rfl)) | exact rd_load pl4 (hF.ev rfl) (row_at0 (i := 3) hS rfl (by first | assumption | rfl)) | exact rd_load pl4 (hF.ev rfl) (row_at (i := 4) hS rfl (by first | assumption | rfl)) | exact rd_load pl4 (hF.ev rfl) (row_at0 (i := 4) hS rfl (by first | assumption | rfl)) | exact rd_load pl4 (hF.ev rfl) (row_at (i := 5) hS rfl (by first | assumption | rfl)) | exact rd_load pl4 (hF.ev rfl) (row_at0 (i := 5) hS rfl (by first | assumption | rfl)))) ?_; clear hF; intro a hF
      refine d_pu hD hF rfl rfl rfl rfl rfl (pu_move (hF.ev rfl)) ?_; clear hF; intro a hF
      refine d_pu hD hF rfl rfl rfl rfl rfl (pu_eql (hF.ev rfl) (hF.ev rfl)) ?_; clear hF; intro a hF
      refine d_pu hD hF rfl rfl rfl rfl rfl (pu_bne Try.underlying4 (hF.ev rfl) (hF.ev rfl)) ?_; clear hF; intro a hF
      refine d_pu hD hF rfl rfl rfl rfl rfl (pu_move (hF.ev rfl)) ?_; clear hF; intro a hF
      refine d_pu hD hF rfl rfl rfl rfl rfl (pu_move (hF.ev rfl)) ?_; clear hF; intro a hF
      refine d_pu hD hF rfl rfl rfl rfl rfl (pu_move (hF.ev rfl)) ?_; clear hF; intro a hF
      refine d_pu hD hF rfl rfl rfl rfl rfl ((by first | exact pu_elem sl29 (hF.ev rfl) (hF.ev rfl) (by first | omega | simp) (by first | omega | (simp; done) | (simp; omega)) | exact pu_elemA sl29 (hF.ev rfl) (hF.ev rfl) (by omega) (by omega))) ?_; clear hF; intro a hF
      refine d_rd hD hF rfl rfl rfl rfl rfl hS (fun w hS => (by first | exact rd_load pl4 (hF.ev rfl) (by assumption) | exact rd_load pl4 (hF.ev rfl) (hS.cellL (i := 0) rfl rfl) | exact rd_load pl4 (hF.ev rfl) (hS.cellL (i := 1) rfl rfl) | exact rd_load pl4 (hF.ev rfl) (hS.cellL (i := 2) rfl rfl) | exact rd_load pl4 (hF.ev rfl) (hS.cellL (i := 3) rfl rfl) | exact rd_load pl4 (hF.ev rfl) (hS.cellL (i := 4) rfl rfl) | exact rd_load pl4 (hF.ev rfl) (hS.cellL (i := 5) rfl rfl) | exact rd_load pl4 (hF.ev rfl) (hS.cell (i := 0) rfl (by assumption)) | exact rd_load pl4 (hF.ev rfl) (hS.cell (i := 1) rfl (by assumption)) | exact rd_load pl4 (hF.ev rfl) (hS.cell (i := 2) rfl (by assumption)) | exact rd_load pl4 (hF.ev rfl) (hS.cell (i := 3) rfl (by assumption)) | exact rd_load pl4 (hF.ev rfl) (hS.cell (i := 4) rfl (by assumption)) | exact rd_load pl4 (hF.ev rfl) (hS.cell (i := 5) rfl (by assumption)) | exact rd_load pl4 (hF.ev rfl) (row_at (i := 0) hS rfl (by first | assumption | rfl)) | exact rd_load pl4 (hF.ev rfl) (row_at0 (i := 0) hS rfl (by first | assumption | rfl)) | exact rd_load pl4 (hF.ev rfl) (row_at (i := 1) hS rfl (by first | assumption | rfl)) | exact rd_load pl4 (hF.ev rfl) (row_at0 (i := 1) hS rfl (by first | assumption | rfl)) | exact rd_load pl4 (hF.ev rfl) (row_at (i := 2) hS rfl (by first | assumption | rfl)) | exact rd_load pl4 (hF.ev rfl) (row_at0 (i := 2) hS rfl (by first | assumption | rfl)) | exact rd_load pl4 (hF.ev rfl) (row_at (i := 3) hS rfl (by first | assumption | rfl)) | exact rd_load pl4 (hF.ev rfl) (row_at0 (i := 3) hS rfl (by first | assumption | rfl)) | exact rd_load pl4 (hF.ev rfl) (row_at (i := 4) hS rfl (by first | assumption | rfl)) | exact rd_load pl4 (hF.ev rfl) (row_at0 (i := 4) hS rfl (by first | assumption | rfl)) | exact rd_load pl4 (hF.ev rfl) (row_at (i := 5) hS rfl (by first | assumption | rfl)) | exact rd_load pl4 (hF.ev rfl) (row_at0 (i := 5) hS rfl (by first | assumption | rfl)))) ?_; clear hF; intro a hF
      refine d_pu hD hF rfl rfl rfl rfl rfl (pu_not (hF.ev rfl)) ?_; clear hF; intro a hF
      refine d_pu hD hF rfl rfl rfl rfl rfl (pu_move (hF.ev rfl)) ?_; clear hF; intro a hF
      refine d_pu hD hF rfl rfl rfl rfl rfl (pu_move (hF.ev rfl)) ?_; clear hF; intro a hF
      refine d_pu hD hF rfl rfl rfl rfl rfl (pu_move (hF.ev rfl)) ?_; clear hF; intro a hF
      refine d_pu hD hF rfl rfl rfl rfl rfl (pu_move (hF.ev rfl)) ?_; clear hF; intro a hF
      refine d_pu hD hF rfl rfl rfl rfl rfl ((by first | exact pu_elem sl22 (hF.ev rfl) (hF.ev rfl) (by first | omega | simp) (by first | omega | (simp; done) | (simp; omega)) | exact pu_elemA sl22 (hF.ev rfl) (hF.ev rfl) (by omega) (by omega))) ?_; clear hF; intro a hF
      refine d_rd hD hF rfl rfl rfl rfl rfl hS (fun w hS => (by first | exact rd_load pl3 (hF.ev rfl) (by assumption) | exact rd_load pl3 (hF.ev rfl) (hS.cellL (i := 0) rfl rfl) | exact rd_load pl3 (hF.ev rfl) (hS.cellL (i := 1) rfl rfl) | exact rd_load pl3 (hF.ev rfl) (hS.cellL (i := 2) rfl rfl) | exact rd_load pl3 (hF.ev rfl) (hS.cellL (i := 3) rfl rfl) | exact rd_load pl3 (hF.ev rfl) (hS.cellL (i := 4) rfl rfl) | exact rd_load pl3 (hF.ev rfl) (hS.cellL (i := 5) rfl rfl) | exact rd_load pl3 (hF.ev rfl) (hS.cell (i := 0) rfl (by assumption)) | exact rd_load pl3 (hF.ev rfl) (hS.cell (i := 1) rfl (by assumption)) | exact rd_load pl3 (hF.ev rfl) (hS.cell (i := 2) rfl (by assumption)) | exact rd_load pl3 (hF.ev rfl) (hS.cell (i := 3) rfl (by assumption)) | exact rd_load pl3 (hF.ev rfl) (hS.cell (i := 4) rfl (by assumption)) | exact rd_load pl3 (hF.ev rfl) (hS.cell (i := 5) rfl (by assumption)) | exact rd_load pl3 (hF.ev rfl) (row_at (i := 0) hS rfl (by first | assumption | rfl)) | exact rd_load pl3 (hF.ev rfl) (row_at0 (i := 0) hS rfl (by first | assumption | rfl)) | exact rd_load pl3 (hF.ev rfl) (row_at (i := 1) hS rfl (by first | assumption | rfl)) | exact rd_load pl3 (hF.ev rfl) (row_at0 (i := 1) hS rfl (by first | assumption | rfl)) | exact rd_load pl3 (hF.ev rfl) (row_at (i := 2) hS rfl (by first | assumption | rfl)) | exact rd_load pl3 (hF.ev rfl) (row_at0 (i := 2) hS rfl (by first | assumption | rfl)) | exact rd_load pl3 (hF.ev rfl) (row_at (i := 3) hS rfl (by first | assumption | rfl)) | exact rd_load pl3 (hF.ev rfl) (row_at0 (i := 3) hS rfl (by first | assumption | rfl)) | exact rd_load pl3 (hF.ev rfl) (row_at (i := 4) hS rfl (by first | assumption | rfl)) | exact rd_load pl3 (hF.ev rfl) (row_at0 (i := 4) hS rfl (by first | assumption | rfl)) | exact rd_load pl3 (hF.ev rfl) (row_at (i := 5) hS rfl (by first | assumption | rfl)) | exact rd_load pl3 (hF.ev rfl) (row_at0 (i := 5) hS rfl (by first | assumption | rfl)))) ?_; clear hF; intro a hF
      refine d_pu hD hF rfl rfl rfl rfl rfl (pu_move (hF.ev rfl)) ?_; clear hF; intro a hF
      refine d_en hD hF rfl rfl rfl rfl rfl (run_fn fk11 (hF.ev rfl) (hF.evs rfl)) (wNow_s hS) ?_
      clear hS; rintro e w ⟨rfl, hS⟩
      refine ⟨_, rfl, hS, ?_⟩; clear hF; intro a hF
      refine d_pu hD hF rfl rfl rfl rfl rfl ((by first | exact pu_sub64 (hF.ev rfl) (hF.ev rfl) (by omega) | exact pu_sub (hF.ev rfl) (hF.ev rfl))) ?_; clear hF; intro a hF
      refine d_pu hD hF rfl rfl rfl rfl rfl (pu_neq (hF.ev rfl) (hF.ev rfl)) ?_; clear hF; intro a hF
      refine d_pu hD hF rfl rfl rfl rfl rfl ((by first | exact pu_pick_t (hF.ev rfl) (hF.ev rfl) | exact pu_pick_f (hF.ev rfl) (hF.ev rfl) | exact pu_pick (hF.ev rfl) (hF.ev rfl) (hF.ev rfl))) ?_; clear hF; intro a hF
      refine d_pu hD hF rfl rfl rfl rfl rfl ((by first | exact pu_pick_t (hF.ev rfl) (hF.ev rfl) | exact pu_pick_f (hF.ev rfl) (hF.ev rfl) | exact pu_pick (hF.ev rfl) (hF.ev rfl) (hF.ev rfl))) ?_; clear hF; intro a hF
      refine d_done hD rfl ?_; clear hD
      refine hK9 _ _ ?_; clear hK9
      refine wp_cond_split (hF.ev rfl) (fun hc1 => ?_) (fun hc1 => ?_)
      · -- cond 1 true
        try simp only [decide_eq_true_eq, decide_eq_false_iff_not, Bool.not_eq_true', Bool.not_eq_false', Int.not_lt, Int.not_le, ne_eq, Decidable.not_not, Bool.or_eq_true, Bool.or_eq_false_iff, Bool.and_eq_true, Bool.and_eq_false_imp] at hc1
        exact absurd rfl hc1
      · -- cond 1 false
        try simp only [decide_eq_true_eq, decide_eq_false_iff_not, Bool.not_eq_true', Bool.not_eq_false', Int.not_lt, Int.not_le, ne_eq, Decidable.not_not, Bool.or_eq_true, Bool.or_eq_false_iff, Bool.and_eq_true, Bool.and_eq_false_imp] at hc1
        refine wp_skip ?_
        refine hK8 _ _ ?_; clear hK8
        refine wp_seq_k fun K10 hK10 => ?_
        -- region 8
        refine wp_region_lit ?_
        refine s_pu hF rfl rfl rfl (pu_move (hF.ev rfl)) ?_; clear hF; intro a hF
        refine s_pu hF rfl rfl rfl (pu_move (hF.ev rfl)) ?_; clear hF; intro a hF
        refine s_pu hF rfl rfl rfl ((by first | exact pu_elem sl29 (hF.ev rfl) (hF.ev rfl) (by first | omega | simp) (by first | omega | (simp; done) | (simp; omega)) | exact pu_elemA sl29 (hF.ev rfl) (hF.ev rfl) (by omega) (by omega))) ?_; clear hF; intro a hF
        refine s_rd hF rfl rfl rfl (by first | exact rd_load pl4 (hF.ev rfl) (by assumption) | exact rd_load pl4 (hF.ev rfl) (hS.cellL (i := 0) rfl rfl) | exact rd_load pl4 (hF.ev rfl) (hS.cellL (i := 1) rfl rfl) | exact rd_load pl4 (hF.ev rfl) (hS.cellL (i := 2) rfl rfl) | exact rd_load pl4 (hF.ev rfl) (hS.cellL (i := 3) rfl rfl) | exact rd_load pl4 (hF.ev rfl) (hS.cellL (i := 4) rfl rfl) | exact rd_load pl4 (hF.ev rfl) (hS.cellL (i := 5) rfl rfl) | exact rd_load pl4 (hF.ev rfl) (hS.cell (i := 0) rfl (by assumption)) | exact rd_load pl4 (hF.ev rfl) (hS.cell (i := 1) rfl (by assumption)) | exact rd_load pl4 (hF.ev rfl) (hS.cell (i := 2) rfl (by assumption)) | exact rd_load pl4 (hF.ev rfl) (hS.cell (i := 3) rfl (by assumption)) | exact rd_load pl4 (hF.ev rfl) (hS.cell (i := 4) rfl (by assumption)) | exact rd_load pl4 (hF.ev rfl) (hS.cell (i := 5) rfl (by assumption)) | exact rd_load pl4 (hF.ev rfl) (row_at (i := 0) hS rfl (by first | assumption | rfl)) | exact rd_load pl4 (hF.ev rfl) (row_at0 (i := 0) hS rfl (by first | assumption | rfl)) | exact rd_load pl4 (hF.ev rfl) (row_at (i := 1) hS rfl (by first | assumption | rfl)) | exact rd_load pl4 (hF.ev rfl) (row_at0 (i := 1) hS rfl (by first | assumption | rfl)) | exact rd_load pl4 (hF.ev rfl) (row_at (i := 2) hS rfl (by first | assumption | rfl)) | exact rd_load pl4 (hF.ev rfl) (row_at0 (i := 2) hS rfl (by first | assumption | rfl)) | exact rd_load pl4 (hF.ev rfl) (row_at (i := 3) hS rfl (by first | assumption | rfl)) | exact rd_load pl4 (hF.ev rfl) (row_at0 (i := 3) hS rfl (by first | assumption | rfl)) | exact rd_load pl4 (hF.ev rfl) (row_at (i := 4) hS rfl (by first | assumption | rfl)) | exact rd_load pl4 (hF.ev rfl) (row_at0 (i := 4) hS rfl (by first | assumption | rfl)) | exact rd_load pl4 (hF.ev rfl) (row_at (i := 5) hS rfl (by first | assumption | rfl)) | exact rd_load pl4 (hF.ev rfl) (row_at0 (i := 5) hS rfl (by first | assumption | rfl))) ?_; clear hF; intro a hF
        refine s_pu hF rfl rfl rfl (pu_not (hF.ev rfl)) ?_; clear hF; intro a hF
        refine s_done ?_
        refine hK10 _ _ ?_; clear hK10
        refine wp_cond_true (hF.ev rfl) ?_
        -- region 9
        refine wp_region_lit ?_
        refine s_pu hF rfl rfl rfl (pu_move (hF.ev rfl)) ?_; clear hF; intro a hF
        refine s_pu hF rfl rfl rfl ((by first | exact pu_add64 (hF.ev rfl) (hF.ev rfl) (by omega) | exact pu_add (hF.ev rfl) (hF.ev rfl))) ?_; clear hF; intro a hF
        refine s_pu hF rfl rfl rfl (pu_assign (hF.ev rfl)) ?_; clear hF; intro a hF
        refine s_done ?_
        refine blk_normal ?_
        refine hK6 _ _ ?_; clear hK6
        -- region 4
        refine wp_region_lit ?_
        refine s_pu hF rfl rfl rfl (pu_move (hF.ev rfl)) ?_; clear hF; intro a hF
        refine s_pu hF rfl rfl rfl ((by first | exact pu_add64 (hF.ev rfl) (hF.ev rfl) (by omega) | exact pu_add (hF.ev rfl) (hF.ev rfl))) ?_; clear hF; intro a hF
        refine s_pu hF rfl rfl rfl (pu_assign (hF.ev rfl)) ?_; clear hF; intro a hF
        refine s_done ?_
        have e : ((undone (i + 1) R : Nat) : Int) = (undone i R : Int) + 1 := by rw [undone_succ hr, hd]; simp
        refine ⟨_, by omega, i + 1, rfl, by omega, ?_, hS⟩
        rw [e]
        exact hF.sub ⟨rfl, rfl, rfl, rfl, rfl, trivial⟩
    · -- dn
      rw [hd] at hrn
      have hno : ∀ e ∈ pend R, e.timer ≠ (i : Int) + 1 := by
        intro e he
        obtain ⟨q, hq, hqd, rfl⟩ := pend_mem he
        simp only [Th.ent]
        intro heq
        have : q = r := hN.eq hq hrm (by omega)
        subst this
        rw [hd] at hqd
        cases hqd
      -- region 5
      refine wp_region_lit ?_
      refine s_pu hF rfl rfl rfl (pu_move (hF.ev rfl)) ?_; clear hF; intro a hF
      refine s_pu hF rfl rfl rfl (pu_move (hF.ev rfl)) ?_; clear hF; intro a hF
      refine s_pu hF rfl rfl rfl ((by first | exact pu_add64 (hF.ev rfl) (hF.ev rfl) (by omega) | exact pu_add (hF.ev rfl) (hF.ev rfl))) ?_; clear hF; intro a hF
      refine s_en hF rfl rfl rfl (run_fn fk38 (hF.ev rfl) (hF.evs rfl)) (wLeftNo_s hS hno) ?_
      clear hS; rintro e w ⟨rfl, hS⟩
      refine ⟨_, rfl, ?_⟩; clear hF; intro a hF
      refine s_pu hF rfl rfl rfl (pu_move (hF.ev rfl)) ?_; clear hF; intro a hF
      refine s_pu hF rfl rfl rfl (pu_extract (hF.ev rfl) rfl) ?_; clear hF; intro a hF
      refine s_pu hF rfl rfl rfl (pu_extract (hF.ev rfl) rfl) ?_; clear hF; intro a hF
      refine s_pu hF rfl rfl rfl (pu_assign (hF.ev rfl)) ?_; clear hF; intro a hF
      refine s_pu hF rfl rfl rfl (pu_assign (hF.ev rfl)) ?_; clear hF; intro a hF
      refine s_done ?_
      refine hK7 _ _ ?_; clear hK7
      refine wp_seq_k fun K8 hK8 => ?_
      refine wp_seq_k fun K9 hK9 => ?_
      -- region 6
      refine d_start (S := (fun w => Sat w0 w _)) (ds := []) (ord := [(0, .pu), (1, .pu), (2, .pu), (3, .tk), (4, .pu), (5, .pu), (6, .pu), (7, .pu), (8, .pu), (9, .pu), (10, .pu), (11, .tk), (12, .pu), (13, .pu), (14, .pu), (15, .pu), (16, .pu), (17, .pu), (18, .tk), (19, .pu), (20, .on), (21, .pu), (22, .pu), (23, .pu), (24, .pu)]) mixed ⟨by kernel_rfl, fun _ d _ _ _ h => by cases d <;> exact h⟩ hS.drew fun hD => ?_
      replace hS := hS.drew; generalize w.drew = w at hS ⊢
      refine d_pu hD hF rfl rfl rfl rfl rfl (pu_move (hF.ev rfl)) ?_; clear hF; intro a hF
      refine d_pu hD hF rfl rfl rfl rfl rfl (pu_move (hF.ev rfl)) ?_; clear hF; intro a hF
      refine d_pu hD hF rfl rfl rfl rfl rfl ((by first | exact pu_elem sl29 (hF.ev rfl) (hF.ev rfl) (by first | omega | simp) (by first | omega | (simp; done) | (simp; omega)) | exact pu_elemA sl29 (hF.ev rfl) (hF.ev rfl) (by omega) (by omega))) ?_; clear hF; intro a hF
      refine d_rd hD hF rfl rfl rfl rfl rfl hS (fun w hS => (by first | exact rd_load pl4 (hF.ev rfl) (by assumption) | exact rd_load pl4 (hF.ev rfl) (hS.cellL (i := 0) rfl rfl) | exact rd_load pl4 (hF.ev rfl) (hS.cellL (i := 1) rfl rfl) | exact rd_load pl4 (hF.ev rfl) (hS.cellL (i := 2) rfl rfl) | exact rd_load pl4 (hF.ev rfl) (hS.cellL (i := 3) rfl rfl) | exact rd_load pl4 (hF.ev rfl) (hS.cellL (i := 4) rfl rfl) | exact rd_load pl4 (hF.ev rfl) (hS.cellL (i := 5) rfl rfl) | exact rd_load pl4 (hF.ev rfl) (hS.cell (i := 0) rfl (by assumption)) | exact rd_load pl4 (hF.ev rfl) (hS.cell (i := 1) rfl (by assumption)) | exact rd_load pl4 (hF.ev rfl) (hS.cell (i := 2) rfl (by assumption)) | exact rd_load pl4 (hF.ev rfl) (hS.cell (i := 3) rfl (by assumption)) | exact rd_load pl4 (hF.ev rfl) (hS.cell (i := 4) rfl (by assumption)) | exact rd_load pl4 (hF.ev rfl) (hS.cell (i := 5) rfl (by assumption)) | exact rd_load pl4 (hF.ev rfl) (row_at (i := 0) hS rfl (by first | assumption | rfl)) | exact rd_load pl4 (hF.ev rfl) (row_at0 (i := 0) hS rfl (by first | assumption | rfl)) | exact rd_load pl4 (hF.ev rfl) (row_at (i := 1) hS rfl (by first | assumption | rfl)) | exact rd_load pl4 (hF.ev rfl) (row_at0 (i := 1) hS rfl (by first | assumption | rfl)) | exact rd_load pl4 (hF.ev rfl) (row_at (i := 2) hS rfl (by first | assumption | rfl)) | exact rd_load pl4 (hF.ev rfl) (row_at0 (i := 2) hS rfl (by first | assumption | rfl)) | exact rd_load pl4 (hF.ev rfl) (row_at (i := 3) hS rfl (by first | assumption | rfl)) | exact rd_load pl4 (hF.ev rfl) (row_at0 (i := 3) hS rfl (by first | assumption | rfl)) | exact rd_load pl4 (hF.ev rfl) (row_at (i := 4) hS rfl (by first | assumption | rfl)) | exact rd_load pl4 (hF.ev rfl) (row_at0 (i := 4) hS rfl (by first | assumption | rfl)) | exact rd_load pl4 (hF.ev rfl) (row_at (i := 5) hS rfl (by first | assumption | rfl)) | exact rd_load pl4 (hF.ev rfl) (row_at0 (i := 5) hS rfl (by first | assumption | rfl)))) ?_; clear hF; intro a hF
      refine d_pu hD hF rfl rfl rfl rfl rfl (pu_move (hF.ev rfl)) ?_; clear hF; intro a hF
      refine d_pu hD hF rfl rfl rfl rfl rfl (pu_eql (hF.ev rfl) (hF.ev rfl)) ?_; clear hF; intro a hF
      refine d_pu hD hF rfl rfl rfl rfl rfl (pu_bne Try.underlying4 (hF.ev rfl) (hF.ev rfl)) ?_; clear hF; intro a hF
      refine d_pu hD hF rfl rfl rfl rfl rfl (pu_move (hF.ev rfl)) ?_; clear hF; intro a hF
      refine d_pu hD hF rfl rfl rfl rfl rfl (pu_move (hF.ev rfl)) ?_; clear hF; intro a hF
      refine d_pu hD hF rfl rfl rfl rfl rfl (pu_move (hF.ev rfl)) ?_; clear hF; intro a hF
      refine d_pu hD hF rfl rfl rfl rfl rfl ((by first | exact pu_elem sl29 (hF.ev rfl) (hF.ev rfl) (by first | omega | simp) (by first | omega | (simp; done) | (simp; omega)) | exact pu_elemA sl29 (hF.ev rfl) (hF.ev rfl) (by omega) (by omega))) ?_; clear hF; intro a hF
      refine d_rd hD hF rfl rfl rfl rfl rfl hS (fun w hS => (by first | exact rd_load pl4 (hF.ev rfl) (by assumption) | exact rd_load pl4 (hF.ev rfl) (hS.cellL (i := 0) rfl rfl) | exact rd_load pl4 (hF.ev rfl) (hS.cellL (i := 1) rfl rfl) | exact rd_load pl4 (hF.ev rfl) (hS.cellL (i := 2) rfl rfl) | exact rd_load pl4 (hF.ev rfl) (hS.cellL (i := 3) rfl rfl) | exact rd_load pl4 (hF.ev rfl) (hS.cellL (i := 4) rfl rfl) | exact rd_load pl4 (hF.ev rfl) (hS.cellL (i := 5) rfl rfl) | exact rd_load pl4 (hF.ev rfl) (hS.cell (i := 0) rfl (by assumption)) | exact rd_load pl4 (hF.ev rfl) (hS.cell (i := 1) rfl (by assumption)) | exact rd_load pl4 (hF.ev rfl) (hS.cell (i := 2) rfl (by assumption)) | exact rd_load pl4 (hF.ev rfl) (hS.cell (i := 3) rfl (by assumption)) | exact rd_load pl4 (hF.ev rfl) (hS.cell (i := 4) rfl (by assumption)) | exact rd_load pl4 (hF.ev rfl) (hS.cell (i := 5) rfl (by assumption)) | exact rd_load pl4 (hF.ev rfl) (row_at (i := 0) hS rfl (by first | assumption | rfl)) | exact rd_load pl4 (hF.ev rfl) (row_at0 (i := 0) hS rfl (by first | assumption | rfl)) | exact rd_load pl4 (hF.ev rfl) (row_at (i := 1) hS rfl (by first | assumption | rfl)) | exact rd_load pl4 (hF.ev rfl) (row_at0 (i := 1) hS rfl (by first | assumption | rfl)) | exact rd_load pl4 (hF.ev rfl) (row_at (i := 2) hS rfl (by first | assumption | rfl)) | exact rd_load pl4 (hF.ev rfl) (row_at0 (i := 2) hS rfl (by first | assumption | rfl)) | exact rd_load pl4 (hF.ev rfl) (row_at (i := 3) hS rfl (by first | assumption | rfl)) | exact rd_load pl4 (hF.ev rfl) (row_at0 (i := 3) hS rfl (by first | assumption | rfl)) | exact rd_load pl4 (hF.ev rfl) (row_at (i := 4) hS rfl (by first | assumption | rfl)) | exact rd_load pl4 (hF.ev rfl) (row_at0 (i := 4) hS rfl (by first | assumption | rfl)) | exact rd_load pl4 (hF.ev rfl) (row_at (i := 5) hS rfl (by first | assumption | rfl)) | exact rd_load pl4 (hF.ev rfl) (row_at0 (i := 5) hS rfl (by first | assumption | rfl)))) ?_; clear hF; intro a hF
      refine d_pu hD hF rfl rfl rfl rfl rfl (pu_not (hF.ev rfl)) ?_; clear hF; intro a hF
      refine d_pu hD hF rfl rfl rfl rfl rfl (pu_move (hF.ev rfl)) ?_; clear hF; intro a hF
      refine d_no hD hF rfl rfl rfl rfl rfl ?_; clear hF; intro a hF
      refine d_no hD hF rfl rfl rfl rfl rfl ?_; clear hF; intro a hF
      refine d_no hD hF rfl rfl rfl rfl rfl ?_; clear hF; intro a hF
      refine d_no hD hF rfl rfl rfl rfl rfl ?_; clear hF; intro a hF
      refine d_nord hD hF rfl rfl rfl rfl rfl hS ?_; clear hF; intro a hF
      refine d_no hD hF rfl rfl rfl rfl rfl ?_; clear hF; intro a hF
      refine d_noon hD hF rfl rfl rfl rfl rfl hS ?_; clear hF; intro a hF
      refine d_no hD hF rfl rfl rfl rfl rfl ?_; clear hF; intro a hF
      refine d_no hD hF rfl rfl rfl rfl rfl ?_; clear hF; intro a hF
      refine d_pu hD hF rfl rfl rfl rfl rfl ((by first | exact pu_pick_t (hF.ev rfl) (hF.ev rfl) | exact pu_pick_f (hF.ev rfl) (hF.ev rfl) | exact pu_pick (hF.ev rfl) (hF.ev rfl) (hF.ev rfl))) ?_; clear hF; intro a hF
      refine d_pu hD hF rfl rfl rfl rfl rfl ((by first | exact pu_pick_t (hF.ev rfl) (hF.ev rfl) | exact pu_pick_f (hF.ev rfl) (hF.ev rfl) | exact pu_pick (hF.ev rfl) (hF.ev rfl) (hF.ev rfl))) ?_; clear hF; intro a hF
      refine d_done hD rfl ?_; clear hD
      refine hK9 _ _ ?_; clear hK9
      refine wp_cond_false (hF.ev rfl) ?_
      refine wp_skip ?_
      refine hK8 _ _ ?_; clear hK8
      refine wp_seq_k fun K10 hK10 => ?_
      -- region 8
      refine wp_region_lit ?_
      refine s_pu hF rfl rfl rfl (pu_move (hF.ev rfl)) ?_; clear hF; intro a hF
      refine s_pu hF rfl rfl rfl (pu_move (hF.ev rfl)) ?_; clear hF; intro a hF
      refine s_pu hF rfl rfl rfl ((by first | exact pu_elem sl29 (hF.ev rfl) (hF.ev rfl) (by first | omega | simp) (by first | omega | (simp; done) | (simp; omega)) | exact pu_elemA sl29 (hF.ev rfl) (hF.ev rfl) (by omega) (by omega))) ?_; clear hF; intro a hF
      refine s_rd hF rfl rfl rfl (by first | exact rd_load pl4 (hF.ev rfl) (by assumption) | exact rd_load pl4 (hF.ev rfl) (hS.cellL (i := 0) rfl rfl) | exact rd_load pl4 (hF.ev rfl) (hS.cellL (i := 1) rfl rfl) | exact rd_load pl4 (hF.ev rfl) (hS.cellL (i := 2) rfl rfl) | exact rd_load pl4 (hF.ev rfl) (hS.cellL (i := 3) rfl rfl) | exact rd_load pl4 (hF.ev rfl) (hS.cellL (i := 4) rfl rfl) | exact rd_load pl4 (hF.ev rfl) (hS.cellL (i := 5) rfl rfl) | exact rd_load pl4 (hF.ev rfl) (hS.cell (i := 0) rfl (by assumption)) | exact rd_load pl4 (hF.ev rfl) (hS.cell (i := 1) rfl (by assumption)) | exact rd_load pl4 (hF.ev rfl) (hS.cell (i := 2) rfl (by assumption)) | exact rd_load pl4 (hF.ev rfl) (hS.cell (i := 3) rfl (by assumption)) | exact rd_load pl4 (hF.ev rfl) (hS.cell (i := 4) rfl (by assumption)) | exact rd_load pl4 (hF.ev rfl) (hS.cell (i := 5) rfl (by assumption)) | exact rd_load pl4 (hF.ev rfl) (row_at (i := 0) hS rfl (by first | assumption | rfl)) | exact rd_load pl4 (hF.ev rfl) (row_at0 (i := 0) hS rfl (by first | assumption | rfl)) | exact rd_load pl4 (hF.ev rfl) (row_at (i := 1) hS rfl (by first | assumption | rfl)) | exact rd_load pl4 (hF.ev rfl) (row_at0 (i := 1) hS rfl (by first | assumption | rfl)) | exact rd_load pl4 (hF.ev rfl) (row_at (i := 2) hS rfl (by first | assumption | rfl)) | exact rd_load pl4 (hF.ev rfl) (row_at0 (i := 2) hS rfl (by first | assumption | rfl)) | exact rd_load pl4 (hF.ev rfl) (row_at (i := 3) hS rfl (by first | assumption | rfl)) | exact rd_load pl4 (hF.ev rfl) (row_at0 (i := 3) hS rfl (by first | assumption | rfl)) | exact rd_load pl4 (hF.ev rfl) (row_at (i := 4) hS rfl (by first | assumption | rfl)) | exact rd_load pl4 (hF.ev rfl) (row_at0 (i := 4) hS rfl (by first | assumption | rfl)) | exact rd_load pl4 (hF.ev rfl) (row_at (i := 5) hS rfl (by first | assumption | rfl)) | exact rd_load pl4 (hF.ev rfl) (row_at0 (i := 5) hS rfl (by first | assumption | rfl))) ?_; clear hF; intro a hF
      refine s_pu hF rfl rfl rfl (pu_not (hF.ev rfl)) ?_; clear hF; intro a hF
      refine s_done ?_
      refine hK10 _ _ ?_; clear hK10
      refine wp_cond_false (hF.ev rfl) ?_
      refine wp_skip ?_
      refine blk_normal ?_
      refine hK6 _ _ ?_; clear hK6
      -- region 4
      refine wp_region_lit ?_
      refine s_pu hF rfl rfl rfl (pu_move (hF.ev rfl)) ?_; clear hF; intro a hF
      refine s_pu hF rfl rfl rfl ((by first | exact pu_add64 (hF.ev rfl) (hF.ev rfl) (by omega) | exact pu_add (hF.ev rfl) (hF.ev rfl))) ?_; clear hF; intro a hF
      refine s_pu hF rfl rfl rfl (pu_assign (hF.ev rfl)) ?_; clear hF; intro a hF
      refine s_done ?_
      have e : ((undone (i + 1) R : Nat) : Int) = (undone i R : Int) := by rw [undone_succ hr, hd]; simp
      refine ⟨_, by omega, i + 1, rfl, by omega, ?_, hS⟩
      rw [e]
      exact hF.sub ⟨rfl, rfl, rfl, rfl, rfl, trivial⟩
  · -- cond 0 false
    try simp only [decide_eq_true_eq, decide_eq_false_iff_not, Bool.not_eq_true', Bool.not_eq_false', Int.not_lt, Int.not_le, ne_eq, Decidable.not_not, Bool.or_eq_true, Bool.or_eq_false_iff, Bool.and_eq_true, Bool.and_eq_false_imp] at hc0
    refine wp_exit ?_
    refine then_exit ?_
    refine then_exit ?_
    refine blk_exit ?_
    refine hK2 _ _ ?_; clear hK2
    refine wp_seq_k fun K6 hK6 => ?_
    refine wp_seq_k fun K7 hK7 => ?_
    -- region 10
    refine wp_region_lit ?_
    refine s_pu hF rfl rfl rfl (pu_move (hF.ev rfl)) ?_; clear hF; intro a hF
    refine s_en hF rfl rfl rfl (run_fn fk14 (hF.ev rfl) (hF.evs rfl)) (wLen_s hS) ?_
    clear hS; rintro e w ⟨rfl, hS⟩
    refine ⟨_, rfl, ?_⟩; clear hF; intro a hF
    refine s_pu hF rfl rfl rfl (pu_move (hF.ev rfl)) ?_; clear hF; intro a hF
    refine s_pu hF rfl rfl rfl (pu_neq (hF.ev rfl) (hF.ev rfl)) ?_; clear hF; intro a hF
    refine s_done ?_
    refine hK7 _ _ ?_; clear hK7
    refine wp_cond_split (hF.ev rfl) (fun hc3 => ?_) (fun hc3 => ?_)
    · -- cond 3 true
      try simp only [decide_eq_true_eq, decide_eq_false_iff_not, Bool.not_eq_true', Bool.not_eq_false', Int.not_lt, Int.not_le, ne_eq, Decidable.not_not, Bool.or_eq_true, Bool.or_eq_false_iff, Bool.and_eq_true, Bool.and_eq_false_imp] at hc3
      have hil : i = R.length := by omega
      subst hil
      rw [undone_all] at hc3
      simp at hc3
    · -- cond 3 false
      try simp only [decide_eq_true_eq, decide_eq_false_iff_not, Bool.not_eq_true', Bool.not_eq_false', Int.not_lt, Int.not_le, ne_eq, Decidable.not_not, Bool.or_eq_true, Bool.or_eq_false_iff, Bool.and_eq_true, Bool.and_eq_false_imp] at hc3
      refine wp_skip ?_
      refine hK6 _ _ ?_; clear hK6
      refine wp_seq_k fun K8 hK8 => ?_
      -- region 12
      refine wp_region_lit ?_
      refine s_pu hF rfl rfl rfl (pu_move (hF.ev rfl)) ?_; clear hF; intro a hF
      refine s_en hF rfl rfl rfl (run_fn fk39 (hF.ev rfl) (hF.evs rfl)) (wTick_s hS (pend_rising hN) h1 hnow (by omega) (by have := pend_len (R := R); omega)) ?_
      clear hS; rintro e w ⟨T, tc, rfl, hS⟩
      rw [pend_due, List.length_map] at hS
      rw [pend_due, List.length_map]
      rw [pend_left, List.map_map] at hS
      have hDl : (dueAt now R).length ≤ R.length := List.length_filter_le _ _
      have hDs := due_sorted (now := now) hN
      refine ⟨_, rfl, ?_⟩; clear hF; intro a hF
      refine s_pu hF rfl rfl rfl (pu_assign (hF.ev rfl)) ?_; clear hF; intro a hF
      refine s_done ?_
      refine hK8 _ _ ?_; clear hK8
      refine wp_seq_k fun K9 hK9 => ?_
      -- region 13
      refine wp_region_lit ?_
      refine s_pu hF rfl rfl rfl (pu_assign (hF.ev rfl)) ?_; clear hF; intro a hF
      refine s_done ?_
      refine hK9 _ _ ?_; clear hK9
      refine wp_seq_k fun K10 hK10 => ?_
      refine wp_seq_k fun K11 hK11 => ?_
      -- region 14
      refine wp_region_lit ?_
      refine s_pu hF rfl rfl rfl (pu_assign (hF.ev rfl)) ?_; clear hF; intro a hF
      refine s_done ?_
      refine hK11 _ _ ?_; clear hK11
      refine wp_block ?_
      refine wp_ind (fun j a w => ∃ (pre post : List Th) (bf : Int), j = post.length ∧ dueAt now R = pre ++ post ∧ -1 ≤ bf ∧ bf ≤ 1000 ∧ (∀ p ∈ pre, (p.i : Int) ≤ bf) ∧ (∀ p ∈ post, bf < (p.i : Int)) ∧
        Fr a 141 [(0, .pointer (some ⟨g, 0, none⟩)), (1, .slice A R.length c), (2, .slice B R.length d), (11, .slice T (dueAt now R).length tc), (12, .int .i64 bf), (13, .int .i64 pre.length)] ∧
        Sat w0 w (rowC 22 1 (.slice T (dueAt now R).length tc) (dueAt now R).length ((dueAt now R).map (Ent.v ∘ Th.ent)) :: whC_s g n (pend (ring now R)) (now + 1) R.length :: rowC 3 1 (.slice A R.length c) R.length (dues R) :: rowC 4 1 (.slice B R.length d) R.length (dones (mark (pre.map Th.i) R)) :: G :: R.map Th.chunk)) (dueAt now R).length
        ⟨[], dueAt now R, -1, rfl, rfl, by omega, by omega, by simp, by intro p _; omega, hF.sub ⟨rfl, rfl, rfl, rfl, rfl, rfl, trivial⟩, by rw [List.map_nil, mark_nil]; exact hS⟩ ?_
      clear hS hF
      rintro j a w ⟨pre, post, bf, rfl, hD, hb0, hb1, hpre, hpost, hF, hS⟩
      have hDlen : (dueAt now R).length = pre.length + post.length := by rw [hD, List.length_append]
      refine wp_seq_k fun K12 hK12 => ?_
      refine wp_seq_k fun K13 hK13 => ?_
      -- region 15
      refine wp_region_lit ?_
      refine s_pu hF rfl rfl rfl (pu_move (hF.ev rfl)) ?_; clear hF; intro a hF
      refine s_pu hF rfl rfl rfl (pu_move (hF.ev rfl)) ?_; clear hF; intro a hF
      refine s_pu hF rfl rfl rfl (pu_len sl45 (hF.ev rfl)) ?_; clear hF; intro a hF
      refine s_pu hF rfl rfl rfl (pu_lss (hF.ev rfl) (hF.ev rfl)) ?_; clear hF; intro a hF
      refine s_done ?_
      refine hK13 _ _ ?_; clear hK13
      refine wp_cond_split (hF.ev rfl) (fun hc4 => ?_) (fun hc4 => ?_)
      · -- cond 4 true
        try simp only [decide_eq_true_eq, decide_eq_false_iff_not, Bool.not_eq_true', Bool.not_eq_false', Int.not_lt, Int.not_le, ne_eq, Decidable.not_not, Bool.or_eq_true, Bool.or_eq_false_iff, Bool.and_eq_true, Bool.and_eq_false_imp] at hc4
        obtain ⟨q, post', rfl⟩ : ∃ q post', post = q :: post' := by
          cases post with
          | nil => exfalso; simp at hDlen; omega
          | cons q p => exact ⟨q, p, rfl⟩
        have hqD : q ∈ dueAt now R := by rw [hD]; simp
        obtain ⟨hqR, hqd⟩ := List.mem_filter.1 hqD
        simp only [Bool.and_eq_true, Bool.not_eq_true', decide_eq_true_eq] at hqd
        have hqg := hN.get hqR
        have hql := (List.getElem?_eq_some_iff.1 hqg).1
        have hqb := hpost q (by simp)
        obtain ⟨gA, rfl⟩ := row_some (i := 2) hS rfl (by omega)
        obtain ⟨gB, rfl⟩ := row_some (i := 3) hS rfl (by omega)
        obtain ⟨gT, rfl⟩ := row_some (i := 0) hS rfl (by omega)
        have hqT : ((dueAt now R).map (Ent.v ∘ Th.ent))[pre.length]? = some (.slice (some ⟨q.b, 0, none⟩) 1 1) := by
          rw [hD]; simp [Th.ent]
        have hqc := row_at0 (i := q.i + 5) hS (nth_map hqg) rfl
        have hqu := dues_at hqg
        have hqk : (pre.map Th.i).contains q.i = false := by
          rw [List.contains_eq_any_beq, List.any_eq_false]
          intro k hk
          obtain ⟨p, hp, rfl⟩ := List.mem_map.1 hk
          have := hpre p hp
          simp
          omega
        have hqn := mark_at hqg (pre.map Th.i)
        rw [hqk, hqd.1] at hqn
        refine wp_skip ?_
        refine hK12 _ _ ?_; clear hK12
        refine wp_seq_k fun K14 hK14 => ?_
        refine wp_block ?_
        refine wp_seq_k fun K15 hK15 => ?_
        refine wp_seq_k fun K16 hK16 => ?_
        -- region 17
        refine wp_region_lit ?_
        refine s_pu hF rfl rfl rfl (pu_move (hF.ev rfl)) ?_; clear hF; intro a hF
        refine s_pu hF rfl rfl rfl (pu_move (hF.ev rfl)) ?_; clear hF; intro a hF
        refine s_pu hF rfl rfl rfl ((by first | exact pu_elem sl45 (hF.ev rfl) (hF.ev rfl) (by first | omega | simp) (by first | omega | (simp; done) | (simp; omega)) | exact pu_elemA sl45 (hF.ev rfl) (hF.ev rfl) (by omega) (by omega))) ?_; clear hF; intro a hF
        refine s_rd hF rfl rfl rfl (by first | exact rd_load pl22 (hF.ev rfl) (by assumption) | exact rd_load pl22 (hF.ev rfl) (hS.cellL (i := 0) rfl rfl) | exact rd_load pl22 (hF.ev rfl) (hS.cellL (i := 1) rfl rfl) | exact rd_load pl22 (hF.ev rfl) (hS.cellL (i := 2) rfl rfl) | exact rd_load pl22 (hF.ev rfl) (hS.cellL (i := 3) rfl rfl) | exact rd_load pl22 (hF.ev rfl) (hS.cellL (i := 4) rfl rfl) | exact rd_load pl22 (hF.ev rfl) (hS.cellL (i := 5) rfl rfl) | exact rd_load pl22 (hF.ev rfl) (hS.cell (i := 0) rfl (by assumption)) | exact rd_load pl22 (hF.ev rfl) (hS.cell (i := 1) rfl (by assumption)) | exact rd_load pl22 (hF.ev rfl) (hS.cell (i := 2) rfl (by assumption)) | exact rd_load pl22 (hF.ev rfl) (hS.cell (i := 3) rfl (by assumption)) | exact rd_load pl22 (hF.ev rfl) (hS.cell (i := 4) rfl (by assumption)) | exact rd_load pl22 (hF.ev rfl) (hS.cell (i := 5) rfl (by assumption)) | exact rd_load pl22 (hF.ev rfl) (row_at (i := 0) hS rfl (by first | assumption | rfl)) | exact rd_load pl22 (hF.ev rfl) (row_at0 (i := 0) hS rfl (by first | assumption | rfl)) | exact rd_load pl22 (hF.ev rfl) (row_at (i := 1) hS rfl (by first | assumption | rfl)) | exact rd_load pl22 (hF.ev rfl) (row_at0 (i := 1) hS rfl (by first | assumption | rfl)) | exact rd_load pl22 (hF.ev rfl) (row_at (i := 2) hS rfl (by first | assumption | rfl)) | exact rd_load pl22 (hF.ev rfl) (row_at0 (i := 2) hS rfl (by first | assumption | rfl)) | exact rd_load pl22 (hF.ev rfl) (row_at (i := 3) hS rfl (by first | assumption | rfl)) | exact rd_load pl22 (hF.ev rfl) (row_at0 (i := 3) hS rfl (by first | assumption | rfl)) | exact rd_load pl22 (hF.ev rfl) (row_at (i := 4) hS rfl (by first | assumption | rfl)) | exact rd_load pl22 (hF.ev rfl) (row_at0 (i := 4) hS rfl (by first | assumption | rfl)) | exact rd_load pl22 (hF.ev rfl) (row_at (i := 5) hS rfl (by first | assumption | rfl)) | exact rd_load pl22 (hF.ev rfl) (row_at0 (i := 5) hS rfl (by first | assumption | rfl))) ?_; clear hF; intro a hF
        refine s_pu hF rfl rfl rfl (pu_len sl22 (hF.ev rfl)) ?_; clear hF; intro a hF
        refine s_pu hF rfl rfl rfl (pu_neq (hF.ev rfl) (hF.ev rfl)) ?_; clear hF; intro a hF
        refine s_pu hF rfl rfl rfl (pu_move (hF.ev rfl)) ?_; clear hF; intro a hF
        refine s_pu hF rfl rfl rfl (pu_move (hF.ev rfl)) ?_; clear hF; intro a hF
        refine s_pu hF rfl rfl rfl (pu_move (hF.ev rfl)) ?_; clear hF; intro a hF
        refine s_pu hF rfl rfl rfl ((by first | exact pu_elem sl45 (hF.ev rfl) (hF.ev rfl) (by first | omega | simp) (by first | omega | (simp; done) | (simp; omega)) | exact pu_elemA sl45 (hF.ev rfl) (hF.ev rfl) (by omega) (by omega))) ?_; clear hF; intro a hF
        refine s_rd hF rfl rfl rfl (by first | exact rd_load pl22 (hF.ev rfl) (by assumption) | exact rd_load pl22 (hF.ev rfl) (hS.cellL (i := 0) rfl rfl) | exact rd_load pl22 (hF.ev rfl) (hS.cellL (i := 1) rfl rfl) | exact rd_load pl22 (hF.ev rfl) (hS.cellL (i := 2) rfl rfl) | exact rd_load pl22 (hF.ev rfl) (hS.cellL (i := 3) rfl rfl) | exact rd_load pl22 (hF.ev rfl) (hS.cellL (i := 4) rfl rfl) | exact rd_load pl22 (hF.ev rfl) (hS.cellL (i := 5) rfl rfl) | exact rd_load pl22 (hF.ev rfl) (hS.cell (i := 0) rfl (by assumption)) | exact rd_load pl22 (hF.ev rfl) (hS.cell (i := 1) rfl (by assumption)) | exact rd_load pl22 (hF.ev rfl) (hS.cell (i := 2) rfl (by assumption)) | exact rd_load pl22 (hF.ev rfl) (hS.cell (i := 3) rfl (by assumption)) | exact rd_load pl22 (hF.ev rfl) (hS.cell (i := 4) rfl (by assumption)) | exact rd_load pl22 (hF.ev rfl) (hS.cell (i := 5) rfl (by assumption)) | exact rd_load pl22 (hF.ev rfl) (row_at (i := 0) hS rfl (by first | assumption | rfl)) | exact rd_load pl22 (hF.ev rfl) (row_at0 (i := 0) hS rfl (by first | assumption | rfl)) | exact rd_load pl22 (hF.ev rfl) (row_at (i := 1) hS rfl (by first | assumption | rfl)) | exact rd_load pl22 (hF.ev rfl) (row_at0 (i := 1) hS rfl (by first | assumption | rfl)) | exact rd_load pl22 (hF.ev rfl) (row_at (i := 2) hS rfl (by first | assumption | rfl)) | exact rd_load pl22 (hF.ev rfl) (row_at0 (i := 2) hS rfl (by first | assumption | rfl)) | exact rd_load pl22 (hF.ev rfl) (row_at (i := 3) hS rfl (by first | assumption | rfl)) | exact rd_load pl22 (hF.ev rfl) (row_at0 (i := 3) hS rfl (by first | assumption | rfl)) | exact rd_load pl22 (hF.ev rfl) (row_at (i := 4) hS rfl (by first | assumption | rfl)) | exact rd_load pl22 (hF.ev rfl) (row_at0 (i := 4) hS rfl (by first | assumption | rfl)) | exact rd_load pl22 (hF.ev rfl) (row_at (i := 5) hS rfl (by first | assumption | rfl)) | exact rd_load pl22 (hF.ev rfl) (row_at0 (i := 5) hS rfl (by first | assumption | rfl))) ?_; clear hF; intro a hF
        refine s_pu hF rfl rfl rfl ((by first | exact pu_elem sl22 (hF.ev rfl) (hF.ev rfl) (by first | omega | simp) (by first | omega | (simp; done) | (simp; omega)) | exact pu_elemA sl22 (hF.ev rfl) (hF.ev rfl) (by omega) (by omega))) ?_; clear hF; intro a hF
        refine s_rd hF rfl rfl rfl (by first | exact rd_load pl3 (hF.ev rfl) (by assumption) | exact rd_load pl3 (hF.ev rfl) (hS.cellL (i := 0) rfl rfl) | exact rd_load pl3 (hF.ev rfl) (hS.cellL (i := 1) rfl rfl) | exact rd_load pl3 (hF.ev rfl) (hS.cellL (i := 2) rfl rfl) | exact rd_load pl3 (hF.ev rfl) (hS.cellL (i := 3) rfl rfl) | exact rd_load pl3 (hF.ev rfl) (hS.cellL (i := 4) rfl rfl) | exact rd_load pl3 (hF.ev rfl) (hS.cellL (i := 5) rfl rfl) | exact rd_load pl3 (hF.ev rfl) (hS.cell (i := 0) rfl (by assumption)) | exact rd_load pl3 (hF.ev rfl) (hS.cell (i := 1) rfl (by assumption)) | exact rd_load pl3 (hF.ev rfl) (hS.cell (i := 2) rfl (by assumption)) | exact rd_load pl3 (hF.ev rfl) (hS.cell (i := 3) rfl (by assumption)) | exact rd_load pl3 (hF.ev rfl) (hS.cell (i := 4) rfl (by assumption)) | exact rd_load pl3 (hF.ev rfl) (hS.cell (i := 5) rfl (by assumption)) | exact rd_load pl3 (hF.ev rfl) (row_at (i := 0) hS rfl (by first | assumption | rfl)) | exact rd_load pl3 (hF.ev rfl) (row_at0 (i := 0) hS rfl (by first | assumption | rfl)) | exact rd_load pl3 (hF.ev rfl) (row_at (i := 1) hS rfl (by first | assumption | rfl)) | exact rd_load pl3 (hF.ev rfl) (row_at0 (i := 1) hS rfl (by first | assumption | rfl)) | exact rd_load pl3 (hF.ev rfl) (row_at (i := 2) hS rfl (by first | assumption | rfl)) | exact rd_load pl3 (hF.ev rfl) (row_at0 (i := 2) hS rfl (by first | assumption | rfl)) | exact rd_load pl3 (hF.ev rfl) (row_at (i := 3) hS rfl (by first | assumption | rfl)) | exact rd_load pl3 (hF.ev rfl) (row_at0 (i := 3) hS rfl (by first | assumption | rfl)) | exact rd_load pl3 (hF.ev rfl) (row_at (i := 4) hS rfl (by first | assumption | rfl)) | exact rd_load pl3 (hF.ev rfl) (row_at0 (i := 4) hS rfl (by first | assumption | rfl)) | exact rd_load pl3 (hF.ev rfl) (row_at (i := 5) hS rfl (by first | assumption | rfl)) | exact rd_load pl3 (hF.ev rfl) (row_at0 (i := 5) hS rfl (by first | assumption | rfl))) ?_; clear hF; intro a hF
        refine s_pu hF rfl rfl rfl (pu_move (hF.ev rfl)) ?_; clear hF; intro a hF
        refine s_pu hF rfl rfl rfl (pu_leq (hF.ev rfl) (hF.ev rfl)) ?_; clear hF; intro a hF
        refine s_pu hF rfl rfl rfl ((by first | exact pu_pick_t (hF.ev rfl) (hF.ev rfl) | exact pu_pick_f (hF.ev rfl) (hF.ev rfl) | exact pu_pick (hF.ev rfl) (hF.ev rfl) (hF.ev rfl))) ?_; clear hF; intro a hF
        refine s_pu hF rfl rfl rfl (pu_move (hF.ev rfl)) ?_; clear hF; intro a hF
        refine fr_split hF (t := 88) rfl ?_ ?_
        · clear hF; intro hg88 hF   -- slot 88 true
          try simp only [decide_eq_true_eq, decide_eq_false_iff_not, Bool.not_eq_true', Bool.not_eq_false', Int.not_lt, Int.not_le, ne_eq, Decidable.not_not, Bool.or_eq_true, Bool.or_eq_false_iff, Bool.and_eq_true, Bool.and_eq_false_imp] at hg88
          omega
        · clear hF; intro hg88 hF   -- slot 88 false
          try simp only [decide_eq_true_eq, decide_eq_false_iff_not, Bool.not_eq_true', Bool.not_eq_false', Int.not_lt, Int.not_le, ne_eq, Decidable.not_not, Bool.or_eq_true, Bool.or_eq_false_iff, Bool.and_eq_true, Bool.and_eq_false_imp] at hg88
          refine s_pu hF rfl rfl rfl (pu_move (hF.ev rfl)) ?_; clear hF; intro a hF
          refine s_pu hF rfl rfl rfl (pu_move (hF.ev rfl)) ?_; clear hF; intro a hF
          refine s_pu hF rfl rfl rfl ((by first | exact pu_elem sl45 (hF.ev rfl) (hF.ev rfl) (by first | omega | simp) (by first | omega | (simp; done) | (simp; omega)) | exact pu_elemA sl45 (hF.ev rfl) (hF.ev rfl) (by omega) (by omega))) ?_; clear hF; intro a hF
          refine s_rd hF rfl rfl rfl (by first | exact rd_load pl22 (hF.ev rfl) (by assumption) | exact rd_load pl22 (hF.ev rfl) (hS.cellL (i := 0) rfl rfl) | exact rd_load pl22 (hF.ev rfl) (hS.cellL (i := 1) rfl rfl) | exact rd_load pl22 (hF.ev rfl) (hS.cellL (i := 2) rfl rfl) | exact rd_load pl22 (hF.ev rfl) (hS.cellL (i := 3) rfl rfl) | exact rd_load pl22 (hF.ev rfl) (hS.cellL (i := 4) rfl rfl) | exact rd_load pl22 (hF.ev rfl) (hS.cellL (i := 5) rfl rfl) | exact rd_load pl22 (hF.ev rfl) (hS.cell (i := 0) rfl (by assumption)) | exact rd_load pl22 (hF.ev rfl) (hS.cell (i := 1) rfl (by assumption)) | exact rd_load pl22 (hF.ev rfl) (hS.cell (i := 2) rfl (by assumption)) | exact rd_load pl22 (hF.ev rfl) (hS.cell (i := 3) rfl (by assumption)) | exact rd_load pl22 (hF.ev rfl) (hS.cell (i := 4) rfl (by assumption)) | exact rd_load pl22 (hF.ev rfl) (hS.cell (i := 5) rfl (by assumption)) | exact rd_load pl22 (hF.ev rfl) (row_at (i := 0) hS rfl (by first | assumption | rfl)) | exact rd_load pl22 (hF.ev rfl) (row_at0 (i := 0) hS rfl (by first | assumption | rfl)) | exact rd_load pl22 (hF.ev rfl) (row_at (i := 1) hS rfl (by first | assumption | rfl)) | exact rd_load pl22 (hF.ev rfl) (row_at0 (i := 1) hS rfl (by first | assumption | rfl)) | exact rd_load pl22 (hF.ev rfl) (row_at (i := 2) hS rfl (by first | assumption | rfl)) | exact rd_load pl22 (hF.ev rfl) (row_at0 (i := 2) hS rfl (by first | assumption | rfl)) | exact rd_load pl22 (hF.ev rfl) (row_at (i := 3) hS rfl (by first | assumption | rfl)) | exact rd_load pl22 (hF.ev rfl) (row_at0 (i := 3) hS rfl (by first | assumption | rfl)) | exact rd_load pl22 (hF.ev rfl) (row_at (i := 4) hS rfl (by first | assumption | rfl)) | exact rd_load pl22 (hF.ev rfl) (row_at0 (i := 4) hS rfl (by first | assumption | rfl)) | exact rd_load pl22 (hF.ev rfl) (row_at (i := 5) hS rfl (by first | assumption | rfl)) | exact rd_load pl22 (hF.ev rfl) (row_at0 (i := 5) hS rfl (by first | assumption | rfl))) ?_; clear hF; intro a hF
          refine s_pu hF rfl rfl rfl ((by first | exact pu_elem sl22 (hF.ev rfl) (hF.ev rfl) (by first | omega | simp) (by first | omega | (simp; done) | (simp; omega)) | exact pu_elemA sl22 (hF.ev rfl) (hF.ev rfl) (by omega) (by omega))) ?_; clear hF; intro a hF
          refine s_rd hF rfl rfl rfl (by first | exact rd_load pl3 (hF.ev rfl) (by assumption) | exact rd_load pl3 (hF.ev rfl) (hS.cellL (i := 0) rfl rfl) | exact rd_load pl3 (hF.ev rfl) (hS.cellL (i := 1) rfl rfl) | exact rd_load pl3 (hF.ev rfl) (hS.cellL (i := 2) rfl rfl) | exact rd_load pl3 (hF.ev rfl) (hS.cellL (i := 3) rfl rfl) | exact rd_load pl3 (hF.ev rfl) (hS.cellL (i := 4) rfl rfl) | exact rd_load pl3 (hF.ev rfl) (hS.cellL (i := 5) rfl rfl) | exact rd_load pl3 (hF.ev rfl) (hS.cell (i := 0) rfl (by assumption)) | exact rd_load pl3 (hF.ev rfl) (hS.cell (i := 1) rfl (by assumption)) | exact rd_load pl3 (hF.ev rfl) (hS.cell (i := 2) rfl (by assumption)) | exact rd_load pl3 (hF.ev rfl) (hS.cell (i := 3) rfl (by assumption)) | exact rd_load pl3 (hF.ev rfl) (hS.cell (i := 4) rfl (by assumption)) | exact rd_load pl3 (hF.ev rfl) (hS.cell (i := 5) rfl (by assumption)) | exact rd_load pl3 (hF.ev rfl) (row_at (i := 0) hS rfl (by first | assumption | rfl)) | exact rd_load pl3 (hF.ev rfl) (row_at0 (i := 0) hS rfl (by first | assumption | rfl)) | exact rd_load pl3 (hF.ev rfl) (row_at (i := 1) hS rfl (by first | assumption | rfl)) | exact rd_load pl3 (hF.ev rfl) (row_at0 (i := 1) hS rfl (by first | assumption | rfl)) | exact rd_load pl3 (hF.ev rfl) (row_at (i := 2) hS rfl (by first | assumption | rfl)) | exact rd_load pl3 (hF.ev rfl) (row_at0 (i := 2) hS rfl (by first | assumption | rfl)) | exact rd_load pl3 (hF.ev rfl) (row_at (i := 3) hS rfl (by first | assumption | rfl)) | exact rd_load pl3 (hF.ev rfl) (row_at0 (i := 3) hS rfl (by first | assumption | rfl)) | exact rd_load pl3 (hF.ev rfl) (row_at (i := 4) hS rfl (by first | assumption | rfl)) | exact rd_load pl3 (hF.ev rfl) (row_at0 (i := 4) hS rfl (by first | assumption | rfl)) | exact rd_load pl3 (hF.ev rfl) (row_at (i := 5) hS rfl (by first | assumption | rfl)) | exact rd_load pl3 (hF.ev rfl) (row_at0 (i := 5) hS rfl (by first | assumption | rfl))) ?_; clear hF; intro a hF
          refine s_pu hF rfl rfl rfl (pu_move (hF.ev rfl)) ?_; clear hF; intro a hF
          refine s_pu hF rfl rfl rfl (pu_len sl22 (hF.ev rfl)) ?_; clear hF; intro a hF
          refine s_pu hF rfl rfl rfl (pu_geq (hF.ev rfl) (hF.ev rfl)) ?_; clear hF; intro a hF
          refine s_pu hF rfl rfl rfl ((by first | exact pu_pick_t (hF.ev rfl) (hF.ev rfl) | exact pu_pick_f (hF.ev rfl) (hF.ev rfl) | exact pu_pick (hF.ev rfl) (hF.ev rfl) (hF.ev rfl))) ?_; clear hF; intro a hF
          refine s_done ?_
          refine hK16 _ _ ?_; clear hK16
          refine wp_cond_split (hF.ev rfl) (fun hc5 => ?_) (fun hc5 => ?_)
          · -- cond 5 true
            try simp only [decide_eq_true_eq, decide_eq_false_iff_not, Bool.not_eq_true', Bool.not_eq_false', Int.not_lt, Int.not_le, ne_eq, Decidable.not_not, Bool.or_eq_true, Bool.or_eq_false_iff, Bool.and_eq_true, Bool.and_eq_false_imp] at hc5
            omega
          · -- cond 5 false
            try simp only [decide_eq_true_eq, decide_eq_false_iff_not, Bool.not_eq_true', Bool.not_eq_false', Int.not_lt, Int.not_le, ne_eq, Decidable.not_not, Bool.or_eq_true, Bool.or_eq_false_iff, Bool.and_eq_true, Bool.and_eq_false_imp] at hc5
            refine wp_skip ?_
            refine hK15 _ _ ?_; clear hK15
            refine wp_seq_k fun K17 hK17 => ?_
            -- region 19
            refine wp_region_lit ?_
            refine s_pu hF rfl rfl rfl (pu_move (hF.ev rfl)) ?_; clear hF; intro a hF
            refine s_pu hF rfl rfl rfl (pu_move (hF.ev rfl)) ?_; clear hF; intro a hF
            refine s_pu hF rfl rfl rfl ((by first | exact pu_elem sl45 (hF.ev rfl) (hF.ev rfl) (by first | omega | simp) (by first | omega | (simp; done) | (simp; omega)) | exact pu_elemA sl45 (hF.ev rfl) (hF.ev rfl) (by omega) (by omega))) ?_; clear hF; intro a hF
            refine s_rd hF rfl rfl rfl (by first | exact rd_load pl22 (hF.ev rfl) (by assumption) | exact rd_load pl22 (hF.ev rfl) (hS.cellL (i := 0) rfl rfl) | exact rd_load pl22 (hF.ev rfl) (hS.cellL (i := 1) rfl rfl) | exact rd_load pl22 (hF.ev rfl) (hS.cellL (i := 2) rfl rfl) | exact rd_load pl22 (hF.ev rfl) (hS.cellL (i := 3) rfl rfl) | exact rd_load pl22 (hF.ev rfl) (hS.cellL (i := 4) rfl rfl) | exact rd_load pl22 (hF.ev rfl) (hS.cellL (i := 5) rfl rfl) | exact rd_load pl22 (hF.ev rfl) (hS.cell (i := 0) rfl (by assumption)) | exact rd_load pl22 (hF.ev rfl) (hS.cell (i := 1) rfl (by assumption)) | exact rd_load pl22 (hF.ev rfl) (hS.cell (i := 2) rfl (by assumption)) | exact rd_load pl22 (hF.ev rfl) (hS.cell (i := 3) rfl (by assumption)) | exact rd_load pl22 (hF.ev rfl) (hS.cell (i := 4) rfl (by assumption)) | exact rd_load pl22 (hF.ev rfl) (hS.cell (i := 5) rfl (by assumption)) | exact rd_load pl22 (hF.ev rfl) (row_at (i := 0) hS rfl (by first | assumption | rfl)) | exact rd_load pl22 (hF.ev rfl) (row_at0 (i := 0) hS rfl (by first | assumption | rfl)) | exact rd_load pl22 (hF.ev rfl) (row_at (i := 1) hS rfl (by first | assumption | rfl)) | exact rd_load pl22 (hF.ev rfl) (row_at0 (i := 1) hS rfl (by first | assumption | rfl)) | exact rd_load pl22 (hF.ev rfl) (row_at (i := 2) hS rfl (by first | assumption | rfl)) | exact rd_load pl22 (hF.ev rfl) (row_at0 (i := 2) hS rfl (by first | assumption | rfl)) | exact rd_load pl22 (hF.ev rfl) (row_at (i := 3) hS rfl (by first | assumption | rfl)) | exact rd_load pl22 (hF.ev rfl) (row_at0 (i := 3) hS rfl (by first | assumption | rfl)) | exact rd_load pl22 (hF.ev rfl) (row_at (i := 4) hS rfl (by first | assumption | rfl)) | exact rd_load pl22 (hF.ev rfl) (row_at0 (i := 4) hS rfl (by first | assumption | rfl)) | exact rd_load pl22 (hF.ev rfl) (row_at (i := 5) hS rfl (by first | assumption | rfl)) | exact rd_load pl22 (hF.ev rfl) (row_at0 (i := 5) hS rfl (by first | assumption | rfl))) ?_; clear hF; intro a hF
            refine s_pu hF rfl rfl rfl ((by first | exact pu_elem sl22 (hF.ev rfl) (hF.ev rfl) (by first | omega | simp) (by first | omega | (simp; done) | (simp; omega)) | exact pu_elemA sl22 (hF.ev rfl) (hF.ev rfl) (by omega) (by omega))) ?_; clear hF; intro a hF
            refine s_rd hF rfl rfl rfl (by first | exact rd_load pl3 (hF.ev rfl) (by assumption) | exact rd_load pl3 (hF.ev rfl) (hS.cellL (i := 0) rfl rfl) | exact rd_load pl3 (hF.ev rfl) (hS.cellL (i := 1) rfl rfl) | exact rd_load pl3 (hF.ev rfl) (hS.cellL (i := 2) rfl rfl) | exact rd_load pl3 (hF.ev rfl) (hS.cellL (i := 3) rfl rfl) | exact rd_load pl3 (hF.ev rfl) (hS.cellL (i := 4) rfl rfl) | exact rd_load pl3 (hF.ev rfl) (hS.cellL (i := 5) rfl rfl) | exact rd_load pl3 (hF.ev rfl) (hS.cell (i := 0) rfl (by assumption)) | exact rd_load pl3 (hF.ev rfl) (hS.cell (i := 1) rfl (by assumption)) | exact rd_load pl3 (hF.ev rfl) (hS.cell (i := 2) rfl (by assumption)) | exact rd_load pl3 (hF.ev rfl) (hS.cell (i := 3) rfl (by assumption)) | exact rd_load pl3 (hF.ev rfl) (hS.cell (i := 4) rfl (by assumption)) | exact rd_load pl3 (hF.ev rfl) (hS.cell (i := 5) rfl (by assumption)) | exact rd_load pl3 (hF.ev rfl) (row_at (i := 0) hS rfl (by first | assumption | rfl)) | exact rd_load pl3 (hF.ev rfl) (row_at0 (i := 0) hS rfl (by first | assumption | rfl)) | exact rd_load pl3 (hF.ev rfl) (row_at (i := 1) hS rfl (by first | assumption | rfl)) | exact rd_load pl3 (hF.ev rfl) (row_at0 (i := 1) hS rfl (by first | assumption | rfl)) | exact rd_load pl3 (hF.ev rfl) (row_at (i := 2) hS rfl (by first | assumption | rfl)) | exact rd_load pl3 (hF.ev rfl) (row_at0 (i := 2) hS rfl (by first | assumption | rfl)) | exact rd_load pl3 (hF.ev rfl) (row_at (i := 3) hS rfl (by first | assumption | rfl)) | exact rd_load pl3 (hF.ev rfl) (row_at0 (i := 3) hS rfl (by first | assumption | rfl)) | exact rd_load pl3 (hF.ev rfl) (row_at (i := 4) hS rfl (by first | assumption | rfl)) | exact rd_load pl3 (hF.ev rfl) (row_at0 (i := 4) hS rfl (by first | assumption | rfl)) | exact rd_load pl3 (hF.ev rfl) (row_at (i := 5) hS rfl (by first | assumption | rfl)) | exact rd_load pl3 (hF.ev rfl) (row_at0 (i := 5) hS rfl (by first | assumption | rfl))) ?_; clear hF; intro a hF
            refine s_pu hF rfl rfl rfl (pu_assign (hF.ev rfl)) ?_; clear hF; intro a hF
            refine s_done ?_
            refine hK17 _ _ ?_; clear hK17
            refine wp_seq_k fun K18 hK18 => ?_
            refine wp_seq_k fun K19 hK19 => ?_
            -- region 20
            refine d_start (S := (fun w => Sat w0 w _)) (ds := []) (ord := [(0, .pu), (1, .pu), (2, .pu), (3, .tk), (4, .pu), (5, .pu), (6, .pu), (7, .pu), (8, .tk), (9, .pu), (10, .on), (11, .pu), (12, .pu)]) mixed ⟨by kernel_rfl, fun _ d _ _ _ h => by cases d <;> exact h⟩ hS.drew fun hD => ?_
            replace hS := hS.drew; generalize w.drew = w at hS ⊢
            refine d_pu hD hF rfl rfl rfl rfl rfl (pu_move (hF.ev rfl)) ?_; clear hF; intro a hF
            refine d_pu hD hF rfl rfl rfl rfl rfl (pu_move (hF.ev rfl)) ?_; clear hF; intro a hF
            refine d_pu hD hF rfl rfl rfl rfl rfl ((by first | exact pu_elem sl29 (hF.ev rfl) (hF.ev rfl) (by first | omega | simp) (by first | omega | (simp; done) | (simp; omega)) | exact pu_elemA sl29 (hF.ev rfl) (hF.ev rfl) (by omega) (by omega))) ?_; clear hF; intro a hF
            refine d_rd hD hF rfl rfl rfl rfl rfl hS (fun w hS => (by first | exact rd_load pl4 (hF.ev rfl) (by assumption) | exact rd_load pl4 (hF.ev rfl) (hS.cellL (i := 0) rfl rfl) | exact rd_load pl4 (hF.ev rfl) (hS.cellL (i := 1) rfl rfl) | exact rd_load pl4 (hF.ev rfl) (hS.cellL (i := 2) rfl rfl) | exact rd_load pl4 (hF.ev rfl) (hS.cellL (i := 3) rfl rfl) | exact rd_load pl4 (hF.ev rfl) (hS.cellL (i := 4) rfl rfl) | exact rd_load pl4 (hF.ev rfl) (hS.cellL (i := 5) rfl rfl) | exact rd_load pl4 (hF.ev rfl) (hS.cell (i := 0) rfl (by assumption)) | exact rd_load pl4 (hF.ev rfl) (hS.cell (i := 1) rfl (by assumption)) | exact rd_load pl4 (hF.ev rfl) (hS.cell (i := 2) rfl (by assumption)) | exact rd_load pl4 (hF.ev rfl) (hS.cell (i := 3) rfl (by assumption)) | exact rd_load pl4 (hF.ev rfl) (hS.cell (i := 4) rfl (by assumption)) | exact rd_load pl4 (hF.ev rfl) (hS.cell (i := 5) rfl (by assumption)) | exact rd_load pl4 (hF.ev rfl) (row_at (i := 0) hS rfl (by first | assumption | rfl)) | exact rd_load pl4 (hF.ev rfl) (row_at0 (i := 0) hS rfl (by first | assumption | rfl)) | exact rd_load pl4 (hF.ev rfl) (row_at (i := 1) hS rfl (by first | assumption | rfl)) | exact rd_load pl4 (hF.ev rfl) (row_at0 (i := 1) hS rfl (by first | assumption | rfl)) | exact rd_load pl4 (hF.ev rfl) (row_at (i := 2) hS rfl (by first | assumption | rfl)) | exact rd_load pl4 (hF.ev rfl) (row_at0 (i := 2) hS rfl (by first | assumption | rfl)) | exact rd_load pl4 (hF.ev rfl) (row_at (i := 3) hS rfl (by first | assumption | rfl)) | exact rd_load pl4 (hF.ev rfl) (row_at0 (i := 3) hS rfl (by first | assumption | rfl)) | exact rd_load pl4 (hF.ev rfl) (row_at (i := 4) hS rfl (by first | assumption | rfl)) | exact rd_load pl4 (hF.ev rfl) (row_at0 (i := 4) hS rfl (by first | assumption | rfl)) | exact rd_load pl4 (hF.ev rfl) (row_at (i := 5) hS rfl (by first | assumption | rfl)) | exact rd_load pl4 (hF.ev rfl) (row_at0 (i := 5) hS rfl (by first | assumption | rfl)))) ?_; clear hF; intro a hF
            refine d_pu hD hF rfl rfl rfl rfl rfl (pu_move (hF.ev rfl)) ?_; clear hF; intro a hF
            refine d_pu hD hF rfl rfl rfl rfl rfl (pu_move (hF.ev rfl)) ?_; clear hF; intro a hF
            refine d_pu hD hF rfl rfl rfl rfl rfl (pu_move (hF.ev rfl)) ?_; clear hF; intro a hF
            refine d_pu hD hF rfl rfl rfl rfl rfl ((by first | exact pu_elem sl22 (hF.ev rfl) (hF.ev rfl) (by first | omega | simp) (by first | omega | (simp; done) | (simp; omega)) | exact pu_elemA sl22 (hF.ev rfl) (hF.ev rfl) (by omega) (by omega))) ?_; clear hF; intro a hF
            refine d_rd hD hF rfl rfl rfl rfl rfl hS (fun w hS => (by first | exact rd_load pl3 (hF.ev rfl) (by assumption) | exact rd_load pl3 (hF.ev rfl) (hS.cellL (i := 0) rfl rfl) | exact rd_load pl3 (hF.ev rfl) (hS.cellL (i := 1) rfl rfl) | exact rd_load pl3 (hF.ev rfl) (hS.cellL (i := 2) rfl rfl) | exact rd_load pl3 (hF.ev rfl) (hS.cellL (i := 3) rfl rfl) | exact rd_load pl3 (hF.ev rfl) (hS.cellL (i := 4) rfl rfl) | exact rd_load pl3 (hF.ev rfl) (hS.cellL (i := 5) rfl rfl) | exact rd_load pl3 (hF.ev rfl) (hS.cell (i := 0) rfl (by assumption)) | exact rd_load pl3 (hF.ev rfl) (hS.cell (i := 1) rfl (by assumption)) | exact rd_load pl3 (hF.ev rfl) (hS.cell (i := 2) rfl (by assumption)) | exact rd_load pl3 (hF.ev rfl) (hS.cell (i := 3) rfl (by assumption)) | exact rd_load pl3 (hF.ev rfl) (hS.cell (i := 4) rfl (by assumption)) | exact rd_load pl3 (hF.ev rfl) (hS.cell (i := 5) rfl (by assumption)) | exact rd_load pl3 (hF.ev rfl) (row_at (i := 0) hS rfl (by first | assumption | rfl)) | exact rd_load pl3 (hF.ev rfl) (row_at0 (i := 0) hS rfl (by first | assumption | rfl)) | exact rd_load pl3 (hF.ev rfl) (row_at (i := 1) hS rfl (by first | assumption | rfl)) | exact rd_load pl3 (hF.ev rfl) (row_at0 (i := 1) hS rfl (by first | assumption | rfl)) | exact rd_load pl3 (hF.ev rfl) (row_at (i := 2) hS rfl (by first | assumption | rfl)) | exact rd_load pl3 (hF.ev rfl) (row_at0 (i := 2) hS rfl (by first | assumption | rfl)) | exact rd_load pl3 (hF.ev rfl) (row_at (i := 3) hS rfl (by first | assumption | rfl)) | exact rd_load pl3 (hF.ev rfl) (row_at0 (i := 3) hS rfl (by first | assumption | rfl)) | exact rd_load pl3 (hF.ev rfl) (row_at (i := 4) hS rfl (by first | assumption | rfl)) | exact rd_load pl3 (hF.ev rfl) (row_at0 (i := 4) hS rfl (by first | assumption | rfl)) | exact rd_load pl3 (hF.ev rfl) (row_at (i := 5) hS rfl (by first | assumption | rfl)) | exact rd_load pl3 (hF.ev rfl) (row_at0 (i := 5) hS rfl (by first | assumption | rfl)))) ?_; clear hF; intro a hF
            refine d_pu hD hF rfl rfl rfl rfl rfl (pu_move (hF.ev rfl)) ?_; clear hF; intro a hF
            refine d_en hD hF rfl rfl rfl rfl rfl (run_fn fk11 (hF.ev rfl) (hF.evs rfl)) (at_place 1 hS rfl (fun h => wNow_s h)) ?_
            clear hS; rintro e w ⟨rfl, hS⟩
            replace hS := same_place 1 hS rfl
            refine ⟨_, rfl, hS, ?_⟩; clear hF; intro a hF
            refine d_pu hD hF rfl rfl rfl rfl rfl (pu_neq (hF.ev rfl) (hF.ev rfl)) ?_; clear hF; intro a hF
            refine d_pu hD hF rfl rfl rfl rfl rfl ((by first | exact pu_pick_t (hF.ev rfl) (hF.ev rfl) | exact pu_pick_f (hF.ev rfl) (hF.ev rfl) | exact pu_pick (hF.ev rfl) (hF.ev rfl) (hF.ev rfl))) ?_; clear hF; intro a hF
            refine d_done hD rfl ?_; clear hD
            refine hK19 _ _ ?_; clear hK19
            refine wp_cond_split (hF.ev rfl) (fun hc6 => ?_) (fun hc6 => ?_)
            · -- cond 6 true
              try simp only [decide_eq_true_eq, decide_eq_false_iff_not, Bool.not_eq_true', Bool.not_eq_false', Int.not_lt, Int.not_le, ne_eq, Decidable.not_not, Bool.or_eq_true, Bool.or_eq_false_iff, Bool.and_eq_true, Bool.and_eq_false_imp] at hc6
              exact absurd hqd.2 hc6
            · -- cond 6 false
              try simp only [decide_eq_true_eq, decide_eq_false_iff_not, Bool.not_eq_true', Bool.not_eq_false', Int.not_lt, Int.not_le, ne_eq, Decidable.not_not, Bool.or_eq_true, Bool.or_eq_false_iff, Bool.and_eq_true, Bool.and_eq_false_imp] at hc6
              refine wp_skip ?_
              refine hK18 _ _ ?_; clear hK18
              -- region 22
              refine wp_region_lit ?_
              refine s_pu hF rfl rfl rfl (pu_move (hF.ev rfl)) ?_; clear hF; intro a hF
              refine s_pu hF rfl rfl rfl (pu_move (hF.ev rfl)) ?_; clear hF; intro a hF
              refine s_pu hF rfl rfl rfl ((by first | exact pu_elem sl29 (hF.ev rfl) (hF.ev rfl) (by first | omega | simp) (by first | omega | (simp; done) | (simp; omega)) | exact pu_elemA sl29 (hF.ev rfl) (hF.ev rfl) (by omega) (by omega))) ?_; clear hF; intro a hF
              (first | (refine s_rstore 0 hF rfl (hF.ev rfl) (hF.ev rfl) hS rfl sz4 rfl (by omega) ?_) | (refine s_rstore 1 hF rfl (hF.ev rfl) (hF.ev rfl) hS rfl sz4 rfl (by omega) ?_) | (refine s_rstore 2 hF rfl (hF.ev rfl) (hF.ev rfl) hS rfl sz4 rfl (by omega) ?_) | (refine s_rstore 3 hF rfl (hF.ev rfl) (hF.ev rfl) hS rfl sz4 rfl (by omega) ?_) | (refine s_rstore 4 hF rfl (hF.ev rfl) (hF.ev rfl) hS rfl sz4 rfl (by omega) ?_) | (refine s_rstore 5 hF rfl (hF.ev rfl) (hF.ev rfl) hS rfl sz4 rfl (by omega) ?_) | (refine s_store (vs := [_]) (cs' := _) 0 hF rfl (hF.ev rfl) (hF.ev rfl) hS rfl rfl sz4 (by first | rfl | (simp only [List.all_cons, List.all_nil, Value.oneCell', Bool.and_true, Bool.true_and]; assumption) | (simp [Value.oneCell', *]; done)) (by first | exact Nat.le_of_ble_eq_true rfl | (simp [Value.cells]; omega)) rfl ?_) | (refine s_store (vs := [_]) (cs' := _) 1 hF rfl (hF.ev rfl) (hF.ev rfl) hS rfl rfl sz4 (by first | rfl | (simp only [List.all_cons, List.all_nil, Value.oneCell', Bool.and_true, Bool.true_and]; assumption) | (simp [Value.oneCell', *]; done)) (by first | exact Nat.le_of_ble_eq_true rfl | (simp [Value.cells]; omega)) rfl ?_) | (refine s_store (vs := [_]) (cs' := _) 2 hF rfl (hF.ev rfl) (hF.ev rfl) hS rfl rfl sz4 (by first | rfl | (simp only [List.all_cons, List.all_nil, Value.oneCell', Bool.and_true, Bool.true_and]; assumption) | (simp [Value.oneCell', *]; done)) (by first | exact Nat.le_of_ble_eq_true rfl | (simp [Value.cells]; omega)) rfl ?_) | (refine s_store (vs := [_]) (cs' := _) 3 hF rfl (hF.ev rfl) (hF.ev rfl) hS rfl rfl sz4 (by first | rfl | (simp only [List.all_cons, List.all_nil, Value.oneCell', Bool.and_true, Bool.true_and]; assumption) | (simp [Value.oneCell', *]; done)) (by first | exact Nat.le_of_ble_eq_true rfl | (simp [Value.cells]; omega)) rfl ?_) | (refine s_store (vs := [_]) (cs' := _) 4 hF rfl (hF.ev rfl) (hF.ev rfl) hS rfl rfl sz4 (by first | rfl | (simp only [List.all_cons, List.all_nil, Value.oneCell', Bool.and_true, Bool.true_and]; assumption) | (simp [Value.oneCell', *]; done)) (by first | exact Nat.le_of_ble_eq_true rfl | (simp [Value.cells]; omega)) rfl ?_) | (refine s_store (vs := [_]) (cs' := _) 5 hF rfl (hF.ev rfl) (hF.ev rfl) hS rfl rfl sz4 (by first | rfl | (simp only [List.all_cons, List.all_nil, Value.oneCell', Bool.and_true, Bool.true_and]; assumption) | (simp [Value.oneCell', *]; done)) (by first | exact Nat.le_of_ble_eq_true rfl | (simp [Value.cells]; omega)) rfl ?_))
              clear hS; intro w hS; (try simp only [upd, del] at hS)
              refine s_done ?_
              refine blk_normal ?_
              refine hK14 _ _ ?_; clear hK14
              -- region 16
              refine wp_region_lit ?_
              refine s_pu hF rfl rfl rfl (pu_move (hF.ev rfl)) ?_; clear hF; intro a hF
              refine s_pu hF rfl rfl rfl ((by first | exact pu_add64 (hF.ev rfl) (hF.ev rfl) (by omega) | exact pu_add (hF.ev rfl) (hF.ev rfl))) ?_; clear hF; intro a hF
              refine s_pu hF rfl rfl rfl (pu_assign (hF.ev rfl)) ?_; clear hF; intro a hF
              refine s_done ?_
              refine ⟨post'.length, by simp, pre ++ [q], post', q.i, rfl, by rw [hD]; simp, by omega, by omega, ?_, ?_, ?_, ?_⟩
              · intro p hp
                rcases List.mem_append.1 hp with hp | hp
                · have := hpre p hp; omega
                · simp at hp; subst hp; omega
              · intro p hp
                rw [hD, List.map_append, List.map_cons, List.pairwise_append, List.pairwise_cons] at hDs
                have := hDs.2.1.1 p.i (List.mem_map.2 ⟨p, hp, rfl⟩)
                omega
              · have e : (((pre ++ [q]).length : Nat) : Int) = (pre.length : Int) + 1 := by simp
                rw [e]
                exact hF.sub ⟨rfl, rfl, rfl, rfl, rfl, rfl, trivial⟩
              · rw [mark_set hN hqR] at hS
                rw [List.map_append]
                exact hS
      · -- cond 4 false
        try simp only [decide_eq_true_eq, decide_eq_false_iff_not, Bool.not_eq_true', Bool.not_eq_false', Int.not_lt, Int.not_le, ne_eq, Decidable.not_not, Bool.or_eq_true, Bool.or_eq_false_iff, Bool.and_eq_true, Bool.and_eq_false_imp] at hc4
        refine wp_exit ?_
        refine then_exit ?_
        refine then_exit ?_
        refine blk_exit ?_
        refine hK10 _ _ ?_; clear hK10
        refine wp_seq_k fun K14 hK14 => ?_
        refine wp_seq_k fun K15 hK15 => ?_
        -- region 23
        refine wp_region_lit ?_
        refine s_pu hF rfl rfl rfl (pu_assign (hF.ev rfl)) ?_; clear hF; intro a hF
        refine s_done ?_
        refine hK15 _ _ ?_; clear hK15
        refine wp_block ?_
        have hpost0 : post = [] := by
          cases post with
          | nil => rfl
          | cons q p => exfalso; simp at hDlen; omega
        subst hpost0
        rw [List.append_nil] at hD
        subst hD
        replace hS := hS.tail
        rw [mark_all hN] at hS
        refine wp_ind (fun j a w => ∃ (i : Nat), j = R.length - i ∧ i ≤ R.length ∧
          Fr a 141 [(0, .pointer (some ⟨g, 0, none⟩)), (1, .slice A R.length c), (2, .slice B R.length d), (14, .int .i64 i)] ∧
          Sat w0 w (whC_s g n (pend (ring now R)) (now + 1) R.length :: rowC 3 1 (.slice A R.length c) R.length (dues R) :: rowC 4 1 (.slice B R.length d) R.length (dones (ring now R)) :: G :: R.map Th.chunk)) R.length
          ⟨0, by omega, by omega, hF.sub ⟨rfl, rfl, rfl, rfl, trivial⟩, hS⟩ ?_
        clear hS hF
        rintro j a w ⟨i, rfl, hi, hF, hS⟩
        refine wp_seq_k fun K16 hK16 => ?_
        refine wp_seq_k fun K17 hK17 => ?_
        -- region 24
        refine wp_region_lit ?_
        refine s_pu hF rfl rfl rfl (pu_move (hF.ev rfl)) ?_; clear hF; intro a hF
        refine s_pu hF rfl rfl rfl (pu_move (hF.ev rfl)) ?_; clear hF; intro a hF
        refine s_pu hF rfl rfl rfl (pu_len sl22 (hF.ev rfl)) ?_; clear hF; intro a hF
        refine s_pu hF rfl rfl rfl (pu_lss (hF.ev rfl) (hF.ev rfl)) ?_; clear hF; intro a hF
        refine s_done ?_
        refine hK17 _ _ ?_; clear hK17
        refine wp_cond_split (hF.ev rfl) (fun hc7 => ?_) (fun hc7 => ?_)
        · -- cond 7 true
          try simp only [decide_eq_true_eq, decide_eq_false_iff_not, Bool.not_eq_true', Bool.not_eq_false', Int.not_lt, Int.not_le, ne_eq, Decidable.not_not, Bool.or_eq_true, Bool.or_eq_false_iff, Bool.and_eq_true, Bool.and_eq_false_imp] at hc7
          have hil : i < R.length := by omega
          obtain ⟨r, hr⟩ : ∃ r, R[i]? = some r := ⟨R[i], List.getElem?_eq_getElem _⟩
          have hrm := List.mem_of_getElem? hr
          have hrd := dues_at hr
          have hrn : (dones (ring now R))[i]? = some (.bool (r.done || decide (r.due = now + 1))) := by simp [dones, ring, hr]
          obtain ⟨gA, rfl⟩ := row_some (i := 1) hS rfl (by omega)
          obtain ⟨gB, rfl⟩ := row_some (i := 2) hS rfl (by omega)
          refine wp_skip ?_
          refine hK16 _ _ ?_; clear hK16
          refine wp_seq_k fun K18 hK18 => ?_
          refine wp_block ?_
          refine wp_seq_k fun K19 hK19 => ?_
          -- region 26
          cases hd : (r.done || decide (r.due = now + 1))
          · -- nd
            rw [hd] at hrn
            -- region 26
            refine d_start (S := (fun w => Sat w0 w _)) (ds := []) (ord := [(0, .pu), (1, .pu), (2, .pu), (3, .tk), (4, .pu), (5, .pu), (6, .pu), (7, .pu), (8, .pu), (9, .tk), (10, .pu), (11, .on), (12, .pu), (13, .pu)]) mixed ⟨by kernel_rfl, fun _ d _ _ _ h => by cases d <;> exact h⟩ hS.drew fun hD => ?_
            replace hS := hS.drew; generalize w.drew = w at hS ⊢
            refine d_pu hD hF rfl rfl rfl rfl rfl (pu_move (hF.ev rfl)) ?_; clear hF; intro a hF
            refine d_pu hD hF rfl rfl rfl rfl rfl (pu_move (hF.ev rfl)) ?_; clear hF; intro a hF
            refine d_pu hD hF rfl rfl rfl rfl rfl ((by first | exact pu_elem sl29 (hF.ev rfl) (hF.ev rfl) (by first | omega | simp) (by first | omega | (simp; done) | (simp; omega)) | exact pu_elemA sl29 (hF.ev rfl) (hF.ev rfl) (by omega) (by omega))) ?_; clear hF; intro a hF
            refine d_rd hD hF rfl rfl rfl rfl rfl hS (fun w hS => (by first | exact rd_load pl4 (hF.ev rfl) (by assumption) | exact rd_load pl4 (hF.ev rfl) (hS.cellL (i := 0) rfl rfl) | exact rd_load pl4 (hF.ev rfl) (hS.cellL (i := 1) rfl rfl) | exact rd_load pl4 (hF.ev rfl) (hS.cellL (i := 2) rfl rfl) | exact rd_load pl4 (hF.ev rfl) (hS.cellL (i := 3) rfl rfl) | exact rd_load pl4 (hF.ev rfl) (hS.cellL (i := 4) rfl rfl) | exact rd_load pl4 (hF.ev rfl) (hS.cellL (i := 5) rfl rfl) | exact rd_load pl4 (hF.ev rfl) (hS.cell (i := 0) rfl (by assumption)) | exact rd_load pl4 (hF.ev rfl) (hS.cell (i := 1) rfl (by assumption)) | exact rd_load pl4 (hF.ev rfl) (hS.cell (i := 2) rfl (by assumption)) | exact rd_load pl4 (hF.ev rfl) (hS.cell (i := 3) rfl (by assumption)) | exact rd_load pl4 (hF.ev rfl) (hS.cell (i := 4) rfl (by assumption)) | exact rd_load pl4 (hF.ev rfl) (hS.cell (i := 5) rfl (by assumption)) | exact rd_load pl4 (hF.ev rfl) (row_at (i := 0) hS rfl (by first | assumption | rfl)) | exact rd_load pl4 (hF.ev rfl) (row_at0 (i := 0) hS rfl (by first | assumption | rfl)) | exact rd_load pl4 (hF.ev rfl) (row_at (i := 1) hS rfl (by first | assumption | rfl)) | exact rd_load pl4 (hF.ev rfl) (row_at0 (i := 1) hS rfl (by first | assumption | rfl)) | exact rd_load pl4 (hF.ev rfl) (row_at (i := 2) hS rfl (by first | assumption | rfl)) | exact rd_load pl4 (hF.ev rfl) (row_at0 (i := 2) hS rfl (by first | assumption | rfl)) | exact rd_load pl4 (hF.ev rfl) (row_at (i := 3) hS rfl (by first | assumption | rfl)) | exact rd_load pl4 (hF.ev rfl) (row_at0 (i := 3) hS rfl (by first | assumption | rfl)) | exact rd_load pl4 (hF.ev rfl) (row_at (i := 4) hS rfl (by first | assumption | rfl)) | exact rd_load pl4 (hF.ev rfl) (row_at0 (i := 4) hS rfl (by first | assumption | rfl)) | exact rd_load pl4 (hF.ev rfl) (row_at (i := 5) hS rfl (by first | assumption | rfl)) | exact rd_load pl4 (hF.ev rfl) (row_at0 (i := 5) hS rfl (by first | assumption | rfl)))) ?_; clear hF; intro a hF
            refine d_pu hD hF rfl rfl rfl rfl rfl (pu_not (hF.ev rfl)) ?_; clear hF; intro a hF
            refine d_pu hD hF rfl rfl rfl rfl rfl (pu_move (hF.ev rfl)) ?_; clear hF; intro a hF
            refine d_pu hD hF rfl rfl rfl rfl rfl (pu_move (hF.ev rfl)) ?_; clear hF; intro a hF
            refine d_pu hD hF rfl rfl rfl rfl rfl (pu_move (hF.ev rfl)) ?_; clear hF; intro a hF
            refine d_pu hD hF rfl rfl rfl rfl rfl ((by first | exact pu_elem sl22 (hF.ev rfl) (hF.ev rfl) (by first | omega | simp) (by first | omega | (simp; done) | (simp; omega)) | exact pu_elemA sl22 (hF.ev rfl) (hF.ev rfl) (by omega) (by omega))) ?_; clear hF; intro a hF
            refine d_rd hD hF rfl rfl rfl rfl rfl hS (fun w hS => (by first | exact rd_load pl3 (hF.ev rfl) (by assumption) | exact rd_load pl3 (hF.ev rfl) (hS.cellL (i := 0) rfl rfl) | exact rd_load pl3 (hF.ev rfl) (hS.cellL (i := 1) rfl rfl) | exact rd_load pl3 (hF.ev rfl) (hS.cellL (i := 2) rfl rfl) | exact rd_load pl3 (hF.ev rfl) (hS.cellL (i := 3) rfl rfl) | exact rd_load pl3 (hF.ev rfl) (hS.cellL (i := 4) rfl rfl) | exact rd_load pl3 (hF.ev rfl) (hS.cellL (i := 5) rfl rfl) | exact rd_load pl3 (hF.ev rfl) (hS.cell (i := 0) rfl (by assumption)) | exact rd_load pl3 (hF.ev rfl) (hS.cell (i := 1) rfl (by assumption)) | exact rd_load pl3 (hF.ev rfl) (hS.cell (i := 2) rfl (by assumption)) | exact rd_load pl3 (hF.ev rfl) (hS.cell (i := 3) rfl (by assumption)) | exact rd_load pl3 (hF.ev rfl) (hS.cell (i := 4) rfl (by assumption)) | exact rd_load pl3 (hF.ev rfl) (hS.cell (i := 5) rfl (by assumption)) | exact rd_load pl3 (hF.ev rfl) (row_at (i := 0) hS rfl (by first | assumption | rfl)) | exact rd_load pl3 (hF.ev rfl) (row_at0 (i := 0) hS rfl (by first | assumption | rfl)) | exact rd_load pl3 (hF.ev rfl) (row_at (i := 1) hS rfl (by first | assumption | rfl)) | exact rd_load pl3 (hF.ev rfl) (row_at0 (i := 1) hS rfl (by first | assumption | rfl)) | exact rd_load pl3 (hF.ev rfl) (row_at (i := 2) hS rfl (by first | assumption | rfl)) | exact rd_load pl3 (hF.ev rfl) (row_at0 (i := 2) hS rfl (by first | assumption | rfl)) | exact rd_load pl3 (hF.ev rfl) (row_at (i := 3) hS rfl (by first | assumption | rfl)) | exact rd_load pl3 (hF.ev rfl) (row_at0 (i := 3) hS rfl (by first | assumption | rfl)) | exact rd_load pl3 (hF.ev rfl) (row_at (i := 4) hS rfl (by first | assumption | rfl)) | exact rd_load pl3 (hF.ev rfl) (row_at0 (i := 4) hS rfl (by first | assumption | rfl)) | exact rd_load pl3 (hF.ev rfl) (row_at (i := 5) hS rfl (by first | assumption | rfl)) | exact rd_load pl3 (hF.ev rfl) (row_at0 (i := 5) hS rfl (by first | assumption | rfl)))) ?_; clear hF; intro a hF
            refine d_pu hD hF rfl rfl rfl rfl rfl (pu_move (hF.ev rfl)) ?_; clear hF; intro a hF
            refine d_en hD hF rfl rfl rfl rfl rfl (run_fn fk11 (hF.ev rfl) (hF.evs rfl)) (wNow_s hS) ?_
            clear hS; rintro e w ⟨rfl, hS⟩
            refine ⟨_, rfl, hS, ?_⟩; clear hF; intro a hF
            refine d_pu hD hF rfl rfl rfl rfl rfl (pu_leq (hF.ev rfl) (hF.ev rfl)) ?_; clear hF; intro a hF
            refine d_pu hD hF rfl rfl rfl rfl rfl ((by first | exact pu_pick_t (hF.ev rfl) (hF.ev rfl) | exact pu_pick_f (hF.ev rfl) (hF.ev rfl) | exact pu_pick (hF.ev rfl) (hF.ev rfl) (hF.ev rfl))) ?_; clear hF; intro a hF
            refine d_done hD rfl ?_; clear hD
            refine hK19 _ _ ?_; clear hK19
            refine wp_cond_split (hF.ev rfl) (fun hc8 => ?_) (fun hc8 => ?_)
            · -- cond 8 true
              try simp only [decide_eq_true_eq, decide_eq_false_iff_not, Bool.not_eq_true', Bool.not_eq_false', Int.not_lt, Int.not_le, ne_eq, Decidable.not_not, Bool.or_eq_true, Bool.or_eq_false_iff, Bool.and_eq_true, Bool.and_eq_false_imp] at hc8
              simp at hd
              have := hdue r hrm hd.1
              have := hd.2
              omega
            · -- cond 8 false
              try simp only [decide_eq_true_eq, decide_eq_false_iff_not, Bool.not_eq_true', Bool.not_eq_false', Int.not_lt, Int.not_le, ne_eq, Decidable.not_not, Bool.or_eq_true, Bool.or_eq_false_iff, Bool.and_eq_true, Bool.and_eq_false_imp] at hc8
              refine wp_skip ?_
              refine blk_normal ?_
              refine hK18 _ _ ?_; clear hK18
              -- region 25
              refine wp_region_lit ?_
              refine s_pu hF rfl rfl rfl (pu_move (hF.ev rfl)) ?_; clear hF; intro a hF
              refine s_pu hF rfl rfl rfl ((by first | exact pu_add64 (hF.ev rfl) (hF.ev rfl) (by omega) | exact pu_add (hF.ev rfl) (hF.ev rfl))) ?_; clear hF; intro a hF
              refine s_pu hF rfl rfl rfl (pu_assign (hF.ev rfl)) ?_; clear hF; intro a hF
              refine s_done ?_
              exact ⟨_, by omega, i + 1, rfl, by omega, hF.sub ⟨rfl, rfl, rfl, rfl, trivial⟩, hS⟩
          · -- dn
            rw [hd] at hrn
            -- region 26
            refine d_start (S := (fun w => Sat w0 w _)) (ds := []) (ord := [(0, .pu), (1, .pu), (2, .pu), (3, .tk), (4, .pu), (5, .pu), (6, .pu), (7, .pu), (8, .pu), (9, .tk), (10, .pu), (11, .on), (12, .pu), (13, .pu)]) mixed ⟨by kernel_rfl, fun _ d _ _ _ h => by cases d <;> exact h⟩ hS.drew fun hD => ?_
            replace hS := hS.drew; generalize w.drew = w at hS ⊢
            refine d_pu hD hF rfl rfl rfl rfl rfl (pu_move (hF.ev rfl)) ?_; clear hF; intro a hF
            refine d_pu hD hF rfl rfl rfl rfl rfl (pu_move (hF.ev rfl)) ?_; clear hF; intro a hF
            refine d_pu hD hF rfl rfl rfl rfl rfl ((by first | exact pu_elem sl29 (hF.ev rfl) (hF.ev rfl) (by first | omega | simp) (by first | omega | (simp; done) | (simp; omega)) | exact pu_elemA sl29 (hF.ev rfl) (hF.ev rfl) (by omega) (by omega))) ?_; clear hF; intro a hF
            refine d_rd hD hF rfl rfl rfl rfl rfl hS (fun w hS => (by first | exact rd_load pl4 (hF.ev rfl) (by assumption) | exact rd_load pl4 (hF.ev rfl) (hS.cellL (i := 0) rfl rfl) | exact rd_load pl4 (hF.ev rfl) (hS.cellL (i := 1) rfl rfl) | exact rd_load pl4 (hF.ev rfl) (hS.cellL (i := 2) rfl rfl) | exact rd_load pl4 (hF.ev rfl) (hS.cellL (i := 3) rfl rfl) | exact rd_load pl4 (hF.ev rfl) (hS.cellL (i := 4) rfl rfl) | exact rd_load pl4 (hF.ev rfl) (hS.cellL (i := 5) rfl rfl) | exact rd_load pl4 (hF.ev rfl) (hS.cell (i := 0) rfl (by assumption)) | exact rd_load pl4 (hF.ev rfl) (hS.cell (i := 1) rfl (by assumption)) | exact rd_load pl4 (hF.ev rfl) (hS.cell (i := 2) rfl (by assumption)) | exact rd_load pl4 (hF.ev rfl) (hS.cell (i := 3) rfl (by assumption)) | exact rd_load pl4 (hF.ev rfl) (hS.cell (i := 4) rfl (by assumption)) | exact rd_load pl4 (hF.ev rfl) (hS.cell (i := 5) rfl (by assumption)) | exact rd_load pl4 (hF.ev rfl) (row_at (i := 0) hS rfl (by first | assumption | rfl)) | exact rd_load pl4 (hF.ev rfl) (row_at0 (i := 0) hS rfl (by first | assumption | rfl)) | exact rd_load pl4 (hF.ev rfl) (row_at (i := 1) hS rfl (by first | assumption | rfl)) | exact rd_load pl4 (hF.ev rfl) (row_at0 (i := 1) hS rfl (by first | assumption | rfl)) | exact rd_load pl4 (hF.ev rfl) (row_at (i := 2) hS rfl (by first | assumption | rfl)) | exact rd_load pl4 (hF.ev rfl) (row_at0 (i := 2) hS rfl (by first | assumption | rfl)) | exact rd_load pl4 (hF.ev rfl) (row_at (i := 3) hS rfl (by first | assumption | rfl)) | exact rd_load pl4 (hF.ev rfl) (row_at0 (i := 3) hS rfl (by first | assumption | rfl)) | exact rd_load pl4 (hF.ev rfl) (row_at (i := 4) hS rfl (by first | assumption | rfl)) | exact rd_load pl4 (hF.ev rfl) (row_at0 (i := 4) hS rfl (by first | assumption | rfl)) | exact rd_load pl4 (hF.ev rfl) (row_at (i := 5) hS rfl (by first | assumption | rfl)) | exact rd_load pl4 (hF.ev rfl) (row_at0 (i := 5) hS rfl (by first | assumption | rfl)))) ?_; clear hF; intro a hF
            refine d_pu hD hF rfl rfl rfl rfl rfl (pu_not (hF.ev rfl)) ?_; clear hF; intro a hF
            refine d_pu hD hF rfl rfl rfl rfl rfl (pu_move (hF.ev rfl)) ?_; clear hF; intro a hF
            refine d_no hD hF rfl rfl rfl rfl rfl ?_; clear hF; intro a hF
            refine d_no hD hF rfl rfl rfl rfl rfl ?_; clear hF; intro a hF
            refine d_no hD hF rfl rfl rfl rfl rfl ?_; clear hF; intro a hF
            refine d_nord hD hF rfl rfl rfl rfl rfl hS ?_; clear hF; intro a hF
            refine d_no hD hF rfl rfl rfl rfl rfl ?_; clear hF; intro a hF
            refine d_noon hD hF rfl rfl rfl rfl rfl hS ?_; clear hF; intro a hF
            refine d_no hD hF rfl rfl rfl rfl rfl ?_; clear hF; intro a hF
            refine d_pu hD hF rfl rfl rfl rfl rfl ((by first | exact pu_pick_t (hF.ev rfl) (hF.ev rfl) | exact pu_pick_f (hF.ev rfl) (hF.ev rfl) | exact pu_pick (hF.ev rfl) (hF.ev rfl) (hF.ev rfl))) ?_; clear hF; intro a hF
            refine d_done hD rfl ?_; clear hD
            refine hK19 _ _ ?_; clear hK19
            refine wp_cond_false (hF.ev rfl) ?_
            refine wp_skip ?_
            refine blk_normal ?_
            refine hK18 _ _ ?_; clear hK18
            -- region 25
            refine wp_region_lit ?_
            refine s_pu hF rfl rfl rfl (pu_move (hF.ev rfl)) ?_; clear hF; intro a hF
            refine s_pu hF rfl rfl rfl ((by first | exact pu_add64 (hF.ev rfl) (hF.ev rfl) (by omega) | exact pu_add (hF.ev rfl) (hF.ev rfl))) ?_; clear hF; intro a hF
            refine s_pu hF rfl rfl rfl (pu_assign (hF.ev rfl)) ?_; clear hF; intro a hF
            refine s_done ?_
            exact ⟨_, by omega, i + 1, rfl, by omega, hF.sub ⟨rfl, rfl, rfl, rfl, trivial⟩, hS⟩
        · -- cond 7 false
          try simp only [decide_eq_true_eq, decide_eq_false_iff_not, Bool.not_eq_true', Bool.not_eq_false', Int.not_lt, Int.not_le, ne_eq, Decidable.not_not, Bool.or_eq_true, Bool.or_eq_false_iff, Bool.and_eq_true, Bool.and_eq_false_imp] at hc7
          refine wp_exit ?_
          refine then_exit ?_
          refine then_exit ?_
          refine blk_exit ?_
          refine hK14 _ _ ?_; clear hK14
          refine wp_seq_k fun K18 hK18 => ?_
          -- region 28
          refine wp_region_lit ?_
          refine s_pu hF rfl rfl rfl (pu_assign (hF.ev rfl)) ?_; clear hF; intro a hF
          refine s_done ?_
          refine hK18 _ _ ?_; clear hK18
          refine wp_ret ?_
          refine fin1 Try.results12 hF rfl ?_
          refine ⟨rfl, ?_⟩
          rw [ring_dues, ring_chunk]
          exact hS
end Go.Proofs.Ytbpkfifiigpdcaa
