import Derived.Test.YtgnepnjicmgkaaaSa4
/-! The queue: Answer, Next, All. -/
namespace Go.Proofs.Ytgnepnjicmgkaaa
open Go Go.RowKit Go.Proofs.Ytgnepnjicmgkaaa.Sk
set_option linter.unusedVariables false
set_option linter.unusedSimpArgs false
set_option maxRecDepth 100000

def Que.answers (Q : Que) (n : Int) : Bool := match Q.l[0]? with | none => false | some a => Q.under && decide (a.num = n)
theorem answer_c (k : Nat) {w0 w : World} {F : List Chunk} {g : Nat} {Q : Que} {n : Int} (hS : Sat w0 w (queueC k g Q :: F)) :
    Calls Try.prog 26 #[.pointer (some ⟨g, 0, none⟩), .int .i64 n] w fun e w' => e = .returned (.bool (Q.answers n)) ∧ Sat w0 w' (queueC k g (if Q.answers n then Q.drop else Q) :: F) := by
  obtain ⟨o, d, q, e, hs, hl, hS⟩ := queue_open hS
  refine enter Try.func26 rfl Try.ntmps26 (Nat.le_of_ble_eq_true rfl) fun a hF => ?_
  refine wp_seq_k fun K0 hK0 => ?_
  -- region 0
  refine wp_region_lit ?_
  refine s_pu hF rfl rfl rfl (pu_assign (hF.ev rfl)) ?_; clear hF; intro a hF
  refine s_done ?_
  refine hK0 _ _ ?_; clear hK0
  refine wp_seq_k fun K1 hK1 => ?_
  refine wp_seq_k fun K2 hK2 => ?_
  -- region 1
  rcases Nat.eq_zero_or_pos Q.l.length with hq | hq
  · -- em
    have hans : Q.answers n = false := by unfold Que.answers; rw [List.getElem?_eq_none (by omega)]
    -- region 1
    refine wp_region_lit ?_
    refine s_pu hF rfl rfl rfl (pu_move (hF.ev rfl)) ?_; clear hF; intro a hF
    refine s_pu hF rfl rfl rfl ((by first | exact pu_nil (hF.ev rfl) | exact pu_nilf (hF.ev rfl))) ?_; clear hF; intro a hF
    refine s_pu hF rfl rfl rfl (pu_field fd66_3 (hF.ev rfl)) ?_; clear hF; intro a hF
    refine s_rd hF rfl rfl rfl (by first | exact rd_load pl41 (hF.ev rfl) (by assumption) | exact rd_load pl41 (hF.ev rfl) (hS.cellL (i := 0) rfl rfl) | exact rd_load pl41 (hF.ev rfl) (hS.cellL (i := 1) rfl rfl) | exact rd_load pl41 (hF.ev rfl) (hS.cellL (i := 2) rfl rfl) | exact rd_load pl41 (hF.ev rfl) (hS.cellL (i := 3) rfl rfl) | exact rd_load pl41 (hF.ev rfl) (hS.cellL (i := 4) rfl rfl) | exact rd_load pl41 (hF.ev rfl) (hS.cellL (i := 5) rfl rfl) | exact rd_load pl41 (hF.ev rfl) (hS.cell (i := 0) rfl (by assumption)) | exact rd_load pl41 (hF.ev rfl) (hS.cell (i := 1) rfl (by assumption)) | exact rd_load pl41 (hF.ev rfl) (hS.cell (i := 2) rfl (by assumption)) | exact rd_load pl41 (hF.ev rfl) (hS.cell (i := 3) rfl (by assumption)) | exact rd_load pl41 (hF.ev rfl) (hS.cell (i := 4) rfl (by assumption)) | exact rd_load pl41 (hF.ev rfl) (hS.cell (i := 5) rfl (by assumption)) | exact rd_load pl41 (hF.ev rfl) (row_at (i := 0) hS rfl (by first | assumption | rfl)) | exact rd_load pl41 (hF.ev rfl) (row_at0 (i := 0) hS rfl (by first | assumption | rfl)) | exact rd_load pl41 (hF.ev rfl) (row_at (i := 1) hS rfl (by first | assumption | rfl)) | exact rd_load pl41 (hF.ev rfl) (row_at0 (i := 1) hS rfl (by first | assumption | rfl)) | exact rd_load pl41 (hF.ev rfl) (row_at (i := 2) hS rfl (by first | assumption | rfl)) | exact rd_load pl41 (hF.ev rfl) (row_at0 (i := 2) hS rfl (by first | assumption | rfl)) | exact rd_load pl41 (hF.ev rfl) (row_at (i := 3) hS rfl (by first | assumption | rfl)) | exact rd_load pl41 (hF.ev rfl) (row_at0 (i := 3) hS rfl (by first | assumption | rfl)) | exact rd_load pl41 (hF.ev rfl) (row_at (i := 4) hS rfl (by first | assumption | rfl)) | exact rd_load pl41 (hF.ev rfl) (row_at0 (i := 4) hS rfl (by first | assumption | rfl)) | exact rd_load pl41 (hF.ev rfl) (row_at (i := 5) hS rfl (by first | assumption | rfl)) | exact rd_load pl41 (hF.ev rfl) (row_at0 (i := 5) hS rfl (by first | assumption | rfl))) ?_; clear hF; intro a hF
    refine s_pu hF rfl rfl rfl (pu_len sl41 (hF.ev rfl)) ?_; clear hF; intro a hF
    refine s_pu hF rfl rfl rfl (pu_eql (hF.ev rfl) (hF.ev rfl)) ?_; clear hF; intro a hF
    refine s_pu hF rfl rfl rfl (pu_move (hF.ev rfl)) ?_; clear hF; intro a hF
    refine fr_split hF (t := 11) rfl ?_ ?_
    · clear hF; intro hg11 hF   -- slot 11 true
      try simp only [decide_eq_true_eq, decide_eq_false_iff_not, Bool.not_eq_true', Bool.not_eq_false', Int.not_lt, Int.not_le, ne_eq, Decidable.not_not, Bool.or_eq_true, Bool.or_eq_false_iff, Bool.and_eq_true, Bool.and_eq_false_imp] at hg11
      refine s_no hF rfl rfl rfl ?_; clear hF; intro a hF
      refine s_no hF rfl rfl rfl ?_; clear hF; intro a hF
      refine s_no hF rfl rfl rfl ?_; clear hF; intro a hF
      refine s_no hF rfl rfl rfl ?_; clear hF; intro a hF
      refine s_no hF rfl rfl rfl ?_; clear hF; intro a hF
      refine s_pu hF rfl rfl rfl ((by first | exact pu_pick_t (hF.ev rfl) (hF.ev rfl) | exact pu_pick_f (hF.ev rfl) (hF.ev rfl) | exact pu_pick (hF.ev rfl) (hF.ev rfl) (hF.ev rfl))) ?_; clear hF; intro a hF
      refine s_pu hF rfl rfl rfl (pu_move (hF.ev rfl)) ?_; clear hF; intro a hF
      refine s_no hF rfl rfl rfl ?_; clear hF; intro a hF
      refine s_no hF rfl rfl rfl ?_; clear hF; intro a hF
      refine s_no hF rfl rfl rfl ?_; clear hF; intro a hF
      refine s_no hF rfl rfl rfl ?_; clear hF; intro a hF
      refine s_no hF rfl rfl rfl ?_; clear hF; intro a hF
      refine s_no hF rfl rfl rfl ?_; clear hF; intro a hF
      refine s_no hF rfl rfl rfl ?_; clear hF; intro a hF
      refine s_no hF rfl rfl rfl ?_; clear hF; intro a hF
      refine s_no hF rfl rfl rfl ?_; clear hF; intro a hF
      refine s_pu hF rfl rfl rfl ((by first | exact pu_pick_t (hF.ev rfl) (hF.ev rfl) | exact pu_pick_f (hF.ev rfl) (hF.ev rfl) | exact pu_pick (hF.ev rfl) (hF.ev rfl) (hF.ev rfl))) ?_; clear hF; intro a hF
      refine s_done ?_
      refine hK2 _ _ ?_; clear hK2
      refine wp_cond_true (hF.ev rfl) ?_
      refine wp_seq_k fun K3 hK3 => ?_
      -- region 2
      refine wp_region_lit ?_
      refine s_pu hF rfl rfl rfl (pu_assign (hF.ev rfl)) ?_; clear hF; intro a hF
      refine s_done ?_
      refine hK3 _ _ ?_; clear hK3
      refine wp_ret ?_
      refine then_ret ?_
      refine fin1 Try.results26 hF rfl ?_
      rw [hans]
      exact ⟨rfl, queue_open0.2 ⟨_, _, hs, hl, hS⟩⟩
    · clear hF; intro hg11 hF   -- slot 11 false
      try simp only [decide_eq_true_eq, decide_eq_false_iff_not, Bool.not_eq_true', Bool.not_eq_false', Int.not_lt, Int.not_le, ne_eq, Decidable.not_not, Bool.or_eq_true, Bool.or_eq_false_iff, Bool.and_eq_true, Bool.and_eq_false_imp] at hg11
      omega
  · -- ne
    obtain ⟨ad, had⟩ : ∃ ad, Q.l[0]? = some ad := ⟨Q.l[0], List.getElem?_eq_getElem hq⟩
    obtain ⟨p, hp⟩ : ∃ p, hs[0]? = some p := ⟨hs[0]'(by omega), List.getElem?_eq_getElem _⟩
    obtain ⟨gh, rfl⟩ := row_some (i := 1) hS rfl hq
    have hnum := row_load (i := 1) (k := 0) hS rfl hq (advCells_at had hp) 1 _ rfl
    have hans : Q.answers n = (Q.under && decide (ad.num = n)) := by unfold Que.answers; rw [had]
    -- region 1
    refine wp_region_lit ?_
    refine s_pu hF rfl rfl rfl (pu_move (hF.ev rfl)) ?_; clear hF; intro a hF
    refine s_pu hF rfl rfl rfl ((by first | exact pu_nil (hF.ev rfl) | exact pu_nilf (hF.ev rfl))) ?_; clear hF; intro a hF
    refine s_pu hF rfl rfl rfl (pu_field fd66_3 (hF.ev rfl)) ?_; clear hF; intro a hF
    refine s_rd hF rfl rfl rfl (by first | exact rd_load pl41 (hF.ev rfl) (by assumption) | exact rd_load pl41 (hF.ev rfl) (hS.cellL (i := 0) rfl rfl) | exact rd_load pl41 (hF.ev rfl) (hS.cellL (i := 1) rfl rfl) | exact rd_load pl41 (hF.ev rfl) (hS.cellL (i := 2) rfl rfl) | exact rd_load pl41 (hF.ev rfl) (hS.cellL (i := 3) rfl rfl) | exact rd_load pl41 (hF.ev rfl) (hS.cellL (i := 4) rfl rfl) | exact rd_load pl41 (hF.ev rfl) (hS.cellL (i := 5) rfl rfl) | exact rd_load pl41 (hF.ev rfl) (hS.cell (i := 0) rfl (by assumption)) | exact rd_load pl41 (hF.ev rfl) (hS.cell (i := 1) rfl (by assumption)) | exact rd_load pl41 (hF.ev rfl) (hS.cell (i := 2) rfl (by assumption)) | exact rd_load pl41 (hF.ev rfl) (hS.cell (i := 3) rfl (by assumption)) | exact rd_load pl41 (hF.ev rfl) (hS.cell (i := 4) rfl (by assumption)) | exact rd_load pl41 (hF.ev rfl) (hS.cell (i := 5) rfl (by assumption)) | exact rd_load pl41 (hF.ev rfl) (row_at (i := 0) hS rfl (by first | assumption | rfl)) | exact rd_load pl41 (hF.ev rfl) (row_at0 (i := 0) hS rfl (by first | assumption | rfl)) | exact rd_load pl41 (hF.ev rfl) (row_at (i := 1) hS rfl (by first | assumption | rfl)) | exact rd_load pl41 (hF.ev rfl) (row_at0 (i := 1) hS rfl (by first | assumption | rfl)) | exact rd_load pl41 (hF.ev rfl) (row_at (i := 2) hS rfl (by first | assumption | rfl)) | exact rd_load pl41 (hF.ev rfl) (row_at0 (i := 2) hS rfl (by first | assumption | rfl)) | exact rd_load pl41 (hF.ev rfl) (row_at (i := 3) hS rfl (by first | assumption | rfl)) | exact rd_load pl41 (hF.ev rfl) (row_at0 (i := 3) hS rfl (by first | assumption | rfl)) | exact rd_load pl41 (hF.ev rfl) (row_at (i := 4) hS rfl (by first | assumption | rfl)) | exact rd_load pl41 (hF.ev rfl) (row_at0 (i := 4) hS rfl (by first | assumption | rfl)) | exact rd_load pl41 (hF.ev rfl) (row_at (i := 5) hS rfl (by first | assumption | rfl)) | exact rd_load pl41 (hF.ev rfl) (row_at0 (i := 5) hS rfl (by first | assumption | rfl))) ?_; clear hF; intro a hF
    refine s_pu hF rfl rfl rfl (pu_len sl41 (hF.ev rfl)) ?_; clear hF; intro a hF
    refine s_pu hF rfl rfl rfl (pu_eql (hF.ev rfl) (hF.ev rfl)) ?_; clear hF; intro a hF
    refine s_pu hF rfl rfl rfl (pu_move (hF.ev rfl)) ?_; clear hF; intro a hF
    refine fr_split hF (t := 11) rfl ?_ ?_
    · clear hF; intro hg11 hF   -- slot 11 true
      try simp only [decide_eq_true_eq, decide_eq_false_iff_not, Bool.not_eq_true', Bool.not_eq_false', Int.not_lt, Int.not_le, ne_eq, Decidable.not_not, Bool.or_eq_true, Bool.or_eq_false_iff, Bool.and_eq_true, Bool.and_eq_false_imp] at hg11
      omega
    · clear hF; intro hg11 hF   -- slot 11 false
      try simp only [decide_eq_true_eq, decide_eq_false_iff_not, Bool.not_eq_true', Bool.not_eq_false', Int.not_lt, Int.not_le, ne_eq, Decidable.not_not, Bool.or_eq_true, Bool.or_eq_false_iff, Bool.and_eq_true, Bool.and_eq_false_imp] at hg11
      refine s_pu hF rfl rfl rfl (pu_move (hF.ev rfl)) ?_; clear hF; intro a hF
      refine s_pu hF rfl rfl rfl ((by first | exact pu_nil (hF.ev rfl) | exact pu_nilf (hF.ev rfl))) ?_; clear hF; intro a hF
      refine s_pu hF rfl rfl rfl (pu_field fd66_5 (hF.ev rfl)) ?_; clear hF; intro a hF
      refine s_rd hF rfl rfl rfl (by first | exact rd_load pl4 (hF.ev rfl) (by assumption) | exact rd_load pl4 (hF.ev rfl) (hS.cellL (i := 0) rfl rfl) | exact rd_load pl4 (hF.ev rfl) (hS.cellL (i := 1) rfl rfl) | exact rd_load pl4 (hF.ev rfl) (hS.cellL (i := 2) rfl rfl) | exact rd_load pl4 (hF.ev rfl) (hS.cellL (i := 3) rfl rfl) | exact rd_load pl4 (hF.ev rfl) (hS.cellL (i := 4) rfl rfl) | exact rd_load pl4 (hF.ev rfl) (hS.cellL (i := 5) rfl rfl) | exact rd_load pl4 (hF.ev rfl) (hS.cell (i := 0) rfl (by assumption)) | exact rd_load pl4 (hF.ev rfl) (hS.cell (i := 1) rfl (by assumption)) | exact rd_load pl4 (hF.ev rfl) (hS.cell (i := 2) rfl (by assumption)) | exact rd_load pl4 (hF.ev rfl) (hS.cell (i := 3) rfl (by assumption)) | exact rd_load pl4 (hF.ev rfl) (hS.cell (i := 4) rfl (by assumption)) | exact rd_load pl4 (hF.ev rfl) (hS.cell (i := 5) rfl (by assumption)) | exact rd_load pl4 (hF.ev rfl) (row_at (i := 0) hS rfl (by first | assumption | rfl)) | exact rd_load pl4 (hF.ev rfl) (row_at0 (i := 0) hS rfl (by first | assumption | rfl)) | exact rd_load pl4 (hF.ev rfl) (row_at (i := 1) hS rfl (by first | assumption | rfl)) | exact rd_load pl4 (hF.ev rfl) (row_at0 (i := 1) hS rfl (by first | assumption | rfl)) | exact rd_load pl4 (hF.ev rfl) (row_at (i := 2) hS rfl (by first | assumption | rfl)) | exact rd_load pl4 (hF.ev rfl) (row_at0 (i := 2) hS rfl (by first | assumption | rfl)) | exact rd_load pl4 (hF.ev rfl) (row_at (i := 3) hS rfl (by first | assumption | rfl)) | exact rd_load pl4 (hF.ev rfl) (row_at0 (i := 3) hS rfl (by first | assumption | rfl)) | exact rd_load pl4 (hF.ev rfl) (row_at (i := 4) hS rfl (by first | assumption | rfl)) | exact rd_load pl4 (hF.ev rfl) (row_at0 (i := 4) hS rfl (by first | assumption | rfl)) | exact rd_load pl4 (hF.ev rfl) (row_at (i := 5) hS rfl (by first | assumption | rfl)) | exact rd_load pl4 (hF.ev rfl) (row_at0 (i := 5) hS rfl (by first | assumption | rfl))) ?_; clear hF; intro a hF
      refine s_pu hF rfl rfl rfl (pu_not (hF.ev rfl)) ?_; clear hF; intro a hF
      refine s_pu hF rfl rfl rfl ((by first | exact pu_pick_t (hF.ev rfl) (hF.ev rfl) | exact pu_pick_f (hF.ev rfl) (hF.ev rfl) | exact pu_pick (hF.ev rfl) (hF.ev rfl) (hF.ev rfl))) ?_; clear hF; intro a hF
      refine s_pu hF rfl rfl rfl (pu_move (hF.ev rfl)) ?_; clear hF; intro a hF
      refine fr_split hF (t := 18) rfl ?_ ?_
      · clear hF; intro hg18 hF   -- slot 18 true
        try simp only [decide_eq_true_eq, decide_eq_false_iff_not, Bool.not_eq_true', Bool.not_eq_false', Int.not_lt, Int.not_le, ne_eq, Decidable.not_not, Bool.or_eq_true, Bool.or_eq_false_iff, Bool.and_eq_true, Bool.and_eq_false_imp] at hg18
        refine s_no hF rfl rfl rfl ?_; clear hF; intro a hF
        refine s_no hF rfl rfl rfl ?_; clear hF; intro a hF
        refine s_no hF rfl rfl rfl ?_; clear hF; intro a hF
        refine s_no hF rfl rfl rfl ?_; clear hF; intro a hF
        refine s_no hF rfl rfl rfl ?_; clear hF; intro a hF
        refine s_no hF rfl rfl rfl ?_; clear hF; intro a hF
        refine s_no hF rfl rfl rfl ?_; clear hF; intro a hF
        refine s_no hF rfl rfl rfl ?_; clear hF; intro a hF
        refine s_no hF rfl rfl rfl ?_; clear hF; intro a hF
        refine s_pu hF rfl rfl rfl ((by first | exact pu_pick_t (hF.ev rfl) (hF.ev rfl) | exact pu_pick_f (hF.ev rfl) (hF.ev rfl) | exact pu_pick (hF.ev rfl) (hF.ev rfl) (hF.ev rfl))) ?_; clear hF; intro a hF
        refine s_done ?_
        refine hK2 _ _ ?_; clear hK2
        refine wp_cond_true (hF.ev rfl) ?_
        refine wp_seq_k fun K3 hK3 => ?_
        -- region 2
        refine wp_region_lit ?_
        refine s_pu hF rfl rfl rfl (pu_assign (hF.ev rfl)) ?_; clear hF; intro a hF
        refine s_done ?_
        refine hK3 _ _ ?_; clear hK3
        refine wp_ret ?_
        refine then_ret ?_
        refine fin1 Try.results26 hF rfl ?_
        rw [hans, hg18]
        exact ⟨rfl, queue_open0.2 ⟨_, _, hs, hl, hS⟩⟩
      · clear hF; intro hg18 hF   -- slot 18 false
        try simp only [decide_eq_true_eq, decide_eq_false_iff_not, Bool.not_eq_true', Bool.not_eq_false', Int.not_lt, Int.not_le, ne_eq, Decidable.not_not, Bool.or_eq_true, Bool.or_eq_false_iff, Bool.and_eq_true, Bool.and_eq_false_imp] at hg18
        refine s_pu hF rfl rfl rfl (pu_move (hF.ev rfl)) ?_; clear hF; intro a hF
        refine s_pu hF rfl rfl rfl ((by first | exact pu_nil (hF.ev rfl) | exact pu_nilf (hF.ev rfl))) ?_; clear hF; intro a hF
        refine s_pu hF rfl rfl rfl (pu_field fd66_3 (hF.ev rfl)) ?_; clear hF; intro a hF
        refine s_rd hF rfl rfl rfl (by first | exact rd_load pl41 (hF.ev rfl) (by assumption) | exact rd_load pl41 (hF.ev rfl) (hS.cellL (i := 0) rfl rfl) | exact rd_load pl41 (hF.ev rfl) (hS.cellL (i := 1) rfl rfl) | exact rd_load pl41 (hF.ev rfl) (hS.cellL (i := 2) rfl rfl) | exact rd_load pl41 (hF.ev rfl) (hS.cellL (i := 3) rfl rfl) | exact rd_load pl41 (hF.ev rfl) (hS.cellL (i := 4) rfl rfl) | exact rd_load pl41 (hF.ev rfl) (hS.cellL (i := 5) rfl rfl) | exact rd_load pl41 (hF.ev rfl) (hS.cell (i := 0) rfl (by assumption)) | exact rd_load pl41 (hF.ev rfl) (hS.cell (i := 1) rfl (by assumption)) | exact rd_load pl41 (hF.ev rfl) (hS.cell (i := 2) rfl (by assumption)) | exact rd_load pl41 (hF.ev rfl) (hS.cell (i := 3) rfl (by assumption)) | exact rd_load pl41 (hF.ev rfl) (hS.cell (i := 4) rfl (by assumption)) | exact rd_load pl41 (hF.ev rfl) (hS.cell (i := 5) rfl (by assumption)) | exact rd_load pl41 (hF.ev rfl) (row_at (i := 0) hS rfl (by first | assumption | rfl)) | exact rd_load pl41 (hF.ev rfl) (row_at0 (i := 0) hS rfl (by first | assumption | rfl)) | exact rd_load pl41 (hF.ev rfl) (row_at (i := 1) hS rfl (by first | assumption | rfl)) | exact rd_load pl41 (hF.ev rfl) (row_at0 (i := 1) hS rfl (by first | assumption | rfl)) | exact rd_load pl41 (hF.ev rfl) (row_at (i := 2) hS rfl (by first | assumption | rfl)) | exact rd_load pl41 (hF.ev rfl) (row_at0 (i := 2) hS rfl (by first | assumption | rfl)) | exact rd_load pl41 (hF.ev rfl) (row_at (i := 3) hS rfl (by first | assumption | rfl)) | exact rd_load pl41 (hF.ev rfl) (row_at0 (i := 3) hS rfl (by first | assumption | rfl)) | exact rd_load pl41 (hF.ev rfl) (row_at (i := 4) hS rfl (by first | assumption | rfl)) | exact rd_load pl41 (hF.ev rfl) (row_at0 (i := 4) hS rfl (by first | assumption | rfl)) | exact rd_load pl41 (hF.ev rfl) (row_at (i := 5) hS rfl (by first | assumption | rfl)) | exact rd_load pl41 (hF.ev rfl) (row_at0 (i := 5) hS rfl (by first | assumption | rfl))) ?_; clear hF; intro a hF
        refine s_pu hF rfl rfl rfl ((by first | exact pu_elem sl41 (hF.ev rfl) (hF.ev rfl) (by first | omega | simp) (by first | omega | (simp; done) | (simp; omega)) | exact pu_elemA sl41 (hF.ev rfl) (hF.ev rfl) (by omega) (by omega))) ?_; clear hF; intro a hF
        refine s_pu hF rfl rfl rfl (pu_field fd33_1 (hF.ev rfl)) ?_; clear hF; intro a hF
        refine s_rd hF rfl rfl rfl (by first | exact rd_load pl3 (hF.ev rfl) (by assumption) | exact rd_load pl3 (hF.ev rfl) (hS.cellL (i := 0) rfl rfl) | exact rd_load pl3 (hF.ev rfl) (hS.cellL (i := 1) rfl rfl) | exact rd_load pl3 (hF.ev rfl) (hS.cellL (i := 2) rfl rfl) | exact rd_load pl3 (hF.ev rfl) (hS.cellL (i := 3) rfl rfl) | exact rd_load pl3 (hF.ev rfl) (hS.cellL (i := 4) rfl rfl) | exact rd_load pl3 (hF.ev rfl) (hS.cellL (i := 5) rfl rfl) | exact rd_load pl3 (hF.ev rfl) (hS.cell (i := 0) rfl (by assumption)) | exact rd_load pl3 (hF.ev rfl) (hS.cell (i := 1) rfl (by assumption)) | exact rd_load pl3 (hF.ev rfl) (hS.cell (i := 2) rfl (by assumption)) | exact rd_load pl3 (hF.ev rfl) (hS.cell (i := 3) rfl (by assumption)) | exact rd_load pl3 (hF.ev rfl) (hS.cell (i := 4) rfl (by assumption)) | exact rd_load pl3 (hF.ev rfl) (hS.cell (i := 5) rfl (by assumption)) | exact rd_load pl3 (hF.ev rfl) (row_at (i := 0) hS rfl (by first | assumption | rfl)) | exact rd_load pl3 (hF.ev rfl) (row_at0 (i := 0) hS rfl (by first | assumption | rfl)) | exact rd_load pl3 (hF.ev rfl) (row_at (i := 1) hS rfl (by first | assumption | rfl)) | exact rd_load pl3 (hF.ev rfl) (row_at0 (i := 1) hS rfl (by first | assumption | rfl)) | exact rd_load pl3 (hF.ev rfl) (row_at (i := 2) hS rfl (by first | assumption | rfl)) | exact rd_load pl3 (hF.ev rfl) (row_at0 (i := 2) hS rfl (by first | assumption | rfl)) | exact rd_load pl3 (hF.ev rfl) (row_at (i := 3) hS rfl (by first | assumption | rfl)) | exact rd_load pl3 (hF.ev rfl) (row_at0 (i := 3) hS rfl (by first | assumption | rfl)) | exact rd_load pl3 (hF.ev rfl) (row_at (i := 4) hS rfl (by first | assumption | rfl)) | exact rd_load pl3 (hF.ev rfl) (row_at0 (i := 4) hS rfl (by first | assumption | rfl)) | exact rd_load pl3 (hF.ev rfl) (row_at (i := 5) hS rfl (by first | assumption | rfl)) | exact rd_load pl3 (hF.ev rfl) (row_at0 (i := 5) hS rfl (by first | assumption | rfl))) ?_; clear hF; intro a hF
        refine s_pu hF rfl rfl rfl (pu_move (hF.ev rfl)) ?_; clear hF; intro a hF
        refine s_pu hF rfl rfl rfl (pu_neq (hF.ev rfl) (hF.ev rfl)) ?_; clear hF; intro a hF
        refine s_pu hF rfl rfl rfl ((by first | exact pu_pick_t (hF.ev rfl) (hF.ev rfl) | exact pu_pick_f (hF.ev rfl) (hF.ev rfl) | exact pu_pick (hF.ev rfl) (hF.ev rfl) (hF.ev rfl))) ?_; clear hF; intro a hF
        refine s_done ?_
        refine hK2 _ _ ?_; clear hK2
        refine wp_cond_split (hF.ev rfl) (fun hc0 => ?_) (fun hc0 => ?_)
        · -- cond 0 true
          try simp only [decide_eq_true_eq, decide_eq_false_iff_not, Bool.not_eq_true', Bool.not_eq_false', Int.not_lt, Int.not_le, ne_eq, Decidable.not_not, Bool.or_eq_true, Bool.or_eq_false_iff, Bool.and_eq_true, Bool.and_eq_false_imp] at hc0
          refine wp_seq_k fun K3 hK3 => ?_
          -- region 2
          refine wp_region_lit ?_
          refine s_pu hF rfl rfl rfl (pu_assign (hF.ev rfl)) ?_; clear hF; intro a hF
          refine s_done ?_
          refine hK3 _ _ ?_; clear hK3
          refine wp_ret ?_
          refine then_ret ?_
          refine fin1 Try.results26 hF rfl ?_
          rw [hans, hg18, decide_eq_false hc0]
          exact ⟨rfl, queue_open0.2 ⟨_, _, hs, hl, hS⟩⟩
        · -- cond 0 false
          try simp only [decide_eq_true_eq, decide_eq_false_iff_not, Bool.not_eq_true', Bool.not_eq_false', Int.not_lt, Int.not_le, ne_eq, Decidable.not_not, Bool.or_eq_true, Bool.or_eq_false_iff, Bool.and_eq_true, Bool.and_eq_false_imp] at hc0
          refine wp_skip ?_
          refine hK1 _ _ ?_; clear hK1
          refine wp_seq_k fun K3 hK3 => ?_
          -- region 3
          refine wp_region_lit ?_
          refine s_pu hF rfl rfl rfl (pu_move (hF.ev rfl)) ?_; clear hF; intro a hF
          refine s_en hF rfl rfl rfl (run_fn fk30 (hF.ev rfl) (hF.evs rfl)) (drop_c k (queue_open0.2 ⟨_, _, hs, hl, hS⟩) hq) ?_
          clear hS; rintro e w ⟨rfl, hS⟩
          refine ⟨_, rfl, ?_⟩; clear hF; intro a hF
          refine s_done ?_
          refine hK3 _ _ ?_; clear hK3
          refine wp_seq_k fun K4 hK4 => ?_
          -- region 4
          refine wp_region_lit ?_
          refine s_pu hF rfl rfl rfl (pu_assign (hF.ev rfl)) ?_; clear hF; intro a hF
          refine s_done ?_
          refine hK4 _ _ ?_; clear hK4
          refine wp_ret ?_
          refine fin1 Try.results26 hF rfl ?_
          rw [hans, hg18, decide_eq_true hc0]
          exact ⟨rfl, hS⟩
end Go.Proofs.Ytgnepnjicmgkaaa
