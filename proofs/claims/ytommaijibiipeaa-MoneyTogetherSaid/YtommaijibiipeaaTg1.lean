import Derived.Test.YtommaijibiipeaaFa1
import Derived.Test.YtommaijibiipeaaSk25
/-! MoneyTogether: the walk (Sk24). -/
namespace Go.Proofs.Ytommaijibiipeaa
open Go Go.RowKit Go.Proofs.Ytommaijibiipeaa.Sk
set_option linter.unusedVariables false
set_option linter.unusedSimpArgs false
set_option maxRecDepth 100000

theorem sum_small {l : List Int} (h : ∀ z ∈ l, 0 ≤ z ∧ z ≤ 1999999999) (hl : l.length ≤ 100) : 0 ≤ total l ∧ total l ≤ 200000000000 ∧ sumOf l = (total l, 0) := by
  have h1 := total_nn (l := l) fun z hz => (h z hz).1
  have h2 := total_bd (l := l) (b := 1999999999) fun z hz => (h z hz).2
  have h3 : total l ≤ 200000000000 := by omega
  refine ⟨h1, h3, ?_⟩
  unfold sumOf
  rw [if_pos (List.all_eq_true.2 fun z hz => amt_iff.2 (by have := h z hz; omega)), if_neg (by omega)]
theorem sum_over {l : List Int} (h : ∀ z ∈ l, 0 ≤ z ∧ z ≤ 1999999999) : sumOf (l ++ [999999999999, 1]) = (0, 13) := by
  have h1 := total_nn (l := l) fun z hz => (h z hz).1
  unfold sumOf
  rw [if_pos, total_app, show total [999999999999, 1] = 1000000000000 by decide, if_pos (by omega)]
  refine List.all_eq_true.2 fun z hz => amt_iff.2 ?_
  rcases List.mem_append.1 hz with hz | hz
  · have := h z hz; omega
  · simp at hz; omega
theorem sum_bad {l : List Int} : sumOf (l ++ [-1]) = (0, 71) := by
  unfold sumOf
  rw [if_neg (by simp [show amt (-1) = false by decide])]
theorem back_step {ls : List Int} {n : Nat} (h : n < ls.length) : ls.reverse.take n ++ [ls.getD (ls.length - 1 - n) 0] = ls.reverse.take (n + 1) := by
  rw [List.take_add_one, List.getElem?_reverse h, List.getElem?_eq_getElem (by omega), List.getD_eq_getElem?_getD, List.getElem?_eq_getElem (by omega)]
  rfl
theorem reads_take {w0 : World} {F : List Chunk} {A : Option Addr} {c i k : Nat} {ls : List Int} (hi : nth F i = some (rowC 3 1 (.slice A ls.length c) ls.length (ints ls))) (hA : ls.length ≠ 0 → ∃ g, A = some ⟨g, 0, none⟩) (hk : k ≤ ls.length) : Reads w0 F A k (ls.take k) :=
  .of_row i hi (fun j hj => by
    have h : j < ls.length := by omega
    simp [ints, List.getD_eq_getElem?_getD, hj, h]) (by simp; omega) (fun h => hA (by omega))
theorem row_cap {w0 w : World} {F : List Chunk} {E n c i : Nat} {A : Option Addr} {xs : List Value} (hS : Sat w0 w F) (hi : nth F i = some (rowC E 1 (.slice A n c) n xs)) : n ≤ c := by
  obtain ⟨_, _, e, h, _⟩ := row_val (hS.front i hi)
  injection e with _ _ e
  omega
theorem share_bad1 {u : Int} {zs : List Int} (hu : amt u = true) (h : ¬ (zs.all wOk = true ∧ zs.length ≤ 100 ∧ total zs ≠ 0)) : shErr u zs = 1 := by
  unfold shErr
  rw [if_pos hu, if_neg h]
set_option maxHeartbeats 1000000 in
theorem moneyTogether_walk (W : World) (a0 : Option Addr) (l0 q0 : Nat) (z0 : List Int) (h0 : IsRow .i64 W a0 l0 q0 z0) (hl0 : l0 * 8 ≤ 140737488351232) (x1 : Int) (hx1 : (Lit.int .i64 x1).wf = true) (x2 : Int) (hx2 : (Lit.int .i64 x2).wf = true) :
    Calls Try.prog 6 #[.slice a0 l0 q0, .int .i64 x1, .int .i64 x2] W fun e w' => e = .returned (.bool true) ∧ Below W.heap.size W w' := by
  have hx1 := wf64 hx1
  have hx2 := wf64 hx2
  have hz0 := h0.ints
  have hS0 := sat_whole W
  obtain ⟨w, hw⟩ : ∃ w, w = W := ⟨_, rfl⟩
  have hS : Sat W w [whole W] := by rw [hw]; exact hS0
  rw [show Calls Try.prog 6 #[.slice a0 l0 q0, .int .i64 x1, .int .i64 x2] W = Calls Try.prog 6 #[.slice a0 l0 q0, .int .i64 x1, .int .i64 x2] w by rw [hw]]
  clear hw hS0
  refine enter Try.func6 rfl Try.ntmps6 (Nat.le_of_ble_eq_true rfl) fun a hF => ?_
  refine wp_seq_k fun K0 hK0 => ?_
  -- region 0
  refine wp_region_lit ?_
  refine s_pu hF rfl rfl rfl (pu_assign (hF.ev rfl)) ?_; clear hF; intro a hF
  refine s_done ?_
  refine hK0 _ _ ?_; clear hK0
  refine wp_seq_k fun K1 hK1 => ?_
  -- region 1
  refine wp_region_lit ?_
  refine s_pu hF rfl rfl rfl (pu_assign (hF.ev rfl)) ?_; clear hF; intro a hF
  refine s_done ?_
  refine hK1 _ _ ?_; clear hK1
  refine wp_seq_k fun K2 hK2 => ?_
  -- region 2
  refine wp_region_lit ?_
  refine s_pu hF rfl rfl rfl (pu_assign (hF.ev rfl)) ?_; clear hF; intro a hF
  refine s_done ?_
  refine hK2 _ _ ?_; clear hK2
  refine wp_seq_j (fun a w => ∃ (ls : List Int) (A : Option Addr) (c : Nat), ls.length ≤ 100 ∧ (∀ z ∈ ls, 0 ≤ z ∧ z ≤ 1999999999) ∧ Fr a 173 [(1, .int .i64 x1), (2, .int .i64 x2), (7, .slice A ls.length c), (8, .slice none 0 0)] ∧
    Sat W w [rowC 3 1 (.slice A ls.length c) ls.length (ints ls), whole W]) ?_ ?_
  · -- up to the join s3
    refine wp_seq_k fun K4 hK4 => ?_
    -- region 3
    refine wp_region_lit ?_
    refine s_pu hF rfl rfl rfl (pu_assign (hF.ev rfl)) ?_; clear hF; intro a hF
    refine s_done ?_
    refine hK4 _ _ ?_; clear hK4
    refine wp_block ?_
    replace hS := row_nil (E := 3) (sz := 1) hS
    refine wp_ind (fun j a w => ∃ (ls : List Int) (A : Option Addr) (c : Nat), j = l0 - ls.length ∧ ls.length ≤ l0 ∧ ls.length ≤ 100 ∧ (∀ z ∈ ls, 0 ≤ z ∧ z ≤ 1999999999) ∧
      Fr a 173 [(0, .slice a0 l0 q0), (1, .int .i64 x1), (2, .int .i64 x2), (7, .slice A ls.length c), (8, .slice none 0 0), (9, .int .i64 ls.length)] ∧ Sat W w [rowC 3 1 (.slice A ls.length c) ls.length (ints ls), whole W]) l0
      ⟨[], none, 0, rfl, by simp, by simp, by simp, hF.sub ⟨rfl, rfl, rfl, rfl, rfl, rfl, trivial⟩, hS⟩ ?_
    clear hS hF
    rintro j a w ⟨ls, A, c, rfl, hll, hl100, hlb, hF, hS⟩
    refine wp_seq_k fun K5 hK5 => ?_
    refine wp_seq_k fun K6 hK6 => ?_
    -- region 4
    refine wp_region_lit ?_
    refine s_pu hF rfl rfl rfl (pu_move (hF.ev rfl)) ?_; clear hF; intro a hF
    refine s_pu hF rfl rfl rfl (pu_move (hF.ev rfl)) ?_; clear hF; intro a hF
    refine s_pu hF rfl rfl rfl (pu_len sl22 (hF.ev rfl)) ?_; clear hF; intro a hF
    refine s_pu hF rfl rfl rfl (pu_lss (hF.ev rfl) (hF.ev rfl)) ?_; clear hF; intro a hF
    refine s_pu hF rfl rfl rfl (pu_move (hF.ev rfl)) ?_; clear hF; intro a hF
    refine fr_split hF (t := 35) rfl ?_ ?_
    · clear hF; intro hg35 hF   -- slot 35 true
      try simp only [decide_eq_true_eq, decide_eq_false_iff_not, Bool.not_eq_true', Bool.not_eq_false', Int.not_lt, Int.not_le, ne_eq, Decidable.not_not, Bool.or_eq_true, Bool.or_eq_false_iff, Bool.and_eq_true, Bool.and_eq_false_imp] at hg35
      refine s_pu hF rfl rfl rfl (pu_move (hF.ev rfl)) ?_; clear hF; intro a hF
      refine s_pu hF rfl rfl rfl (pu_lss (hF.ev rfl) (hF.ev rfl)) ?_; clear hF; intro a hF
      refine s_pu hF rfl rfl rfl ((by first | exact pu_pick_t (hF.ev rfl) (hF.ev rfl) | exact pu_pick_f (hF.ev rfl) (hF.ev rfl) | exact pu_pick (hF.ev rfl) (hF.ev rfl) (hF.ev rfl))) ?_; clear hF; intro a hF
      refine s_done ?_
      refine hK6 _ _ ?_; clear hK6
      refine wp_cond_split (hF.ev rfl) (fun hc0 => ?_) (fun hc0 => ?_)
      · -- cond 0 true
        try simp only [decide_eq_true_eq, decide_eq_false_iff_not, Bool.not_eq_true', Bool.not_eq_false', Int.not_lt, Int.not_le, ne_eq, Decidable.not_not, Bool.or_eq_true, Bool.or_eq_false_iff, Bool.and_eq_true, Bool.and_eq_false_imp] at hc0
        have hil : ls.length < l0 := by omega
        obtain ⟨x, rfl, hv, hb⟩ := hz0.at_ ls.length hil
        have hv1 : w.cell? (x.add ((ls.length : Int).toNat * 1)) = some (.int .i64 (z0.getD ls.length 0)) := by
          rw [Int.toNat_natCast, Nat.mul_one]
          exact hS.whole_at (i := 1) rfl hv
        refine wp_skip ?_
        refine hK5 _ _ ?_; clear hK5
        refine wp_seq_k fun K7 hK7 => ?_
        refine wp_block ?_
        -- region 6
        refine wp_region_lit ?_
        refine s_pu hF rfl rfl rfl (pu_move (hF.ev rfl)) ?_; clear hF; intro a hF
        refine s_pu hF rfl rfl rfl (pu_move (hF.ev rfl)) ?_; clear hF; intro a hF
        refine s_pu hF rfl rfl rfl (pu_move (hF.ev rfl)) ?_; clear hF; intro a hF
        refine s_pu hF rfl rfl rfl ((by first | exact pu_elem sl22 (hF.ev rfl) (hF.ev rfl) (by first | omega | simp) (by first | omega | (simp; done) | (simp; omega)) | exact pu_elemA sl22 (hF.ev rfl) (hF.ev rfl) (by omega) (by omega))) ?_; clear hF; intro a hF
        refine s_rd hF rfl rfl rfl (by first | exact rd_load pl3 (hF.ev rfl) (by assumption) | exact rd_load pl3 (hF.ev rfl) (hS.cellL (i := 0) rfl rfl) | exact rd_load pl3 (hF.ev rfl) (hS.cellL (i := 1) rfl rfl) | exact rd_load pl3 (hF.ev rfl) (hS.cellL (i := 2) rfl rfl) | exact rd_load pl3 (hF.ev rfl) (hS.cell (i := 0) rfl (by assumption)) | exact rd_load pl3 (hF.ev rfl) (hS.cell (i := 1) rfl (by assumption)) | exact rd_load pl3 (hF.ev rfl) (hS.cell (i := 2) rfl (by assumption)) | exact rd_load pl3 (hF.ev rfl) (row_at (i := 0) hS rfl (by first | assumption | rfl)) | exact rd_load pl3 (hF.ev rfl) (row_at0 (i := 0) hS rfl (by first | assumption | rfl)) | exact rd_load pl3 (hF.ev rfl) (row_at (i := 1) hS rfl (by first | assumption | rfl)) | exact rd_load pl3 (hF.ev rfl) (row_at0 (i := 1) hS rfl (by first | assumption | rfl)) | exact rd_load pl3 (hF.ev rfl) (row_at (i := 2) hS rfl (by first | assumption | rfl)) | exact rd_load pl3 (hF.ev rfl) (row_at0 (i := 2) hS rfl (by first | assumption | rfl))) ?_; clear hF; intro a hF
        refine s_en hF rfl rfl rfl (run_fn fk12 (hF.ev rfl) (hF.evs rfl)) (pick_c hS (by omega) hb.1 hb.2) ?_
        clear hS; rintro e w ⟨pv, hpv, rfl, hS⟩
        refine ⟨_, rfl, ?_⟩; clear hF; intro a hF
        refine s_news hF rfl rfl rfl (ef_lit1 (cs := [_]) sl22 ze3 rfl (hF.ev rfl) (by first | rfl | exact cells_one (by assumption)) rfl (by omega) (by omega)) hS ?_; clear hF hS; intro b47 w hS a hF
        (first | (refine s_append 0 1 hF rfl rfl sl22 el3 (hF.ev rfl) (hF.ev rfl) hS rfl rfl rfl (by first | rfl | (simp only [List.all_cons, List.all_nil, Value.oneCell', Bool.and_true, Bool.true_and]; assumption) | (simp [Value.oneCell', *]; done)) (by unfold maxLen; omega) (by omega) ?_) | (refine s_append 0 2 hF rfl rfl sl22 el3 (hF.ev rfl) (hF.ev rfl) hS rfl rfl rfl (by first | rfl | (simp only [List.all_cons, List.all_nil, Value.oneCell', Bool.and_true, Bool.true_and]; assumption) | (simp [Value.oneCell', *]; done)) (by unfold maxLen; omega) (by omega) ?_) | (refine s_append 1 0 hF rfl rfl sl22 el3 (hF.ev rfl) (hF.ev rfl) hS rfl rfl rfl (by first | rfl | (simp only [List.all_cons, List.all_nil, Value.oneCell', Bool.and_true, Bool.true_and]; assumption) | (simp [Value.oneCell', *]; done)) (by unfold maxLen; omega) (by omega) ?_) | (refine s_append 1 2 hF rfl rfl sl22 el3 (hF.ev rfl) (hF.ev rfl) hS rfl rfl rfl (by first | rfl | (simp only [List.all_cons, List.all_nil, Value.oneCell', Bool.and_true, Bool.true_and]; assumption) | (simp [Value.oneCell', *]; done)) (by unfold maxLen; omega) (by omega) ?_) | (refine s_append 2 0 hF rfl rfl sl22 el3 (hF.ev rfl) (hF.ev rfl) hS rfl rfl rfl (by first | rfl | (simp only [List.all_cons, List.all_nil, Value.oneCell', Bool.and_true, Bool.true_and]; assumption) | (simp [Value.oneCell', *]; done)) (by unfold maxLen; omega) (by omega) ?_) | (refine s_append 2 1 hF rfl rfl sl22 el3 (hF.ev rfl) (hF.ev rfl) hS rfl rfl rfl (by first | rfl | (simp only [List.all_cons, List.all_nil, Value.oneCell', Bool.and_true, Bool.true_and]; assumption) | (simp [Value.oneCell', *]; done)) (by unfold maxLen; omega) (by omega) ?_)); (clear hS hF; intro A48 q48 w hS a hF; (try simp only [upd, del] at hS))
        refine s_pu hF rfl rfl rfl (pu_assign (hF.ev rfl)) ?_; clear hF; intro a hF
        refine s_done ?_
        rw [ints_snoc, show ls.length + 1 = (ls ++ [(pv : Int)]).length by simp] at hS
        rw [show ls.length + 1 = (ls ++ [(pv : Int)]).length by simp] at hF
        refine blk_normal ?_
        refine hK7 _ _ ?_; clear hK7
        -- region 5
        refine wp_region_lit ?_
        refine s_pu hF rfl rfl rfl (pu_move (hF.ev rfl)) ?_; clear hF; intro a hF
        refine s_pu hF rfl rfl rfl ((by first | exact pu_add64 (hF.ev rfl) (hF.ev rfl) (by omega) | exact pu_add (hF.ev rfl) (hF.ev rfl))) ?_; clear hF; intro a hF
        refine s_pu hF rfl rfl rfl (pu_assign (hF.ev rfl)) ?_; clear hF; intro a hF
        refine s_done ?_
        refine ⟨_, by simp; omega, ls ++ [(pv : Int)], _, _, rfl, by simp; omega, by simp; omega, ?_, ?_, hS.drop 1⟩
        · intro z hz
          rcases List.mem_append.1 hz with hz | hz
          · exact hlb z hz
          · simp at hz; omega
        · rw [show (((ls ++ [(pv : Int)]).length : Nat) : Int) = (ls.length : Int) + 1 by simp]
          exact hF.sub ⟨rfl, rfl, rfl, rfl, rfl, rfl, trivial⟩
      · -- cond 0 false
        try simp only [decide_eq_true_eq, decide_eq_false_iff_not, Bool.not_eq_true', Bool.not_eq_false', Int.not_lt, Int.not_le, ne_eq, Decidable.not_not, Bool.or_eq_true, Bool.or_eq_false_iff, Bool.and_eq_true, Bool.and_eq_false_imp] at hc0
        refine wp_exit ?_
        refine then_exit ?_
        refine then_exit ?_
        refine blk_exit ?_
        exact ⟨ls, A, c, hl100, hlb, hF.sub ⟨rfl, rfl, rfl, rfl, trivial⟩, hS⟩
    · clear hF; intro hg35 hF   -- slot 35 false
      try simp only [decide_eq_true_eq, decide_eq_false_iff_not, Bool.not_eq_true', Bool.not_eq_false', Int.not_lt, Int.not_le, ne_eq, Decidable.not_not, Bool.or_eq_true, Bool.or_eq_false_iff, Bool.and_eq_true, Bool.and_eq_false_imp] at hg35
      refine s_no hF rfl rfl rfl ?_; clear hF; intro a hF
      refine s_no hF rfl rfl rfl ?_; clear hF; intro a hF
      refine s_pu hF rfl rfl rfl ((by first | exact pu_pick_t (hF.ev rfl) (hF.ev rfl) | exact pu_pick_f (hF.ev rfl) (hF.ev rfl) | exact pu_pick (hF.ev rfl) (hF.ev rfl) (hF.ev rfl))) ?_; clear hF; intro a hF
      refine s_done ?_
      refine hK6 _ _ ?_; clear hK6
      refine wp_cond_false (hF.ev rfl) ?_
      refine wp_exit ?_
      refine then_exit ?_
      refine then_exit ?_
      refine blk_exit ?_
      exact ⟨ls, A, c, hl100, hlb, hF.sub ⟨rfl, rfl, rfl, rfl, trivial⟩, hS⟩
  · -- behind the join s3
    clear hS hF
    rintro a w ⟨ls, A, c, hl100, hlb, hF, hS⟩
    refine wp_seq_k fun K3 hK3 => ?_
    refine wp_seq_k fun K4 hK4 => ?_
    -- region 7
    refine wp_region_lit ?_
    refine s_pu hF rfl rfl rfl (pu_move (hF.ev rfl)) ?_; clear hF; intro a hF
    refine s_pu hF rfl rfl rfl (pu_len sl22 (hF.ev rfl)) ?_; clear hF; intro a hF
    refine s_pu hF rfl rfl rfl ((by first | exact pu_sub64 (hF.ev rfl) (hF.ev rfl) (by omega) | exact pu_sub (hF.ev rfl) (hF.ev rfl))) ?_; clear hF; intro a hF
    refine s_pu hF rfl rfl rfl (pu_assign (hF.ev rfl)) ?_; clear hF; intro a hF
    refine s_done ?_
    refine hK4 _ _ ?_; clear hK4
    refine wp_block ?_
    replace hS := row_nil (E := 3) (sz := 1) hS
    refine wp_ind (fun j a w => ∃ (n : Nat) (B : Option Addr) (d : Nat), j = ls.length - n ∧ n ≤ ls.length ∧
      Fr a 173 [(1, .int .i64 x1), (2, .int .i64 x2), (7, .slice A ls.length c), (8, .slice B n d), (10, .int .i64 ((ls.length : Int) - 1 - n))] ∧ Sat W w [rowC 3 1 (.slice B n d) n (ints (ls.reverse.take n)), rowC 3 1 (.slice A ls.length c) ls.length (ints ls), whole W]) ls.length
      ⟨0, none, 0, rfl, by simp, by rw [show (ls.length : Int) - 1 - (0 : Nat) = (ls.length : Int) - 1 by omega]; exact hF.sub ⟨rfl, rfl, rfl, rfl, rfl, trivial⟩, hS⟩ ?_
    clear hS hF
    rintro j a w ⟨n, B, d, rfl, hn, hF, hS⟩
    refine wp_seq_k fun K5 hK5 => ?_
    refine wp_seq_k fun K6 hK6 => ?_
    -- region 8
    refine wp_region_lit ?_
    refine s_pu hF rfl rfl rfl (pu_move (hF.ev rfl)) ?_; clear hF; intro a hF
    refine s_pu hF rfl rfl rfl (pu_geq (hF.ev rfl) (hF.ev rfl)) ?_; clear hF; intro a hF
    refine s_done ?_
    refine hK6 _ _ ?_; clear hK6
    refine wp_cond_split (hF.ev rfl) (fun hc1 => ?_) (fun hc1 => ?_)
    · -- cond 1 true
      try simp only [decide_eq_true_eq, decide_eq_false_iff_not, Bool.not_eq_true', Bool.not_eq_false', Int.not_lt, Int.not_le, ne_eq, Decidable.not_not, Bool.or_eq_true, Bool.or_eq_false_iff, Bool.and_eq_true, Bool.and_eq_false_imp] at hc1
      have hnl : n < ls.length := by omega
      obtain ⟨ga, rfl⟩ := row_some (i := 1) hS rfl (by omega)
      have hv1 : w.cell? ⟨ga, 0 + ((ls.length : Int) - 1 - n).toNat * 1, none⟩ = some (.int .i64 (ls.getD (ls.length - 1 - n) 0)) := by
        rw [show (ls.length : Int) - 1 - n = ((ls.length - 1 - n : Nat) : Int) by omega]
        exact row_at (i := 1) hS rfl (ints_at (by omega))
      refine wp_skip ?_
      refine hK5 _ _ ?_; clear hK5
      refine wp_seq_k fun K7 hK7 => ?_
      refine wp_block ?_
      -- region 10
      refine wp_region_lit ?_
      refine s_pu hF rfl rfl rfl (pu_move (hF.ev rfl)) ?_; clear hF; intro a hF
      refine s_pu hF rfl rfl rfl (pu_move (hF.ev rfl)) ?_; clear hF; intro a hF
      refine s_pu hF rfl rfl rfl (pu_move (hF.ev rfl)) ?_; clear hF; intro a hF
      refine s_pu hF rfl rfl rfl ((by first | exact pu_elem sl22 (hF.ev rfl) (hF.ev rfl) (by first | omega | simp) (by first | omega | (simp; done) | (simp; omega)) | exact pu_elemA sl22 (hF.ev rfl) (hF.ev rfl) (by omega) (by omega))) ?_; clear hF; intro a hF
      refine s_rd hF rfl rfl rfl (by first | exact rd_load pl3 (hF.ev rfl) (by assumption) | exact rd_load pl3 (hF.ev rfl) (hS.cellL (i := 0) rfl rfl) | exact rd_load pl3 (hF.ev rfl) (hS.cellL (i := 1) rfl rfl) | exact rd_load pl3 (hF.ev rfl) (hS.cellL (i := 2) rfl rfl) | exact rd_load pl3 (hF.ev rfl) (hS.cell (i := 0) rfl (by assumption)) | exact rd_load pl3 (hF.ev rfl) (hS.cell (i := 1) rfl (by assumption)) | exact rd_load pl3 (hF.ev rfl) (hS.cell (i := 2) rfl (by assumption)) | exact rd_load pl3 (hF.ev rfl) (row_at (i := 0) hS rfl (by first | assumption | rfl)) | exact rd_load pl3 (hF.ev rfl) (row_at0 (i := 0) hS rfl (by first | assumption | rfl)) | exact rd_load pl3 (hF.ev rfl) (row_at (i := 1) hS rfl (by first | assumption | rfl)) | exact rd_load pl3 (hF.ev rfl) (row_at0 (i := 1) hS rfl (by first | assumption | rfl)) | exact rd_load pl3 (hF.ev rfl) (row_at (i := 2) hS rfl (by first | assumption | rfl)) | exact rd_load pl3 (hF.ev rfl) (row_at0 (i := 2) hS rfl (by first | assumption | rfl))) ?_; clear hF; intro a hF
      refine s_news hF rfl rfl rfl (ef_lit1 (cs := [_]) sl22 ze3 rfl (hF.ev rfl) (by first | rfl | exact cells_one (by assumption)) rfl (by omega) (by omega)) hS ?_; clear hF hS; intro b61 w hS a hF
      (first | (refine s_append 0 1 hF rfl rfl sl22 el3 (hF.ev rfl) (hF.ev rfl) hS rfl rfl rfl (by first | rfl | (simp only [List.all_cons, List.all_nil, Value.oneCell', Bool.and_true, Bool.true_and]; assumption) | (simp [Value.oneCell', *]; done)) (by unfold maxLen; omega) (by omega) ?_) | (refine s_append 0 2 hF rfl rfl sl22 el3 (hF.ev rfl) (hF.ev rfl) hS rfl rfl rfl (by first | rfl | (simp only [List.all_cons, List.all_nil, Value.oneCell', Bool.and_true, Bool.true_and]; assumption) | (simp [Value.oneCell', *]; done)) (by unfold maxLen; omega) (by omega) ?_) | (refine s_append 1 0 hF rfl rfl sl22 el3 (hF.ev rfl) (hF.ev rfl) hS rfl rfl rfl (by first | rfl | (simp only [List.all_cons, List.all_nil, Value.oneCell', Bool.and_true, Bool.true_and]; assumption) | (simp [Value.oneCell', *]; done)) (by unfold maxLen; omega) (by omega) ?_) | (refine s_append 1 2 hF rfl rfl sl22 el3 (hF.ev rfl) (hF.ev rfl) hS rfl rfl rfl (by first | rfl | (simp only [List.all_cons, List.all_nil, Value.oneCell', Bool.and_true, Bool.true_and]; assumption) | (simp [Value.oneCell', *]; done)) (by unfold maxLen; omega) (by omega) ?_) | (refine s_append 2 0 hF rfl rfl sl22 el3 (hF.ev rfl) (hF.ev rfl) hS rfl rfl rfl (by first | rfl | (simp only [List.all_cons, List.all_nil, Value.oneCell', Bool.and_true, Bool.true_and]; assumption) | (simp [Value.oneCell', *]; done)) (by unfold maxLen; omega) (by omega) ?_) | (refine s_append 2 1 hF rfl rfl sl22 el3 (hF.ev rfl) (hF.ev rfl) hS rfl rfl rfl (by first | rfl | (simp only [List.all_cons, List.all_nil, Value.oneCell', Bool.and_true, Bool.true_and]; assumption) | (simp [Value.oneCell', *]; done)) (by unfold maxLen; omega) (by omega) ?_)); (clear hS hF; intro A62 q62 w hS a hF; (try simp only [upd, del] at hS))
      refine s_pu hF rfl rfl rfl (pu_assign (hF.ev rfl)) ?_; clear hF; intro a hF
      refine s_done ?_
      rw [ints_snoc, back_step hnl] at hS
      refine blk_normal ?_
      refine hK7 _ _ ?_; clear hK7
      -- region 9
      refine wp_region_lit ?_
      refine s_pu hF rfl rfl rfl (pu_move (hF.ev rfl)) ?_; clear hF; intro a hF
      refine s_pu hF rfl rfl rfl ((by first | exact pu_sub64 (hF.ev rfl) (hF.ev rfl) (by omega) | exact pu_sub (hF.ev rfl) (hF.ev rfl))) ?_; clear hF; intro a hF
      refine s_pu hF rfl rfl rfl (pu_assign (hF.ev rfl)) ?_; clear hF; intro a hF
      refine s_done ?_
      refine ⟨_, by omega, n + 1, _, _, rfl, by omega, ?_, hS.drop 1⟩
      rw [show (ls.length : Int) - 1 - ((n + 1 : Nat) : Int) = (ls.length : Int) - 1 - n - 1 by omega]
      exact hF.sub ⟨rfl, rfl, rfl, rfl, rfl, trivial⟩
    · -- cond 1 false
      try simp only [decide_eq_true_eq, decide_eq_false_iff_not, Bool.not_eq_true', Bool.not_eq_false', Int.not_lt, Int.not_le, ne_eq, Decidable.not_not, Bool.or_eq_true, Bool.or_eq_false_iff, Bool.and_eq_true, Bool.and_eq_false_imp] at hc1
      refine wp_exit ?_
      refine then_exit ?_
      refine then_exit ?_
      refine blk_exit ?_
      refine hK3 _ _ ?_; clear hK3
      refine wp_seq_k fun K7 hK7 => ?_
      -- region 11
      refine wp_region_lit ?_
      have hn : n = ls.length := by omega
      subst hn
      obtain ⟨bs, hbs⟩ : ∃ bs, bs = ls.reverse := ⟨_, rfl⟩
      have hbl : ls.length = bs.length := by rw [hbs, List.length_reverse]
      have hbb : ∀ z ∈ bs, 0 ≤ z ∧ z ≤ 1999999999 := fun z hz => hlb z (by rw [hbs] at hz; simpa using hz)
      have hbt : total bs = total ls := by rw [hbs]; exact total_perm (List.reverse_perm ls)
      rw [show ls.reverse.take ls.length = bs by rw [hbs, List.take_of_length_le (by simp)]] at hS
      have hA : ls.length ≠ 0 → ∃ g, A = some ⟨g, 0, none⟩ := fun h => row_some (i := 1) hS rfl (by omega)
      have hB : bs.length ≠ 0 → ∃ g, B = some ⟨g, 0, none⟩ := fun h => row_some (i := 0) hS rfl (by omega)
      have hcA := row_cap (i := 1) hS rfl
      obtain ⟨s1, s2, s3⟩ := sum_small hlb hl100
      obtain ⟨s4, s5, s6⟩ := sum_small hbb (by omega)
      rw [hbt] at s6
      rw [show Sat W w [rowC 3 1 (.slice B ls.length d) ls.length (ints bs), rowC 3 1 (.slice A ls.length c) ls.length (ints ls), whole W] = Sat W w [rowC 3 1 (.slice B bs.length d) bs.length (ints bs), rowC 3 1 (.slice A ls.length c) ls.length (ints ls), whole W] by rw [hbl]] at hS
      rw [show (Value.slice B ls.length d) = .slice B bs.length d by rw [hbl]] at hF
      refine s_pu hF rfl rfl rfl (pu_move (hF.ev rfl)) ?_; clear hF; intro a hF
      refine s_pu hF rfl rfl rfl (pu_move (hF.ev rfl)) ?_; clear hF; intro a hF
      refine s_pu hF rfl rfl rfl (pu_len sl22 (hF.ev rfl)) ?_; clear hF; intro a hF
      refine s_pu hF rfl rfl rfl ((by first | exact pu_add64 (hF.ev rfl) (hF.ev rfl) (by omega) | exact pu_add (hF.ev rfl) (hF.ev rfl))) ?_; clear hF; intro a hF
      refine s_en hF rfl rfl rfl (run_fn fk12 (hF.ev rfl) (hF.evs rfl)) (pick_c hS (by omega) hx1.1 hx1.2) ?_
      clear hS; rintro e w ⟨pk, hpk, rfl, hS⟩
      refine ⟨_, rfl, ?_⟩; clear hF; intro a hF
      refine s_pu hF rfl rfl rfl (pu_assign (hF.ev rfl)) ?_; clear hF; intro a hF
      refine s_done ?_
      refine hK7 _ _ ?_; clear hK7
      refine wp_seq_k fun K8 hK8 => ?_
      -- region 12
      refine wp_region_lit ?_
      refine s_pu hF rfl rfl rfl (pu_move (hF.ev rfl)) ?_; clear hF; intro a hF
      refine s_en hF rfl rfl rfl (run_fn fk8 (hF.ev rfl) (hF.evs rfl)) (sum_c hS (reads_row (i := 1) rfl hA) (by omega)) ?_
      clear hS; rintro e w ⟨rfl, hS⟩
      rw [s3]
      refine ⟨_, rfl, ?_⟩; clear hF; intro a hF
      refine s_pu hF rfl rfl rfl (pu_move (hF.ev rfl)) ?_; clear hF; intro a hF
      refine s_pu hF rfl rfl rfl (pu_extract (hF.ev rfl) rfl) ?_; clear hF; intro a hF
      refine s_pu hF rfl rfl rfl (pu_extract (hF.ev rfl) rfl) ?_; clear hF; intro a hF
      refine s_pu hF rfl rfl rfl (pu_assign (hF.ev rfl)) ?_; clear hF; intro a hF
      refine s_pu hF rfl rfl rfl (pu_assign (hF.ev rfl)) ?_; clear hF; intro a hF
      refine s_done ?_
      refine hK8 _ _ ?_; clear hK8
      refine wp_seq_k fun K9 hK9 => ?_
      -- region 13
      refine wp_region_lit ?_
      refine s_pu hF rfl rfl rfl (pu_move (hF.ev rfl)) ?_; clear hF; intro a hF
      refine s_en hF rfl rfl rfl (run_fn fk8 (hF.ev rfl) (hF.evs rfl)) (sum_c hS (reads_row (i := 0) rfl hB) (by omega)) ?_
      clear hS; rintro e w ⟨rfl, hS⟩
      rw [s6]
      refine ⟨_, rfl, ?_⟩; clear hF; intro a hF
      refine s_pu hF rfl rfl rfl (pu_move (hF.ev rfl)) ?_; clear hF; intro a hF
      refine s_pu hF rfl rfl rfl (pu_extract (hF.ev rfl) rfl) ?_; clear hF; intro a hF
      refine s_pu hF rfl rfl rfl (pu_extract (hF.ev rfl) rfl) ?_; clear hF; intro a hF
      refine s_pu hF rfl rfl rfl (pu_assign (hF.ev rfl)) ?_; clear hF; intro a hF
      refine s_pu hF rfl rfl rfl (pu_assign (hF.ev rfl)) ?_; clear hF; intro a hF
      refine s_done ?_
      refine hK9 _ _ ?_; clear hK9
      refine wp_seq_k fun K10 hK10 => ?_
      -- region 14
      refine wp_region_lit ?_
      refine s_pu hF rfl rfl rfl (pu_move (hF.ev rfl)) ?_; clear hF; intro a hF
      refine s_pu hF rfl rfl rfl (pu_move (hF.ev rfl)) ?_; clear hF; intro a hF
      refine s_pu hF rfl rfl rfl (pu_cutHiO sl22 (hF.ev rfl) (hF.ev rfl) (by omega) (by omega)) ?_; clear hF; intro a hF
      rw [Int.toNat_natCast] at hF
      obtain ⟨t1, t2, t3⟩ := sum_small (l := ls.take pk) (fun z hz => hlb z (List.mem_of_mem_take hz)) (by simp; omega)
      obtain ⟨t4, t5, t6⟩ := sum_small (l := ls.drop pk) (fun z hz => hlb z (List.mem_of_mem_drop hz)) (by simp; omega)
      have htd : total (ls.take pk) + total (ls.drop pk) = total ls := by rw [← total_app, List.take_append_drop]
      refine s_en hF rfl rfl rfl (run_fn fk8 (hF.ev rfl) (hF.evs rfl)) (sum_c hS (reads_take (i := 1) rfl hA (by omega)) (by omega)) ?_
      clear hS; rintro e w ⟨rfl, hS⟩
      rw [t3]
      refine ⟨_, rfl, ?_⟩; clear hF; intro a hF
      refine s_pu hF rfl rfl rfl (pu_move (hF.ev rfl)) ?_; clear hF; intro a hF
      refine s_pu hF rfl rfl rfl (pu_extract (hF.ev rfl) rfl) ?_; clear hF; intro a hF
      refine s_pu hF rfl rfl rfl (pu_extract (hF.ev rfl) rfl) ?_; clear hF; intro a hF
      refine s_pu hF rfl rfl rfl (pu_assign (hF.ev rfl)) ?_; clear hF; intro a hF
      refine s_pu hF rfl rfl rfl (pu_assign (hF.ev rfl)) ?_; clear hF; intro a hF
      refine s_done ?_
      refine hK10 _ _ ?_; clear hK10
      refine wp_seq_k fun K11 hK11 => ?_
      -- region 15
      refine wp_region_lit ?_
      refine s_pu hF rfl rfl rfl (pu_move (hF.ev rfl)) ?_; clear hF; intro a hF
      refine s_pu hF rfl rfl rfl (pu_move (hF.ev rfl)) ?_; clear hF; intro a hF
      refine s_pu hF rfl rfl rfl (pu_cutLoO sl22 (hF.ev rfl) (hF.ev rfl) (by omega) (by omega)) ?_; clear hF; intro a hF
      rw [Int.toNat_natCast] at hF
      refine s_en hF rfl rfl rfl (run_fn fk8 (hF.ev rfl) (hF.evs rfl)) (sum_c hS (.of_drop (o := pk) 1 rfl rfl hcA hA) (by omega)) ?_
      clear hS; rintro e w ⟨rfl, hS⟩
      rw [t6]
      refine ⟨_, rfl, ?_⟩; clear hF; intro a hF
      refine s_pu hF rfl rfl rfl (pu_move (hF.ev rfl)) ?_; clear hF; intro a hF
      refine s_pu hF rfl rfl rfl (pu_extract (hF.ev rfl) rfl) ?_; clear hF; intro a hF
      refine s_pu hF rfl rfl rfl (pu_extract (hF.ev rfl) rfl) ?_; clear hF; intro a hF
      refine s_pu hF rfl rfl rfl (pu_assign (hF.ev rfl)) ?_; clear hF; intro a hF
      refine s_pu hF rfl rfl rfl (pu_assign (hF.ev rfl)) ?_; clear hF; intro a hF
      refine s_done ?_
      refine hK11 _ _ ?_; clear hK11
      refine wp_seq_k fun K12 hK12 => ?_
      -- region 16
      refine wp_region_lit ?_
      refine s_pu hF rfl rfl rfl (pu_move (hF.ev rfl)) ?_; clear hF; intro a hF
      refine s_pu hF rfl rfl rfl (pu_move (hF.ev rfl)) ?_; clear hF; intro a hF
      refine s_news hF rfl rfl rfl (ef_lit (res := [_, _]) sl22 ze3 (hF.evp rfl) (by omega) (by omega) rfl (by simp)) hS ?_; clear hF hS; intro b95 w hS a hF
      replace hS := row_shut (n := 2) (cap := 2) (sz := 1) hS (by omega) (by unfold maxLen; omega) rfl rfl
      refine s_en hF rfl rfl rfl (run_fn fk8 (hF.ev rfl) (hF.evs rfl)) (sum_c hS (zs := [total (ls.take pk), total (ls.drop pk)]) (.of_row 0 rfl (fun k hk => match k, hk with | 0, _ => rfl | 1, _ => rfl) rfl (fun _ => ⟨_, rfl⟩)) (by omega)) ?_
      clear hS; rintro e w ⟨rfl, hS⟩
      rw [show sumOf [total (ls.take pk), total (ls.drop pk)] = (total ls, 0) by
        unfold sumOf
        rw [if_pos (List.all_eq_true.2 fun z hz => amt_iff.2 (by simp at hz; omega)), show total [total (ls.take pk), total (ls.drop pk)] = total ls by rw [← htd]; simp [total], if_neg (by omega)]]
      refine ⟨_, rfl, ?_⟩; clear hF; intro a hF
      refine s_pu hF rfl rfl rfl (pu_move (hF.ev rfl)) ?_; clear hF; intro a hF
      refine s_pu hF rfl rfl rfl (pu_extract (hF.ev rfl) rfl) ?_; clear hF; intro a hF
      refine s_pu hF rfl rfl rfl (pu_extract (hF.ev rfl) rfl) ?_; clear hF; intro a hF
      refine s_pu hF rfl rfl rfl (pu_assign (hF.ev rfl)) ?_; clear hF; intro a hF
      refine s_pu hF rfl rfl rfl (pu_assign (hF.ev rfl)) ?_; clear hF; intro a hF
      refine s_done ?_
      replace hS := hS.tail
      refine hK12 _ _ ?_; clear hK12
      refine wp_seq_k fun K13 hK13 => ?_
      refine wp_seq_k fun K14 hK14 => ?_
      -- region 17
      refine wp_region_lit ?_
      refine s_pu hF rfl rfl rfl (pu_move (hF.ev rfl)) ?_; clear hF; intro a hF
      refine s_pu hF rfl rfl rfl (pu_neq (hF.ev rfl) (hF.ev rfl)) ?_; clear hF; intro a hF
      refine s_pu hF rfl rfl rfl (pu_move (hF.ev rfl)) ?_; clear hF; intro a hF
      refine s_pu hF rfl rfl rfl (pu_move (hF.ev rfl)) ?_; clear hF; intro a hF
      refine s_pu hF rfl rfl rfl (pu_neq (hF.ev rfl) (hF.ev rfl)) ?_; clear hF; intro a hF
      refine s_pu hF rfl rfl rfl ((by first | exact pu_pick_t (hF.ev rfl) (hF.ev rfl) | exact pu_pick_f (hF.ev rfl) (hF.ev rfl) | exact pu_pick (hF.ev rfl) (hF.ev rfl) (hF.ev rfl))) ?_; clear hF; intro a hF
      refine s_pu hF rfl rfl rfl (pu_move (hF.ev rfl)) ?_; clear hF; intro a hF
      refine s_pu hF rfl rfl rfl (pu_move (hF.ev rfl)) ?_; clear hF; intro a hF
      refine s_pu hF rfl rfl rfl (pu_neq (hF.ev rfl) (hF.ev rfl)) ?_; clear hF; intro a hF
      refine s_pu hF rfl rfl rfl ((by first | exact pu_pick_t (hF.ev rfl) (hF.ev rfl) | exact pu_pick_f (hF.ev rfl) (hF.ev rfl) | exact pu_pick (hF.ev rfl) (hF.ev rfl) (hF.ev rfl))) ?_; clear hF; intro a hF
      refine s_pu hF rfl rfl rfl (pu_move (hF.ev rfl)) ?_; clear hF; intro a hF
      refine s_pu hF rfl rfl rfl (pu_move (hF.ev rfl)) ?_; clear hF; intro a hF
      refine s_pu hF rfl rfl rfl (pu_neq (hF.ev rfl) (hF.ev rfl)) ?_; clear hF; intro a hF
      refine s_pu hF rfl rfl rfl ((by first | exact pu_pick_t (hF.ev rfl) (hF.ev rfl) | exact pu_pick_f (hF.ev rfl) (hF.ev rfl) | exact pu_pick (hF.ev rfl) (hF.ev rfl) (hF.ev rfl))) ?_; clear hF; intro a hF
      refine s_pu hF rfl rfl rfl (pu_move (hF.ev rfl)) ?_; clear hF; intro a hF
      refine s_pu hF rfl rfl rfl (pu_move (hF.ev rfl)) ?_; clear hF; intro a hF
      refine s_pu hF rfl rfl rfl (pu_neq (hF.ev rfl) (hF.ev rfl)) ?_; clear hF; intro a hF
      refine s_pu hF rfl rfl rfl ((by first | exact pu_pick_t (hF.ev rfl) (hF.ev rfl) | exact pu_pick_f (hF.ev rfl) (hF.ev rfl) | exact pu_pick (hF.ev rfl) (hF.ev rfl) (hF.ev rfl))) ?_; clear hF; intro a hF
      refine s_pu hF rfl rfl rfl (pu_move (hF.ev rfl)) ?_; clear hF; intro a hF
      refine fr_split hF (t := 117) rfl ?_ ?_
      · clear hF; intro hg117 hF   -- slot 117 true
        try simp only [decide_eq_true_eq, decide_eq_false_iff_not, Bool.not_eq_true', Bool.not_eq_false', Int.not_lt, Int.not_le, ne_eq, Decidable.not_not, Bool.or_eq_true, Bool.or_eq_false_iff, Bool.and_eq_true, Bool.and_eq_false_imp] at hg117
        first | exact absurd rfl hg117 | exact absurd trivial hg117 | omega
      · clear hF; intro hg117 hF   -- slot 117 false
        try simp only [decide_eq_true_eq, decide_eq_false_iff_not, Bool.not_eq_true', Bool.not_eq_false', Int.not_lt, Int.not_le, ne_eq, Decidable.not_not, Bool.or_eq_true, Bool.or_eq_false_iff, Bool.and_eq_true, Bool.and_eq_false_imp] at hg117
        refine s_pu hF rfl rfl rfl (pu_move (hF.ev rfl)) ?_; clear hF; intro a hF
        refine s_pu hF rfl rfl rfl (pu_move (hF.ev rfl)) ?_; clear hF; intro a hF
        refine s_pu hF rfl rfl rfl (pu_neq (hF.ev rfl) (hF.ev rfl)) ?_; clear hF; intro a hF
        refine s_pu hF rfl rfl rfl ((by first | exact pu_pick_t (hF.ev rfl) (hF.ev rfl) | exact pu_pick_f (hF.ev rfl) (hF.ev rfl) | exact pu_pick (hF.ev rfl) (hF.ev rfl) (hF.ev rfl))) ?_; clear hF; intro a hF
        refine s_pu hF rfl rfl rfl (pu_move (hF.ev rfl)) ?_; clear hF; intro a hF
        refine fr_split hF (t := 122) rfl ?_ ?_
        · clear hF; intro hg122 hF   -- slot 122 true
          try simp only [decide_eq_true_eq, decide_eq_false_iff_not, Bool.not_eq_true', Bool.not_eq_false', Int.not_lt, Int.not_le, ne_eq, Decidable.not_not, Bool.or_eq_true, Bool.or_eq_false_iff, Bool.and_eq_true, Bool.and_eq_false_imp] at hg122
          first | exact absurd rfl hg122 | exact absurd trivial hg122 | omega
        · clear hF; intro hg122 hF   -- slot 122 false
          try simp only [decide_eq_true_eq, decide_eq_false_iff_not, Bool.not_eq_true', Bool.not_eq_false', Int.not_lt, Int.not_le, ne_eq, Decidable.not_not, Bool.or_eq_true, Bool.or_eq_false_iff, Bool.and_eq_true, Bool.and_eq_false_imp] at hg122
          refine s_pu hF rfl rfl rfl (pu_move (hF.ev rfl)) ?_; clear hF; intro a hF
          refine s_pu hF rfl rfl rfl (pu_move (hF.ev rfl)) ?_; clear hF; intro a hF
          refine s_pu hF rfl rfl rfl (pu_neq (hF.ev rfl) (hF.ev rfl)) ?_; clear hF; intro a hF
          refine s_pu hF rfl rfl rfl ((by first | exact pu_pick_t (hF.ev rfl) (hF.ev rfl) | exact pu_pick_f (hF.ev rfl) (hF.ev rfl) | exact pu_pick (hF.ev rfl) (hF.ev rfl) (hF.ev rfl))) ?_; clear hF; intro a hF
          refine s_done ?_
          refine hK14 _ _ ?_; clear hK14
          refine wp_cond_split (hF.ev rfl) (fun hc2 => ?_) (fun hc2 => ?_)
          · -- cond 2 true
            try simp only [decide_eq_true_eq, decide_eq_false_iff_not, Bool.not_eq_true', Bool.not_eq_false', Int.not_lt, Int.not_le, ne_eq, Decidable.not_not, Bool.or_eq_true, Bool.or_eq_false_iff, Bool.and_eq_true, Bool.and_eq_false_imp] at hc2
            first | exact absurd rfl hc2 | exact absurd trivial hc2 | omega
          · -- cond 2 false
            try simp only [decide_eq_true_eq, decide_eq_false_iff_not, Bool.not_eq_true', Bool.not_eq_false', Int.not_lt, Int.not_le, ne_eq, Decidable.not_not, Bool.or_eq_true, Bool.or_eq_false_iff, Bool.and_eq_true, Bool.and_eq_false_imp] at hc2
            refine wp_skip ?_
            refine hK13 _ _ ?_; clear hK13
            refine wp_seq_k fun K15 hK15 => ?_
            -- region 19
            refine wp_region_lit ?_
            refine s_pu hF rfl rfl rfl (pu_move (hF.ev rfl)) ?_; clear hF; intro a hF
            refine s_news hF rfl rfl rfl (ef_lit (res := [_, _]) sl22 ze3 (hF.evp rfl) (by omega) (by omega) rfl (by simp)) hS ?_; clear hF hS; intro b129 w hS a hF
            (first | (refine s_append 0 1 hF rfl rfl sl22 el3 (hF.ev rfl) (hF.ev rfl) hS rfl rfl rfl (by first | rfl | (simp only [List.all_cons, List.all_nil, Value.oneCell', Bool.and_true, Bool.true_and]; assumption) | (simp [Value.oneCell', *]; done)) (by unfold maxLen; omega) (by omega) ?_) | (refine s_append 0 2 hF rfl rfl sl22 el3 (hF.ev rfl) (hF.ev rfl) hS rfl rfl rfl (by first | rfl | (simp only [List.all_cons, List.all_nil, Value.oneCell', Bool.and_true, Bool.true_and]; assumption) | (simp [Value.oneCell', *]; done)) (by unfold maxLen; omega) (by omega) ?_) | (refine s_append 1 0 hF rfl rfl sl22 el3 (hF.ev rfl) (hF.ev rfl) hS rfl rfl rfl (by first | rfl | (simp only [List.all_cons, List.all_nil, Value.oneCell', Bool.and_true, Bool.true_and]; assumption) | (simp [Value.oneCell', *]; done)) (by unfold maxLen; omega) (by omega) ?_) | (refine s_append 1 2 hF rfl rfl sl22 el3 (hF.ev rfl) (hF.ev rfl) hS rfl rfl rfl (by first | rfl | (simp only [List.all_cons, List.all_nil, Value.oneCell', Bool.and_true, Bool.true_and]; assumption) | (simp [Value.oneCell', *]; done)) (by unfold maxLen; omega) (by omega) ?_) | (refine s_append 2 0 hF rfl rfl sl22 el3 (hF.ev rfl) (hF.ev rfl) hS rfl rfl rfl (by first | rfl | (simp only [List.all_cons, List.all_nil, Value.oneCell', Bool.and_true, Bool.true_and]; assumption) | (simp [Value.oneCell', *]; done)) (by unfold maxLen; omega) (by omega) ?_) | (refine s_append 2 1 hF rfl rfl sl22 el3 (hF.ev rfl) (hF.ev rfl) hS rfl rfl rfl (by first | rfl | (simp only [List.all_cons, List.all_nil, Value.oneCell', Bool.and_true, Bool.true_and]; assumption) | (simp [Value.oneCell', *]; done)) (by unfold maxLen; omega) (by omega) ?_)); (clear hS hF; intro A130 q130 w hS a hF; (try simp only [upd, del] at hS))
            refine s_en hF rfl rfl rfl (run_fn fk8 (hF.ev rfl) (hF.evs rfl)) (sum_c hS (zs := ls ++ [999999999999, 1]) (.of_row 0 rfl (fun k hk => by rw [show ints ls ++ [.int .i64 999999999999, .int .i64 1] = ints (ls ++ [999999999999, 1]) by simp [ints]]; exact ints_at (by simp; omega)) (by simp) (fun h => row_some (i := 0) hS rfl (by omega))) (by omega)) ?_
            clear hS; rintro e w ⟨rfl, hS⟩
            rw [sum_over hlb]
            refine ⟨_, rfl, ?_⟩; clear hF; intro a hF
            refine s_pu hF rfl rfl rfl (pu_move (hF.ev rfl)) ?_; clear hF; intro a hF
            refine s_pu hF rfl rfl rfl (pu_extract (hF.ev rfl) rfl) ?_; clear hF; intro a hF
            refine s_pu hF rfl rfl rfl (pu_extract (hF.ev rfl) rfl) ?_; clear hF; intro a hF
            refine s_pu hF rfl rfl rfl (pu_assign (hF.ev rfl)) ?_; clear hF; intro a hF
            refine s_pu hF rfl rfl rfl (pu_assign (hF.ev rfl)) ?_; clear hF; intro a hF
            refine s_done ?_
            refine hK15 _ _ ?_; clear hK15
            refine wp_seq_k fun K16 hK16 => ?_
            -- region 20
            refine wp_region_lit ?_
            refine s_pu hF rfl rfl rfl (pu_move (hF.ev rfl)) ?_; clear hF; intro a hF
            refine s_news hF rfl rfl rfl (ef_lit1 (cs := [_]) sl22 ze3 rfl (hF.ev rfl) (by first | rfl | exact cells_one (by assumption)) rfl (by omega) (by omega)) hS ?_; clear hF hS; intro b136 w hS a hF
            refine s_append2 (news := [.int .i64 (-1)]) 3 0 hF rfl rfl sl22 el3 (hF.ev rfl) (hF.ev rfl) hS rfl rfl rfl rfl (by unfold maxLen; omega) (by omega) ?_; clear hF hS; intro A137 q137 w C1 hS hback a hF
            refine s_en hF rfl rfl rfl (run_fn fk8 (hF.ev rfl) (hF.evs rfl)) (sum_c hS (zs := bs ++ [-1]) (.of_row 0 rfl (fun k hk => by rw [show ints bs ++ [.int .i64 (-1)] = ints (bs ++ [-1]) by simp [ints]]; exact ints_at (by simp; omega)) (by simp) (fun h => row_some (i := 0) hS rfl (by omega))) (by omega)) ?_
            clear hS; rintro e w ⟨rfl, hS⟩
            rw [sum_bad]
            replace hS := hback _ hS
            refine ⟨_, rfl, ?_⟩; clear hF; intro a hF
            refine s_pu hF rfl rfl rfl (pu_move (hF.ev rfl)) ?_; clear hF; intro a hF
            refine s_pu hF rfl rfl rfl (pu_extract (hF.ev rfl) rfl) ?_; clear hF; intro a hF
            refine s_pu hF rfl rfl rfl (pu_extract (hF.ev rfl) rfl) ?_; clear hF; intro a hF
            refine s_pu hF rfl rfl rfl (pu_assign (hF.ev rfl)) ?_; clear hF; intro a hF
            refine s_pu hF rfl rfl rfl (pu_assign (hF.ev rfl)) ?_; clear hF; intro a hF
            refine s_done ?_
            refine hK16 _ _ ?_; clear hK16
            refine wp_seq_k fun K17 hK17 => ?_
            refine wp_seq_k fun K18 hK18 => ?_
            -- region 21
            refine wp_region_lit ?_
            refine s_pu hF rfl rfl rfl (pu_move (hF.ev rfl)) ?_; clear hF; intro a hF
            refine s_pu hF rfl rfl rfl (pu_neq (hF.ev rfl) (hF.ev rfl)) ?_; clear hF; intro a hF
            refine s_pu hF rfl rfl rfl (pu_move (hF.ev rfl)) ?_; clear hF; intro a hF
            refine fr_split hF (t := 143) rfl ?_ ?_
            · clear hF; intro hg143 hF   -- slot 143 true
              try simp only [decide_eq_true_eq, decide_eq_false_iff_not, Bool.not_eq_true', Bool.not_eq_false', Int.not_lt, Int.not_le, ne_eq, Decidable.not_not, Bool.or_eq_true, Bool.or_eq_false_iff, Bool.and_eq_true, Bool.and_eq_false_imp] at hg143
              first | exact absurd rfl hg143 | exact absurd trivial hg143 | omega
            · clear hF; intro hg143 hF   -- slot 143 false
              try simp only [decide_eq_true_eq, decide_eq_false_iff_not, Bool.not_eq_true', Bool.not_eq_false', Int.not_lt, Int.not_le, ne_eq, Decidable.not_not, Bool.or_eq_true, Bool.or_eq_false_iff, Bool.and_eq_true, Bool.and_eq_false_imp] at hg143
              refine s_pu hF rfl rfl rfl (pu_move (hF.ev rfl)) ?_; clear hF; intro a hF
              refine s_pu hF rfl rfl rfl (pu_neq (hF.ev rfl) (hF.ev rfl)) ?_; clear hF; intro a hF
              refine s_pu hF rfl rfl rfl ((by first | exact pu_pick_t (hF.ev rfl) (hF.ev rfl) | exact pu_pick_f (hF.ev rfl) (hF.ev rfl) | exact pu_pick (hF.ev rfl) (hF.ev rfl) (hF.ev rfl))) ?_; clear hF; intro a hF
              refine s_done ?_
              refine hK18 _ _ ?_; clear hK18
              refine wp_cond_split (hF.ev rfl) (fun hc3 => ?_) (fun hc3 => ?_)
              · -- cond 3 true
                try simp only [decide_eq_true_eq, decide_eq_false_iff_not, Bool.not_eq_true', Bool.not_eq_false', Int.not_lt, Int.not_le, ne_eq, Decidable.not_not, Bool.or_eq_true, Bool.or_eq_false_iff, Bool.and_eq_true, Bool.and_eq_false_imp] at hc3
                first | exact absurd rfl hc3 | exact absurd trivial hc3 | omega
              · -- cond 3 false
                try simp only [decide_eq_true_eq, decide_eq_false_iff_not, Bool.not_eq_true', Bool.not_eq_false', Int.not_lt, Int.not_le, ne_eq, Decidable.not_not, Bool.or_eq_true, Bool.or_eq_false_iff, Bool.and_eq_true, Bool.and_eq_false_imp] at hc3
                refine wp_skip ?_
                refine hK17 _ _ ?_; clear hK17
                refine wp_seq_k fun K19 hK19 => ?_
                -- region 23
                refine wp_region_lit ?_
                refine s_pu hF rfl rfl rfl (pu_move (hF.ev rfl)) ?_; clear hF; intro a hF
                refine s_en hF rfl rfl rfl (run_fn fk12 (hF.ev rfl) (hF.evs rfl)) (pick_c hS (by omega) hx2.1 hx2.2) ?_
                clear hS; rintro e w ⟨pu, hpu, rfl, hS⟩
                refine ⟨_, rfl, ?_⟩; clear hF; intro a hF
                refine s_pu hF rfl rfl rfl (pu_assign (hF.ev rfl)) ?_; clear hF; intro a hF
                refine s_done ?_
                replace hS := hS.tail.tail.tail
                refine hK19 _ _ ?_; clear hK19
                refine wp_seq_k fun K20 hK20 => ?_
                -- region 24
                rcases (by exact Classical.em _ : ((bs ++ [1]).all wOk = true ∧ (bs ++ [(1 : Int)]).length ≤ 100 ∧ total (bs ++ [1]) ≠ 0) ∨ ¬ ((bs ++ [1]).all wOk = true ∧ (bs ++ [(1 : Int)]).length ≤ 100 ∧ total (bs ++ [1]) ≠ 0)) with hsh | hsh
                · -- ok
                  -- region 24
                  refine wp_region_lit ?_
                  refine s_pu hF rfl rfl rfl (pu_move (hF.ev rfl)) ?_; clear hF; intro a hF
                  refine s_pu hF rfl rfl rfl (pu_move (hF.ev rfl)) ?_; clear hF; intro a hF
                  refine s_news hF rfl rfl rfl (ef_lit1 (cs := [_]) sl22 ze3 rfl (hF.ev rfl) (by first | rfl | exact cells_one (by assumption)) rfl (by omega) (by omega)) hS ?_; clear hF hS; intro b152 w hS a hF
                  (first | (refine s_append 0 1 hF rfl rfl sl22 el3 (hF.ev rfl) (hF.ev rfl) hS rfl rfl rfl (by first | rfl | (simp only [List.all_cons, List.all_nil, Value.oneCell', Bool.and_true, Bool.true_and]; assumption) | (simp [Value.oneCell', *]; done)) (by unfold maxLen; omega) (by omega) ?_) | (refine s_append 0 2 hF rfl rfl sl22 el3 (hF.ev rfl) (hF.ev rfl) hS rfl rfl rfl (by first | rfl | (simp only [List.all_cons, List.all_nil, Value.oneCell', Bool.and_true, Bool.true_and]; assumption) | (simp [Value.oneCell', *]; done)) (by unfold maxLen; omega) (by omega) ?_) | (refine s_append 1 0 hF rfl rfl sl22 el3 (hF.ev rfl) (hF.ev rfl) hS rfl rfl rfl (by first | rfl | (simp only [List.all_cons, List.all_nil, Value.oneCell', Bool.and_true, Bool.true_and]; assumption) | (simp [Value.oneCell', *]; done)) (by unfold maxLen; omega) (by omega) ?_) | (refine s_append 1 2 hF rfl rfl sl22 el3 (hF.ev rfl) (hF.ev rfl) hS rfl rfl rfl (by first | rfl | (simp only [List.all_cons, List.all_nil, Value.oneCell', Bool.and_true, Bool.true_and]; assumption) | (simp [Value.oneCell', *]; done)) (by unfold maxLen; omega) (by omega) ?_) | (refine s_append 2 0 hF rfl rfl sl22 el3 (hF.ev rfl) (hF.ev rfl) hS rfl rfl rfl (by first | rfl | (simp only [List.all_cons, List.all_nil, Value.oneCell', Bool.and_true, Bool.true_and]; assumption) | (simp [Value.oneCell', *]; done)) (by unfold maxLen; omega) (by omega) ?_) | (refine s_append 2 1 hF rfl rfl sl22 el3 (hF.ev rfl) (hF.ev rfl) hS rfl rfl rfl (by first | rfl | (simp only [List.all_cons, List.all_nil, Value.oneCell', Bool.and_true, Bool.true_and]; assumption) | (simp [Value.oneCell', *]; done)) (by unfold maxLen; omega) (by omega) ?_)); (clear hS hF; intro A153 q153 w hS a hF; (try simp only [upd, del] at hS))
                  have hRd := fun (w0 : World) (F : List Chunk) (c : Nat) (A : Option Addr) (hi : nth F 0 = some (rowC 3 1 (.slice A (bs.length + 1) c) (bs.length + 1) (ints bs ++ [.int .i64 1]))) (hA : bs.length + 1 ≠ 0 → ∃ g, A = some ⟨g, 0, none⟩) =>
                    (Reads.of_row (w0 := w0) (zs := bs ++ [1]) 0 hi (fun k hk => by rw [show ints bs ++ [.int .i64 1] = ints (bs ++ [1]) by simp [ints]]; exact ints_at (by simp; omega)) (by simp) hA : Reads w0 F A (bs.length + 1) (bs ++ [1]))
                  have hrs := row_some (i := 0) hS rfl (by omega)
                  have hamt : amt (pu : Int) = true := amt_iff.2 (by omega)
                  refine s_en hF rfl rfl rfl (run_fn fk13 (hF.ev rfl) (hF.evs rfl)) (share_ok (u := pu) hS (hRd _ _ _ _ rfl (fun _ => hrs)) (by omega) (by unfold shErr; rw [if_pos hamt, if_pos hsh])) ?_
                  clear hS; rintro e w ⟨outs, go, co, hol, hd, rfl, hS⟩
                  refine ⟨_, rfl, ?_⟩; clear hF; intro a hF
                  refine s_pu hF rfl rfl rfl (pu_move (hF.ev rfl)) ?_; clear hF; intro a hF
                  refine s_pu hF rfl rfl rfl (pu_extract (hF.ev rfl) rfl) ?_; clear hF; intro a hF
                  refine s_pu hF rfl rfl rfl (pu_extract (hF.ev rfl) rfl) ?_; clear hF; intro a hF
                  refine s_pu hF rfl rfl rfl (pu_assign (hF.ev rfl)) ?_; clear hF; intro a hF
                  refine s_pu hF rfl rfl rfl (pu_assign (hF.ev rfl)) ?_; clear hF; intro a hF
                  refine s_done ?_
                  refine hK20 _ _ ?_; clear hK20
                  refine wp_seq_k fun K21 hK21 => ?_
                  refine wp_seq_k fun K22 hK22 => ?_
                  -- region 25
                  refine wp_region_lit ?_
                  refine s_pu hF rfl rfl rfl (pu_move (hF.ev rfl)) ?_; clear hF; intro a hF
                  refine s_pu hF rfl rfl rfl (pu_neq (hF.ev rfl) (hF.ev rfl)) ?_; clear hF; intro a hF
                  refine s_done ?_
                  refine hK22 _ _ ?_; clear hK22
                  refine wp_cond_split (hF.ev rfl) (fun hc4 => ?_) (fun hc4 => ?_)
                  · -- cond 4 true
                    try simp only [decide_eq_true_eq, decide_eq_false_iff_not, Bool.not_eq_true', Bool.not_eq_false', Int.not_lt, Int.not_le, ne_eq, Decidable.not_not, Bool.or_eq_true, Bool.or_eq_false_iff, Bool.and_eq_true, Bool.and_eq_false_imp] at hc4
                    first | exact absurd rfl hc4 | exact absurd trivial hc4 | omega
                  · -- cond 4 false
                    try simp only [decide_eq_true_eq, decide_eq_false_iff_not, Bool.not_eq_true', Bool.not_eq_false', Int.not_lt, Int.not_le, ne_eq, Decidable.not_not, Bool.or_eq_true, Bool.or_eq_false_iff, Bool.and_eq_true, Bool.and_eq_false_imp] at hc4
                    obtain ⟨hwk, h100, ht0⟩ := hsh
                    have hbw : ∀ z ∈ bs ++ [(1 : Int)], 0 ≤ z ∧ z ≤ 1000000 := fun z hz => wOk_iff.1 (List.all_eq_true.1 hwk z hz)
                    have ht1 : 1 ≤ total (bs ++ [1]) := by
                      have := total_nn (l := bs ++ [1]) fun z hz => (hbw z hz).1
                      omega
                    obtain ⟨bb, hf⟩ := dealt_fair hd (by omega) hbw ht1
                    have hobd : ∀ z ∈ outs, 0 ≤ z ∧ z ≤ 999999999999 := by
                      intro z hz
                      obtain ⟨k, hk⟩ := List.mem_iff_getElem?.1 hz
                      have hkl := (List.getElem?_eq_some_iff.1 hk).1
                      have := fair_one hf (by omega) hbw ht1 (i := k) (by omega)
                      rw [show outs.getD k 0 = z by rw [List.getD_eq_getElem?_getD, hk]; rfl] at this
                      omega
                    refine wp_skip ?_
                    refine hK21 _ _ ?_; clear hK21
                    refine wp_seq_k fun K23 hK23 => ?_
                    -- region 27
                    refine wp_region_lit ?_
                    refine s_pu hF rfl rfl rfl (pu_move (hF.ev rfl)) ?_; clear hF; intro a hF
                    refine s_en hF rfl rfl rfl (run_fn fk8 (hF.ev rfl) (hF.evs rfl)) (sum_c hS (reads_row (i := 0) rfl (fun _ => ⟨_, rfl⟩)) (by simp at hol; omega)) ?_
                    clear hS; rintro e w ⟨rfl, hS⟩
                    rw [show sumOf outs = ((pu : Int), 0) by
                      unfold sumOf
                      rw [if_pos (List.all_eq_true.2 fun z hz => amt_iff.2 (hobd z hz)), hf.sum, if_neg (by omega)]]
                    refine ⟨_, rfl, ?_⟩; clear hF; intro a hF
                    refine s_pu hF rfl rfl rfl (pu_move (hF.ev rfl)) ?_; clear hF; intro a hF
                    refine s_pu hF rfl rfl rfl (pu_extract (hF.ev rfl) rfl) ?_; clear hF; intro a hF
                    refine s_pu hF rfl rfl rfl (pu_extract (hF.ev rfl) rfl) ?_; clear hF; intro a hF
                    refine s_pu hF rfl rfl rfl (pu_assign (hF.ev rfl)) ?_; clear hF; intro a hF
                    refine s_pu hF rfl rfl rfl (pu_assign (hF.ev rfl)) ?_; clear hF; intro a hF
                    refine s_done ?_
                    refine hK23 _ _ ?_; clear hK23
                    refine wp_seq_k fun K24 hK24 => ?_
                    -- region 28
                    refine wp_region_lit ?_
                    refine s_pu hF rfl rfl rfl (pu_move (hF.ev rfl)) ?_; clear hF; intro a hF
                    refine s_pu hF rfl rfl rfl (pu_eql (hF.ev rfl) (hF.ev rfl)) ?_; clear hF; intro a hF
                    refine s_pu hF rfl rfl rfl (pu_move (hF.ev rfl)) ?_; clear hF; intro a hF
                    refine s_pu hF rfl rfl rfl (pu_move (hF.ev rfl)) ?_; clear hF; intro a hF
                    refine s_pu hF rfl rfl rfl (pu_move (hF.ev rfl)) ?_; clear hF; intro a hF
                    refine s_pu hF rfl rfl rfl (pu_eql (hF.ev rfl) (hF.ev rfl)) ?_; clear hF; intro a hF
                    refine s_pu hF rfl rfl rfl ((by first | exact pu_pick_t (hF.ev rfl) (hF.ev rfl) | exact pu_pick_f (hF.ev rfl) (hF.ev rfl) | exact pu_pick (hF.ev rfl) (hF.ev rfl) (hF.ev rfl))) ?_; clear hF; intro a hF
                    refine s_pu hF rfl rfl rfl (pu_assign (hF.ev rfl)) ?_; clear hF; intro a hF
                    refine s_done ?_
                    refine hK24 _ _ ?_; clear hK24
                    refine wp_ret ?_
                    refine fin1 Try.results6 hF rfl ?_
                    first | exact ⟨by simp, (hS.front 3 rfl).below⟩ | exact ⟨by simp, (hS.front 2 rfl).below⟩
                · -- bad
                  -- region 24
                  refine wp_region_lit ?_
                  refine s_pu hF rfl rfl rfl (pu_move (hF.ev rfl)) ?_; clear hF; intro a hF
                  refine s_pu hF rfl rfl rfl (pu_move (hF.ev rfl)) ?_; clear hF; intro a hF
                  refine s_news hF rfl rfl rfl (ef_lit1 (cs := [_]) sl22 ze3 rfl (hF.ev rfl) (by first | rfl | exact cells_one (by assumption)) rfl (by omega) (by omega)) hS ?_; clear hF hS; intro b152 w hS a hF
                  (first | (refine s_append 0 1 hF rfl rfl sl22 el3 (hF.ev rfl) (hF.ev rfl) hS rfl rfl rfl (by first | rfl | (simp only [List.all_cons, List.all_nil, Value.oneCell', Bool.and_true, Bool.true_and]; assumption) | (simp [Value.oneCell', *]; done)) (by unfold maxLen; omega) (by omega) ?_) | (refine s_append 0 2 hF rfl rfl sl22 el3 (hF.ev rfl) (hF.ev rfl) hS rfl rfl rfl (by first | rfl | (simp only [List.all_cons, List.all_nil, Value.oneCell', Bool.and_true, Bool.true_and]; assumption) | (simp [Value.oneCell', *]; done)) (by unfold maxLen; omega) (by omega) ?_) | (refine s_append 1 0 hF rfl rfl sl22 el3 (hF.ev rfl) (hF.ev rfl) hS rfl rfl rfl (by first | rfl | (simp only [List.all_cons, List.all_nil, Value.oneCell', Bool.and_true, Bool.true_and]; assumption) | (simp [Value.oneCell', *]; done)) (by unfold maxLen; omega) (by omega) ?_) | (refine s_append 1 2 hF rfl rfl sl22 el3 (hF.ev rfl) (hF.ev rfl) hS rfl rfl rfl (by first | rfl | (simp only [List.all_cons, List.all_nil, Value.oneCell', Bool.and_true, Bool.true_and]; assumption) | (simp [Value.oneCell', *]; done)) (by unfold maxLen; omega) (by omega) ?_) | (refine s_append 2 0 hF rfl rfl sl22 el3 (hF.ev rfl) (hF.ev rfl) hS rfl rfl rfl (by first | rfl | (simp only [List.all_cons, List.all_nil, Value.oneCell', Bool.and_true, Bool.true_and]; assumption) | (simp [Value.oneCell', *]; done)) (by unfold maxLen; omega) (by omega) ?_) | (refine s_append 2 1 hF rfl rfl sl22 el3 (hF.ev rfl) (hF.ev rfl) hS rfl rfl rfl (by first | rfl | (simp only [List.all_cons, List.all_nil, Value.oneCell', Bool.and_true, Bool.true_and]; assumption) | (simp [Value.oneCell', *]; done)) (by unfold maxLen; omega) (by omega) ?_)); (clear hS hF; intro A153 q153 w hS a hF; (try simp only [upd, del] at hS))
                  have hRd := fun (w0 : World) (F : List Chunk) (c : Nat) (A : Option Addr) (hi : nth F 0 = some (rowC 3 1 (.slice A (bs.length + 1) c) (bs.length + 1) (ints bs ++ [.int .i64 1]))) (hA : bs.length + 1 ≠ 0 → ∃ g, A = some ⟨g, 0, none⟩) =>
                    (Reads.of_row (w0 := w0) (zs := bs ++ [1]) 0 hi (fun k hk => by rw [show ints bs ++ [.int .i64 1] = ints (bs ++ [1]) by simp [ints]]; exact ints_at (by simp; omega)) (by simp) hA : Reads w0 F A (bs.length + 1) (bs ++ [1]))
                  have hrs := row_some (i := 0) hS rfl (by omega)
                  have hamt : amt (pu : Int) = true := amt_iff.2 (by omega)
                  refine s_en hF rfl rfl rfl (run_fn fk13 (hF.ev rfl) (hF.evs rfl)) (share_bad (u := pu) hS (hRd _ _ _ _ rfl (fun _ => hrs)) (by omega) (by rw [share_bad1 hamt hsh]; decide)) ?_
                  clear hS; rintro e w ⟨rfl, hS⟩
                  rw [share_bad1 hamt hsh]
                  refine ⟨_, rfl, ?_⟩; clear hF; intro a hF
                  refine s_pu hF rfl rfl rfl (pu_move (hF.ev rfl)) ?_; clear hF; intro a hF
                  refine s_pu hF rfl rfl rfl (pu_extract (hF.ev rfl) rfl) ?_; clear hF; intro a hF
                  refine s_pu hF rfl rfl rfl (pu_extract (hF.ev rfl) rfl) ?_; clear hF; intro a hF
                  refine s_pu hF rfl rfl rfl (pu_assign (hF.ev rfl)) ?_; clear hF; intro a hF
                  refine s_pu hF rfl rfl rfl (pu_assign (hF.ev rfl)) ?_; clear hF; intro a hF
                  refine s_done ?_
                  refine hK20 _ _ ?_; clear hK20
                  refine wp_seq_k fun K21 hK21 => ?_
                  refine wp_seq_k fun K22 hK22 => ?_
                  -- region 25
                  refine wp_region_lit ?_
                  refine s_pu hF rfl rfl rfl (pu_move (hF.ev rfl)) ?_; clear hF; intro a hF
                  refine s_pu hF rfl rfl rfl (pu_neq (hF.ev rfl) (hF.ev rfl)) ?_; clear hF; intro a hF
                  refine s_done ?_
                  refine hK22 _ _ ?_; clear hK22
                  refine wp_cond_split (hF.ev rfl) (fun hc4 => ?_) (fun hc4 => ?_)
                  · -- cond 4 true
                    try simp only [decide_eq_true_eq, decide_eq_false_iff_not, Bool.not_eq_true', Bool.not_eq_false', Int.not_lt, Int.not_le, ne_eq, Decidable.not_not, Bool.or_eq_true, Bool.or_eq_false_iff, Bool.and_eq_true, Bool.and_eq_false_imp] at hc4
                    refine wp_seq_k fun K23 hK23 => ?_
                    -- region 26
                    refine wp_region_lit ?_
                    refine s_pu hF rfl rfl rfl (pu_move (hF.ev rfl)) ?_; clear hF; intro a hF
                    refine s_pu hF rfl rfl rfl (pu_eql (hF.ev rfl) (hF.ev rfl)) ?_; clear hF; intro a hF
                    refine s_pu hF rfl rfl rfl (pu_assign (hF.ev rfl)) ?_; clear hF; intro a hF
                    refine s_done ?_
                    refine hK23 _ _ ?_; clear hK23
                    refine wp_ret ?_
                    refine then_ret ?_
                    refine fin1 Try.results6 hF rfl ?_
                    first | exact ⟨by simp, (hS.front 3 rfl).below⟩ | exact ⟨by simp, (hS.front 2 rfl).below⟩
                  · -- cond 4 false
                    try simp only [decide_eq_true_eq, decide_eq_false_iff_not, Bool.not_eq_true', Bool.not_eq_false', Int.not_lt, Int.not_le, ne_eq, Decidable.not_not, Bool.or_eq_true, Bool.or_eq_false_iff, Bool.and_eq_true, Bool.and_eq_false_imp] at hc4
                    first | exact absurd rfl hc4 | exact absurd trivial hc4 | omega
end Go.Proofs.Ytommaijibiipeaa
