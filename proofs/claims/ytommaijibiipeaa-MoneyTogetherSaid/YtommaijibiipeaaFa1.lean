import Derived.Test.YtommaijibiipeaaSh3
import Derived.Test.YtommaijibiipeaaSk24
/-! MoneyFair: the walk. -/
namespace Go.Proofs.Ytommaijibiipeaa
open Go Go.RowKit Go.Proofs.Ytommaijibiipeaa.Sk
set_option linter.unusedVariables false
set_option linter.unusedSimpArgs false
set_option maxRecDepth 100000

theorem share_ok {w0 w : World} {F : List Chunk} {av : Option Addr} {len cap : Nat} {zs : List Int} {u : Int} (hS : Sat w0 w F) (hR : Reads w0 F av len zs) (hlen : len ≤ 17592186044400) (h : shErr u zs = 0) :
    Calls Try.prog 13 #[.int .i64 u, .slice av len cap] w fun e w' => ∃ outs g c, outs.length = zs.length ∧ Dealt u zs outs ∧ e = .returned (.tuple #[.slice (some ⟨g, 0, none⟩) outs.length c, .int .i64 0]) ∧ Sat w0 w' (rowC 3 1 (.slice (some ⟨g, 0, none⟩) outs.length c) outs.length (ints outs) :: F) := by
  refine (share_c hS hR hlen).mono ?_
  rintro e w' (⟨_, outs, g, c, h1, h2, h3, h4⟩ | ⟨h1, _⟩)
  · exact ⟨outs, g, c, h1, h2, h3, h4⟩
  · exact absurd h h1
theorem share_bad {w0 w : World} {F : List Chunk} {av : Option Addr} {len cap : Nat} {zs : List Int} {u : Int} (hS : Sat w0 w F) (hR : Reads w0 F av len zs) (hlen : len ≤ 17592186044400) (h : shErr u zs ≠ 0) :
    Calls Try.prog 13 #[.int .i64 u, .slice av len cap] w fun e w' => e = .returned (.tuple #[.slice none 0 0, .int .i64 (shErr u zs)]) ∧ Sat w0 w' F := by
  refine (share_c hS hR hlen).mono ?_
  rintro e w' (⟨h1, _⟩ | ⟨_, h2, h3⟩)
  · exact absurd h1 h
  · exact ⟨h2, h3⟩
theorem reads_row {w0 : World} {F : List Chunk} {A : Option Addr} {c i : Nat} {ls : List Int} (hi : nth F i = some (rowC 3 1 (.slice A ls.length c) ls.length (ints ls))) (hA : ls.length ≠ 0 → ∃ g, A = some ⟨g, 0, none⟩) : Reads w0 F A ls.length ls :=
  .of_row i hi (fun k hk => by simp [ints, List.getD_eq_getElem?_getD, hk]) rfl hA
theorem total_nn {l : List Int} (h : ∀ z ∈ l, 0 ≤ z) : 0 ≤ total l := by
  induction l with
  | nil => simp [total]
  | cons x r ih => rw [total_cons]; have := h x (by simp); have := ih (fun z hz => h z (by simp [hz])); omega
theorem getD_mem {l : List Int} {i : Nat} (h : i < l.length) : l.getD i 0 ∈ l := by rw [List.getD_eq_getElem?_getD, List.getElem?_eq_getElem h]; exact List.getElem_mem h
set_option maxHeartbeats 1000000 in
theorem moneyFair_walk (W : World) (x0 : Int) (hx0 : (Lit.int .i64 x0).wf = true) (a1 : Option Addr) (l1 q1 : Nat) (z1 : List Int) (h1 : IsRow .i64 W a1 l1 q1 z1) (hl1 : l1 * 8 ≤ 140737488351232) :
    Calls Try.prog 5 #[.int .i64 x0, .slice a1 l1 q1] W fun e w' => e = .returned (.bool true) ∧ Below W.heap.size W w' := by
  have hx0 := wf64 hx0
  have hz1 := h1.ints
  have hS0 := sat_whole W
  obtain ⟨w, hw⟩ : ∃ w, w = W := ⟨_, rfl⟩
  have hS : Sat W w [whole W] := by rw [hw]; exact hS0
  rw [show Calls Try.prog 5 #[.int .i64 x0, .slice a1 l1 q1] W = Calls Try.prog 5 #[.int .i64 x0, .slice a1 l1 q1] w by rw [hw]]
  clear hw hS0
  refine enter Try.func5 rfl Try.ntmps5 (Nat.le_of_ble_eq_true rfl) fun a hF => ?_
  refine wp_seq_k fun K0 hK0 => ?_
  -- region 0
  refine wp_region_lit ?_
  refine s_pu hF rfl rfl rfl (pu_assign (hF.ev rfl)) ?_; clear hF; intro a hF
  refine s_done ?_
  refine hK0 _ _ ?_; clear hK0
  refine wp_seq_k fun K1 hK1 => ?_
  -- region 1
  refine wp_region_lit ?_
  refine s_pu hF rfl rfl rfl (pu_move (hF.ev rfl)) ?_; clear hF; intro a hF
  refine s_en hF rfl rfl rfl (run_fn fk12 (hF.ev rfl) (hF.evs rfl)) (pick_c hS (by omega) hx0.1 hx0.2) ?_
  clear hS; rintro e w ⟨pu, hpu, rfl, hS⟩
  refine ⟨_, rfl, ?_⟩; clear hF; intro a hF
  refine s_pu hF rfl rfl rfl (pu_assign (hF.ev rfl)) ?_; clear hF; intro a hF
  refine s_done ?_
  refine hK1 _ _ ?_; clear hK1
  refine wp_seq_k fun K2 hK2 => ?_
  -- region 2
  refine wp_region_lit ?_
  refine s_pu hF rfl rfl rfl (pu_assign (hF.ev rfl)) ?_; clear hF; intro a hF
  refine s_done ?_
  refine hK2 _ _ ?_; clear hK2
  refine wp_seq_k fun K3 hK3 => ?_
  -- region 3
  refine wp_region_lit ?_
  refine s_pu hF rfl rfl rfl (pu_assign (hF.ev rfl)) ?_; clear hF; intro a hF
  refine s_done ?_
  refine hK3 _ _ ?_; clear hK3
  refine wp_seq_j (fun a w => ∃ (ls : List Int) (A : Option Addr) (c : Nat), ls.length ≤ 100 ∧ (∀ z ∈ ls, 0 ≤ z ∧ z ≤ 1000000) ∧ Fr a 208 [(5, .int .i64 pu), (6, .slice A ls.length c), (7, .int .i64 (total ls))] ∧
    Sat W w [rowC 3 1 (.slice A ls.length c) ls.length (ints ls), whole W]) ?_ ?_
  · -- up to the join s4
    refine wp_seq_k fun K5 hK5 => ?_
    -- region 4
    refine wp_region_lit ?_
    refine s_pu hF rfl rfl rfl (pu_assign (hF.ev rfl)) ?_; clear hF; intro a hF
    refine s_done ?_
    refine hK5 _ _ ?_; clear hK5
    refine wp_block ?_
    replace hS := row_nil (E := 3) (sz := 1) hS
    refine wp_ind (fun j a w => ∃ (ls : List Int) (A : Option Addr) (c : Nat), j = l1 - ls.length ∧ ls.length ≤ l1 ∧ ls.length ≤ 100 ∧ (∀ z ∈ ls, 0 ≤ z ∧ z ≤ 1000000) ∧
      Fr a 208 [(1, .slice a1 l1 q1), (5, .int .i64 pu), (6, .slice A ls.length c), (7, .int .i64 (total ls)), (8, .int .i64 ls.length)] ∧ Sat W w [rowC 3 1 (.slice A ls.length c) ls.length (ints ls), whole W]) l1
      ⟨[], none, 0, rfl, by simp, by simp, by simp, hF.sub ⟨rfl, rfl, rfl, rfl, rfl, trivial⟩, hS⟩ ?_
    clear hS hF
    rintro j a w ⟨ls, A, c, rfl, hll, hl100, hlb, hF, hS⟩
    refine wp_seq_k fun K6 hK6 => ?_
    refine wp_seq_k fun K7 hK7 => ?_
    -- region 5
    refine wp_region_lit ?_
    refine s_pu hF rfl rfl rfl (pu_move (hF.ev rfl)) ?_; clear hF; intro a hF
    refine s_pu hF rfl rfl rfl (pu_move (hF.ev rfl)) ?_; clear hF; intro a hF
    refine s_pu hF rfl rfl rfl (pu_len sl22 (hF.ev rfl)) ?_; clear hF; intro a hF
    refine s_pu hF rfl rfl rfl (pu_lss (hF.ev rfl) (hF.ev rfl)) ?_; clear hF; intro a hF
    refine s_pu hF rfl rfl rfl (pu_move (hF.ev rfl)) ?_; clear hF; intro a hF
    refine fr_split hF (t := 20) rfl ?_ ?_
    · clear hF; intro hg20 hF   -- slot 20 true
      try simp only [decide_eq_true_eq, decide_eq_false_iff_not, Bool.not_eq_true', Bool.not_eq_false', Int.not_lt, Int.not_le, ne_eq, Decidable.not_not, Bool.or_eq_true, Bool.or_eq_false_iff, Bool.and_eq_true, Bool.and_eq_false_imp] at hg20
      refine s_pu hF rfl rfl rfl (pu_move (hF.ev rfl)) ?_; clear hF; intro a hF
      refine s_pu hF rfl rfl rfl (pu_lss (hF.ev rfl) (hF.ev rfl)) ?_; clear hF; intro a hF
      refine s_pu hF rfl rfl rfl ((by first | exact pu_pick_t (hF.ev rfl) (hF.ev rfl) | exact pu_pick_f (hF.ev rfl) (hF.ev rfl) | exact pu_pick (hF.ev rfl) (hF.ev rfl) (hF.ev rfl))) ?_; clear hF; intro a hF
      refine s_done ?_
      refine hK7 _ _ ?_; clear hK7
      refine wp_cond_split (hF.ev rfl) (fun hc0 => ?_) (fun hc0 => ?_)
      · -- cond 0 true
        try simp only [decide_eq_true_eq, decide_eq_false_iff_not, Bool.not_eq_true', Bool.not_eq_false', Int.not_lt, Int.not_le, ne_eq, Decidable.not_not, Bool.or_eq_true, Bool.or_eq_false_iff, Bool.and_eq_true, Bool.and_eq_false_imp] at hc0
        have hil : ls.length < l1 := by omega
        obtain ⟨x, rfl, hv, hb⟩ := hz1.at_ ls.length hil
        have hv1 : w.cell? (x.add ((ls.length : Int).toNat * 1)) = some (.int .i64 (z1.getD ls.length 0)) := by
          rw [Int.toNat_natCast, Nat.mul_one]
          exact hS.whole_at (i := 1) rfl hv
        have htn := total_nonneg hlb ls.length
        rw [List.take_length] at htn
        refine wp_skip ?_
        refine hK6 _ _ ?_; clear hK6
        refine wp_seq_k fun K8 hK8 => ?_
        refine wp_block ?_
        refine wp_seq_k fun K9 hK9 => ?_
        -- region 7
        refine wp_region_lit ?_
        refine s_pu hF rfl rfl rfl (pu_move (hF.ev rfl)) ?_; clear hF; intro a hF
        refine s_pu hF rfl rfl rfl (pu_move (hF.ev rfl)) ?_; clear hF; intro a hF
        refine s_pu hF rfl rfl rfl (pu_move (hF.ev rfl)) ?_; clear hF; intro a hF
        refine s_pu hF rfl rfl rfl ((by first | exact pu_elem sl22 (hF.ev rfl) (hF.ev rfl) (by first | omega | simp) (by first | omega | (simp; done) | (simp; omega)) | exact pu_elemA sl22 (hF.ev rfl) (hF.ev rfl) (by omega) (by omega))) ?_; clear hF; intro a hF
        refine s_rd hF rfl rfl rfl (by first | exact rd_load pl3 (hF.ev rfl) (by assumption) | exact rd_load pl3 (hF.ev rfl) (hS.cellL (i := 0) rfl rfl) | exact rd_load pl3 (hF.ev rfl) (hS.cellL (i := 1) rfl rfl) | exact rd_load pl3 (hF.ev rfl) (hS.cellL (i := 2) rfl rfl) | exact rd_load pl3 (hF.ev rfl) (hS.cell (i := 0) rfl (by assumption)) | exact rd_load pl3 (hF.ev rfl) (hS.cell (i := 1) rfl (by assumption)) | exact rd_load pl3 (hF.ev rfl) (hS.cell (i := 2) rfl (by assumption)) | exact rd_load pl3 (hF.ev rfl) (row_at (i := 0) hS rfl (by first | assumption | rfl)) | exact rd_load pl3 (hF.ev rfl) (row_at0 (i := 0) hS rfl (by first | assumption | rfl)) | exact rd_load pl3 (hF.ev rfl) (row_at (i := 1) hS rfl (by first | assumption | rfl)) | exact rd_load pl3 (hF.ev rfl) (row_at0 (i := 1) hS rfl (by first | assumption | rfl)) | exact rd_load pl3 (hF.ev rfl) (row_at (i := 2) hS rfl (by first | assumption | rfl)) | exact rd_load pl3 (hF.ev rfl) (row_at0 (i := 2) hS rfl (by first | assumption | rfl))) ?_; clear hF; intro a hF
        refine s_en hF rfl rfl rfl (run_fn fk12 (hF.ev rfl) (hF.evs rfl)) (pick_c hS (by omega) hb.1 hb.2) ?_
        clear hS; rintro e w ⟨pv, hpv, rfl, hS⟩
        refine ⟨_, rfl, ?_⟩; clear hF; intro a hF
        refine s_news hF rfl rfl rfl (ef_lit1 (cs := [_]) sl22 ze3 rfl (hF.ev rfl) (by first | rfl | exact cells_one (by assumption)) rfl (by omega) (by omega)) hS ?_; clear hF hS; intro b32 w hS a hF
        (first | (refine s_append 0 1 hF rfl rfl sl22 el3 (hF.ev rfl) (hF.ev rfl) hS rfl rfl rfl (by first | rfl | (simp only [List.all_cons, List.all_nil, Value.oneCell', Bool.and_true, Bool.true_and]; assumption) | (simp [Value.oneCell', *]; done)) (by unfold maxLen; omega) (by omega) ?_) | (refine s_append 0 2 hF rfl rfl sl22 el3 (hF.ev rfl) (hF.ev rfl) hS rfl rfl rfl (by first | rfl | (simp only [List.all_cons, List.all_nil, Value.oneCell', Bool.and_true, Bool.true_and]; assumption) | (simp [Value.oneCell', *]; done)) (by unfold maxLen; omega) (by omega) ?_) | (refine s_append 1 0 hF rfl rfl sl22 el3 (hF.ev rfl) (hF.ev rfl) hS rfl rfl rfl (by first | rfl | (simp only [List.all_cons, List.all_nil, Value.oneCell', Bool.and_true, Bool.true_and]; assumption) | (simp [Value.oneCell', *]; done)) (by unfold maxLen; omega) (by omega) ?_) | (refine s_append 1 2 hF rfl rfl sl22 el3 (hF.ev rfl) (hF.ev rfl) hS rfl rfl rfl (by first | rfl | (simp only [List.all_cons, List.all_nil, Value.oneCell', Bool.and_true, Bool.true_and]; assumption) | (simp [Value.oneCell', *]; done)) (by unfold maxLen; omega) (by omega) ?_) | (refine s_append 2 0 hF rfl rfl sl22 el3 (hF.ev rfl) (hF.ev rfl) hS rfl rfl rfl (by first | rfl | (simp only [List.all_cons, List.all_nil, Value.oneCell', Bool.and_true, Bool.true_and]; assumption) | (simp [Value.oneCell', *]; done)) (by unfold maxLen; omega) (by omega) ?_) | (refine s_append 2 1 hF rfl rfl sl22 el3 (hF.ev rfl) (hF.ev rfl) hS rfl rfl rfl (by first | rfl | (simp only [List.all_cons, List.all_nil, Value.oneCell', Bool.and_true, Bool.true_and]; assumption) | (simp [Value.oneCell', *]; done)) (by unfold maxLen; omega) (by omega) ?_)); (clear hS hF; intro A33 q33 w hS a hF; (try simp only [upd, del] at hS))
        refine s_pu hF rfl rfl rfl (pu_assign (hF.ev rfl)) ?_; clear hF; intro a hF
        refine s_done ?_
        refine hK9 _ _ ?_; clear hK9
        -- region 8
        refine wp_region_lit ?_
        rw [ints_snoc, show ls.length + 1 = (ls ++ [(pv : Int)]).length by simp] at hS
        rw [show ls.length + 1 = (ls ++ [(pv : Int)]).length by simp] at hF
        obtain ⟨ga, rfl⟩ := row_some (i := 0) hS rfl (by simp)
        have hv2 : w.cell? ⟨ga, 0 + (ls.length : Int).toNat * 1, none⟩ = some (.int .i64 (pv : Nat)) := row_at (i := 0) hS rfl (by simp [ints])
        have hlen2 : ls.length < (ls ++ [(pv : Int)]).length := by simp
        refine s_pu hF rfl rfl rfl (pu_move (hF.ev rfl)) ?_; clear hF; intro a hF
        refine s_pu hF rfl rfl rfl (pu_move (hF.ev rfl)) ?_; clear hF; intro a hF
        refine s_pu hF rfl rfl rfl (pu_move (hF.ev rfl)) ?_; clear hF; intro a hF
        refine s_pu hF rfl rfl rfl ((by first | exact pu_elem sl22 (hF.ev rfl) (hF.ev rfl) (by first | omega | simp) (by first | omega | (simp; done) | (simp; omega)) | exact pu_elemA sl22 (hF.ev rfl) (hF.ev rfl) (by omega) (by omega))) ?_; clear hF; intro a hF
        refine s_rd hF rfl rfl rfl (by first | exact rd_load pl3 (hF.ev rfl) (by assumption) | exact rd_load pl3 (hF.ev rfl) (hS.cellL (i := 0) rfl rfl) | exact rd_load pl3 (hF.ev rfl) (hS.cellL (i := 1) rfl rfl) | exact rd_load pl3 (hF.ev rfl) (hS.cellL (i := 2) rfl rfl) | exact rd_load pl3 (hF.ev rfl) (hS.cell (i := 0) rfl (by assumption)) | exact rd_load pl3 (hF.ev rfl) (hS.cell (i := 1) rfl (by assumption)) | exact rd_load pl3 (hF.ev rfl) (hS.cell (i := 2) rfl (by assumption)) | exact rd_load pl3 (hF.ev rfl) (row_at (i := 0) hS rfl (by first | assumption | rfl)) | exact rd_load pl3 (hF.ev rfl) (row_at0 (i := 0) hS rfl (by first | assumption | rfl)) | exact rd_load pl3 (hF.ev rfl) (row_at (i := 1) hS rfl (by first | assumption | rfl)) | exact rd_load pl3 (hF.ev rfl) (row_at0 (i := 1) hS rfl (by first | assumption | rfl)) | exact rd_load pl3 (hF.ev rfl) (row_at (i := 2) hS rfl (by first | assumption | rfl)) | exact rd_load pl3 (hF.ev rfl) (row_at0 (i := 2) hS rfl (by first | assumption | rfl))) ?_; clear hF; intro a hF
        refine s_pu hF rfl rfl rfl ((by first | exact pu_add64 (hF.ev rfl) (hF.ev rfl) (by omega) | exact pu_add (hF.ev rfl) (hF.ev rfl))) ?_; clear hF; intro a hF
        refine s_pu hF rfl rfl rfl (pu_assign (hF.ev rfl)) ?_; clear hF; intro a hF
        refine s_done ?_
        refine blk_normal ?_
        refine hK8 _ _ ?_; clear hK8
        -- region 6
        refine wp_region_lit ?_
        refine s_pu hF rfl rfl rfl (pu_move (hF.ev rfl)) ?_; clear hF; intro a hF
        refine s_pu hF rfl rfl rfl ((by first | exact pu_add64 (hF.ev rfl) (hF.ev rfl) (by omega) | exact pu_add (hF.ev rfl) (hF.ev rfl))) ?_; clear hF; intro a hF
        refine s_pu hF rfl rfl rfl (pu_assign (hF.ev rfl)) ?_; clear hF; intro a hF
        refine s_done ?_
        refine ⟨_, by simp; omega, ls ++ [(pv : Int)], _, _, rfl, by simp; omega, by simp; omega, ?_, ?_, hS.drop 1⟩
        · intro z hz
          rcases List.mem_append.1 hz with hz | hz
          · exact hlb z hz
          · simp at hz; omega
        · rw [total_app, show total [(pv : Int)] = pv by simp [total], show (((ls ++ [(pv : Int)]).length : Nat) : Int) = (ls.length : Int) + 1 by simp]
          exact hF.sub ⟨rfl, rfl, rfl, rfl, rfl, trivial⟩
      · -- cond 0 false
        try simp only [decide_eq_true_eq, decide_eq_false_iff_not, Bool.not_eq_true', Bool.not_eq_false', Int.not_lt, Int.not_le, ne_eq, Decidable.not_not, Bool.or_eq_true, Bool.or_eq_false_iff, Bool.and_eq_true, Bool.and_eq_false_imp] at hc0
        refine wp_exit ?_
        refine then_exit ?_
        refine then_exit ?_
        refine blk_exit ?_
        exact ⟨ls, A, c, hl100, hlb, hF.sub ⟨rfl, rfl, rfl, trivial⟩, hS⟩
    · clear hF; intro hg20 hF   -- slot 20 false
      try simp only [decide_eq_true_eq, decide_eq_false_iff_not, Bool.not_eq_true', Bool.not_eq_false', Int.not_lt, Int.not_le, ne_eq, Decidable.not_not, Bool.or_eq_true, Bool.or_eq_false_iff, Bool.and_eq_true, Bool.and_eq_false_imp] at hg20
      refine s_no hF rfl rfl rfl ?_; clear hF; intro a hF
      refine s_no hF rfl rfl rfl ?_; clear hF; intro a hF
      refine s_pu hF rfl rfl rfl ((by first | exact pu_pick_t (hF.ev rfl) (hF.ev rfl) | exact pu_pick_f (hF.ev rfl) (hF.ev rfl) | exact pu_pick (hF.ev rfl) (hF.ev rfl) (hF.ev rfl))) ?_; clear hF; intro a hF
      refine s_done ?_
      refine hK7 _ _ ?_; clear hK7
      refine wp_cond_false (hF.ev rfl) ?_
      refine wp_exit ?_
      refine then_exit ?_
      refine then_exit ?_
      refine blk_exit ?_
      exact ⟨ls, A, c, hl100, hlb, hF.sub ⟨rfl, rfl, rfl, trivial⟩, hS⟩
  · -- behind the join s4
    clear hS hF
    rintro a w ⟨ls, A, c, hl100, hlb, hF, hS⟩
    have hA : ls.length ≠ 0 → ∃ g, A = some ⟨g, 0, none⟩ := fun h => row_some (i := 0) hS rfl (by omega)
    have hamt : amt (pu : Int) = true := amt_iff.2 (by omega)
    have hall : ls.all wOk = true := List.all_eq_true.2 fun z hz => wOk_iff.2 (hlb z hz)
    have hse : shErr pu ls = if total ls ≠ 0 then 0 else 1 := by
      unfold shErr
      rw [if_pos hamt]
      by_cases h : total ls = 0
      · rw [if_neg (fun k => k.2.2 h), if_neg (fun k => k h)]
      · rw [if_pos ⟨hall, hl100, h⟩, if_pos h]
    have htn := total_nonneg hlb ls.length
    rw [List.take_length] at htn
    refine wp_seq_k fun K4 hK4 => ?_
    -- region 9
    rcases (by omega : 1 ≤ total ls ∨ total ls = 0) with ht1 | ht0
    · -- ok
      -- region 9
      refine wp_region_lit ?_
      refine s_pu hF rfl rfl rfl (pu_move (hF.ev rfl)) ?_; clear hF; intro a hF
      refine s_pu hF rfl rfl rfl (pu_move (hF.ev rfl)) ?_; clear hF; intro a hF
      refine s_en hF rfl rfl rfl (run_fn fk13 (hF.ev rfl) (hF.evs rfl)) (share_ok (u := pu) hS (reads_row (i := 0) rfl hA) (by omega) (by rw [hse, if_pos (by omega)])) ?_
      clear hS; rintro e w ⟨outs, go, co, hol, hd, rfl, hS⟩
      refine ⟨_, rfl, ?_⟩; clear hF; intro a hF
      refine s_pu hF rfl rfl rfl (pu_move (hF.ev rfl)) ?_; clear hF; intro a hF
      refine s_pu hF rfl rfl rfl (pu_extract (hF.ev rfl) rfl) ?_; clear hF; intro a hF
      refine s_pu hF rfl rfl rfl (pu_extract (hF.ev rfl) rfl) ?_; clear hF; intro a hF
      refine s_pu hF rfl rfl rfl (pu_assign (hF.ev rfl)) ?_; clear hF; intro a hF
      refine s_pu hF rfl rfl rfl (pu_assign (hF.ev rfl)) ?_; clear hF; intro a hF
      refine s_done ?_
      refine hK4 _ _ ?_; clear hK4
      refine wp_seq_k fun K5 hK5 => ?_
      refine wp_seq_k fun K6 hK6 => ?_
      -- region 10
      refine wp_region_lit ?_
      refine s_pu hF rfl rfl rfl (pu_move (hF.ev rfl)) ?_; clear hF; intro a hF
      refine s_pu hF rfl rfl rfl (pu_eql (hF.ev rfl) (hF.ev rfl)) ?_; clear hF; intro a hF
      refine s_done ?_
      refine hK6 _ _ ?_; clear hK6
      refine wp_cond_split (hF.ev rfl) (fun hc1 => ?_) (fun hc1 => ?_)
      · -- cond 1 true
        try simp only [decide_eq_true_eq, decide_eq_false_iff_not, Bool.not_eq_true', Bool.not_eq_false', Int.not_lt, Int.not_le, ne_eq, Decidable.not_not, Bool.or_eq_true, Bool.or_eq_false_iff, Bool.and_eq_true, Bool.and_eq_false_imp] at hc1
        omega
      · -- cond 1 false
        try simp only [decide_eq_true_eq, decide_eq_false_iff_not, Bool.not_eq_true', Bool.not_eq_false', Int.not_lt, Int.not_le, ne_eq, Decidable.not_not, Bool.or_eq_true, Bool.or_eq_false_iff, Bool.and_eq_true, Bool.and_eq_false_imp] at hc1
        refine wp_skip ?_
        refine hK5 _ _ ?_; clear hK5
        refine wp_seq_k fun K7 hK7 => ?_
        refine wp_seq_k fun K8 hK8 => ?_
        -- region 12
        refine wp_region_lit ?_
        refine s_pu hF rfl rfl rfl (pu_move (hF.ev rfl)) ?_; clear hF; intro a hF
        refine s_pu hF rfl rfl rfl (pu_neq (hF.ev rfl) (hF.ev rfl)) ?_; clear hF; intro a hF
        refine s_pu hF rfl rfl rfl (pu_move (hF.ev rfl)) ?_; clear hF; intro a hF
        refine s_pu hF rfl rfl rfl (pu_move (hF.ev rfl)) ?_; clear hF; intro a hF
        refine s_pu hF rfl rfl rfl (pu_len sl22 (hF.ev rfl)) ?_; clear hF; intro a hF
        refine s_pu hF rfl rfl rfl (pu_move (hF.ev rfl)) ?_; clear hF; intro a hF
        refine s_pu hF rfl rfl rfl (pu_len sl22 (hF.ev rfl)) ?_; clear hF; intro a hF
        refine s_pu hF rfl rfl rfl (pu_neq (hF.ev rfl) (hF.ev rfl)) ?_; clear hF; intro a hF
        refine s_pu hF rfl rfl rfl ((by first | exact pu_pick_t (hF.ev rfl) (hF.ev rfl) | exact pu_pick_f (hF.ev rfl) (hF.ev rfl) | exact pu_pick (hF.ev rfl) (hF.ev rfl) (hF.ev rfl))) ?_; clear hF; intro a hF
        refine s_done ?_
        refine hK8 _ _ ?_; clear hK8
        refine wp_cond_split (hF.ev rfl) (fun hc2 => ?_) (fun hc2 => ?_)
        · -- cond 2 true
          try simp only [decide_eq_true_eq, decide_eq_false_iff_not, Bool.not_eq_true', Bool.not_eq_false', Int.not_lt, Int.not_le, ne_eq, Decidable.not_not, Bool.or_eq_true, Bool.or_eq_false_iff, Bool.and_eq_true, Bool.and_eq_false_imp] at hc2
          omega
        · -- cond 2 false
          try simp only [decide_eq_true_eq, decide_eq_false_iff_not, Bool.not_eq_true', Bool.not_eq_false', Int.not_lt, Int.not_le, ne_eq, Decidable.not_not, Bool.or_eq_true, Bool.or_eq_false_iff, Bool.and_eq_true, Bool.and_eq_false_imp] at hc2
          refine wp_skip ?_
          refine hK7 _ _ ?_; clear hK7
          refine wp_seq_k fun K9 hK9 => ?_
          -- region 14
          refine wp_region_lit ?_
          refine s_pu hF rfl rfl rfl (pu_assign (hF.ev rfl)) ?_; clear hF; intro a hF
          refine s_done ?_
          refine hK9 _ _ ?_; clear hK9
          refine wp_seq_k fun K10 hK10 => ?_
          refine wp_seq_k fun K11 hK11 => ?_
          -- region 15
          refine wp_region_lit ?_
          refine s_pu hF rfl rfl rfl (pu_assign (hF.ev rfl)) ?_; clear hF; intro a hF
          refine s_done ?_
          refine hK11 _ _ ?_; clear hK11
          refine wp_block ?_
          obtain ⟨bb, hf⟩ := dealt_fair hd (by omega) hlb ht1
          have hobd : ∀ z ∈ outs, 0 ≤ z ∧ z ≤ 999999999999 := by
            intro z hz
            obtain ⟨k, hk⟩ := List.mem_iff_getElem?.1 hz
            have hkl := (List.getElem?_eq_some_iff.1 hk).1
            have := fair_one hf (by omega) hlb ht1 (i := k) (by omega)
            rw [show outs.getD k 0 = z by rw [List.getD_eq_getElem?_getD, hk]; rfl] at this
            omega
          refine wp_ind (fun j a w => ∃ (i : Nat), j = ls.length - i ∧ i ≤ ls.length ∧
            Fr a 208 [(5, .int .i64 pu), (6, .slice A ls.length c), (7, .int .i64 (total ls)), (9, .slice (some ⟨go, 0, none⟩) outs.length co), (11, .int .i64 (total (outs.take i))), (12, .int .i64 i)] ∧
            Sat W w [rowC 3 1 (.slice (some ⟨go, 0, none⟩) outs.length co) outs.length (ints outs), rowC 3 1 (.slice A ls.length c) ls.length (ints ls), whole W]) ls.length
            ⟨0, rfl, by omega, hF.sub ⟨rfl, rfl, rfl, rfl, rfl, rfl, trivial⟩, hS⟩ ?_
          clear hS hF
          rintro j a w ⟨i, rfl, hi, hF, hS⟩
          refine wp_seq_k fun K12 hK12 => ?_
          refine wp_seq_k fun K13 hK13 => ?_
          -- region 16
          refine wp_region_lit ?_
          refine s_pu hF rfl rfl rfl (pu_move (hF.ev rfl)) ?_; clear hF; intro a hF
          refine s_pu hF rfl rfl rfl (pu_move (hF.ev rfl)) ?_; clear hF; intro a hF
          refine s_pu hF rfl rfl rfl (pu_len sl22 (hF.ev rfl)) ?_; clear hF; intro a hF
          refine s_pu hF rfl rfl rfl (pu_lss (hF.ev rfl) (hF.ev rfl)) ?_; clear hF; intro a hF
          refine s_done ?_
          refine hK13 _ _ ?_; clear hK13
          refine wp_cond_split (hF.ev rfl) (fun hc3 => ?_) (fun hc3 => ?_)
          · -- cond 3 true
            try simp only [decide_eq_true_eq, decide_eq_false_iff_not, Bool.not_eq_true', Bool.not_eq_false', Int.not_lt, Int.not_le, ne_eq, Decidable.not_not, Bool.or_eq_true, Bool.or_eq_false_iff, Bool.and_eq_true, Bool.and_eq_false_imp] at hc3
            have hil : i < ls.length := by omega
            have hio : i < outs.length := by omega
            obtain ⟨ga, rfl⟩ := row_some (i := 1) hS rfl (by omega)
            have hoi := ints_at hio
            have hli := ints_at hil
            obtain ⟨f1, f2, f3, f4, f5, f6⟩ := fair_one hf (by omega) hlb ht1 hil
            have hz := hlb _ (getD_mem hil)
            have hm0 : 0 ≤ (pu : Int) * ls.getD i 0 := Int.mul_nonneg (by omega) hz.1
            have hm1 : (pu : Int) * ls.getD i 0 ≤ 999999999999 * 1000000 := Int.mul_le_mul (by omega) hz.2 hz.1 (by omega)
            have hq0 : 0 ≤ (pu : Int) * ls.getD i 0 / total ls := Int.ediv_nonneg hm0 (by omega)
            have htt := total_take (zs := outs) hio
            have htb : 0 ≤ total (outs.take i) ∧ total (outs.take i) ≤ 999999999999 * 100 := by
              have h1 := total_nn (l := outs.take i) (fun z hz => (hobd z (List.mem_of_mem_take hz)).1)
              have h2 := total_bd (l := outs.take i) (b := 999999999999) (fun z hz => (hobd z (List.mem_of_mem_take hz)).2)
              rw [List.length_take] at h2
              have h3 : (999999999999 : Int) * (min i outs.length : Nat) ≤ 999999999999 * 100 := Int.mul_le_mul_of_nonneg_left (by omega) (by omega)
              omega
            refine wp_skip ?_
            refine hK12 _ _ ?_; clear hK12
            refine wp_seq_k fun K14 hK14 => ?_
            refine wp_block ?_
            refine wp_seq_k fun K15 hK15 => ?_
            refine wp_seq_k fun K16 hK16 => ?_
            -- region 18
            refine d_start (S := (fun w => Sat W w _)) (ds := []) (ord := [(0, .pu), (1, .pu), (2, .pu), (3, .tk), (4, .pu), (5, .pu), (6, .pu), (7, .pu), (8, .pu), (9, .tk), (10, .pu), (11, .pu), (12, .pu), (13, .pu), (14, .pu), (15, .pu), (16, .pu), (17, .tk), (18, .pu), (19, .pu), (20, .pu), (21, .pu), (22, .tk), (23, .pu), (24, .pu), (25, .pu), (26, .pu), (27, .pu), (28, .pu), (29, .pu), (30, .pu), (31, .pu), (32, .pu), (33, .tk), (34, .pu), (35, .pu), (36, .pu), (37, .pu), (38, .tk), (39, .pu), (40, .pu), (41, .pu), (42, .pu), (43, .pu), (44, .pu), (45, .pu), (46, .pu), (47, .pu), (48, .tk), (49, .pu), (50, .pu), (51, .pu), (52, .pu), (53, .pu), (54, .tk), (55, .pu), (56, .pu), (57, .pu)]) mixed ⟨chk_fast (by kernel_rfl), fun _ d _ _ _ h => by cases d <;> exact h⟩ hS.drew fun hD => ?_
            replace hS := hS.drew; generalize w.drew = w at hS ⊢
            refine d_pu hD hF rfl rfl rfl rfl rfl (pu_move (hF.ev rfl)) ?_; clear hF; intro a hF
            refine d_pu hD hF rfl rfl rfl rfl rfl (pu_move (hF.ev rfl)) ?_; clear hF; intro a hF
            refine d_pu hD hF rfl rfl rfl rfl rfl ((by first | exact pu_elem sl22 (hF.ev rfl) (hF.ev rfl) (by first | omega | simp) (by first | omega | (simp; done) | (simp; omega)) | exact pu_elemA sl22 (hF.ev rfl) (hF.ev rfl) (by omega) (by omega))) ?_; clear hF; intro a hF
            refine d_rd hD hF rfl rfl rfl rfl rfl hS (fun w hS => (by first | exact rd_load pl3 (hF.ev rfl) (by assumption) | exact rd_load pl3 (hF.ev rfl) (hS.cellL (i := 0) rfl rfl) | exact rd_load pl3 (hF.ev rfl) (hS.cellL (i := 1) rfl rfl) | exact rd_load pl3 (hF.ev rfl) (hS.cellL (i := 2) rfl rfl) | exact rd_load pl3 (hF.ev rfl) (hS.cell (i := 0) rfl (by assumption)) | exact rd_load pl3 (hF.ev rfl) (hS.cell (i := 1) rfl (by assumption)) | exact rd_load pl3 (hF.ev rfl) (hS.cell (i := 2) rfl (by assumption)) | exact rd_load pl3 (hF.ev rfl) (row_at (i := 0) hS rfl (by first | assumption | rfl)) | exact rd_load pl3 (hF.ev rfl) (row_at0 (i := 0) hS rfl (by first | assumption | rfl)) | exact rd_load pl3 (hF.ev rfl) (row_at (i := 1) hS rfl (by first | assumption | rfl)) | exact rd_load pl3 (hF.ev rfl) (row_at0 (i := 1) hS rfl (by first | assumption | rfl)) | exact rd_load pl3 (hF.ev rfl) (row_at (i := 2) hS rfl (by first | assumption | rfl)) | exact rd_load pl3 (hF.ev rfl) (row_at0 (i := 2) hS rfl (by first | assumption | rfl)))) ?_; clear hF; intro a hF
            refine d_pu hD hF rfl rfl rfl rfl rfl (pu_lss (hF.ev rfl) (hF.ev rfl)) ?_; clear hF; intro a hF
            refine d_pu hD hF rfl rfl rfl rfl rfl (pu_move (hF.ev rfl)) ?_; clear hF; intro a hF
            refine fr_split hF (t := 75) rfl ?_ ?_
            · clear hF; intro hg75 hF   -- slot 75 true
              try simp only [decide_eq_true_eq, decide_eq_false_iff_not, Bool.not_eq_true', Bool.not_eq_false', Int.not_lt, Int.not_le, ne_eq, Decidable.not_not, Bool.or_eq_true, Bool.or_eq_false_iff, Bool.and_eq_true, Bool.and_eq_false_imp] at hg75
              omega
            · clear hF; intro hg75 hF   -- slot 75 false
              try simp only [decide_eq_true_eq, decide_eq_false_iff_not, Bool.not_eq_true', Bool.not_eq_false', Int.not_lt, Int.not_le, ne_eq, Decidable.not_not, Bool.or_eq_true, Bool.or_eq_false_iff, Bool.and_eq_true, Bool.and_eq_false_imp] at hg75
              refine d_pu hD hF rfl rfl rfl rfl rfl (pu_move (hF.ev rfl)) ?_; clear hF; intro a hF
              refine d_pu hD hF rfl rfl rfl rfl rfl (pu_move (hF.ev rfl)) ?_; clear hF; intro a hF
              refine d_pu hD hF rfl rfl rfl rfl rfl ((by first | exact pu_elem sl22 (hF.ev rfl) (hF.ev rfl) (by first | omega | simp) (by first | omega | (simp; done) | (simp; omega)) | exact pu_elemA sl22 (hF.ev rfl) (hF.ev rfl) (by omega) (by omega))) ?_; clear hF; intro a hF
              refine d_rd hD hF rfl rfl rfl rfl rfl hS (fun w hS => (by first | exact rd_load pl3 (hF.ev rfl) (by assumption) | exact rd_load pl3 (hF.ev rfl) (hS.cellL (i := 0) rfl rfl) | exact rd_load pl3 (hF.ev rfl) (hS.cellL (i := 1) rfl rfl) | exact rd_load pl3 (hF.ev rfl) (hS.cellL (i := 2) rfl rfl) | exact rd_load pl3 (hF.ev rfl) (hS.cell (i := 0) rfl (by assumption)) | exact rd_load pl3 (hF.ev rfl) (hS.cell (i := 1) rfl (by assumption)) | exact rd_load pl3 (hF.ev rfl) (hS.cell (i := 2) rfl (by assumption)) | exact rd_load pl3 (hF.ev rfl) (row_at (i := 0) hS rfl (by first | assumption | rfl)) | exact rd_load pl3 (hF.ev rfl) (row_at0 (i := 0) hS rfl (by first | assumption | rfl)) | exact rd_load pl3 (hF.ev rfl) (row_at (i := 1) hS rfl (by first | assumption | rfl)) | exact rd_load pl3 (hF.ev rfl) (row_at0 (i := 1) hS rfl (by first | assumption | rfl)) | exact rd_load pl3 (hF.ev rfl) (row_at (i := 2) hS rfl (by first | assumption | rfl)) | exact rd_load pl3 (hF.ev rfl) (row_at0 (i := 2) hS rfl (by first | assumption | rfl)))) ?_; clear hF; intro a hF
              refine d_pu hD hF rfl rfl rfl rfl rfl (pu_move (hF.ev rfl)) ?_; clear hF; intro a hF
              refine d_pu hD hF rfl rfl rfl rfl rfl (pu_gtr (hF.ev rfl) (hF.ev rfl)) ?_; clear hF; intro a hF
              refine d_pu hD hF rfl rfl rfl rfl rfl ((by first | exact pu_pick_t (hF.ev rfl) (hF.ev rfl) | exact pu_pick_f (hF.ev rfl) (hF.ev rfl) | exact pu_pick (hF.ev rfl) (hF.ev rfl) (hF.ev rfl))) ?_; clear hF; intro a hF
              refine d_pu hD hF rfl rfl rfl rfl rfl (pu_move (hF.ev rfl)) ?_; clear hF; intro a hF
              refine fr_split hF (t := 83) rfl ?_ ?_
              · clear hF; intro hg83 hF   -- slot 83 true
                try simp only [decide_eq_true_eq, decide_eq_false_iff_not, Bool.not_eq_true', Bool.not_eq_false', Int.not_lt, Int.not_le, ne_eq, Decidable.not_not, Bool.or_eq_true, Bool.or_eq_false_iff, Bool.and_eq_true, Bool.and_eq_false_imp] at hg83
                omega
              · clear hF; intro hg83 hF   -- slot 83 false
                try simp only [decide_eq_true_eq, decide_eq_false_iff_not, Bool.not_eq_true', Bool.not_eq_false', Int.not_lt, Int.not_le, ne_eq, Decidable.not_not, Bool.or_eq_true, Bool.or_eq_false_iff, Bool.and_eq_true, Bool.and_eq_false_imp] at hg83
                refine d_pu hD hF rfl rfl rfl rfl rfl (pu_move (hF.ev rfl)) ?_; clear hF; intro a hF
                refine d_pu hD hF rfl rfl rfl rfl rfl (pu_move (hF.ev rfl)) ?_; clear hF; intro a hF
                refine d_pu hD hF rfl rfl rfl rfl rfl ((by first | exact pu_elem sl22 (hF.ev rfl) (hF.ev rfl) (by first | omega | simp) (by first | omega | (simp; done) | (simp; omega)) | exact pu_elemA sl22 (hF.ev rfl) (hF.ev rfl) (by omega) (by omega))) ?_; clear hF; intro a hF
                refine d_rd hD hF rfl rfl rfl rfl rfl hS (fun w hS => (by first | exact rd_load pl3 (hF.ev rfl) (by assumption) | exact rd_load pl3 (hF.ev rfl) (hS.cellL (i := 0) rfl rfl) | exact rd_load pl3 (hF.ev rfl) (hS.cellL (i := 1) rfl rfl) | exact rd_load pl3 (hF.ev rfl) (hS.cellL (i := 2) rfl rfl) | exact rd_load pl3 (hF.ev rfl) (hS.cell (i := 0) rfl (by assumption)) | exact rd_load pl3 (hF.ev rfl) (hS.cell (i := 1) rfl (by assumption)) | exact rd_load pl3 (hF.ev rfl) (hS.cell (i := 2) rfl (by assumption)) | exact rd_load pl3 (hF.ev rfl) (row_at (i := 0) hS rfl (by first | assumption | rfl)) | exact rd_load pl3 (hF.ev rfl) (row_at0 (i := 0) hS rfl (by first | assumption | rfl)) | exact rd_load pl3 (hF.ev rfl) (row_at (i := 1) hS rfl (by first | assumption | rfl)) | exact rd_load pl3 (hF.ev rfl) (row_at0 (i := 1) hS rfl (by first | assumption | rfl)) | exact rd_load pl3 (hF.ev rfl) (row_at (i := 2) hS rfl (by first | assumption | rfl)) | exact rd_load pl3 (hF.ev rfl) (row_at0 (i := 2) hS rfl (by first | assumption | rfl)))) ?_; clear hF; intro a hF
                refine d_pu hD hF rfl rfl rfl rfl rfl (pu_move (hF.ev rfl)) ?_; clear hF; intro a hF
                refine d_pu hD hF rfl rfl rfl rfl rfl (pu_move (hF.ev rfl)) ?_; clear hF; intro a hF
                refine d_pu hD hF rfl rfl rfl rfl rfl (pu_move (hF.ev rfl)) ?_; clear hF; intro a hF
                refine d_pu hD hF rfl rfl rfl rfl rfl ((by first | exact pu_elem sl22 (hF.ev rfl) (hF.ev rfl) (by first | omega | simp) (by first | omega | (simp; done) | (simp; omega)) | exact pu_elemA sl22 (hF.ev rfl) (hF.ev rfl) (by omega) (by omega))) ?_; clear hF; intro a hF
                refine d_rd hD hF rfl rfl rfl rfl rfl hS (fun w hS => (by first | exact rd_load pl3 (hF.ev rfl) (by assumption) | exact rd_load pl3 (hF.ev rfl) (hS.cellL (i := 0) rfl rfl) | exact rd_load pl3 (hF.ev rfl) (hS.cellL (i := 1) rfl rfl) | exact rd_load pl3 (hF.ev rfl) (hS.cellL (i := 2) rfl rfl) | exact rd_load pl3 (hF.ev rfl) (hS.cell (i := 0) rfl (by assumption)) | exact rd_load pl3 (hF.ev rfl) (hS.cell (i := 1) rfl (by assumption)) | exact rd_load pl3 (hF.ev rfl) (hS.cell (i := 2) rfl (by assumption)) | exact rd_load pl3 (hF.ev rfl) (row_at (i := 0) hS rfl (by first | assumption | rfl)) | exact rd_load pl3 (hF.ev rfl) (row_at0 (i := 0) hS rfl (by first | assumption | rfl)) | exact rd_load pl3 (hF.ev rfl) (row_at (i := 1) hS rfl (by first | assumption | rfl)) | exact rd_load pl3 (hF.ev rfl) (row_at0 (i := 1) hS rfl (by first | assumption | rfl)) | exact rd_load pl3 (hF.ev rfl) (row_at (i := 2) hS rfl (by first | assumption | rfl)) | exact rd_load pl3 (hF.ev rfl) (row_at0 (i := 2) hS rfl (by first | assumption | rfl)))) ?_; clear hF; intro a hF
                refine d_pu hD hF rfl rfl rfl rfl rfl ((by first | exact pu_mul64 (hF.ev rfl) (hF.ev rfl) (by omega) | exact pu_mul (hF.ev rfl) (hF.ev rfl))) ?_; clear hF; intro a hF
                refine d_pu hD hF rfl rfl rfl rfl rfl (pu_move (hF.ev rfl)) ?_; clear hF; intro a hF
                refine d_pu hD hF rfl rfl rfl rfl rfl (pu_quo64 (hF.ev rfl) (hF.ev rfl) (by omega)) ?_; clear hF; intro a hF
                refine d_pu hD hF rfl rfl rfl rfl rfl ((by first | exact pu_sub64 (hF.ev rfl) (hF.ev rfl) (by omega) | exact pu_sub (hF.ev rfl) (hF.ev rfl))) ?_; clear hF; intro a hF
                refine d_pu hD hF rfl rfl rfl rfl rfl (pu_gtr (hF.ev rfl) (hF.ev rfl)) ?_; clear hF; intro a hF
                refine d_pu hD hF rfl rfl rfl rfl rfl ((by first | exact pu_pick_t (hF.ev rfl) (hF.ev rfl) | exact pu_pick_f (hF.ev rfl) (hF.ev rfl) | exact pu_pick (hF.ev rfl) (hF.ev rfl) (hF.ev rfl))) ?_; clear hF; intro a hF
                refine d_pu hD hF rfl rfl rfl rfl rfl (pu_move (hF.ev rfl)) ?_; clear hF; intro a hF
                refine fr_split hF (t := 99) rfl ?_ ?_
                · clear hF; intro hg99 hF   -- slot 99 true
                  try simp only [decide_eq_true_eq, decide_eq_false_iff_not, Bool.not_eq_true', Bool.not_eq_false', Int.not_lt, Int.not_le, ne_eq, Decidable.not_not, Bool.or_eq_true, Bool.or_eq_false_iff, Bool.and_eq_true, Bool.and_eq_false_imp] at hg99
                  omega
                · clear hF; intro hg99 hF   -- slot 99 false
                  try simp only [decide_eq_true_eq, decide_eq_false_iff_not, Bool.not_eq_true', Bool.not_eq_false', Int.not_lt, Int.not_le, ne_eq, Decidable.not_not, Bool.or_eq_true, Bool.or_eq_false_iff, Bool.and_eq_true, Bool.and_eq_false_imp] at hg99
                  refine d_pu hD hF rfl rfl rfl rfl rfl (pu_move (hF.ev rfl)) ?_; clear hF; intro a hF
                  refine d_pu hD hF rfl rfl rfl rfl rfl (pu_move (hF.ev rfl)) ?_; clear hF; intro a hF
                  refine d_pu hD hF rfl rfl rfl rfl rfl ((by first | exact pu_elem sl22 (hF.ev rfl) (hF.ev rfl) (by first | omega | simp) (by first | omega | (simp; done) | (simp; omega)) | exact pu_elemA sl22 (hF.ev rfl) (hF.ev rfl) (by omega) (by omega))) ?_; clear hF; intro a hF
                  refine d_rd hD hF rfl rfl rfl rfl rfl hS (fun w hS => (by first | exact rd_load pl3 (hF.ev rfl) (by assumption) | exact rd_load pl3 (hF.ev rfl) (hS.cellL (i := 0) rfl rfl) | exact rd_load pl3 (hF.ev rfl) (hS.cellL (i := 1) rfl rfl) | exact rd_load pl3 (hF.ev rfl) (hS.cellL (i := 2) rfl rfl) | exact rd_load pl3 (hF.ev rfl) (hS.cell (i := 0) rfl (by assumption)) | exact rd_load pl3 (hF.ev rfl) (hS.cell (i := 1) rfl (by assumption)) | exact rd_load pl3 (hF.ev rfl) (hS.cell (i := 2) rfl (by assumption)) | exact rd_load pl3 (hF.ev rfl) (row_at (i := 0) hS rfl (by first | assumption | rfl)) | exact rd_load pl3 (hF.ev rfl) (row_at0 (i := 0) hS rfl (by first | assumption | rfl)) | exact rd_load pl3 (hF.ev rfl) (row_at (i := 1) hS rfl (by first | assumption | rfl)) | exact rd_load pl3 (hF.ev rfl) (row_at0 (i := 1) hS rfl (by first | assumption | rfl)) | exact rd_load pl3 (hF.ev rfl) (row_at (i := 2) hS rfl (by first | assumption | rfl)) | exact rd_load pl3 (hF.ev rfl) (row_at0 (i := 2) hS rfl (by first | assumption | rfl)))) ?_; clear hF; intro a hF
                  refine d_pu hD hF rfl rfl rfl rfl rfl (pu_move (hF.ev rfl)) ?_; clear hF; intro a hF
                  refine d_pu hD hF rfl rfl rfl rfl rfl (pu_move (hF.ev rfl)) ?_; clear hF; intro a hF
                  refine d_pu hD hF rfl rfl rfl rfl rfl (pu_move (hF.ev rfl)) ?_; clear hF; intro a hF
                  refine d_pu hD hF rfl rfl rfl rfl rfl ((by first | exact pu_elem sl22 (hF.ev rfl) (hF.ev rfl) (by first | omega | simp) (by first | omega | (simp; done) | (simp; omega)) | exact pu_elemA sl22 (hF.ev rfl) (hF.ev rfl) (by omega) (by omega))) ?_; clear hF; intro a hF
                  refine d_rd hD hF rfl rfl rfl rfl rfl hS (fun w hS => (by first | exact rd_load pl3 (hF.ev rfl) (by assumption) | exact rd_load pl3 (hF.ev rfl) (hS.cellL (i := 0) rfl rfl) | exact rd_load pl3 (hF.ev rfl) (hS.cellL (i := 1) rfl rfl) | exact rd_load pl3 (hF.ev rfl) (hS.cellL (i := 2) rfl rfl) | exact rd_load pl3 (hF.ev rfl) (hS.cell (i := 0) rfl (by assumption)) | exact rd_load pl3 (hF.ev rfl) (hS.cell (i := 1) rfl (by assumption)) | exact rd_load pl3 (hF.ev rfl) (hS.cell (i := 2) rfl (by assumption)) | exact rd_load pl3 (hF.ev rfl) (row_at (i := 0) hS rfl (by first | assumption | rfl)) | exact rd_load pl3 (hF.ev rfl) (row_at0 (i := 0) hS rfl (by first | assumption | rfl)) | exact rd_load pl3 (hF.ev rfl) (row_at (i := 1) hS rfl (by first | assumption | rfl)) | exact rd_load pl3 (hF.ev rfl) (row_at0 (i := 1) hS rfl (by first | assumption | rfl)) | exact rd_load pl3 (hF.ev rfl) (row_at (i := 2) hS rfl (by first | assumption | rfl)) | exact rd_load pl3 (hF.ev rfl) (row_at0 (i := 2) hS rfl (by first | assumption | rfl)))) ?_; clear hF; intro a hF
                  refine d_pu hD hF rfl rfl rfl rfl rfl ((by first | exact pu_mul64 (hF.ev rfl) (hF.ev rfl) (by omega) | exact pu_mul (hF.ev rfl) (hF.ev rfl))) ?_; clear hF; intro a hF
                  refine d_pu hD hF rfl rfl rfl rfl rfl (pu_move (hF.ev rfl)) ?_; clear hF; intro a hF
                  refine d_pu hD hF rfl rfl rfl rfl rfl (pu_quo64 (hF.ev rfl) (hF.ev rfl) (by omega)) ?_; clear hF; intro a hF
                  refine d_pu hD hF rfl rfl rfl rfl rfl (pu_lss (hF.ev rfl) (hF.ev rfl)) ?_; clear hF; intro a hF
                  refine d_pu hD hF rfl rfl rfl rfl rfl ((by first | exact pu_pick_t (hF.ev rfl) (hF.ev rfl) | exact pu_pick_f (hF.ev rfl) (hF.ev rfl) | exact pu_pick (hF.ev rfl) (hF.ev rfl) (hF.ev rfl))) ?_; clear hF; intro a hF
                  refine d_pu hD hF rfl rfl rfl rfl rfl (pu_move (hF.ev rfl)) ?_; clear hF; intro a hF
                  refine fr_split hF (t := 114) rfl ?_ ?_
                  · clear hF; intro hg114 hF   -- slot 114 true
                    try simp only [decide_eq_true_eq, decide_eq_false_iff_not, Bool.not_eq_true', Bool.not_eq_false', Int.not_lt, Int.not_le, ne_eq, Decidable.not_not, Bool.or_eq_true, Bool.or_eq_false_iff, Bool.and_eq_true, Bool.and_eq_false_imp] at hg114
                    omega
                  · clear hF; intro hg114 hF   -- slot 114 false
                    try simp only [decide_eq_true_eq, decide_eq_false_iff_not, Bool.not_eq_true', Bool.not_eq_false', Int.not_lt, Int.not_le, ne_eq, Decidable.not_not, Bool.or_eq_true, Bool.or_eq_false_iff, Bool.and_eq_true, Bool.and_eq_false_imp] at hg114
                    refine d_pu hD hF rfl rfl rfl rfl rfl (pu_move (hF.ev rfl)) ?_; clear hF; intro a hF
                    refine d_pu hD hF rfl rfl rfl rfl rfl (pu_move (hF.ev rfl)) ?_; clear hF; intro a hF
                    refine d_pu hD hF rfl rfl rfl rfl rfl ((by first | exact pu_elem sl22 (hF.ev rfl) (hF.ev rfl) (by first | omega | simp) (by first | omega | (simp; done) | (simp; omega)) | exact pu_elemA sl22 (hF.ev rfl) (hF.ev rfl) (by omega) (by omega))) ?_; clear hF; intro a hF
                    refine d_rd hD hF rfl rfl rfl rfl rfl hS (fun w hS => (by first | exact rd_load pl3 (hF.ev rfl) (by assumption) | exact rd_load pl3 (hF.ev rfl) (hS.cellL (i := 0) rfl rfl) | exact rd_load pl3 (hF.ev rfl) (hS.cellL (i := 1) rfl rfl) | exact rd_load pl3 (hF.ev rfl) (hS.cellL (i := 2) rfl rfl) | exact rd_load pl3 (hF.ev rfl) (hS.cell (i := 0) rfl (by assumption)) | exact rd_load pl3 (hF.ev rfl) (hS.cell (i := 1) rfl (by assumption)) | exact rd_load pl3 (hF.ev rfl) (hS.cell (i := 2) rfl (by assumption)) | exact rd_load pl3 (hF.ev rfl) (row_at (i := 0) hS rfl (by first | assumption | rfl)) | exact rd_load pl3 (hF.ev rfl) (row_at0 (i := 0) hS rfl (by first | assumption | rfl)) | exact rd_load pl3 (hF.ev rfl) (row_at (i := 1) hS rfl (by first | assumption | rfl)) | exact rd_load pl3 (hF.ev rfl) (row_at0 (i := 1) hS rfl (by first | assumption | rfl)) | exact rd_load pl3 (hF.ev rfl) (row_at (i := 2) hS rfl (by first | assumption | rfl)) | exact rd_load pl3 (hF.ev rfl) (row_at0 (i := 2) hS rfl (by first | assumption | rfl)))) ?_; clear hF; intro a hF
                    refine d_pu hD hF rfl rfl rfl rfl rfl (pu_eql (hF.ev rfl) (hF.ev rfl)) ?_; clear hF; intro a hF
                    refine d_pu hD hF rfl rfl rfl rfl rfl (pu_move (hF.ev rfl)) ?_; clear hF; intro a hF
                    refine fr_split hF (t := 120) rfl ?_ ?_
                    · clear hF; intro hg120 hF   -- slot 120 true
                      try simp only [decide_eq_true_eq, decide_eq_false_iff_not, Bool.not_eq_true', Bool.not_eq_false', Int.not_lt, Int.not_le, ne_eq, Decidable.not_not, Bool.or_eq_true, Bool.or_eq_false_iff, Bool.and_eq_true, Bool.and_eq_false_imp] at hg120
                      refine d_pu hD hF rfl rfl rfl rfl rfl (pu_move (hF.ev rfl)) ?_; clear hF; intro a hF
                      refine d_pu hD hF rfl rfl rfl rfl rfl (pu_move (hF.ev rfl)) ?_; clear hF; intro a hF
                      refine d_pu hD hF rfl rfl rfl rfl rfl ((by first | exact pu_elem sl22 (hF.ev rfl) (hF.ev rfl) (by first | omega | simp) (by first | omega | (simp; done) | (simp; omega)) | exact pu_elemA sl22 (hF.ev rfl) (hF.ev rfl) (by omega) (by omega))) ?_; clear hF; intro a hF
                      refine d_rd hD hF rfl rfl rfl rfl rfl hS (fun w hS => (by first | exact rd_load pl3 (hF.ev rfl) (by assumption) | exact rd_load pl3 (hF.ev rfl) (hS.cellL (i := 0) rfl rfl) | exact rd_load pl3 (hF.ev rfl) (hS.cellL (i := 1) rfl rfl) | exact rd_load pl3 (hF.ev rfl) (hS.cellL (i := 2) rfl rfl) | exact rd_load pl3 (hF.ev rfl) (hS.cell (i := 0) rfl (by assumption)) | exact rd_load pl3 (hF.ev rfl) (hS.cell (i := 1) rfl (by assumption)) | exact rd_load pl3 (hF.ev rfl) (hS.cell (i := 2) rfl (by assumption)) | exact rd_load pl3 (hF.ev rfl) (row_at (i := 0) hS rfl (by first | assumption | rfl)) | exact rd_load pl3 (hF.ev rfl) (row_at0 (i := 0) hS rfl (by first | assumption | rfl)) | exact rd_load pl3 (hF.ev rfl) (row_at (i := 1) hS rfl (by first | assumption | rfl)) | exact rd_load pl3 (hF.ev rfl) (row_at0 (i := 1) hS rfl (by first | assumption | rfl)) | exact rd_load pl3 (hF.ev rfl) (row_at (i := 2) hS rfl (by first | assumption | rfl)) | exact rd_load pl3 (hF.ev rfl) (row_at0 (i := 2) hS rfl (by first | assumption | rfl)))) ?_; clear hF; intro a hF
                      refine d_pu hD hF rfl rfl rfl rfl rfl (pu_neq (hF.ev rfl) (hF.ev rfl)) ?_; clear hF; intro a hF
                      refine d_pu hD hF rfl rfl rfl rfl rfl ((by first | exact pu_pick_t (hF.ev rfl) (hF.ev rfl) | exact pu_pick_f (hF.ev rfl) (hF.ev rfl) | exact pu_pick (hF.ev rfl) (hF.ev rfl) (hF.ev rfl))) ?_; clear hF; intro a hF
                      refine d_pu hD hF rfl rfl rfl rfl rfl ((by first | exact pu_pick_t (hF.ev rfl) (hF.ev rfl) | exact pu_pick_f (hF.ev rfl) (hF.ev rfl) | exact pu_pick (hF.ev rfl) (hF.ev rfl) (hF.ev rfl))) ?_; clear hF; intro a hF
                      refine d_done hD rfl ?_; clear hD
                      refine hK16 _ _ ?_; clear hK16
                      refine wp_cond_split (hF.ev rfl) (fun hc4 => ?_) (fun hc4 => ?_)
                      · -- cond 4 true
                        try simp only [decide_eq_true_eq, decide_eq_false_iff_not, Bool.not_eq_true', Bool.not_eq_false', Int.not_lt, Int.not_le, ne_eq, Decidable.not_not, Bool.or_eq_true, Bool.or_eq_false_iff, Bool.and_eq_true, Bool.and_eq_false_imp] at hc4
                        exfalso
                        exact hc4 (f6 hg120)
                      · -- cond 4 false
                        try simp only [decide_eq_true_eq, decide_eq_false_iff_not, Bool.not_eq_true', Bool.not_eq_false', Int.not_lt, Int.not_le, ne_eq, Decidable.not_not, Bool.or_eq_true, Bool.or_eq_false_iff, Bool.and_eq_true, Bool.and_eq_false_imp] at hc4
                        refine wp_skip ?_
                        refine hK15 _ _ ?_; clear hK15
                        refine wp_seq_k fun K17 hK17 => ?_
                        refine wp_seq_k fun K18 hK18 => ?_
                        -- region 20
                        refine d_start (S := (fun w => Sat W w _)) (ds := []) (ord := [(0, .pu), (1, .pu), (2, .pu), (3, .pu), (4, .tk), (5, .pu), (6, .pu), (7, .pu), (8, .pu), (9, .pu), (10, .pu), (11, .pu), (12, .pu), (13, .tk), (14, .pu), (15, .pu), (16, .pu), (17, .pu), (18, .tk), (19, .pu), (20, .pu), (21, .pu), (22, .pu), (23, .pu)]) mixed ⟨chk_fast (by kernel_rfl), fun _ d _ _ _ h => by cases d <;> exact h⟩ hS.drew fun hD => ?_
                        replace hS := hS.drew; generalize w.drew = w at hS ⊢
                        refine d_pu hD hF rfl rfl rfl rfl rfl (pu_move (hF.ev rfl)) ?_; clear hF; intro a hF
                        refine d_pu hD hF rfl rfl rfl rfl rfl (pu_move (hF.ev rfl)) ?_; clear hF; intro a hF
                        refine d_pu hD hF rfl rfl rfl rfl rfl (pu_move (hF.ev rfl)) ?_; clear hF; intro a hF
                        refine d_pu hD hF rfl rfl rfl rfl rfl ((by first | exact pu_elem sl22 (hF.ev rfl) (hF.ev rfl) (by first | omega | simp) (by first | omega | (simp; done) | (simp; omega)) | exact pu_elemA sl22 (hF.ev rfl) (hF.ev rfl) (by omega) (by omega))) ?_; clear hF; intro a hF
                        refine d_rd hD hF rfl rfl rfl rfl rfl hS (fun w hS => (by first | exact rd_load pl3 (hF.ev rfl) (by assumption) | exact rd_load pl3 (hF.ev rfl) (hS.cellL (i := 0) rfl rfl) | exact rd_load pl3 (hF.ev rfl) (hS.cellL (i := 1) rfl rfl) | exact rd_load pl3 (hF.ev rfl) (hS.cellL (i := 2) rfl rfl) | exact rd_load pl3 (hF.ev rfl) (hS.cell (i := 0) rfl (by assumption)) | exact rd_load pl3 (hF.ev rfl) (hS.cell (i := 1) rfl (by assumption)) | exact rd_load pl3 (hF.ev rfl) (hS.cell (i := 2) rfl (by assumption)) | exact rd_load pl3 (hF.ev rfl) (row_at (i := 0) hS rfl (by first | assumption | rfl)) | exact rd_load pl3 (hF.ev rfl) (row_at0 (i := 0) hS rfl (by first | assumption | rfl)) | exact rd_load pl3 (hF.ev rfl) (row_at (i := 1) hS rfl (by first | assumption | rfl)) | exact rd_load pl3 (hF.ev rfl) (row_at0 (i := 1) hS rfl (by first | assumption | rfl)) | exact rd_load pl3 (hF.ev rfl) (row_at (i := 2) hS rfl (by first | assumption | rfl)) | exact rd_load pl3 (hF.ev rfl) (row_at0 (i := 2) hS rfl (by first | assumption | rfl)))) ?_; clear hF; intro a hF
                        refine d_pu hD hF rfl rfl rfl rfl rfl ((by first | exact pu_mul64 (hF.ev rfl) (hF.ev rfl) (by omega) | exact pu_mul (hF.ev rfl) (hF.ev rfl))) ?_; clear hF; intro a hF
                        refine d_pu hD hF rfl rfl rfl rfl rfl (pu_move (hF.ev rfl)) ?_; clear hF; intro a hF
                        refine d_pu hD hF rfl rfl rfl rfl rfl (pu_rem64 (hF.ev rfl) (hF.ev rfl) (by omega)) ?_; clear hF; intro a hF
                        refine d_pu hD hF rfl rfl rfl rfl rfl (pu_eql (hF.ev rfl) (hF.ev rfl)) ?_; clear hF; intro a hF
                        refine d_pu hD hF rfl rfl rfl rfl rfl (pu_move (hF.ev rfl)) ?_; clear hF; intro a hF
                        refine fr_split hF (t := 137) rfl ?_ ?_
                        · clear hF; intro hg137 hF   -- slot 137 true
                          try simp only [decide_eq_true_eq, decide_eq_false_iff_not, Bool.not_eq_true', Bool.not_eq_false', Int.not_lt, Int.not_le, ne_eq, Decidable.not_not, Bool.or_eq_true, Bool.or_eq_false_iff, Bool.and_eq_true, Bool.and_eq_false_imp] at hg137
                          refine d_pu hD hF rfl rfl rfl rfl rfl (pu_move (hF.ev rfl)) ?_; clear hF; intro a hF
                          refine d_pu hD hF rfl rfl rfl rfl rfl (pu_move (hF.ev rfl)) ?_; clear hF; intro a hF
                          refine d_pu hD hF rfl rfl rfl rfl rfl ((by first | exact pu_elem sl22 (hF.ev rfl) (hF.ev rfl) (by first | omega | simp) (by first | omega | (simp; done) | (simp; omega)) | exact pu_elemA sl22 (hF.ev rfl) (hF.ev rfl) (by omega) (by omega))) ?_; clear hF; intro a hF
                          refine d_rd hD hF rfl rfl rfl rfl rfl hS (fun w hS => (by first | exact rd_load pl3 (hF.ev rfl) (by assumption) | exact rd_load pl3 (hF.ev rfl) (hS.cellL (i := 0) rfl rfl) | exact rd_load pl3 (hF.ev rfl) (hS.cellL (i := 1) rfl rfl) | exact rd_load pl3 (hF.ev rfl) (hS.cellL (i := 2) rfl rfl) | exact rd_load pl3 (hF.ev rfl) (hS.cell (i := 0) rfl (by assumption)) | exact rd_load pl3 (hF.ev rfl) (hS.cell (i := 1) rfl (by assumption)) | exact rd_load pl3 (hF.ev rfl) (hS.cell (i := 2) rfl (by assumption)) | exact rd_load pl3 (hF.ev rfl) (row_at (i := 0) hS rfl (by first | assumption | rfl)) | exact rd_load pl3 (hF.ev rfl) (row_at0 (i := 0) hS rfl (by first | assumption | rfl)) | exact rd_load pl3 (hF.ev rfl) (row_at (i := 1) hS rfl (by first | assumption | rfl)) | exact rd_load pl3 (hF.ev rfl) (row_at0 (i := 1) hS rfl (by first | assumption | rfl)) | exact rd_load pl3 (hF.ev rfl) (row_at (i := 2) hS rfl (by first | assumption | rfl)) | exact rd_load pl3 (hF.ev rfl) (row_at0 (i := 2) hS rfl (by first | assumption | rfl)))) ?_; clear hF; intro a hF
                          refine d_pu hD hF rfl rfl rfl rfl rfl (pu_move (hF.ev rfl)) ?_; clear hF; intro a hF
                          refine d_pu hD hF rfl rfl rfl rfl rfl (pu_move (hF.ev rfl)) ?_; clear hF; intro a hF
                          refine d_pu hD hF rfl rfl rfl rfl rfl (pu_move (hF.ev rfl)) ?_; clear hF; intro a hF
                          refine d_pu hD hF rfl rfl rfl rfl rfl ((by first | exact pu_elem sl22 (hF.ev rfl) (hF.ev rfl) (by first | omega | simp) (by first | omega | (simp; done) | (simp; omega)) | exact pu_elemA sl22 (hF.ev rfl) (hF.ev rfl) (by omega) (by omega))) ?_; clear hF; intro a hF
                          refine d_rd hD hF rfl rfl rfl rfl rfl hS (fun w hS => (by first | exact rd_load pl3 (hF.ev rfl) (by assumption) | exact rd_load pl3 (hF.ev rfl) (hS.cellL (i := 0) rfl rfl) | exact rd_load pl3 (hF.ev rfl) (hS.cellL (i := 1) rfl rfl) | exact rd_load pl3 (hF.ev rfl) (hS.cellL (i := 2) rfl rfl) | exact rd_load pl3 (hF.ev rfl) (hS.cell (i := 0) rfl (by assumption)) | exact rd_load pl3 (hF.ev rfl) (hS.cell (i := 1) rfl (by assumption)) | exact rd_load pl3 (hF.ev rfl) (hS.cell (i := 2) rfl (by assumption)) | exact rd_load pl3 (hF.ev rfl) (row_at (i := 0) hS rfl (by first | assumption | rfl)) | exact rd_load pl3 (hF.ev rfl) (row_at0 (i := 0) hS rfl (by first | assumption | rfl)) | exact rd_load pl3 (hF.ev rfl) (row_at (i := 1) hS rfl (by first | assumption | rfl)) | exact rd_load pl3 (hF.ev rfl) (row_at0 (i := 1) hS rfl (by first | assumption | rfl)) | exact rd_load pl3 (hF.ev rfl) (row_at (i := 2) hS rfl (by first | assumption | rfl)) | exact rd_load pl3 (hF.ev rfl) (row_at0 (i := 2) hS rfl (by first | assumption | rfl)))) ?_; clear hF; intro a hF
                          refine d_pu hD hF rfl rfl rfl rfl rfl ((by first | exact pu_mul64 (hF.ev rfl) (hF.ev rfl) (by omega) | exact pu_mul (hF.ev rfl) (hF.ev rfl))) ?_; clear hF; intro a hF
                          refine d_pu hD hF rfl rfl rfl rfl rfl (pu_move (hF.ev rfl)) ?_; clear hF; intro a hF
                          refine d_pu hD hF rfl rfl rfl rfl rfl (pu_quo64 (hF.ev rfl) (hF.ev rfl) (by omega)) ?_; clear hF; intro a hF
                          refine d_pu hD hF rfl rfl rfl rfl rfl (pu_neq (hF.ev rfl) (hF.ev rfl)) ?_; clear hF; intro a hF
                          refine d_pu hD hF rfl rfl rfl rfl rfl ((by first | exact pu_pick_t (hF.ev rfl) (hF.ev rfl) | exact pu_pick_f (hF.ev rfl) (hF.ev rfl) | exact pu_pick (hF.ev rfl) (hF.ev rfl) (hF.ev rfl))) ?_; clear hF; intro a hF
                          refine d_done hD rfl ?_; clear hD
                          refine hK18 _ _ ?_; clear hK18
                          refine wp_cond_split (hF.ev rfl) (fun hc5 => ?_) (fun hc5 => ?_)
                          · -- cond 5 true
                            try simp only [decide_eq_true_eq, decide_eq_false_iff_not, Bool.not_eq_true', Bool.not_eq_false', Int.not_lt, Int.not_le, ne_eq, Decidable.not_not, Bool.or_eq_true, Bool.or_eq_false_iff, Bool.and_eq_true, Bool.and_eq_false_imp] at hc5
                            exfalso
                            exact hc5 (f5 hg137)
                          · -- cond 5 false
                            try simp only [decide_eq_true_eq, decide_eq_false_iff_not, Bool.not_eq_true', Bool.not_eq_false', Int.not_lt, Int.not_le, ne_eq, Decidable.not_not, Bool.or_eq_true, Bool.or_eq_false_iff, Bool.and_eq_true, Bool.and_eq_false_imp] at hc5
                            refine wp_skip ?_
                            refine hK17 _ _ ?_; clear hK17
                            refine wp_seq_k fun K19 hK19 => ?_
                            -- region 22
                            refine wp_region_lit ?_
                            refine s_pu hF rfl rfl rfl (pu_move (hF.ev rfl)) ?_; clear hF; intro a hF
                            refine s_pu hF rfl rfl rfl (pu_move (hF.ev rfl)) ?_; clear hF; intro a hF
                            refine s_pu hF rfl rfl rfl (pu_move (hF.ev rfl)) ?_; clear hF; intro a hF
                            refine s_pu hF rfl rfl rfl ((by first | exact pu_elem sl22 (hF.ev rfl) (hF.ev rfl) (by first | omega | simp) (by first | omega | (simp; done) | (simp; omega)) | exact pu_elemA sl22 (hF.ev rfl) (hF.ev rfl) (by omega) (by omega))) ?_; clear hF; intro a hF
                            refine s_rd hF rfl rfl rfl (by first | exact rd_load pl3 (hF.ev rfl) (by assumption) | exact rd_load pl3 (hF.ev rfl) (hS.cellL (i := 0) rfl rfl) | exact rd_load pl3 (hF.ev rfl) (hS.cellL (i := 1) rfl rfl) | exact rd_load pl3 (hF.ev rfl) (hS.cellL (i := 2) rfl rfl) | exact rd_load pl3 (hF.ev rfl) (hS.cell (i := 0) rfl (by assumption)) | exact rd_load pl3 (hF.ev rfl) (hS.cell (i := 1) rfl (by assumption)) | exact rd_load pl3 (hF.ev rfl) (hS.cell (i := 2) rfl (by assumption)) | exact rd_load pl3 (hF.ev rfl) (row_at (i := 0) hS rfl (by first | assumption | rfl)) | exact rd_load pl3 (hF.ev rfl) (row_at0 (i := 0) hS rfl (by first | assumption | rfl)) | exact rd_load pl3 (hF.ev rfl) (row_at (i := 1) hS rfl (by first | assumption | rfl)) | exact rd_load pl3 (hF.ev rfl) (row_at0 (i := 1) hS rfl (by first | assumption | rfl)) | exact rd_load pl3 (hF.ev rfl) (row_at (i := 2) hS rfl (by first | assumption | rfl)) | exact rd_load pl3 (hF.ev rfl) (row_at0 (i := 2) hS rfl (by first | assumption | rfl))) ?_; clear hF; intro a hF
                            refine s_pu hF rfl rfl rfl ((by first | exact pu_add64 (hF.ev rfl) (hF.ev rfl) (by omega) | exact pu_add (hF.ev rfl) (hF.ev rfl))) ?_; clear hF; intro a hF
                            refine s_pu hF rfl rfl rfl (pu_assign (hF.ev rfl)) ?_; clear hF; intro a hF
                            refine s_done ?_
                            refine hK19 _ _ ?_; clear hK19
                            refine wp_seq_k fun K20 hK20 => ?_
                            -- region 23
                            refine wp_region_lit ?_
                            refine s_pu hF rfl rfl rfl (pu_assign (hF.ev rfl)) ?_; clear hF; intro a hF
                            refine s_done ?_
                            refine hK20 _ _ ?_; clear hK20
                            refine wp_block ?_
                            refine wp_ind (fun j a w => ∃ (k : Nat), j = i - k ∧ k ≤ i ∧
                              Fr a 208 [(5, .int .i64 pu), (6, .slice (some ⟨ga, 0, none⟩) ls.length c), (7, .int .i64 (total ls)), (9, .slice (some ⟨go, 0, none⟩) outs.length co), (11, .int .i64 (total (outs.take (i + 1)))), (12, .int .i64 i), (13, .int .i64 k)] ∧
                              Sat W w [rowC 3 1 (.slice (some ⟨go, 0, none⟩) outs.length co) outs.length (ints outs), rowC 3 1 (.slice (some ⟨ga, 0, none⟩) ls.length c) ls.length (ints ls), whole W]) i
                              ⟨0, rfl, by omega, by rw [htt]; exact hF.sub ⟨rfl, rfl, rfl, rfl, rfl, rfl, rfl, trivial⟩, hS⟩ ?_
                            clear hS hF
                            rintro j a w ⟨k, rfl, hk, hF, hS⟩
                            refine wp_seq_k fun K21 hK21 => ?_
                            refine wp_seq_k fun K22 hK22 => ?_
                            -- region 24
                            refine wp_region_lit ?_
                            refine s_pu hF rfl rfl rfl (pu_move (hF.ev rfl)) ?_; clear hF; intro a hF
                            refine s_pu hF rfl rfl rfl (pu_move (hF.ev rfl)) ?_; clear hF; intro a hF
                            refine s_pu hF rfl rfl rfl (pu_lss (hF.ev rfl) (hF.ev rfl)) ?_; clear hF; intro a hF
                            refine s_done ?_
                            refine hK22 _ _ ?_; clear hK22
                            refine wp_cond_split (hF.ev rfl) (fun hc6 => ?_) (fun hc6 => ?_)
                            · -- cond 6 true
                              try simp only [decide_eq_true_eq, decide_eq_false_iff_not, Bool.not_eq_true', Bool.not_eq_false', Int.not_lt, Int.not_le, ne_eq, Decidable.not_not, Bool.or_eq_true, Bool.or_eq_false_iff, Bool.and_eq_true, Bool.and_eq_false_imp] at hc6
                              have hki : k < i := by omega
                              have hkl : k < ls.length := by omega
                              have hko : k < outs.length := by omega
                              have hok := ints_at hko
                              have hlk := ints_at hkl
                              obtain ⟨e1, e2⟩ := fair_two hf (by omega) hlb ht1 hkl hil
                              refine wp_skip ?_
                              refine hK21 _ _ ?_; clear hK21
                              refine wp_seq_k fun K23 hK23 => ?_
                              refine wp_block ?_
                              refine wp_seq_k fun K24 hK24 => ?_
                              -- region 26
                              refine d_start (S := (fun w => Sat W w _)) (ds := []) (ord := [(0, .pu), (1, .pu), (2, .pu), (3, .tk), (4, .pu), (5, .pu), (6, .pu), (7, .tk), (8, .pu), (9, .pu), (10, .pu), (11, .pu), (12, .pu), (13, .tk), (14, .pu), (15, .pu), (16, .pu), (17, .tk), (18, .pu), (19, .pu), (20, .pu), (21, .pu), (22, .pu), (23, .pu), (24, .tk), (25, .pu), (26, .pu), (27, .pu), (28, .tk), (29, .pu), (30, .pu), (31, .pu), (32, .pu), (33, .pu), (34, .tk), (35, .pu), (36, .pu), (37, .pu), (38, .tk), (39, .pu), (40, .pu), (41, .pu)]) mixed ⟨chk_fast (by kernel_rfl), fun _ d _ _ _ h => by cases d <;> exact h⟩ hS.drew fun hD => ?_
                              replace hS := hS.drew; generalize w.drew = w at hS ⊢
                              refine d_pu hD hF rfl rfl rfl rfl rfl (pu_move (hF.ev rfl)) ?_; clear hF; intro a hF
                              refine d_pu hD hF rfl rfl rfl rfl rfl (pu_move (hF.ev rfl)) ?_; clear hF; intro a hF
                              refine d_pu hD hF rfl rfl rfl rfl rfl ((by first | exact pu_elem sl22 (hF.ev rfl) (hF.ev rfl) (by first | omega | simp) (by first | omega | (simp; done) | (simp; omega)) | exact pu_elemA sl22 (hF.ev rfl) (hF.ev rfl) (by omega) (by omega))) ?_; clear hF; intro a hF
                              refine d_rd hD hF rfl rfl rfl rfl rfl hS (fun w hS => (by first | exact rd_load pl3 (hF.ev rfl) (by assumption) | exact rd_load pl3 (hF.ev rfl) (hS.cellL (i := 0) rfl rfl) | exact rd_load pl3 (hF.ev rfl) (hS.cellL (i := 1) rfl rfl) | exact rd_load pl3 (hF.ev rfl) (hS.cellL (i := 2) rfl rfl) | exact rd_load pl3 (hF.ev rfl) (hS.cell (i := 0) rfl (by assumption)) | exact rd_load pl3 (hF.ev rfl) (hS.cell (i := 1) rfl (by assumption)) | exact rd_load pl3 (hF.ev rfl) (hS.cell (i := 2) rfl (by assumption)) | exact rd_load pl3 (hF.ev rfl) (row_at (i := 0) hS rfl (by first | assumption | rfl)) | exact rd_load pl3 (hF.ev rfl) (row_at0 (i := 0) hS rfl (by first | assumption | rfl)) | exact rd_load pl3 (hF.ev rfl) (row_at (i := 1) hS rfl (by first | assumption | rfl)) | exact rd_load pl3 (hF.ev rfl) (row_at0 (i := 1) hS rfl (by first | assumption | rfl)) | exact rd_load pl3 (hF.ev rfl) (row_at (i := 2) hS rfl (by first | assumption | rfl)) | exact rd_load pl3 (hF.ev rfl) (row_at0 (i := 2) hS rfl (by first | assumption | rfl)))) ?_; clear hF; intro a hF
                              refine d_pu hD hF rfl rfl rfl rfl rfl (pu_move (hF.ev rfl)) ?_; clear hF; intro a hF
                              refine d_pu hD hF rfl rfl rfl rfl rfl (pu_move (hF.ev rfl)) ?_; clear hF; intro a hF
                              refine d_pu hD hF rfl rfl rfl rfl rfl ((by first | exact pu_elem sl22 (hF.ev rfl) (hF.ev rfl) (by first | omega | simp) (by first | omega | (simp; done) | (simp; omega)) | exact pu_elemA sl22 (hF.ev rfl) (hF.ev rfl) (by omega) (by omega))) ?_; clear hF; intro a hF
                              refine d_rd hD hF rfl rfl rfl rfl rfl hS (fun w hS => (by first | exact rd_load pl3 (hF.ev rfl) (by assumption) | exact rd_load pl3 (hF.ev rfl) (hS.cellL (i := 0) rfl rfl) | exact rd_load pl3 (hF.ev rfl) (hS.cellL (i := 1) rfl rfl) | exact rd_load pl3 (hF.ev rfl) (hS.cellL (i := 2) rfl rfl) | exact rd_load pl3 (hF.ev rfl) (hS.cell (i := 0) rfl (by assumption)) | exact rd_load pl3 (hF.ev rfl) (hS.cell (i := 1) rfl (by assumption)) | exact rd_load pl3 (hF.ev rfl) (hS.cell (i := 2) rfl (by assumption)) | exact rd_load pl3 (hF.ev rfl) (row_at (i := 0) hS rfl (by first | assumption | rfl)) | exact rd_load pl3 (hF.ev rfl) (row_at0 (i := 0) hS rfl (by first | assumption | rfl)) | exact rd_load pl3 (hF.ev rfl) (row_at (i := 1) hS rfl (by first | assumption | rfl)) | exact rd_load pl3 (hF.ev rfl) (row_at0 (i := 1) hS rfl (by first | assumption | rfl)) | exact rd_load pl3 (hF.ev rfl) (row_at (i := 2) hS rfl (by first | assumption | rfl)) | exact rd_load pl3 (hF.ev rfl) (row_at0 (i := 2) hS rfl (by first | assumption | rfl)))) ?_; clear hF; intro a hF
                              refine d_pu hD hF rfl rfl rfl rfl rfl (pu_geq (hF.ev rfl) (hF.ev rfl)) ?_; clear hF; intro a hF
                              refine d_pu hD hF rfl rfl rfl rfl rfl (pu_move (hF.ev rfl)) ?_; clear hF; intro a hF
                              refine fr_split hF (t := 172) rfl ?_ ?_
                              · clear hF; intro hg172 hF   -- slot 172 true
                                try simp only [decide_eq_true_eq, decide_eq_false_iff_not, Bool.not_eq_true', Bool.not_eq_false', Int.not_lt, Int.not_le, ne_eq, Decidable.not_not, Bool.or_eq_true, Bool.or_eq_false_iff, Bool.and_eq_true, Bool.and_eq_false_imp] at hg172
                                refine d_pu hD hF rfl rfl rfl rfl rfl (pu_move (hF.ev rfl)) ?_; clear hF; intro a hF
                                refine d_pu hD hF rfl rfl rfl rfl rfl (pu_move (hF.ev rfl)) ?_; clear hF; intro a hF
                                refine d_pu hD hF rfl rfl rfl rfl rfl ((by first | exact pu_elem sl22 (hF.ev rfl) (hF.ev rfl) (by first | omega | simp) (by first | omega | (simp; done) | (simp; omega)) | exact pu_elemA sl22 (hF.ev rfl) (hF.ev rfl) (by omega) (by omega))) ?_; clear hF; intro a hF
                                refine d_rd hD hF rfl rfl rfl rfl rfl hS (fun w hS => (by first | exact rd_load pl3 (hF.ev rfl) (by assumption) | exact rd_load pl3 (hF.ev rfl) (hS.cellL (i := 0) rfl rfl) | exact rd_load pl3 (hF.ev rfl) (hS.cellL (i := 1) rfl rfl) | exact rd_load pl3 (hF.ev rfl) (hS.cellL (i := 2) rfl rfl) | exact rd_load pl3 (hF.ev rfl) (hS.cell (i := 0) rfl (by assumption)) | exact rd_load pl3 (hF.ev rfl) (hS.cell (i := 1) rfl (by assumption)) | exact rd_load pl3 (hF.ev rfl) (hS.cell (i := 2) rfl (by assumption)) | exact rd_load pl3 (hF.ev rfl) (row_at (i := 0) hS rfl (by first | assumption | rfl)) | exact rd_load pl3 (hF.ev rfl) (row_at0 (i := 0) hS rfl (by first | assumption | rfl)) | exact rd_load pl3 (hF.ev rfl) (row_at (i := 1) hS rfl (by first | assumption | rfl)) | exact rd_load pl3 (hF.ev rfl) (row_at0 (i := 1) hS rfl (by first | assumption | rfl)) | exact rd_load pl3 (hF.ev rfl) (row_at (i := 2) hS rfl (by first | assumption | rfl)) | exact rd_load pl3 (hF.ev rfl) (row_at0 (i := 2) hS rfl (by first | assumption | rfl)))) ?_; clear hF; intro a hF
                                refine d_pu hD hF rfl rfl rfl rfl rfl (pu_move (hF.ev rfl)) ?_; clear hF; intro a hF
                                refine d_pu hD hF rfl rfl rfl rfl rfl (pu_move (hF.ev rfl)) ?_; clear hF; intro a hF
                                refine d_pu hD hF rfl rfl rfl rfl rfl ((by first | exact pu_elem sl22 (hF.ev rfl) (hF.ev rfl) (by first | omega | simp) (by first | omega | (simp; done) | (simp; omega)) | exact pu_elemA sl22 (hF.ev rfl) (hF.ev rfl) (by omega) (by omega))) ?_; clear hF; intro a hF
                                refine d_rd hD hF rfl rfl rfl rfl rfl hS (fun w hS => (by first | exact rd_load pl3 (hF.ev rfl) (by assumption) | exact rd_load pl3 (hF.ev rfl) (hS.cellL (i := 0) rfl rfl) | exact rd_load pl3 (hF.ev rfl) (hS.cellL (i := 1) rfl rfl) | exact rd_load pl3 (hF.ev rfl) (hS.cellL (i := 2) rfl rfl) | exact rd_load pl3 (hF.ev rfl) (hS.cell (i := 0) rfl (by assumption)) | exact rd_load pl3 (hF.ev rfl) (hS.cell (i := 1) rfl (by assumption)) | exact rd_load pl3 (hF.ev rfl) (hS.cell (i := 2) rfl (by assumption)) | exact rd_load pl3 (hF.ev rfl) (row_at (i := 0) hS rfl (by first | assumption | rfl)) | exact rd_load pl3 (hF.ev rfl) (row_at0 (i := 0) hS rfl (by first | assumption | rfl)) | exact rd_load pl3 (hF.ev rfl) (row_at (i := 1) hS rfl (by first | assumption | rfl)) | exact rd_load pl3 (hF.ev rfl) (row_at0 (i := 1) hS rfl (by first | assumption | rfl)) | exact rd_load pl3 (hF.ev rfl) (row_at (i := 2) hS rfl (by first | assumption | rfl)) | exact rd_load pl3 (hF.ev rfl) (row_at0 (i := 2) hS rfl (by first | assumption | rfl)))) ?_; clear hF; intro a hF
                                refine d_pu hD hF rfl rfl rfl rfl rfl (pu_lss (hF.ev rfl) (hF.ev rfl)) ?_; clear hF; intro a hF
                                refine d_pu hD hF rfl rfl rfl rfl rfl ((by first | exact pu_pick_t (hF.ev rfl) (hF.ev rfl) | exact pu_pick_f (hF.ev rfl) (hF.ev rfl) | exact pu_pick (hF.ev rfl) (hF.ev rfl) (hF.ev rfl))) ?_; clear hF; intro a hF
                                refine d_pu hD hF rfl rfl rfl rfl rfl (pu_move (hF.ev rfl)) ?_; clear hF; intro a hF
                                refine fr_split hF (t := 183) rfl ?_ ?_
                                · clear hF; intro hg183 hF   -- slot 183 true
                                  try simp only [decide_eq_true_eq, decide_eq_false_iff_not, Bool.not_eq_true', Bool.not_eq_false', Int.not_lt, Int.not_le, ne_eq, Decidable.not_not, Bool.or_eq_true, Bool.or_eq_false_iff, Bool.and_eq_true, Bool.and_eq_false_imp] at hg183
                                  have := e1 hki (by omega)
                                  omega
                                · clear hF; intro hg183 hF   -- slot 183 false
                                  try simp only [decide_eq_true_eq, decide_eq_false_iff_not, Bool.not_eq_true', Bool.not_eq_false', Int.not_lt, Int.not_le, ne_eq, Decidable.not_not, Bool.or_eq_true, Bool.or_eq_false_iff, Bool.and_eq_true, Bool.and_eq_false_imp] at hg183
                                  refine d_pu hD hF rfl rfl rfl rfl rfl (pu_move (hF.ev rfl)) ?_; clear hF; intro a hF
                                  refine d_pu hD hF rfl rfl rfl rfl rfl (pu_move (hF.ev rfl)) ?_; clear hF; intro a hF
                                  refine d_pu hD hF rfl rfl rfl rfl rfl ((by first | exact pu_elem sl22 (hF.ev rfl) (hF.ev rfl) (by first | omega | simp) (by first | omega | (simp; done) | (simp; omega)) | exact pu_elemA sl22 (hF.ev rfl) (hF.ev rfl) (by omega) (by omega))) ?_; clear hF; intro a hF
                                  refine d_rd hD hF rfl rfl rfl rfl rfl hS (fun w hS => (by first | exact rd_load pl3 (hF.ev rfl) (by assumption) | exact rd_load pl3 (hF.ev rfl) (hS.cellL (i := 0) rfl rfl) | exact rd_load pl3 (hF.ev rfl) (hS.cellL (i := 1) rfl rfl) | exact rd_load pl3 (hF.ev rfl) (hS.cellL (i := 2) rfl rfl) | exact rd_load pl3 (hF.ev rfl) (hS.cell (i := 0) rfl (by assumption)) | exact rd_load pl3 (hF.ev rfl) (hS.cell (i := 1) rfl (by assumption)) | exact rd_load pl3 (hF.ev rfl) (hS.cell (i := 2) rfl (by assumption)) | exact rd_load pl3 (hF.ev rfl) (row_at (i := 0) hS rfl (by first | assumption | rfl)) | exact rd_load pl3 (hF.ev rfl) (row_at0 (i := 0) hS rfl (by first | assumption | rfl)) | exact rd_load pl3 (hF.ev rfl) (row_at (i := 1) hS rfl (by first | assumption | rfl)) | exact rd_load pl3 (hF.ev rfl) (row_at0 (i := 1) hS rfl (by first | assumption | rfl)) | exact rd_load pl3 (hF.ev rfl) (row_at (i := 2) hS rfl (by first | assumption | rfl)) | exact rd_load pl3 (hF.ev rfl) (row_at0 (i := 2) hS rfl (by first | assumption | rfl)))) ?_; clear hF; intro a hF
                                  refine d_pu hD hF rfl rfl rfl rfl rfl (pu_move (hF.ev rfl)) ?_; clear hF; intro a hF
                                  refine d_pu hD hF rfl rfl rfl rfl rfl (pu_move (hF.ev rfl)) ?_; clear hF; intro a hF
                                  refine d_pu hD hF rfl rfl rfl rfl rfl ((by first | exact pu_elem sl22 (hF.ev rfl) (hF.ev rfl) (by first | omega | simp) (by first | omega | (simp; done) | (simp; omega)) | exact pu_elemA sl22 (hF.ev rfl) (hF.ev rfl) (by omega) (by omega))) ?_; clear hF; intro a hF
                                  refine d_rd hD hF rfl rfl rfl rfl rfl hS (fun w hS => (by first | exact rd_load pl3 (hF.ev rfl) (by assumption) | exact rd_load pl3 (hF.ev rfl) (hS.cellL (i := 0) rfl rfl) | exact rd_load pl3 (hF.ev rfl) (hS.cellL (i := 1) rfl rfl) | exact rd_load pl3 (hF.ev rfl) (hS.cellL (i := 2) rfl rfl) | exact rd_load pl3 (hF.ev rfl) (hS.cell (i := 0) rfl (by assumption)) | exact rd_load pl3 (hF.ev rfl) (hS.cell (i := 1) rfl (by assumption)) | exact rd_load pl3 (hF.ev rfl) (hS.cell (i := 2) rfl (by assumption)) | exact rd_load pl3 (hF.ev rfl) (row_at (i := 0) hS rfl (by first | assumption | rfl)) | exact rd_load pl3 (hF.ev rfl) (row_at0 (i := 0) hS rfl (by first | assumption | rfl)) | exact rd_load pl3 (hF.ev rfl) (row_at (i := 1) hS rfl (by first | assumption | rfl)) | exact rd_load pl3 (hF.ev rfl) (row_at0 (i := 1) hS rfl (by first | assumption | rfl)) | exact rd_load pl3 (hF.ev rfl) (row_at (i := 2) hS rfl (by first | assumption | rfl)) | exact rd_load pl3 (hF.ev rfl) (row_at0 (i := 2) hS rfl (by first | assumption | rfl)))) ?_; clear hF; intro a hF
                                  refine d_pu hD hF rfl rfl rfl rfl rfl (pu_gtr (hF.ev rfl) (hF.ev rfl)) ?_; clear hF; intro a hF
                                  refine d_pu hD hF rfl rfl rfl rfl rfl (pu_move (hF.ev rfl)) ?_; clear hF; intro a hF
                                  refine fr_split hF (t := 193) rfl ?_ ?_
                                  · clear hF; intro hg193 hF   -- slot 193 true
                                    try simp only [decide_eq_true_eq, decide_eq_false_iff_not, Bool.not_eq_true', Bool.not_eq_false', Int.not_lt, Int.not_le, ne_eq, Decidable.not_not, Bool.or_eq_true, Bool.or_eq_false_iff, Bool.and_eq_true, Bool.and_eq_false_imp] at hg193
                                    refine d_pu hD hF rfl rfl rfl rfl rfl (pu_move (hF.ev rfl)) ?_; clear hF; intro a hF
                                    refine d_pu hD hF rfl rfl rfl rfl rfl (pu_move (hF.ev rfl)) ?_; clear hF; intro a hF
                                    refine d_pu hD hF rfl rfl rfl rfl rfl ((by first | exact pu_elem sl22 (hF.ev rfl) (hF.ev rfl) (by first | omega | simp) (by first | omega | (simp; done) | (simp; omega)) | exact pu_elemA sl22 (hF.ev rfl) (hF.ev rfl) (by omega) (by omega))) ?_; clear hF; intro a hF
                                    refine d_rd hD hF rfl rfl rfl rfl rfl hS (fun w hS => (by first | exact rd_load pl3 (hF.ev rfl) (by assumption) | exact rd_load pl3 (hF.ev rfl) (hS.cellL (i := 0) rfl rfl) | exact rd_load pl3 (hF.ev rfl) (hS.cellL (i := 1) rfl rfl) | exact rd_load pl3 (hF.ev rfl) (hS.cellL (i := 2) rfl rfl) | exact rd_load pl3 (hF.ev rfl) (hS.cell (i := 0) rfl (by assumption)) | exact rd_load pl3 (hF.ev rfl) (hS.cell (i := 1) rfl (by assumption)) | exact rd_load pl3 (hF.ev rfl) (hS.cell (i := 2) rfl (by assumption)) | exact rd_load pl3 (hF.ev rfl) (row_at (i := 0) hS rfl (by first | assumption | rfl)) | exact rd_load pl3 (hF.ev rfl) (row_at0 (i := 0) hS rfl (by first | assumption | rfl)) | exact rd_load pl3 (hF.ev rfl) (row_at (i := 1) hS rfl (by first | assumption | rfl)) | exact rd_load pl3 (hF.ev rfl) (row_at0 (i := 1) hS rfl (by first | assumption | rfl)) | exact rd_load pl3 (hF.ev rfl) (row_at (i := 2) hS rfl (by first | assumption | rfl)) | exact rd_load pl3 (hF.ev rfl) (row_at0 (i := 2) hS rfl (by first | assumption | rfl)))) ?_; clear hF; intro a hF
                                    refine d_pu hD hF rfl rfl rfl rfl rfl (pu_move (hF.ev rfl)) ?_; clear hF; intro a hF
                                    refine d_pu hD hF rfl rfl rfl rfl rfl (pu_move (hF.ev rfl)) ?_; clear hF; intro a hF
                                    refine d_pu hD hF rfl rfl rfl rfl rfl ((by first | exact pu_elem sl22 (hF.ev rfl) (hF.ev rfl) (by first | omega | simp) (by first | omega | (simp; done) | (simp; omega)) | exact pu_elemA sl22 (hF.ev rfl) (hF.ev rfl) (by omega) (by omega))) ?_; clear hF; intro a hF
                                    refine d_rd hD hF rfl rfl rfl rfl rfl hS (fun w hS => (by first | exact rd_load pl3 (hF.ev rfl) (by assumption) | exact rd_load pl3 (hF.ev rfl) (hS.cellL (i := 0) rfl rfl) | exact rd_load pl3 (hF.ev rfl) (hS.cellL (i := 1) rfl rfl) | exact rd_load pl3 (hF.ev rfl) (hS.cellL (i := 2) rfl rfl) | exact rd_load pl3 (hF.ev rfl) (hS.cell (i := 0) rfl (by assumption)) | exact rd_load pl3 (hF.ev rfl) (hS.cell (i := 1) rfl (by assumption)) | exact rd_load pl3 (hF.ev rfl) (hS.cell (i := 2) rfl (by assumption)) | exact rd_load pl3 (hF.ev rfl) (row_at (i := 0) hS rfl (by first | assumption | rfl)) | exact rd_load pl3 (hF.ev rfl) (row_at0 (i := 0) hS rfl (by first | assumption | rfl)) | exact rd_load pl3 (hF.ev rfl) (row_at (i := 1) hS rfl (by first | assumption | rfl)) | exact rd_load pl3 (hF.ev rfl) (row_at0 (i := 1) hS rfl (by first | assumption | rfl)) | exact rd_load pl3 (hF.ev rfl) (row_at (i := 2) hS rfl (by first | assumption | rfl)) | exact rd_load pl3 (hF.ev rfl) (row_at0 (i := 2) hS rfl (by first | assumption | rfl)))) ?_; clear hF; intro a hF
                                    refine d_pu hD hF rfl rfl rfl rfl rfl (pu_lss (hF.ev rfl) (hF.ev rfl)) ?_; clear hF; intro a hF
                                    refine d_pu hD hF rfl rfl rfl rfl rfl ((by first | exact pu_pick_t (hF.ev rfl) (hF.ev rfl) | exact pu_pick_f (hF.ev rfl) (hF.ev rfl) | exact pu_pick (hF.ev rfl) (hF.ev rfl) (hF.ev rfl))) ?_; clear hF; intro a hF
                                    refine d_pu hD hF rfl rfl rfl rfl rfl ((by first | exact pu_pick_t (hF.ev rfl) (hF.ev rfl) | exact pu_pick_f (hF.ev rfl) (hF.ev rfl) | exact pu_pick (hF.ev rfl) (hF.ev rfl) (hF.ev rfl))) ?_; clear hF; intro a hF
                                    refine d_done hD rfl ?_; clear hD
                                    refine hK24 _ _ ?_; clear hK24
                                    refine wp_cond_split (hF.ev rfl) (fun hc7 => ?_) (fun hc7 => ?_)
                                    · -- cond 7 true
                                      try simp only [decide_eq_true_eq, decide_eq_false_iff_not, Bool.not_eq_true', Bool.not_eq_false', Int.not_lt, Int.not_le, ne_eq, Decidable.not_not, Bool.or_eq_true, Bool.or_eq_false_iff, Bool.and_eq_true, Bool.and_eq_false_imp] at hc7
                                      have := e2 (by omega)
                                      omega
                                    · -- cond 7 false
                                      try simp only [decide_eq_true_eq, decide_eq_false_iff_not, Bool.not_eq_true', Bool.not_eq_false', Int.not_lt, Int.not_le, ne_eq, Decidable.not_not, Bool.or_eq_true, Bool.or_eq_false_iff, Bool.and_eq_true, Bool.and_eq_false_imp] at hc7
                                      refine wp_skip ?_
                                      refine blk_normal ?_
                                      refine hK23 _ _ ?_; clear hK23
                                      -- region 25
                                      refine wp_region_lit ?_
                                      refine s_pu hF rfl rfl rfl (pu_move (hF.ev rfl)) ?_; clear hF; intro a hF
                                      refine s_pu hF rfl rfl rfl ((by first | exact pu_add64 (hF.ev rfl) (hF.ev rfl) (by omega) | exact pu_add (hF.ev rfl) (hF.ev rfl))) ?_; clear hF; intro a hF
                                      refine s_pu hF rfl rfl rfl (pu_assign (hF.ev rfl)) ?_; clear hF; intro a hF
                                      refine s_done ?_
                                      exact ⟨_, by omega, k + 1, rfl, by omega, hF.sub ⟨rfl, rfl, rfl, rfl, rfl, rfl, rfl, trivial⟩, hS⟩
                                  · clear hF; intro hg193 hF   -- slot 193 false
                                    try simp only [decide_eq_true_eq, decide_eq_false_iff_not, Bool.not_eq_true', Bool.not_eq_false', Int.not_lt, Int.not_le, ne_eq, Decidable.not_not, Bool.or_eq_true, Bool.or_eq_false_iff, Bool.and_eq_true, Bool.and_eq_false_imp] at hg193
                                    refine d_no hD hF rfl rfl rfl rfl rfl ?_; clear hF; intro a hF
                                    refine d_no hD hF rfl rfl rfl rfl rfl ?_; clear hF; intro a hF
                                    refine d_no hD hF rfl rfl rfl rfl rfl ?_; clear hF; intro a hF
                                    refine d_nord hD hF rfl rfl rfl rfl rfl hS ?_; clear hF; intro a hF
                                    refine d_no hD hF rfl rfl rfl rfl rfl ?_; clear hF; intro a hF
                                    refine d_no hD hF rfl rfl rfl rfl rfl ?_; clear hF; intro a hF
                                    refine d_no hD hF rfl rfl rfl rfl rfl ?_; clear hF; intro a hF
                                    refine d_nord hD hF rfl rfl rfl rfl rfl hS ?_; clear hF; intro a hF
                                    refine d_no hD hF rfl rfl rfl rfl rfl ?_; clear hF; intro a hF
                                    refine d_pu hD hF rfl rfl rfl rfl rfl ((by first | exact pu_pick_t (hF.ev rfl) (hF.ev rfl) | exact pu_pick_f (hF.ev rfl) (hF.ev rfl) | exact pu_pick (hF.ev rfl) (hF.ev rfl) (hF.ev rfl))) ?_; clear hF; intro a hF
                                    refine d_pu hD hF rfl rfl rfl rfl rfl ((by first | exact pu_pick_t (hF.ev rfl) (hF.ev rfl) | exact pu_pick_f (hF.ev rfl) (hF.ev rfl) | exact pu_pick (hF.ev rfl) (hF.ev rfl) (hF.ev rfl))) ?_; clear hF; intro a hF
                                    refine d_done hD rfl ?_; clear hD
                                    refine hK24 _ _ ?_; clear hK24
                                    refine wp_cond_false (hF.ev rfl) ?_
                                    refine wp_skip ?_
                                    refine blk_normal ?_
                                    refine hK23 _ _ ?_; clear hK23
                                    -- region 25
                                    refine wp_region_lit ?_
                                    refine s_pu hF rfl rfl rfl (pu_move (hF.ev rfl)) ?_; clear hF; intro a hF
                                    refine s_pu hF rfl rfl rfl ((by first | exact pu_add64 (hF.ev rfl) (hF.ev rfl) (by omega) | exact pu_add (hF.ev rfl) (hF.ev rfl))) ?_; clear hF; intro a hF
                                    refine s_pu hF rfl rfl rfl (pu_assign (hF.ev rfl)) ?_; clear hF; intro a hF
                                    refine s_done ?_
                                    exact ⟨_, by omega, k + 1, rfl, by omega, hF.sub ⟨rfl, rfl, rfl, rfl, rfl, rfl, rfl, trivial⟩, hS⟩
                              · clear hF; intro hg172 hF   -- slot 172 false
                                try simp only [decide_eq_true_eq, decide_eq_false_iff_not, Bool.not_eq_true', Bool.not_eq_false', Int.not_lt, Int.not_le, ne_eq, Decidable.not_not, Bool.or_eq_true, Bool.or_eq_false_iff, Bool.and_eq_true, Bool.and_eq_false_imp] at hg172
                                refine d_no hD hF rfl rfl rfl rfl rfl ?_; clear hF; intro a hF
                                refine d_no hD hF rfl rfl rfl rfl rfl ?_; clear hF; intro a hF
                                refine d_no hD hF rfl rfl rfl rfl rfl ?_; clear hF; intro a hF
                                refine d_nord hD hF rfl rfl rfl rfl rfl hS ?_; clear hF; intro a hF
                                refine d_no hD hF rfl rfl rfl rfl rfl ?_; clear hF; intro a hF
                                refine d_no hD hF rfl rfl rfl rfl rfl ?_; clear hF; intro a hF
                                refine d_no hD hF rfl rfl rfl rfl rfl ?_; clear hF; intro a hF
                                refine d_nord hD hF rfl rfl rfl rfl rfl hS ?_; clear hF; intro a hF
                                refine d_no hD hF rfl rfl rfl rfl rfl ?_; clear hF; intro a hF
                                refine d_pu hD hF rfl rfl rfl rfl rfl ((by first | exact pu_pick_t (hF.ev rfl) (hF.ev rfl) | exact pu_pick_f (hF.ev rfl) (hF.ev rfl) | exact pu_pick (hF.ev rfl) (hF.ev rfl) (hF.ev rfl))) ?_; clear hF; intro a hF
                                refine d_pu hD hF rfl rfl rfl rfl rfl (pu_move (hF.ev rfl)) ?_; clear hF; intro a hF
                                refine d_pu hD hF rfl rfl rfl rfl rfl (pu_move (hF.ev rfl)) ?_; clear hF; intro a hF
                                refine d_pu hD hF rfl rfl rfl rfl rfl (pu_move (hF.ev rfl)) ?_; clear hF; intro a hF
                                refine d_pu hD hF rfl rfl rfl rfl rfl ((by first | exact pu_elem sl22 (hF.ev rfl) (hF.ev rfl) (by first | omega | simp) (by first | omega | (simp; done) | (simp; omega)) | exact pu_elemA sl22 (hF.ev rfl) (hF.ev rfl) (by omega) (by omega))) ?_; clear hF; intro a hF
                                refine d_rd hD hF rfl rfl rfl rfl rfl hS (fun w hS => (by first | exact rd_load pl3 (hF.ev rfl) (by assumption) | exact rd_load pl3 (hF.ev rfl) (hS.cellL (i := 0) rfl rfl) | exact rd_load pl3 (hF.ev rfl) (hS.cellL (i := 1) rfl rfl) | exact rd_load pl3 (hF.ev rfl) (hS.cellL (i := 2) rfl rfl) | exact rd_load pl3 (hF.ev rfl) (hS.cell (i := 0) rfl (by assumption)) | exact rd_load pl3 (hF.ev rfl) (hS.cell (i := 1) rfl (by assumption)) | exact rd_load pl3 (hF.ev rfl) (hS.cell (i := 2) rfl (by assumption)) | exact rd_load pl3 (hF.ev rfl) (row_at (i := 0) hS rfl (by first | assumption | rfl)) | exact rd_load pl3 (hF.ev rfl) (row_at0 (i := 0) hS rfl (by first | assumption | rfl)) | exact rd_load pl3 (hF.ev rfl) (row_at (i := 1) hS rfl (by first | assumption | rfl)) | exact rd_load pl3 (hF.ev rfl) (row_at0 (i := 1) hS rfl (by first | assumption | rfl)) | exact rd_load pl3 (hF.ev rfl) (row_at (i := 2) hS rfl (by first | assumption | rfl)) | exact rd_load pl3 (hF.ev rfl) (row_at0 (i := 2) hS rfl (by first | assumption | rfl)))) ?_; clear hF; intro a hF
                                refine d_pu hD hF rfl rfl rfl rfl rfl (pu_move (hF.ev rfl)) ?_; clear hF; intro a hF
                                refine d_pu hD hF rfl rfl rfl rfl rfl (pu_move (hF.ev rfl)) ?_; clear hF; intro a hF
                                refine d_pu hD hF rfl rfl rfl rfl rfl ((by first | exact pu_elem sl22 (hF.ev rfl) (hF.ev rfl) (by first | omega | simp) (by first | omega | (simp; done) | (simp; omega)) | exact pu_elemA sl22 (hF.ev rfl) (hF.ev rfl) (by omega) (by omega))) ?_; clear hF; intro a hF
                                refine d_rd hD hF rfl rfl rfl rfl rfl hS (fun w hS => (by first | exact rd_load pl3 (hF.ev rfl) (by assumption) | exact rd_load pl3 (hF.ev rfl) (hS.cellL (i := 0) rfl rfl) | exact rd_load pl3 (hF.ev rfl) (hS.cellL (i := 1) rfl rfl) | exact rd_load pl3 (hF.ev rfl) (hS.cellL (i := 2) rfl rfl) | exact rd_load pl3 (hF.ev rfl) (hS.cell (i := 0) rfl (by assumption)) | exact rd_load pl3 (hF.ev rfl) (hS.cell (i := 1) rfl (by assumption)) | exact rd_load pl3 (hF.ev rfl) (hS.cell (i := 2) rfl (by assumption)) | exact rd_load pl3 (hF.ev rfl) (row_at (i := 0) hS rfl (by first | assumption | rfl)) | exact rd_load pl3 (hF.ev rfl) (row_at0 (i := 0) hS rfl (by first | assumption | rfl)) | exact rd_load pl3 (hF.ev rfl) (row_at (i := 1) hS rfl (by first | assumption | rfl)) | exact rd_load pl3 (hF.ev rfl) (row_at0 (i := 1) hS rfl (by first | assumption | rfl)) | exact rd_load pl3 (hF.ev rfl) (row_at (i := 2) hS rfl (by first | assumption | rfl)) | exact rd_load pl3 (hF.ev rfl) (row_at0 (i := 2) hS rfl (by first | assumption | rfl)))) ?_; clear hF; intro a hF
                                refine d_pu hD hF rfl rfl rfl rfl rfl (pu_gtr (hF.ev rfl) (hF.ev rfl)) ?_; clear hF; intro a hF
                                refine d_pu hD hF rfl rfl rfl rfl rfl (pu_move (hF.ev rfl)) ?_; clear hF; intro a hF
                                refine fr_split hF (t := 193) rfl ?_ ?_
                                · clear hF; intro hg193 hF   -- slot 193 true
                                  try simp only [decide_eq_true_eq, decide_eq_false_iff_not, Bool.not_eq_true', Bool.not_eq_false', Int.not_lt, Int.not_le, ne_eq, Decidable.not_not, Bool.or_eq_true, Bool.or_eq_false_iff, Bool.and_eq_true, Bool.and_eq_false_imp] at hg193
                                  refine d_pu hD hF rfl rfl rfl rfl rfl (pu_move (hF.ev rfl)) ?_; clear hF; intro a hF
                                  refine d_pu hD hF rfl rfl rfl rfl rfl (pu_move (hF.ev rfl)) ?_; clear hF; intro a hF
                                  refine d_pu hD hF rfl rfl rfl rfl rfl ((by first | exact pu_elem sl22 (hF.ev rfl) (hF.ev rfl) (by first | omega | simp) (by first | omega | (simp; done) | (simp; omega)) | exact pu_elemA sl22 (hF.ev rfl) (hF.ev rfl) (by omega) (by omega))) ?_; clear hF; intro a hF
                                  refine d_rd hD hF rfl rfl rfl rfl rfl hS (fun w hS => (by first | exact rd_load pl3 (hF.ev rfl) (by assumption) | exact rd_load pl3 (hF.ev rfl) (hS.cellL (i := 0) rfl rfl) | exact rd_load pl3 (hF.ev rfl) (hS.cellL (i := 1) rfl rfl) | exact rd_load pl3 (hF.ev rfl) (hS.cellL (i := 2) rfl rfl) | exact rd_load pl3 (hF.ev rfl) (hS.cell (i := 0) rfl (by assumption)) | exact rd_load pl3 (hF.ev rfl) (hS.cell (i := 1) rfl (by assumption)) | exact rd_load pl3 (hF.ev rfl) (hS.cell (i := 2) rfl (by assumption)) | exact rd_load pl3 (hF.ev rfl) (row_at (i := 0) hS rfl (by first | assumption | rfl)) | exact rd_load pl3 (hF.ev rfl) (row_at0 (i := 0) hS rfl (by first | assumption | rfl)) | exact rd_load pl3 (hF.ev rfl) (row_at (i := 1) hS rfl (by first | assumption | rfl)) | exact rd_load pl3 (hF.ev rfl) (row_at0 (i := 1) hS rfl (by first | assumption | rfl)) | exact rd_load pl3 (hF.ev rfl) (row_at (i := 2) hS rfl (by first | assumption | rfl)) | exact rd_load pl3 (hF.ev rfl) (row_at0 (i := 2) hS rfl (by first | assumption | rfl)))) ?_; clear hF; intro a hF
                                  refine d_pu hD hF rfl rfl rfl rfl rfl (pu_move (hF.ev rfl)) ?_; clear hF; intro a hF
                                  refine d_pu hD hF rfl rfl rfl rfl rfl (pu_move (hF.ev rfl)) ?_; clear hF; intro a hF
                                  refine d_pu hD hF rfl rfl rfl rfl rfl ((by first | exact pu_elem sl22 (hF.ev rfl) (hF.ev rfl) (by first | omega | simp) (by first | omega | (simp; done) | (simp; omega)) | exact pu_elemA sl22 (hF.ev rfl) (hF.ev rfl) (by omega) (by omega))) ?_; clear hF; intro a hF
                                  refine d_rd hD hF rfl rfl rfl rfl rfl hS (fun w hS => (by first | exact rd_load pl3 (hF.ev rfl) (by assumption) | exact rd_load pl3 (hF.ev rfl) (hS.cellL (i := 0) rfl rfl) | exact rd_load pl3 (hF.ev rfl) (hS.cellL (i := 1) rfl rfl) | exact rd_load pl3 (hF.ev rfl) (hS.cellL (i := 2) rfl rfl) | exact rd_load pl3 (hF.ev rfl) (hS.cell (i := 0) rfl (by assumption)) | exact rd_load pl3 (hF.ev rfl) (hS.cell (i := 1) rfl (by assumption)) | exact rd_load pl3 (hF.ev rfl) (hS.cell (i := 2) rfl (by assumption)) | exact rd_load pl3 (hF.ev rfl) (row_at (i := 0) hS rfl (by first | assumption | rfl)) | exact rd_load pl3 (hF.ev rfl) (row_at0 (i := 0) hS rfl (by first | assumption | rfl)) | exact rd_load pl3 (hF.ev rfl) (row_at (i := 1) hS rfl (by first | assumption | rfl)) | exact rd_load pl3 (hF.ev rfl) (row_at0 (i := 1) hS rfl (by first | assumption | rfl)) | exact rd_load pl3 (hF.ev rfl) (row_at (i := 2) hS rfl (by first | assumption | rfl)) | exact rd_load pl3 (hF.ev rfl) (row_at0 (i := 2) hS rfl (by first | assumption | rfl)))) ?_; clear hF; intro a hF
                                  refine d_pu hD hF rfl rfl rfl rfl rfl (pu_lss (hF.ev rfl) (hF.ev rfl)) ?_; clear hF; intro a hF
                                  refine d_pu hD hF rfl rfl rfl rfl rfl ((by first | exact pu_pick_t (hF.ev rfl) (hF.ev rfl) | exact pu_pick_f (hF.ev rfl) (hF.ev rfl) | exact pu_pick (hF.ev rfl) (hF.ev rfl) (hF.ev rfl))) ?_; clear hF; intro a hF
                                  refine d_pu hD hF rfl rfl rfl rfl rfl ((by first | exact pu_pick_t (hF.ev rfl) (hF.ev rfl) | exact pu_pick_f (hF.ev rfl) (hF.ev rfl) | exact pu_pick (hF.ev rfl) (hF.ev rfl) (hF.ev rfl))) ?_; clear hF; intro a hF
                                  refine d_done hD rfl ?_; clear hD
                                  refine hK24 _ _ ?_; clear hK24
                                  refine wp_cond_split (hF.ev rfl) (fun hc7 => ?_) (fun hc7 => ?_)
                                  · -- cond 7 true
                                    try simp only [decide_eq_true_eq, decide_eq_false_iff_not, Bool.not_eq_true', Bool.not_eq_false', Int.not_lt, Int.not_le, ne_eq, Decidable.not_not, Bool.or_eq_true, Bool.or_eq_false_iff, Bool.and_eq_true, Bool.and_eq_false_imp] at hc7
                                    have := e2 (by omega)
                                    omega
                                  · -- cond 7 false
                                    try simp only [decide_eq_true_eq, decide_eq_false_iff_not, Bool.not_eq_true', Bool.not_eq_false', Int.not_lt, Int.not_le, ne_eq, Decidable.not_not, Bool.or_eq_true, Bool.or_eq_false_iff, Bool.and_eq_true, Bool.and_eq_false_imp] at hc7
                                    refine wp_skip ?_
                                    refine blk_normal ?_
                                    refine hK23 _ _ ?_; clear hK23
                                    -- region 25
                                    refine wp_region_lit ?_
                                    refine s_pu hF rfl rfl rfl (pu_move (hF.ev rfl)) ?_; clear hF; intro a hF
                                    refine s_pu hF rfl rfl rfl ((by first | exact pu_add64 (hF.ev rfl) (hF.ev rfl) (by omega) | exact pu_add (hF.ev rfl) (hF.ev rfl))) ?_; clear hF; intro a hF
                                    refine s_pu hF rfl rfl rfl (pu_assign (hF.ev rfl)) ?_; clear hF; intro a hF
                                    refine s_done ?_
                                    exact ⟨_, by omega, k + 1, rfl, by omega, hF.sub ⟨rfl, rfl, rfl, rfl, rfl, rfl, rfl, trivial⟩, hS⟩
                                · clear hF; intro hg193 hF   -- slot 193 false
                                  try simp only [decide_eq_true_eq, decide_eq_false_iff_not, Bool.not_eq_true', Bool.not_eq_false', Int.not_lt, Int.not_le, ne_eq, Decidable.not_not, Bool.or_eq_true, Bool.or_eq_false_iff, Bool.and_eq_true, Bool.and_eq_false_imp] at hg193
                                  refine d_no hD hF rfl rfl rfl rfl rfl ?_; clear hF; intro a hF
                                  refine d_no hD hF rfl rfl rfl rfl rfl ?_; clear hF; intro a hF
                                  refine d_no hD hF rfl rfl rfl rfl rfl ?_; clear hF; intro a hF
                                  refine d_nord hD hF rfl rfl rfl rfl rfl hS ?_; clear hF; intro a hF
                                  refine d_no hD hF rfl rfl rfl rfl rfl ?_; clear hF; intro a hF
                                  refine d_no hD hF rfl rfl rfl rfl rfl ?_; clear hF; intro a hF
                                  refine d_no hD hF rfl rfl rfl rfl rfl ?_; clear hF; intro a hF
                                  refine d_nord hD hF rfl rfl rfl rfl rfl hS ?_; clear hF; intro a hF
                                  refine d_no hD hF rfl rfl rfl rfl rfl ?_; clear hF; intro a hF
                                  refine d_pu hD hF rfl rfl rfl rfl rfl ((by first | exact pu_pick_t (hF.ev rfl) (hF.ev rfl) | exact pu_pick_f (hF.ev rfl) (hF.ev rfl) | exact pu_pick (hF.ev rfl) (hF.ev rfl) (hF.ev rfl))) ?_; clear hF; intro a hF
                                  refine d_pu hD hF rfl rfl rfl rfl rfl ((by first | exact pu_pick_t (hF.ev rfl) (hF.ev rfl) | exact pu_pick_f (hF.ev rfl) (hF.ev rfl) | exact pu_pick (hF.ev rfl) (hF.ev rfl) (hF.ev rfl))) ?_; clear hF; intro a hF
                                  refine d_done hD rfl ?_; clear hD
                                  refine hK24 _ _ ?_; clear hK24
                                  refine wp_cond_false (hF.ev rfl) ?_
                                  refine wp_skip ?_
                                  refine blk_normal ?_
                                  refine hK23 _ _ ?_; clear hK23
                                  -- region 25
                                  refine wp_region_lit ?_
                                  refine s_pu hF rfl rfl rfl (pu_move (hF.ev rfl)) ?_; clear hF; intro a hF
                                  refine s_pu hF rfl rfl rfl ((by first | exact pu_add64 (hF.ev rfl) (hF.ev rfl) (by omega) | exact pu_add (hF.ev rfl) (hF.ev rfl))) ?_; clear hF; intro a hF
                                  refine s_pu hF rfl rfl rfl (pu_assign (hF.ev rfl)) ?_; clear hF; intro a hF
                                  refine s_done ?_
                                  exact ⟨_, by omega, k + 1, rfl, by omega, hF.sub ⟨rfl, rfl, rfl, rfl, rfl, rfl, rfl, trivial⟩, hS⟩
                            · -- cond 6 false
                              try simp only [decide_eq_true_eq, decide_eq_false_iff_not, Bool.not_eq_true', Bool.not_eq_false', Int.not_lt, Int.not_le, ne_eq, Decidable.not_not, Bool.or_eq_true, Bool.or_eq_false_iff, Bool.and_eq_true, Bool.and_eq_false_imp] at hc6
                              refine wp_exit ?_
                              refine then_exit ?_
                              refine then_exit ?_
                              refine blk_exit ?_
                              refine blk_normal ?_
                              refine hK14 _ _ ?_; clear hK14
                              -- region 17
                              refine wp_region_lit ?_
                              refine s_pu hF rfl rfl rfl (pu_move (hF.ev rfl)) ?_; clear hF; intro a hF
                              refine s_pu hF rfl rfl rfl ((by first | exact pu_add64 (hF.ev rfl) (hF.ev rfl) (by omega) | exact pu_add (hF.ev rfl) (hF.ev rfl))) ?_; clear hF; intro a hF
                              refine s_pu hF rfl rfl rfl (pu_assign (hF.ev rfl)) ?_; clear hF; intro a hF
                              refine s_done ?_
                              exact ⟨_, by omega, i + 1, rfl, by omega, hF.sub ⟨rfl, rfl, rfl, rfl, rfl, rfl, trivial⟩, hS⟩
                        · clear hF; intro hg137 hF   -- slot 137 false
                          try simp only [decide_eq_true_eq, decide_eq_false_iff_not, Bool.not_eq_true', Bool.not_eq_false', Int.not_lt, Int.not_le, ne_eq, Decidable.not_not, Bool.or_eq_true, Bool.or_eq_false_iff, Bool.and_eq_true, Bool.and_eq_false_imp] at hg137
                          refine d_no hD hF rfl rfl rfl rfl rfl ?_; clear hF; intro a hF
                          refine d_no hD hF rfl rfl rfl rfl rfl ?_; clear hF; intro a hF
                          refine d_no hD hF rfl rfl rfl rfl rfl ?_; clear hF; intro a hF
                          refine d_nord hD hF rfl rfl rfl rfl rfl hS ?_; clear hF; intro a hF
                          refine d_no hD hF rfl rfl rfl rfl rfl ?_; clear hF; intro a hF
                          refine d_no hD hF rfl rfl rfl rfl rfl ?_; clear hF; intro a hF
                          refine d_no hD hF rfl rfl rfl rfl rfl ?_; clear hF; intro a hF
                          refine d_no hD hF rfl rfl rfl rfl rfl ?_; clear hF; intro a hF
                          refine d_nord hD hF rfl rfl rfl rfl rfl hS ?_; clear hF; intro a hF
                          refine d_no hD hF rfl rfl rfl rfl rfl ?_; clear hF; intro a hF
                          refine d_no hD hF rfl rfl rfl rfl rfl ?_; clear hF; intro a hF
                          refine d_no hD hF rfl rfl rfl rfl rfl ?_; clear hF; intro a hF
                          refine d_no hD hF rfl rfl rfl rfl rfl ?_; clear hF; intro a hF
                          refine d_pu hD hF rfl rfl rfl rfl rfl ((by first | exact pu_pick_t (hF.ev rfl) (hF.ev rfl) | exact pu_pick_f (hF.ev rfl) (hF.ev rfl) | exact pu_pick (hF.ev rfl) (hF.ev rfl) (hF.ev rfl))) ?_; clear hF; intro a hF
                          refine d_done hD rfl ?_; clear hD
                          refine hK18 _ _ ?_; clear hK18
                          refine wp_cond_false (hF.ev rfl) ?_
                          refine wp_skip ?_
                          refine hK17 _ _ ?_; clear hK17
                          refine wp_seq_k fun K19 hK19 => ?_
                          -- region 22
                          refine wp_region_lit ?_
                          refine s_pu hF rfl rfl rfl (pu_move (hF.ev rfl)) ?_; clear hF; intro a hF
                          refine s_pu hF rfl rfl rfl (pu_move (hF.ev rfl)) ?_; clear hF; intro a hF
                          refine s_pu hF rfl rfl rfl (pu_move (hF.ev rfl)) ?_; clear hF; intro a hF
                          refine s_pu hF rfl rfl rfl ((by first | exact pu_elem sl22 (hF.ev rfl) (hF.ev rfl) (by first | omega | simp) (by first | omega | (simp; done) | (simp; omega)) | exact pu_elemA sl22 (hF.ev rfl) (hF.ev rfl) (by omega) (by omega))) ?_; clear hF; intro a hF
                          refine s_rd hF rfl rfl rfl (by first | exact rd_load pl3 (hF.ev rfl) (by assumption) | exact rd_load pl3 (hF.ev rfl) (hS.cellL (i := 0) rfl rfl) | exact rd_load pl3 (hF.ev rfl) (hS.cellL (i := 1) rfl rfl) | exact rd_load pl3 (hF.ev rfl) (hS.cellL (i := 2) rfl rfl) | exact rd_load pl3 (hF.ev rfl) (hS.cell (i := 0) rfl (by assumption)) | exact rd_load pl3 (hF.ev rfl) (hS.cell (i := 1) rfl (by assumption)) | exact rd_load pl3 (hF.ev rfl) (hS.cell (i := 2) rfl (by assumption)) | exact rd_load pl3 (hF.ev rfl) (row_at (i := 0) hS rfl (by first | assumption | rfl)) | exact rd_load pl3 (hF.ev rfl) (row_at0 (i := 0) hS rfl (by first | assumption | rfl)) | exact rd_load pl3 (hF.ev rfl) (row_at (i := 1) hS rfl (by first | assumption | rfl)) | exact rd_load pl3 (hF.ev rfl) (row_at0 (i := 1) hS rfl (by first | assumption | rfl)) | exact rd_load pl3 (hF.ev rfl) (row_at (i := 2) hS rfl (by first | assumption | rfl)) | exact rd_load pl3 (hF.ev rfl) (row_at0 (i := 2) hS rfl (by first | assumption | rfl))) ?_; clear hF; intro a hF
                          refine s_pu hF rfl rfl rfl ((by first | exact pu_add64 (hF.ev rfl) (hF.ev rfl) (by omega) | exact pu_add (hF.ev rfl) (hF.ev rfl))) ?_; clear hF; intro a hF
                          refine s_pu hF rfl rfl rfl (pu_assign (hF.ev rfl)) ?_; clear hF; intro a hF
                          refine s_done ?_
                          refine hK19 _ _ ?_; clear hK19
                          refine wp_seq_k fun K20 hK20 => ?_
                          -- region 23
                          refine wp_region_lit ?_
                          refine s_pu hF rfl rfl rfl (pu_assign (hF.ev rfl)) ?_; clear hF; intro a hF
                          refine s_done ?_
                          refine hK20 _ _ ?_; clear hK20
                          refine wp_block ?_
                          refine wp_ind (fun j a w => ∃ (k : Nat), j = i - k ∧ k ≤ i ∧
                            Fr a 208 [(5, .int .i64 pu), (6, .slice (some ⟨ga, 0, none⟩) ls.length c), (7, .int .i64 (total ls)), (9, .slice (some ⟨go, 0, none⟩) outs.length co), (11, .int .i64 (total (outs.take (i + 1)))), (12, .int .i64 i), (13, .int .i64 k)] ∧
                            Sat W w [rowC 3 1 (.slice (some ⟨go, 0, none⟩) outs.length co) outs.length (ints outs), rowC 3 1 (.slice (some ⟨ga, 0, none⟩) ls.length c) ls.length (ints ls), whole W]) i
                            ⟨0, rfl, by omega, by rw [htt]; exact hF.sub ⟨rfl, rfl, rfl, rfl, rfl, rfl, rfl, trivial⟩, hS⟩ ?_
                          clear hS hF
                          rintro j a w ⟨k, rfl, hk, hF, hS⟩
                          refine wp_seq_k fun K21 hK21 => ?_
                          refine wp_seq_k fun K22 hK22 => ?_
                          -- region 24
                          refine wp_region_lit ?_
                          refine s_pu hF rfl rfl rfl (pu_move (hF.ev rfl)) ?_; clear hF; intro a hF
                          refine s_pu hF rfl rfl rfl (pu_move (hF.ev rfl)) ?_; clear hF; intro a hF
                          refine s_pu hF rfl rfl rfl (pu_lss (hF.ev rfl) (hF.ev rfl)) ?_; clear hF; intro a hF
                          refine s_done ?_
                          refine hK22 _ _ ?_; clear hK22
                          refine wp_cond_split (hF.ev rfl) (fun hc6 => ?_) (fun hc6 => ?_)
                          · -- cond 6 true
                            try simp only [decide_eq_true_eq, decide_eq_false_iff_not, Bool.not_eq_true', Bool.not_eq_false', Int.not_lt, Int.not_le, ne_eq, Decidable.not_not, Bool.or_eq_true, Bool.or_eq_false_iff, Bool.and_eq_true, Bool.and_eq_false_imp] at hc6
                            have hki : k < i := by omega
                            have hkl : k < ls.length := by omega
                            have hko : k < outs.length := by omega
                            have hok := ints_at hko
                            have hlk := ints_at hkl
                            obtain ⟨e1, e2⟩ := fair_two hf (by omega) hlb ht1 hkl hil
                            refine wp_skip ?_
                            refine hK21 _ _ ?_; clear hK21
                            refine wp_seq_k fun K23 hK23 => ?_
                            refine wp_block ?_
                            refine wp_seq_k fun K24 hK24 => ?_
                            -- region 26
                            refine d_start (S := (fun w => Sat W w _)) (ds := []) (ord := [(0, .pu), (1, .pu), (2, .pu), (3, .tk), (4, .pu), (5, .pu), (6, .pu), (7, .tk), (8, .pu), (9, .pu), (10, .pu), (11, .pu), (12, .pu), (13, .tk), (14, .pu), (15, .pu), (16, .pu), (17, .tk), (18, .pu), (19, .pu), (20, .pu), (21, .pu), (22, .pu), (23, .pu), (24, .tk), (25, .pu), (26, .pu), (27, .pu), (28, .tk), (29, .pu), (30, .pu), (31, .pu), (32, .pu), (33, .pu), (34, .tk), (35, .pu), (36, .pu), (37, .pu), (38, .tk), (39, .pu), (40, .pu), (41, .pu)]) mixed ⟨chk_fast (by kernel_rfl), fun _ d _ _ _ h => by cases d <;> exact h⟩ hS.drew fun hD => ?_
                            replace hS := hS.drew; generalize w.drew = w at hS ⊢
                            refine d_pu hD hF rfl rfl rfl rfl rfl (pu_move (hF.ev rfl)) ?_; clear hF; intro a hF
                            refine d_pu hD hF rfl rfl rfl rfl rfl (pu_move (hF.ev rfl)) ?_; clear hF; intro a hF
                            refine d_pu hD hF rfl rfl rfl rfl rfl ((by first | exact pu_elem sl22 (hF.ev rfl) (hF.ev rfl) (by first | omega | simp) (by first | omega | (simp; done) | (simp; omega)) | exact pu_elemA sl22 (hF.ev rfl) (hF.ev rfl) (by omega) (by omega))) ?_; clear hF; intro a hF
                            refine d_rd hD hF rfl rfl rfl rfl rfl hS (fun w hS => (by first | exact rd_load pl3 (hF.ev rfl) (by assumption) | exact rd_load pl3 (hF.ev rfl) (hS.cellL (i := 0) rfl rfl) | exact rd_load pl3 (hF.ev rfl) (hS.cellL (i := 1) rfl rfl) | exact rd_load pl3 (hF.ev rfl) (hS.cellL (i := 2) rfl rfl) | exact rd_load pl3 (hF.ev rfl) (hS.cell (i := 0) rfl (by assumption)) | exact rd_load pl3 (hF.ev rfl) (hS.cell (i := 1) rfl (by assumption)) | exact rd_load pl3 (hF.ev rfl) (hS.cell (i := 2) rfl (by assumption)) | exact rd_load pl3 (hF.ev rfl) (row_at (i := 0) hS rfl (by first | assumption | rfl)) | exact rd_load pl3 (hF.ev rfl) (row_at0 (i := 0) hS rfl (by first | assumption | rfl)) | exact rd_load pl3 (hF.ev rfl) (row_at (i := 1) hS rfl (by first | assumption | rfl)) | exact rd_load pl3 (hF.ev rfl) (row_at0 (i := 1) hS rfl (by first | assumption | rfl)) | exact rd_load pl3 (hF.ev rfl) (row_at (i := 2) hS rfl (by first | assumption | rfl)) | exact rd_load pl3 (hF.ev rfl) (row_at0 (i := 2) hS rfl (by first | assumption | rfl)))) ?_; clear hF; intro a hF
                            refine d_pu hD hF rfl rfl rfl rfl rfl (pu_move (hF.ev rfl)) ?_; clear hF; intro a hF
                            refine d_pu hD hF rfl rfl rfl rfl rfl (pu_move (hF.ev rfl)) ?_; clear hF; intro a hF
                            refine d_pu hD hF rfl rfl rfl rfl rfl ((by first | exact pu_elem sl22 (hF.ev rfl) (hF.ev rfl) (by first | omega | simp) (by first | omega | (simp; done) | (simp; omega)) | exact pu_elemA sl22 (hF.ev rfl) (hF.ev rfl) (by omega) (by omega))) ?_; clear hF; intro a hF
                            refine d_rd hD hF rfl rfl rfl rfl rfl hS (fun w hS => (by first | exact rd_load pl3 (hF.ev rfl) (by assumption) | exact rd_load pl3 (hF.ev rfl) (hS.cellL (i := 0) rfl rfl) | exact rd_load pl3 (hF.ev rfl) (hS.cellL (i := 1) rfl rfl) | exact rd_load pl3 (hF.ev rfl) (hS.cellL (i := 2) rfl rfl) | exact rd_load pl3 (hF.ev rfl) (hS.cell (i := 0) rfl (by assumption)) | exact rd_load pl3 (hF.ev rfl) (hS.cell (i := 1) rfl (by assumption)) | exact rd_load pl3 (hF.ev rfl) (hS.cell (i := 2) rfl (by assumption)) | exact rd_load pl3 (hF.ev rfl) (row_at (i := 0) hS rfl (by first | assumption | rfl)) | exact rd_load pl3 (hF.ev rfl) (row_at0 (i := 0) hS rfl (by first | assumption | rfl)) | exact rd_load pl3 (hF.ev rfl) (row_at (i := 1) hS rfl (by first | assumption | rfl)) | exact rd_load pl3 (hF.ev rfl) (row_at0 (i := 1) hS rfl (by first | assumption | rfl)) | exact rd_load pl3 (hF.ev rfl) (row_at (i := 2) hS rfl (by first | assumption | rfl)) | exact rd_load pl3 (hF.ev rfl) (row_at0 (i := 2) hS rfl (by first | assumption | rfl)))) ?_; clear hF; intro a hF
                            refine d_pu hD hF rfl rfl rfl rfl rfl (pu_geq (hF.ev rfl) (hF.ev rfl)) ?_; clear hF; intro a hF
                            refine d_pu hD hF rfl rfl rfl rfl rfl (pu_move (hF.ev rfl)) ?_; clear hF; intro a hF
                            refine fr_split hF (t := 172) rfl ?_ ?_
                            · clear hF; intro hg172 hF   -- slot 172 true
                              try simp only [decide_eq_true_eq, decide_eq_false_iff_not, Bool.not_eq_true', Bool.not_eq_false', Int.not_lt, Int.not_le, ne_eq, Decidable.not_not, Bool.or_eq_true, Bool.or_eq_false_iff, Bool.and_eq_true, Bool.and_eq_false_imp] at hg172
                              refine d_pu hD hF rfl rfl rfl rfl rfl (pu_move (hF.ev rfl)) ?_; clear hF; intro a hF
                              refine d_pu hD hF rfl rfl rfl rfl rfl (pu_move (hF.ev rfl)) ?_; clear hF; intro a hF
                              refine d_pu hD hF rfl rfl rfl rfl rfl ((by first | exact pu_elem sl22 (hF.ev rfl) (hF.ev rfl) (by first | omega | simp) (by first | omega | (simp; done) | (simp; omega)) | exact pu_elemA sl22 (hF.ev rfl) (hF.ev rfl) (by omega) (by omega))) ?_; clear hF; intro a hF
                              refine d_rd hD hF rfl rfl rfl rfl rfl hS (fun w hS => (by first | exact rd_load pl3 (hF.ev rfl) (by assumption) | exact rd_load pl3 (hF.ev rfl) (hS.cellL (i := 0) rfl rfl) | exact rd_load pl3 (hF.ev rfl) (hS.cellL (i := 1) rfl rfl) | exact rd_load pl3 (hF.ev rfl) (hS.cellL (i := 2) rfl rfl) | exact rd_load pl3 (hF.ev rfl) (hS.cell (i := 0) rfl (by assumption)) | exact rd_load pl3 (hF.ev rfl) (hS.cell (i := 1) rfl (by assumption)) | exact rd_load pl3 (hF.ev rfl) (hS.cell (i := 2) rfl (by assumption)) | exact rd_load pl3 (hF.ev rfl) (row_at (i := 0) hS rfl (by first | assumption | rfl)) | exact rd_load pl3 (hF.ev rfl) (row_at0 (i := 0) hS rfl (by first | assumption | rfl)) | exact rd_load pl3 (hF.ev rfl) (row_at (i := 1) hS rfl (by first | assumption | rfl)) | exact rd_load pl3 (hF.ev rfl) (row_at0 (i := 1) hS rfl (by first | assumption | rfl)) | exact rd_load pl3 (hF.ev rfl) (row_at (i := 2) hS rfl (by first | assumption | rfl)) | exact rd_load pl3 (hF.ev rfl) (row_at0 (i := 2) hS rfl (by first | assumption | rfl)))) ?_; clear hF; intro a hF
                              refine d_pu hD hF rfl rfl rfl rfl rfl (pu_move (hF.ev rfl)) ?_; clear hF; intro a hF
                              refine d_pu hD hF rfl rfl rfl rfl rfl (pu_move (hF.ev rfl)) ?_; clear hF; intro a hF
                              refine d_pu hD hF rfl rfl rfl rfl rfl ((by first | exact pu_elem sl22 (hF.ev rfl) (hF.ev rfl) (by first | omega | simp) (by first | omega | (simp; done) | (simp; omega)) | exact pu_elemA sl22 (hF.ev rfl) (hF.ev rfl) (by omega) (by omega))) ?_; clear hF; intro a hF
                              refine d_rd hD hF rfl rfl rfl rfl rfl hS (fun w hS => (by first | exact rd_load pl3 (hF.ev rfl) (by assumption) | exact rd_load pl3 (hF.ev rfl) (hS.cellL (i := 0) rfl rfl) | exact rd_load pl3 (hF.ev rfl) (hS.cellL (i := 1) rfl rfl) | exact rd_load pl3 (hF.ev rfl) (hS.cellL (i := 2) rfl rfl) | exact rd_load pl3 (hF.ev rfl) (hS.cell (i := 0) rfl (by assumption)) | exact rd_load pl3 (hF.ev rfl) (hS.cell (i := 1) rfl (by assumption)) | exact rd_load pl3 (hF.ev rfl) (hS.cell (i := 2) rfl (by assumption)) | exact rd_load pl3 (hF.ev rfl) (row_at (i := 0) hS rfl (by first | assumption | rfl)) | exact rd_load pl3 (hF.ev rfl) (row_at0 (i := 0) hS rfl (by first | assumption | rfl)) | exact rd_load pl3 (hF.ev rfl) (row_at (i := 1) hS rfl (by first | assumption | rfl)) | exact rd_load pl3 (hF.ev rfl) (row_at0 (i := 1) hS rfl (by first | assumption | rfl)) | exact rd_load pl3 (hF.ev rfl) (row_at (i := 2) hS rfl (by first | assumption | rfl)) | exact rd_load pl3 (hF.ev rfl) (row_at0 (i := 2) hS rfl (by first | assumption | rfl)))) ?_; clear hF; intro a hF
                              refine d_pu hD hF rfl rfl rfl rfl rfl (pu_lss (hF.ev rfl) (hF.ev rfl)) ?_; clear hF; intro a hF
                              refine d_pu hD hF rfl rfl rfl rfl rfl ((by first | exact pu_pick_t (hF.ev rfl) (hF.ev rfl) | exact pu_pick_f (hF.ev rfl) (hF.ev rfl) | exact pu_pick (hF.ev rfl) (hF.ev rfl) (hF.ev rfl))) ?_; clear hF; intro a hF
                              refine d_pu hD hF rfl rfl rfl rfl rfl (pu_move (hF.ev rfl)) ?_; clear hF; intro a hF
                              refine fr_split hF (t := 183) rfl ?_ ?_
                              · clear hF; intro hg183 hF   -- slot 183 true
                                try simp only [decide_eq_true_eq, decide_eq_false_iff_not, Bool.not_eq_true', Bool.not_eq_false', Int.not_lt, Int.not_le, ne_eq, Decidable.not_not, Bool.or_eq_true, Bool.or_eq_false_iff, Bool.and_eq_true, Bool.and_eq_false_imp] at hg183
                                have := e1 hki (by omega)
                                omega
                              · clear hF; intro hg183 hF   -- slot 183 false
                                try simp only [decide_eq_true_eq, decide_eq_false_iff_not, Bool.not_eq_true', Bool.not_eq_false', Int.not_lt, Int.not_le, ne_eq, Decidable.not_not, Bool.or_eq_true, Bool.or_eq_false_iff, Bool.and_eq_true, Bool.and_eq_false_imp] at hg183
                                refine d_pu hD hF rfl rfl rfl rfl rfl (pu_move (hF.ev rfl)) ?_; clear hF; intro a hF
                                refine d_pu hD hF rfl rfl rfl rfl rfl (pu_move (hF.ev rfl)) ?_; clear hF; intro a hF
                                refine d_pu hD hF rfl rfl rfl rfl rfl ((by first | exact pu_elem sl22 (hF.ev rfl) (hF.ev rfl) (by first | omega | simp) (by first | omega | (simp; done) | (simp; omega)) | exact pu_elemA sl22 (hF.ev rfl) (hF.ev rfl) (by omega) (by omega))) ?_; clear hF; intro a hF
                                refine d_rd hD hF rfl rfl rfl rfl rfl hS (fun w hS => (by first | exact rd_load pl3 (hF.ev rfl) (by assumption) | exact rd_load pl3 (hF.ev rfl) (hS.cellL (i := 0) rfl rfl) | exact rd_load pl3 (hF.ev rfl) (hS.cellL (i := 1) rfl rfl) | exact rd_load pl3 (hF.ev rfl) (hS.cellL (i := 2) rfl rfl) | exact rd_load pl3 (hF.ev rfl) (hS.cell (i := 0) rfl (by assumption)) | exact rd_load pl3 (hF.ev rfl) (hS.cell (i := 1) rfl (by assumption)) | exact rd_load pl3 (hF.ev rfl) (hS.cell (i := 2) rfl (by assumption)) | exact rd_load pl3 (hF.ev rfl) (row_at (i := 0) hS rfl (by first | assumption | rfl)) | exact rd_load pl3 (hF.ev rfl) (row_at0 (i := 0) hS rfl (by first | assumption | rfl)) | exact rd_load pl3 (hF.ev rfl) (row_at (i := 1) hS rfl (by first | assumption | rfl)) | exact rd_load pl3 (hF.ev rfl) (row_at0 (i := 1) hS rfl (by first | assumption | rfl)) | exact rd_load pl3 (hF.ev rfl) (row_at (i := 2) hS rfl (by first | assumption | rfl)) | exact rd_load pl3 (hF.ev rfl) (row_at0 (i := 2) hS rfl (by first | assumption | rfl)))) ?_; clear hF; intro a hF
                                refine d_pu hD hF rfl rfl rfl rfl rfl (pu_move (hF.ev rfl)) ?_; clear hF; intro a hF
                                refine d_pu hD hF rfl rfl rfl rfl rfl (pu_move (hF.ev rfl)) ?_; clear hF; intro a hF
                                refine d_pu hD hF rfl rfl rfl rfl rfl ((by first | exact pu_elem sl22 (hF.ev rfl) (hF.ev rfl) (by first | omega | simp) (by first | omega | (simp; done) | (simp; omega)) | exact pu_elemA sl22 (hF.ev rfl) (hF.ev rfl) (by omega) (by omega))) ?_; clear hF; intro a hF
                                refine d_rd hD hF rfl rfl rfl rfl rfl hS (fun w hS => (by first | exact rd_load pl3 (hF.ev rfl) (by assumption) | exact rd_load pl3 (hF.ev rfl) (hS.cellL (i := 0) rfl rfl) | exact rd_load pl3 (hF.ev rfl) (hS.cellL (i := 1) rfl rfl) | exact rd_load pl3 (hF.ev rfl) (hS.cellL (i := 2) rfl rfl) | exact rd_load pl3 (hF.ev rfl) (hS.cell (i := 0) rfl (by assumption)) | exact rd_load pl3 (hF.ev rfl) (hS.cell (i := 1) rfl (by assumption)) | exact rd_load pl3 (hF.ev rfl) (hS.cell (i := 2) rfl (by assumption)) | exact rd_load pl3 (hF.ev rfl) (row_at (i := 0) hS rfl (by first | assumption | rfl)) | exact rd_load pl3 (hF.ev rfl) (row_at0 (i := 0) hS rfl (by first | assumption | rfl)) | exact rd_load pl3 (hF.ev rfl) (row_at (i := 1) hS rfl (by first | assumption | rfl)) | exact rd_load pl3 (hF.ev rfl) (row_at0 (i := 1) hS rfl (by first | assumption | rfl)) | exact rd_load pl3 (hF.ev rfl) (row_at (i := 2) hS rfl (by first | assumption | rfl)) | exact rd_load pl3 (hF.ev rfl) (row_at0 (i := 2) hS rfl (by first | assumption | rfl)))) ?_; clear hF; intro a hF
                                refine d_pu hD hF rfl rfl rfl rfl rfl (pu_gtr (hF.ev rfl) (hF.ev rfl)) ?_; clear hF; intro a hF
                                refine d_pu hD hF rfl rfl rfl rfl rfl (pu_move (hF.ev rfl)) ?_; clear hF; intro a hF
                                refine fr_split hF (t := 193) rfl ?_ ?_
                                · clear hF; intro hg193 hF   -- slot 193 true
                                  try simp only [decide_eq_true_eq, decide_eq_false_iff_not, Bool.not_eq_true', Bool.not_eq_false', Int.not_lt, Int.not_le, ne_eq, Decidable.not_not, Bool.or_eq_true, Bool.or_eq_false_iff, Bool.and_eq_true, Bool.and_eq_false_imp] at hg193
                                  refine d_pu hD hF rfl rfl rfl rfl rfl (pu_move (hF.ev rfl)) ?_; clear hF; intro a hF
                                  refine d_pu hD hF rfl rfl rfl rfl rfl (pu_move (hF.ev rfl)) ?_; clear hF; intro a hF
                                  refine d_pu hD hF rfl rfl rfl rfl rfl ((by first | exact pu_elem sl22 (hF.ev rfl) (hF.ev rfl) (by first | omega | simp) (by first | omega | (simp; done) | (simp; omega)) | exact pu_elemA sl22 (hF.ev rfl) (hF.ev rfl) (by omega) (by omega))) ?_; clear hF; intro a hF
                                  refine d_rd hD hF rfl rfl rfl rfl rfl hS (fun w hS => (by first | exact rd_load pl3 (hF.ev rfl) (by assumption) | exact rd_load pl3 (hF.ev rfl) (hS.cellL (i := 0) rfl rfl) | exact rd_load pl3 (hF.ev rfl) (hS.cellL (i := 1) rfl rfl) | exact rd_load pl3 (hF.ev rfl) (hS.cellL (i := 2) rfl rfl) | exact rd_load pl3 (hF.ev rfl) (hS.cell (i := 0) rfl (by assumption)) | exact rd_load pl3 (hF.ev rfl) (hS.cell (i := 1) rfl (by assumption)) | exact rd_load pl3 (hF.ev rfl) (hS.cell (i := 2) rfl (by assumption)) | exact rd_load pl3 (hF.ev rfl) (row_at (i := 0) hS rfl (by first | assumption | rfl)) | exact rd_load pl3 (hF.ev rfl) (row_at0 (i := 0) hS rfl (by first | assumption | rfl)) | exact rd_load pl3 (hF.ev rfl) (row_at (i := 1) hS rfl (by first | assumption | rfl)) | exact rd_load pl3 (hF.ev rfl) (row_at0 (i := 1) hS rfl (by first | assumption | rfl)) | exact rd_load pl3 (hF.ev rfl) (row_at (i := 2) hS rfl (by first | assumption | rfl)) | exact rd_load pl3 (hF.ev rfl) (row_at0 (i := 2) hS rfl (by first | assumption | rfl)))) ?_; clear hF; intro a hF
                                  refine d_pu hD hF rfl rfl rfl rfl rfl (pu_move (hF.ev rfl)) ?_; clear hF; intro a hF
                                  refine d_pu hD hF rfl rfl rfl rfl rfl (pu_move (hF.ev rfl)) ?_; clear hF; intro a hF
                                  refine d_pu hD hF rfl rfl rfl rfl rfl ((by first | exact pu_elem sl22 (hF.ev rfl) (hF.ev rfl) (by first | omega | simp) (by first | omega | (simp; done) | (simp; omega)) | exact pu_elemA sl22 (hF.ev rfl) (hF.ev rfl) (by omega) (by omega))) ?_; clear hF; intro a hF
                                  refine d_rd hD hF rfl rfl rfl rfl rfl hS (fun w hS => (by first | exact rd_load pl3 (hF.ev rfl) (by assumption) | exact rd_load pl3 (hF.ev rfl) (hS.cellL (i := 0) rfl rfl) | exact rd_load pl3 (hF.ev rfl) (hS.cellL (i := 1) rfl rfl) | exact rd_load pl3 (hF.ev rfl) (hS.cellL (i := 2) rfl rfl) | exact rd_load pl3 (hF.ev rfl) (hS.cell (i := 0) rfl (by assumption)) | exact rd_load pl3 (hF.ev rfl) (hS.cell (i := 1) rfl (by assumption)) | exact rd_load pl3 (hF.ev rfl) (hS.cell (i := 2) rfl (by assumption)) | exact rd_load pl3 (hF.ev rfl) (row_at (i := 0) hS rfl (by first | assumption | rfl)) | exact rd_load pl3 (hF.ev rfl) (row_at0 (i := 0) hS rfl (by first | assumption | rfl)) | exact rd_load pl3 (hF.ev rfl) (row_at (i := 1) hS rfl (by first | assumption | rfl)) | exact rd_load pl3 (hF.ev rfl) (row_at0 (i := 1) hS rfl (by first | assumption | rfl)) | exact rd_load pl3 (hF.ev rfl) (row_at (i := 2) hS rfl (by first | assumption | rfl)) | exact rd_load pl3 (hF.ev rfl) (row_at0 (i := 2) hS rfl (by first | assumption | rfl)))) ?_; clear hF; intro a hF
                                  refine d_pu hD hF rfl rfl rfl rfl rfl (pu_lss (hF.ev rfl) (hF.ev rfl)) ?_; clear hF; intro a hF
                                  refine d_pu hD hF rfl rfl rfl rfl rfl ((by first | exact pu_pick_t (hF.ev rfl) (hF.ev rfl) | exact pu_pick_f (hF.ev rfl) (hF.ev rfl) | exact pu_pick (hF.ev rfl) (hF.ev rfl) (hF.ev rfl))) ?_; clear hF; intro a hF
                                  refine d_pu hD hF rfl rfl rfl rfl rfl ((by first | exact pu_pick_t (hF.ev rfl) (hF.ev rfl) | exact pu_pick_f (hF.ev rfl) (hF.ev rfl) | exact pu_pick (hF.ev rfl) (hF.ev rfl) (hF.ev rfl))) ?_; clear hF; intro a hF
                                  refine d_done hD rfl ?_; clear hD
                                  refine hK24 _ _ ?_; clear hK24
                                  refine wp_cond_split (hF.ev rfl) (fun hc7 => ?_) (fun hc7 => ?_)
                                  · -- cond 7 true
                                    try simp only [decide_eq_true_eq, decide_eq_false_iff_not, Bool.not_eq_true', Bool.not_eq_false', Int.not_lt, Int.not_le, ne_eq, Decidable.not_not, Bool.or_eq_true, Bool.or_eq_false_iff, Bool.and_eq_true, Bool.and_eq_false_imp] at hc7
                                    have := e2 (by omega)
                                    omega
                                  · -- cond 7 false
                                    try simp only [decide_eq_true_eq, decide_eq_false_iff_not, Bool.not_eq_true', Bool.not_eq_false', Int.not_lt, Int.not_le, ne_eq, Decidable.not_not, Bool.or_eq_true, Bool.or_eq_false_iff, Bool.and_eq_true, Bool.and_eq_false_imp] at hc7
                                    refine wp_skip ?_
                                    refine blk_normal ?_
                                    refine hK23 _ _ ?_; clear hK23
                                    -- region 25
                                    refine wp_region_lit ?_
                                    refine s_pu hF rfl rfl rfl (pu_move (hF.ev rfl)) ?_; clear hF; intro a hF
                                    refine s_pu hF rfl rfl rfl ((by first | exact pu_add64 (hF.ev rfl) (hF.ev rfl) (by omega) | exact pu_add (hF.ev rfl) (hF.ev rfl))) ?_; clear hF; intro a hF
                                    refine s_pu hF rfl rfl rfl (pu_assign (hF.ev rfl)) ?_; clear hF; intro a hF
                                    refine s_done ?_
                                    exact ⟨_, by omega, k + 1, rfl, by omega, hF.sub ⟨rfl, rfl, rfl, rfl, rfl, rfl, rfl, trivial⟩, hS⟩
                                · clear hF; intro hg193 hF   -- slot 193 false
                                  try simp only [decide_eq_true_eq, decide_eq_false_iff_not, Bool.not_eq_true', Bool.not_eq_false', Int.not_lt, Int.not_le, ne_eq, Decidable.not_not, Bool.or_eq_true, Bool.or_eq_false_iff, Bool.and_eq_true, Bool.and_eq_false_imp] at hg193
                                  refine d_no hD hF rfl rfl rfl rfl rfl ?_; clear hF; intro a hF
                                  refine d_no hD hF rfl rfl rfl rfl rfl ?_; clear hF; intro a hF
                                  refine d_no hD hF rfl rfl rfl rfl rfl ?_; clear hF; intro a hF
                                  refine d_nord hD hF rfl rfl rfl rfl rfl hS ?_; clear hF; intro a hF
                                  refine d_no hD hF rfl rfl rfl rfl rfl ?_; clear hF; intro a hF
                                  refine d_no hD hF rfl rfl rfl rfl rfl ?_; clear hF; intro a hF
                                  refine d_no hD hF rfl rfl rfl rfl rfl ?_; clear hF; intro a hF
                                  refine d_nord hD hF rfl rfl rfl rfl rfl hS ?_; clear hF; intro a hF
                                  refine d_no hD hF rfl rfl rfl rfl rfl ?_; clear hF; intro a hF
                                  refine d_pu hD hF rfl rfl rfl rfl rfl ((by first | exact pu_pick_t (hF.ev rfl) (hF.ev rfl) | exact pu_pick_f (hF.ev rfl) (hF.ev rfl) | exact pu_pick (hF.ev rfl) (hF.ev rfl) (hF.ev rfl))) ?_; clear hF; intro a hF
                                  refine d_pu hD hF rfl rfl rfl rfl rfl ((by first | exact pu_pick_t (hF.ev rfl) (hF.ev rfl) | exact pu_pick_f (hF.ev rfl) (hF.ev rfl) | exact pu_pick (hF.ev rfl) (hF.ev rfl) (hF.ev rfl))) ?_; clear hF; intro a hF
                                  refine d_done hD rfl ?_; clear hD
                                  refine hK24 _ _ ?_; clear hK24
                                  refine wp_cond_false (hF.ev rfl) ?_
                                  refine wp_skip ?_
                                  refine blk_normal ?_
                                  refine hK23 _ _ ?_; clear hK23
                                  -- region 25
                                  refine wp_region_lit ?_
                                  refine s_pu hF rfl rfl rfl (pu_move (hF.ev rfl)) ?_; clear hF; intro a hF
                                  refine s_pu hF rfl rfl rfl ((by first | exact pu_add64 (hF.ev rfl) (hF.ev rfl) (by omega) | exact pu_add (hF.ev rfl) (hF.ev rfl))) ?_; clear hF; intro a hF
                                  refine s_pu hF rfl rfl rfl (pu_assign (hF.ev rfl)) ?_; clear hF; intro a hF
                                  refine s_done ?_
                                  exact ⟨_, by omega, k + 1, rfl, by omega, hF.sub ⟨rfl, rfl, rfl, rfl, rfl, rfl, rfl, trivial⟩, hS⟩
                            · clear hF; intro hg172 hF   -- slot 172 false
                              try simp only [decide_eq_true_eq, decide_eq_false_iff_not, Bool.not_eq_true', Bool.not_eq_false', Int.not_lt, Int.not_le, ne_eq, Decidable.not_not, Bool.or_eq_true, Bool.or_eq_false_iff, Bool.and_eq_true, Bool.and_eq_false_imp] at hg172
                              refine d_no hD hF rfl rfl rfl rfl rfl ?_; clear hF; intro a hF
                              refine d_no hD hF rfl rfl rfl rfl rfl ?_; clear hF; intro a hF
                              refine d_no hD hF rfl rfl rfl rfl rfl ?_; clear hF; intro a hF
                              refine d_nord hD hF rfl rfl rfl rfl rfl hS ?_; clear hF; intro a hF
                              refine d_no hD hF rfl rfl rfl rfl rfl ?_; clear hF; intro a hF
                              refine d_no hD hF rfl rfl rfl rfl rfl ?_; clear hF; intro a hF
                              refine d_no hD hF rfl rfl rfl rfl rfl ?_; clear hF; intro a hF
                              refine d_nord hD hF rfl rfl rfl rfl rfl hS ?_; clear hF; intro a hF
                              refine d_no hD hF rfl rfl rfl rfl rfl ?_; clear hF; intro a hF
                              refine d_pu hD hF rfl rfl rfl rfl rfl ((by first | exact pu_pick_t (hF.ev rfl) (hF.ev rfl) | exact pu_pick_f (hF.ev rfl) (hF.ev rfl) | exact pu_pick (hF.ev rfl) (hF.ev rfl) (hF.ev rfl))) ?_; clear hF; intro a hF
                              refine d_pu hD hF rfl rfl rfl rfl rfl (pu_move (hF.ev rfl)) ?_; clear hF; intro a hF
                              refine d_pu hD hF rfl rfl rfl rfl rfl (pu_move (hF.ev rfl)) ?_; clear hF; intro a hF
                              refine d_pu hD hF rfl rfl rfl rfl rfl (pu_move (hF.ev rfl)) ?_; clear hF; intro a hF
                              refine d_pu hD hF rfl rfl rfl rfl rfl ((by first | exact pu_elem sl22 (hF.ev rfl) (hF.ev rfl) (by first | omega | simp) (by first | omega | (simp; done) | (simp; omega)) | exact pu_elemA sl22 (hF.ev rfl) (hF.ev rfl) (by omega) (by omega))) ?_; clear hF; intro a hF
                              refine d_rd hD hF rfl rfl rfl rfl rfl hS (fun w hS => (by first | exact rd_load pl3 (hF.ev rfl) (by assumption) | exact rd_load pl3 (hF.ev rfl) (hS.cellL (i := 0) rfl rfl) | exact rd_load pl3 (hF.ev rfl) (hS.cellL (i := 1) rfl rfl) | exact rd_load pl3 (hF.ev rfl) (hS.cellL (i := 2) rfl rfl) | exact rd_load pl3 (hF.ev rfl) (hS.cell (i := 0) rfl (by assumption)) | exact rd_load pl3 (hF.ev rfl) (hS.cell (i := 1) rfl (by assumption)) | exact rd_load pl3 (hF.ev rfl) (hS.cell (i := 2) rfl (by assumption)) | exact rd_load pl3 (hF.ev rfl) (row_at (i := 0) hS rfl (by first | assumption | rfl)) | exact rd_load pl3 (hF.ev rfl) (row_at0 (i := 0) hS rfl (by first | assumption | rfl)) | exact rd_load pl3 (hF.ev rfl) (row_at (i := 1) hS rfl (by first | assumption | rfl)) | exact rd_load pl3 (hF.ev rfl) (row_at0 (i := 1) hS rfl (by first | assumption | rfl)) | exact rd_load pl3 (hF.ev rfl) (row_at (i := 2) hS rfl (by first | assumption | rfl)) | exact rd_load pl3 (hF.ev rfl) (row_at0 (i := 2) hS rfl (by first | assumption | rfl)))) ?_; clear hF; intro a hF
                              refine d_pu hD hF rfl rfl rfl rfl rfl (pu_move (hF.ev rfl)) ?_; clear hF; intro a hF
                              refine d_pu hD hF rfl rfl rfl rfl rfl (pu_move (hF.ev rfl)) ?_; clear hF; intro a hF
                              refine d_pu hD hF rfl rfl rfl rfl rfl ((by first | exact pu_elem sl22 (hF.ev rfl) (hF.ev rfl) (by first | omega | simp) (by first | omega | (simp; done) | (simp; omega)) | exact pu_elemA sl22 (hF.ev rfl) (hF.ev rfl) (by omega) (by omega))) ?_; clear hF; intro a hF
                              refine d_rd hD hF rfl rfl rfl rfl rfl hS (fun w hS => (by first | exact rd_load pl3 (hF.ev rfl) (by assumption) | exact rd_load pl3 (hF.ev rfl) (hS.cellL (i := 0) rfl rfl) | exact rd_load pl3 (hF.ev rfl) (hS.cellL (i := 1) rfl rfl) | exact rd_load pl3 (hF.ev rfl) (hS.cellL (i := 2) rfl rfl) | exact rd_load pl3 (hF.ev rfl) (hS.cell (i := 0) rfl (by assumption)) | exact rd_load pl3 (hF.ev rfl) (hS.cell (i := 1) rfl (by assumption)) | exact rd_load pl3 (hF.ev rfl) (hS.cell (i := 2) rfl (by assumption)) | exact rd_load pl3 (hF.ev rfl) (row_at (i := 0) hS rfl (by first | assumption | rfl)) | exact rd_load pl3 (hF.ev rfl) (row_at0 (i := 0) hS rfl (by first | assumption | rfl)) | exact rd_load pl3 (hF.ev rfl) (row_at (i := 1) hS rfl (by first | assumption | rfl)) | exact rd_load pl3 (hF.ev rfl) (row_at0 (i := 1) hS rfl (by first | assumption | rfl)) | exact rd_load pl3 (hF.ev rfl) (row_at (i := 2) hS rfl (by first | assumption | rfl)) | exact rd_load pl3 (hF.ev rfl) (row_at0 (i := 2) hS rfl (by first | assumption | rfl)))) ?_; clear hF; intro a hF
                              refine d_pu hD hF rfl rfl rfl rfl rfl (pu_gtr (hF.ev rfl) (hF.ev rfl)) ?_; clear hF; intro a hF
                              refine d_pu hD hF rfl rfl rfl rfl rfl (pu_move (hF.ev rfl)) ?_; clear hF; intro a hF
                              refine fr_split hF (t := 193) rfl ?_ ?_
                              · clear hF; intro hg193 hF   -- slot 193 true
                                try simp only [decide_eq_true_eq, decide_eq_false_iff_not, Bool.not_eq_true', Bool.not_eq_false', Int.not_lt, Int.not_le, ne_eq, Decidable.not_not, Bool.or_eq_true, Bool.or_eq_false_iff, Bool.and_eq_true, Bool.and_eq_false_imp] at hg193
                                refine d_pu hD hF rfl rfl rfl rfl rfl (pu_move (hF.ev rfl)) ?_; clear hF; intro a hF
                                refine d_pu hD hF rfl rfl rfl rfl rfl (pu_move (hF.ev rfl)) ?_; clear hF; intro a hF
                                refine d_pu hD hF rfl rfl rfl rfl rfl ((by first | exact pu_elem sl22 (hF.ev rfl) (hF.ev rfl) (by first | omega | simp) (by first | omega | (simp; done) | (simp; omega)) | exact pu_elemA sl22 (hF.ev rfl) (hF.ev rfl) (by omega) (by omega))) ?_; clear hF; intro a hF
                                refine d_rd hD hF rfl rfl rfl rfl rfl hS (fun w hS => (by first | exact rd_load pl3 (hF.ev rfl) (by assumption) | exact rd_load pl3 (hF.ev rfl) (hS.cellL (i := 0) rfl rfl) | exact rd_load pl3 (hF.ev rfl) (hS.cellL (i := 1) rfl rfl) | exact rd_load pl3 (hF.ev rfl) (hS.cellL (i := 2) rfl rfl) | exact rd_load pl3 (hF.ev rfl) (hS.cell (i := 0) rfl (by assumption)) | exact rd_load pl3 (hF.ev rfl) (hS.cell (i := 1) rfl (by assumption)) | exact rd_load pl3 (hF.ev rfl) (hS.cell (i := 2) rfl (by assumption)) | exact rd_load pl3 (hF.ev rfl) (row_at (i := 0) hS rfl (by first | assumption | rfl)) | exact rd_load pl3 (hF.ev rfl) (row_at0 (i := 0) hS rfl (by first | assumption | rfl)) | exact rd_load pl3 (hF.ev rfl) (row_at (i := 1) hS rfl (by first | assumption | rfl)) | exact rd_load pl3 (hF.ev rfl) (row_at0 (i := 1) hS rfl (by first | assumption | rfl)) | exact rd_load pl3 (hF.ev rfl) (row_at (i := 2) hS rfl (by first | assumption | rfl)) | exact rd_load pl3 (hF.ev rfl) (row_at0 (i := 2) hS rfl (by first | assumption | rfl)))) ?_; clear hF; intro a hF
                                refine d_pu hD hF rfl rfl rfl rfl rfl (pu_move (hF.ev rfl)) ?_; clear hF; intro a hF
                                refine d_pu hD hF rfl rfl rfl rfl rfl (pu_move (hF.ev rfl)) ?_; clear hF; intro a hF
                                refine d_pu hD hF rfl rfl rfl rfl rfl ((by first | exact pu_elem sl22 (hF.ev rfl) (hF.ev rfl) (by first | omega | simp) (by first | omega | (simp; done) | (simp; omega)) | exact pu_elemA sl22 (hF.ev rfl) (hF.ev rfl) (by omega) (by omega))) ?_; clear hF; intro a hF
                                refine d_rd hD hF rfl rfl rfl rfl rfl hS (fun w hS => (by first | exact rd_load pl3 (hF.ev rfl) (by assumption) | exact rd_load pl3 (hF.ev rfl) (hS.cellL (i := 0) rfl rfl) | exact rd_load pl3 (hF.ev rfl) (hS.cellL (i := 1) rfl rfl) | exact rd_load pl3 (hF.ev rfl) (hS.cellL (i := 2) rfl rfl) | exact rd_load pl3 (hF.ev rfl) (hS.cell (i := 0) rfl (by assumption)) | exact rd_load pl3 (hF.ev rfl) (hS.cell (i := 1) rfl (by assumption)) | exact rd_load pl3 (hF.ev rfl) (hS.cell (i := 2) rfl (by assumption)) | exact rd_load pl3 (hF.ev rfl) (row_at (i := 0) hS rfl (by first | assumption | rfl)) | exact rd_load pl3 (hF.ev rfl) (row_at0 (i := 0) hS rfl (by first | assumption | rfl)) | exact rd_load pl3 (hF.ev rfl) (row_at (i := 1) hS rfl (by first | assumption | rfl)) | exact rd_load pl3 (hF.ev rfl) (row_at0 (i := 1) hS rfl (by first | assumption | rfl)) | exact rd_load pl3 (hF.ev rfl) (row_at (i := 2) hS rfl (by first | assumption | rfl)) | exact rd_load pl3 (hF.ev rfl) (row_at0 (i := 2) hS rfl (by first | assumption | rfl)))) ?_; clear hF; intro a hF
                                refine d_pu hD hF rfl rfl rfl rfl rfl (pu_lss (hF.ev rfl) (hF.ev rfl)) ?_; clear hF; intro a hF
                                refine d_pu hD hF rfl rfl rfl rfl rfl ((by first | exact pu_pick_t (hF.ev rfl) (hF.ev rfl) | exact pu_pick_f (hF.ev rfl) (hF.ev rfl) | exact pu_pick (hF.ev rfl) (hF.ev rfl) (hF.ev rfl))) ?_; clear hF; intro a hF
                                refine d_pu hD hF rfl rfl rfl rfl rfl ((by first | exact pu_pick_t (hF.ev rfl) (hF.ev rfl) | exact pu_pick_f (hF.ev rfl) (hF.ev rfl) | exact pu_pick (hF.ev rfl) (hF.ev rfl) (hF.ev rfl))) ?_; clear hF; intro a hF
                                refine d_done hD rfl ?_; clear hD
                                refine hK24 _ _ ?_; clear hK24
                                refine wp_cond_split (hF.ev rfl) (fun hc7 => ?_) (fun hc7 => ?_)
                                · -- cond 7 true
                                  try simp only [decide_eq_true_eq, decide_eq_false_iff_not, Bool.not_eq_true', Bool.not_eq_false', Int.not_lt, Int.not_le, ne_eq, Decidable.not_not, Bool.or_eq_true, Bool.or_eq_false_iff, Bool.and_eq_true, Bool.and_eq_false_imp] at hc7
                                  have := e2 (by omega)
                                  omega
                                · -- cond 7 false
                                  try simp only [decide_eq_true_eq, decide_eq_false_iff_not, Bool.not_eq_true', Bool.not_eq_false', Int.not_lt, Int.not_le, ne_eq, Decidable.not_not, Bool.or_eq_true, Bool.or_eq_false_iff, Bool.and_eq_true, Bool.and_eq_false_imp] at hc7
                                  refine wp_skip ?_
                                  refine blk_normal ?_
                                  refine hK23 _ _ ?_; clear hK23
                                  -- region 25
                                  refine wp_region_lit ?_
                                  refine s_pu hF rfl rfl rfl (pu_move (hF.ev rfl)) ?_; clear hF; intro a hF
                                  refine s_pu hF rfl rfl rfl ((by first | exact pu_add64 (hF.ev rfl) (hF.ev rfl) (by omega) | exact pu_add (hF.ev rfl) (hF.ev rfl))) ?_; clear hF; intro a hF
                                  refine s_pu hF rfl rfl rfl (pu_assign (hF.ev rfl)) ?_; clear hF; intro a hF
                                  refine s_done ?_
                                  exact ⟨_, by omega, k + 1, rfl, by omega, hF.sub ⟨rfl, rfl, rfl, rfl, rfl, rfl, rfl, trivial⟩, hS⟩
                              · clear hF; intro hg193 hF   -- slot 193 false
                                try simp only [decide_eq_true_eq, decide_eq_false_iff_not, Bool.not_eq_true', Bool.not_eq_false', Int.not_lt, Int.not_le, ne_eq, Decidable.not_not, Bool.or_eq_true, Bool.or_eq_false_iff, Bool.and_eq_true, Bool.and_eq_false_imp] at hg193
                                refine d_no hD hF rfl rfl rfl rfl rfl ?_; clear hF; intro a hF
                                refine d_no hD hF rfl rfl rfl rfl rfl ?_; clear hF; intro a hF
                                refine d_no hD hF rfl rfl rfl rfl rfl ?_; clear hF; intro a hF
                                refine d_nord hD hF rfl rfl rfl rfl rfl hS ?_; clear hF; intro a hF
                                refine d_no hD hF rfl rfl rfl rfl rfl ?_; clear hF; intro a hF
                                refine d_no hD hF rfl rfl rfl rfl rfl ?_; clear hF; intro a hF
                                refine d_no hD hF rfl rfl rfl rfl rfl ?_; clear hF; intro a hF
                                refine d_nord hD hF rfl rfl rfl rfl rfl hS ?_; clear hF; intro a hF
                                refine d_no hD hF rfl rfl rfl rfl rfl ?_; clear hF; intro a hF
                                refine d_pu hD hF rfl rfl rfl rfl rfl ((by first | exact pu_pick_t (hF.ev rfl) (hF.ev rfl) | exact pu_pick_f (hF.ev rfl) (hF.ev rfl) | exact pu_pick (hF.ev rfl) (hF.ev rfl) (hF.ev rfl))) ?_; clear hF; intro a hF
                                refine d_pu hD hF rfl rfl rfl rfl rfl ((by first | exact pu_pick_t (hF.ev rfl) (hF.ev rfl) | exact pu_pick_f (hF.ev rfl) (hF.ev rfl) | exact pu_pick (hF.ev rfl) (hF.ev rfl) (hF.ev rfl))) ?_; clear hF; intro a hF
                                refine d_done hD rfl ?_; clear hD
                                refine hK24 _ _ ?_; clear hK24
                                refine wp_cond_false (hF.ev rfl) ?_
                                refine wp_skip ?_
                                refine blk_normal ?_
                                refine hK23 _ _ ?_; clear hK23
                                -- region 25
                                refine wp_region_lit ?_
                                refine s_pu hF rfl rfl rfl (pu_move (hF.ev rfl)) ?_; clear hF; intro a hF
                                refine s_pu hF rfl rfl rfl ((by first | exact pu_add64 (hF.ev rfl) (hF.ev rfl) (by omega) | exact pu_add (hF.ev rfl) (hF.ev rfl))) ?_; clear hF; intro a hF
                                refine s_pu hF rfl rfl rfl (pu_assign (hF.ev rfl)) ?_; clear hF; intro a hF
                                refine s_done ?_
                                exact ⟨_, by omega, k + 1, rfl, by omega, hF.sub ⟨rfl, rfl, rfl, rfl, rfl, rfl, rfl, trivial⟩, hS⟩
                          · -- cond 6 false
                            try simp only [decide_eq_true_eq, decide_eq_false_iff_not, Bool.not_eq_true', Bool.not_eq_false', Int.not_lt, Int.not_le, ne_eq, Decidable.not_not, Bool.or_eq_true, Bool.or_eq_false_iff, Bool.and_eq_true, Bool.and_eq_false_imp] at hc6
                            refine wp_exit ?_
                            refine then_exit ?_
                            refine then_exit ?_
                            refine blk_exit ?_
                            refine blk_normal ?_
                            refine hK14 _ _ ?_; clear hK14
                            -- region 17
                            refine wp_region_lit ?_
                            refine s_pu hF rfl rfl rfl (pu_move (hF.ev rfl)) ?_; clear hF; intro a hF
                            refine s_pu hF rfl rfl rfl ((by first | exact pu_add64 (hF.ev rfl) (hF.ev rfl) (by omega) | exact pu_add (hF.ev rfl) (hF.ev rfl))) ?_; clear hF; intro a hF
                            refine s_pu hF rfl rfl rfl (pu_assign (hF.ev rfl)) ?_; clear hF; intro a hF
                            refine s_done ?_
                            exact ⟨_, by omega, i + 1, rfl, by omega, hF.sub ⟨rfl, rfl, rfl, rfl, rfl, rfl, trivial⟩, hS⟩
                    · clear hF; intro hg120 hF   -- slot 120 false
                      try simp only [decide_eq_true_eq, decide_eq_false_iff_not, Bool.not_eq_true', Bool.not_eq_false', Int.not_lt, Int.not_le, ne_eq, Decidable.not_not, Bool.or_eq_true, Bool.or_eq_false_iff, Bool.and_eq_true, Bool.and_eq_false_imp] at hg120
                      refine d_no hD hF rfl rfl rfl rfl rfl ?_; clear hF; intro a hF
                      refine d_no hD hF rfl rfl rfl rfl rfl ?_; clear hF; intro a hF
                      refine d_no hD hF rfl rfl rfl rfl rfl ?_; clear hF; intro a hF
                      refine d_nord hD hF rfl rfl rfl rfl rfl hS ?_; clear hF; intro a hF
                      refine d_no hD hF rfl rfl rfl rfl rfl ?_; clear hF; intro a hF
                      refine d_pu hD hF rfl rfl rfl rfl rfl ((by first | exact pu_pick_t (hF.ev rfl) (hF.ev rfl) | exact pu_pick_f (hF.ev rfl) (hF.ev rfl) | exact pu_pick (hF.ev rfl) (hF.ev rfl) (hF.ev rfl))) ?_; clear hF; intro a hF
                      refine d_pu hD hF rfl rfl rfl rfl rfl ((by first | exact pu_pick_t (hF.ev rfl) (hF.ev rfl) | exact pu_pick_f (hF.ev rfl) (hF.ev rfl) | exact pu_pick (hF.ev rfl) (hF.ev rfl) (hF.ev rfl))) ?_; clear hF; intro a hF
                      refine d_done hD rfl ?_; clear hD
                      refine hK16 _ _ ?_; clear hK16
                      refine wp_cond_false (hF.ev rfl) ?_
                      refine wp_skip ?_
                      refine hK15 _ _ ?_; clear hK15
                      refine wp_seq_k fun K17 hK17 => ?_
                      refine wp_seq_k fun K18 hK18 => ?_
                      -- region 20
                      refine d_start (S := (fun w => Sat W w _)) (ds := []) (ord := [(0, .pu), (1, .pu), (2, .pu), (3, .pu), (4, .tk), (5, .pu), (6, .pu), (7, .pu), (8, .pu), (9, .pu), (10, .pu), (11, .pu), (12, .pu), (13, .tk), (14, .pu), (15, .pu), (16, .pu), (17, .pu), (18, .tk), (19, .pu), (20, .pu), (21, .pu), (22, .pu), (23, .pu)]) mixed ⟨chk_fast (by kernel_rfl), fun _ d _ _ _ h => by cases d <;> exact h⟩ hS.drew fun hD => ?_
                      replace hS := hS.drew; generalize w.drew = w at hS ⊢
                      refine d_pu hD hF rfl rfl rfl rfl rfl (pu_move (hF.ev rfl)) ?_; clear hF; intro a hF
                      refine d_pu hD hF rfl rfl rfl rfl rfl (pu_move (hF.ev rfl)) ?_; clear hF; intro a hF
                      refine d_pu hD hF rfl rfl rfl rfl rfl (pu_move (hF.ev rfl)) ?_; clear hF; intro a hF
                      refine d_pu hD hF rfl rfl rfl rfl rfl ((by first | exact pu_elem sl22 (hF.ev rfl) (hF.ev rfl) (by first | omega | simp) (by first | omega | (simp; done) | (simp; omega)) | exact pu_elemA sl22 (hF.ev rfl) (hF.ev rfl) (by omega) (by omega))) ?_; clear hF; intro a hF
                      refine d_rd hD hF rfl rfl rfl rfl rfl hS (fun w hS => (by first | exact rd_load pl3 (hF.ev rfl) (by assumption) | exact rd_load pl3 (hF.ev rfl) (hS.cellL (i := 0) rfl rfl) | exact rd_load pl3 (hF.ev rfl) (hS.cellL (i := 1) rfl rfl) | exact rd_load pl3 (hF.ev rfl) (hS.cellL (i := 2) rfl rfl) | exact rd_load pl3 (hF.ev rfl) (hS.cell (i := 0) rfl (by assumption)) | exact rd_load pl3 (hF.ev rfl) (hS.cell (i := 1) rfl (by assumption)) | exact rd_load pl3 (hF.ev rfl) (hS.cell (i := 2) rfl (by assumption)) | exact rd_load pl3 (hF.ev rfl) (row_at (i := 0) hS rfl (by first | assumption | rfl)) | exact rd_load pl3 (hF.ev rfl) (row_at0 (i := 0) hS rfl (by first | assumption | rfl)) | exact rd_load pl3 (hF.ev rfl) (row_at (i := 1) hS rfl (by first | assumption | rfl)) | exact rd_load pl3 (hF.ev rfl) (row_at0 (i := 1) hS rfl (by first | assumption | rfl)) | exact rd_load pl3 (hF.ev rfl) (row_at (i := 2) hS rfl (by first | assumption | rfl)) | exact rd_load pl3 (hF.ev rfl) (row_at0 (i := 2) hS rfl (by first | assumption | rfl)))) ?_; clear hF; intro a hF
                      refine d_pu hD hF rfl rfl rfl rfl rfl ((by first | exact pu_mul64 (hF.ev rfl) (hF.ev rfl) (by omega) | exact pu_mul (hF.ev rfl) (hF.ev rfl))) ?_; clear hF; intro a hF
                      refine d_pu hD hF rfl rfl rfl rfl rfl (pu_move (hF.ev rfl)) ?_; clear hF; intro a hF
                      refine d_pu hD hF rfl rfl rfl rfl rfl (pu_rem64 (hF.ev rfl) (hF.ev rfl) (by omega)) ?_; clear hF; intro a hF
                      refine d_pu hD hF rfl rfl rfl rfl rfl (pu_eql (hF.ev rfl) (hF.ev rfl)) ?_; clear hF; intro a hF
                      refine d_pu hD hF rfl rfl rfl rfl rfl (pu_move (hF.ev rfl)) ?_; clear hF; intro a hF
                      refine fr_split hF (t := 137) rfl ?_ ?_
                      · clear hF; intro hg137 hF   -- slot 137 true
                        try simp only [decide_eq_true_eq, decide_eq_false_iff_not, Bool.not_eq_true', Bool.not_eq_false', Int.not_lt, Int.not_le, ne_eq, Decidable.not_not, Bool.or_eq_true, Bool.or_eq_false_iff, Bool.and_eq_true, Bool.and_eq_false_imp] at hg137
                        refine d_pu hD hF rfl rfl rfl rfl rfl (pu_move (hF.ev rfl)) ?_; clear hF; intro a hF
                        refine d_pu hD hF rfl rfl rfl rfl rfl (pu_move (hF.ev rfl)) ?_; clear hF; intro a hF
                        refine d_pu hD hF rfl rfl rfl rfl rfl ((by first | exact pu_elem sl22 (hF.ev rfl) (hF.ev rfl) (by first | omega | simp) (by first | omega | (simp; done) | (simp; omega)) | exact pu_elemA sl22 (hF.ev rfl) (hF.ev rfl) (by omega) (by omega))) ?_; clear hF; intro a hF
                        refine d_rd hD hF rfl rfl rfl rfl rfl hS (fun w hS => (by first | exact rd_load pl3 (hF.ev rfl) (by assumption) | exact rd_load pl3 (hF.ev rfl) (hS.cellL (i := 0) rfl rfl) | exact rd_load pl3 (hF.ev rfl) (hS.cellL (i := 1) rfl rfl) | exact rd_load pl3 (hF.ev rfl) (hS.cellL (i := 2) rfl rfl) | exact rd_load pl3 (hF.ev rfl) (hS.cell (i := 0) rfl (by assumption)) | exact rd_load pl3 (hF.ev rfl) (hS.cell (i := 1) rfl (by assumption)) | exact rd_load pl3 (hF.ev rfl) (hS.cell (i := 2) rfl (by assumption)) | exact rd_load pl3 (hF.ev rfl) (row_at (i := 0) hS rfl (by first | assumption | rfl)) | exact rd_load pl3 (hF.ev rfl) (row_at0 (i := 0) hS rfl (by first | assumption | rfl)) | exact rd_load pl3 (hF.ev rfl) (row_at (i := 1) hS rfl (by first | assumption | rfl)) | exact rd_load pl3 (hF.ev rfl) (row_at0 (i := 1) hS rfl (by first | assumption | rfl)) | exact rd_load pl3 (hF.ev rfl) (row_at (i := 2) hS rfl (by first | assumption | rfl)) | exact rd_load pl3 (hF.ev rfl) (row_at0 (i := 2) hS rfl (by first | assumption | rfl)))) ?_; clear hF; intro a hF
                        refine d_pu hD hF rfl rfl rfl rfl rfl (pu_move (hF.ev rfl)) ?_; clear hF; intro a hF
                        refine d_pu hD hF rfl rfl rfl rfl rfl (pu_move (hF.ev rfl)) ?_; clear hF; intro a hF
                        refine d_pu hD hF rfl rfl rfl rfl rfl (pu_move (hF.ev rfl)) ?_; clear hF; intro a hF
                        refine d_pu hD hF rfl rfl rfl rfl rfl ((by first | exact pu_elem sl22 (hF.ev rfl) (hF.ev rfl) (by first | omega | simp) (by first | omega | (simp; done) | (simp; omega)) | exact pu_elemA sl22 (hF.ev rfl) (hF.ev rfl) (by omega) (by omega))) ?_; clear hF; intro a hF
                        refine d_rd hD hF rfl rfl rfl rfl rfl hS (fun w hS => (by first | exact rd_load pl3 (hF.ev rfl) (by assumption) | exact rd_load pl3 (hF.ev rfl) (hS.cellL (i := 0) rfl rfl) | exact rd_load pl3 (hF.ev rfl) (hS.cellL (i := 1) rfl rfl) | exact rd_load pl3 (hF.ev rfl) (hS.cellL (i := 2) rfl rfl) | exact rd_load pl3 (hF.ev rfl) (hS.cell (i := 0) rfl (by assumption)) | exact rd_load pl3 (hF.ev rfl) (hS.cell (i := 1) rfl (by assumption)) | exact rd_load pl3 (hF.ev rfl) (hS.cell (i := 2) rfl (by assumption)) | exact rd_load pl3 (hF.ev rfl) (row_at (i := 0) hS rfl (by first | assumption | rfl)) | exact rd_load pl3 (hF.ev rfl) (row_at0 (i := 0) hS rfl (by first | assumption | rfl)) | exact rd_load pl3 (hF.ev rfl) (row_at (i := 1) hS rfl (by first | assumption | rfl)) | exact rd_load pl3 (hF.ev rfl) (row_at0 (i := 1) hS rfl (by first | assumption | rfl)) | exact rd_load pl3 (hF.ev rfl) (row_at (i := 2) hS rfl (by first | assumption | rfl)) | exact rd_load pl3 (hF.ev rfl) (row_at0 (i := 2) hS rfl (by first | assumption | rfl)))) ?_; clear hF; intro a hF
                        refine d_pu hD hF rfl rfl rfl rfl rfl ((by first | exact pu_mul64 (hF.ev rfl) (hF.ev rfl) (by omega) | exact pu_mul (hF.ev rfl) (hF.ev rfl))) ?_; clear hF; intro a hF
                        refine d_pu hD hF rfl rfl rfl rfl rfl (pu_move (hF.ev rfl)) ?_; clear hF; intro a hF
                        refine d_pu hD hF rfl rfl rfl rfl rfl (pu_quo64 (hF.ev rfl) (hF.ev rfl) (by omega)) ?_; clear hF; intro a hF
                        refine d_pu hD hF rfl rfl rfl rfl rfl (pu_neq (hF.ev rfl) (hF.ev rfl)) ?_; clear hF; intro a hF
                        refine d_pu hD hF rfl rfl rfl rfl rfl ((by first | exact pu_pick_t (hF.ev rfl) (hF.ev rfl) | exact pu_pick_f (hF.ev rfl) (hF.ev rfl) | exact pu_pick (hF.ev rfl) (hF.ev rfl) (hF.ev rfl))) ?_; clear hF; intro a hF
                        refine d_done hD rfl ?_; clear hD
                        refine hK18 _ _ ?_; clear hK18
                        refine wp_cond_split (hF.ev rfl) (fun hc5 => ?_) (fun hc5 => ?_)
                        · -- cond 5 true
                          try simp only [decide_eq_true_eq, decide_eq_false_iff_not, Bool.not_eq_true', Bool.not_eq_false', Int.not_lt, Int.not_le, ne_eq, Decidable.not_not, Bool.or_eq_true, Bool.or_eq_false_iff, Bool.and_eq_true, Bool.and_eq_false_imp] at hc5
                          exfalso
                          exact hc5 (f5 hg137)
                        · -- cond 5 false
                          try simp only [decide_eq_true_eq, decide_eq_false_iff_not, Bool.not_eq_true', Bool.not_eq_false', Int.not_lt, Int.not_le, ne_eq, Decidable.not_not, Bool.or_eq_true, Bool.or_eq_false_iff, Bool.and_eq_true, Bool.and_eq_false_imp] at hc5
                          refine wp_skip ?_
                          refine hK17 _ _ ?_; clear hK17
                          refine wp_seq_k fun K19 hK19 => ?_
                          -- region 22
                          refine wp_region_lit ?_
                          refine s_pu hF rfl rfl rfl (pu_move (hF.ev rfl)) ?_; clear hF; intro a hF
                          refine s_pu hF rfl rfl rfl (pu_move (hF.ev rfl)) ?_; clear hF; intro a hF
                          refine s_pu hF rfl rfl rfl (pu_move (hF.ev rfl)) ?_; clear hF; intro a hF
                          refine s_pu hF rfl rfl rfl ((by first | exact pu_elem sl22 (hF.ev rfl) (hF.ev rfl) (by first | omega | simp) (by first | omega | (simp; done) | (simp; omega)) | exact pu_elemA sl22 (hF.ev rfl) (hF.ev rfl) (by omega) (by omega))) ?_; clear hF; intro a hF
                          refine s_rd hF rfl rfl rfl (by first | exact rd_load pl3 (hF.ev rfl) (by assumption) | exact rd_load pl3 (hF.ev rfl) (hS.cellL (i := 0) rfl rfl) | exact rd_load pl3 (hF.ev rfl) (hS.cellL (i := 1) rfl rfl) | exact rd_load pl3 (hF.ev rfl) (hS.cellL (i := 2) rfl rfl) | exact rd_load pl3 (hF.ev rfl) (hS.cell (i := 0) rfl (by assumption)) | exact rd_load pl3 (hF.ev rfl) (hS.cell (i := 1) rfl (by assumption)) | exact rd_load pl3 (hF.ev rfl) (hS.cell (i := 2) rfl (by assumption)) | exact rd_load pl3 (hF.ev rfl) (row_at (i := 0) hS rfl (by first | assumption | rfl)) | exact rd_load pl3 (hF.ev rfl) (row_at0 (i := 0) hS rfl (by first | assumption | rfl)) | exact rd_load pl3 (hF.ev rfl) (row_at (i := 1) hS rfl (by first | assumption | rfl)) | exact rd_load pl3 (hF.ev rfl) (row_at0 (i := 1) hS rfl (by first | assumption | rfl)) | exact rd_load pl3 (hF.ev rfl) (row_at (i := 2) hS rfl (by first | assumption | rfl)) | exact rd_load pl3 (hF.ev rfl) (row_at0 (i := 2) hS rfl (by first | assumption | rfl))) ?_; clear hF; intro a hF
                          refine s_pu hF rfl rfl rfl ((by first | exact pu_add64 (hF.ev rfl) (hF.ev rfl) (by omega) | exact pu_add (hF.ev rfl) (hF.ev rfl))) ?_; clear hF; intro a hF
                          refine s_pu hF rfl rfl rfl (pu_assign (hF.ev rfl)) ?_; clear hF; intro a hF
                          refine s_done ?_
                          refine hK19 _ _ ?_; clear hK19
                          refine wp_seq_k fun K20 hK20 => ?_
                          -- region 23
                          refine wp_region_lit ?_
                          refine s_pu hF rfl rfl rfl (pu_assign (hF.ev rfl)) ?_; clear hF; intro a hF
                          refine s_done ?_
                          refine hK20 _ _ ?_; clear hK20
                          refine wp_block ?_
                          refine wp_ind (fun j a w => ∃ (k : Nat), j = i - k ∧ k ≤ i ∧
                            Fr a 208 [(5, .int .i64 pu), (6, .slice (some ⟨ga, 0, none⟩) ls.length c), (7, .int .i64 (total ls)), (9, .slice (some ⟨go, 0, none⟩) outs.length co), (11, .int .i64 (total (outs.take (i + 1)))), (12, .int .i64 i), (13, .int .i64 k)] ∧
                            Sat W w [rowC 3 1 (.slice (some ⟨go, 0, none⟩) outs.length co) outs.length (ints outs), rowC 3 1 (.slice (some ⟨ga, 0, none⟩) ls.length c) ls.length (ints ls), whole W]) i
                            ⟨0, rfl, by omega, by rw [htt]; exact hF.sub ⟨rfl, rfl, rfl, rfl, rfl, rfl, rfl, trivial⟩, hS⟩ ?_
                          clear hS hF
                          rintro j a w ⟨k, rfl, hk, hF, hS⟩
                          refine wp_seq_k fun K21 hK21 => ?_
                          refine wp_seq_k fun K22 hK22 => ?_
                          -- region 24
                          refine wp_region_lit ?_
                          refine s_pu hF rfl rfl rfl (pu_move (hF.ev rfl)) ?_; clear hF; intro a hF
                          refine s_pu hF rfl rfl rfl (pu_move (hF.ev rfl)) ?_; clear hF; intro a hF
                          refine s_pu hF rfl rfl rfl (pu_lss (hF.ev rfl) (hF.ev rfl)) ?_; clear hF; intro a hF
                          refine s_done ?_
                          refine hK22 _ _ ?_; clear hK22
                          refine wp_cond_split (hF.ev rfl) (fun hc6 => ?_) (fun hc6 => ?_)
                          · -- cond 6 true
                            try simp only [decide_eq_true_eq, decide_eq_false_iff_not, Bool.not_eq_true', Bool.not_eq_false', Int.not_lt, Int.not_le, ne_eq, Decidable.not_not, Bool.or_eq_true, Bool.or_eq_false_iff, Bool.and_eq_true, Bool.and_eq_false_imp] at hc6
                            have hki : k < i := by omega
                            have hkl : k < ls.length := by omega
                            have hko : k < outs.length := by omega
                            have hok := ints_at hko
                            have hlk := ints_at hkl
                            obtain ⟨e1, e2⟩ := fair_two hf (by omega) hlb ht1 hkl hil
                            refine wp_skip ?_
                            refine hK21 _ _ ?_; clear hK21
                            refine wp_seq_k fun K23 hK23 => ?_
                            refine wp_block ?_
                            refine wp_seq_k fun K24 hK24 => ?_
                            -- region 26
                            refine d_start (S := (fun w => Sat W w _)) (ds := []) (ord := [(0, .pu), (1, .pu), (2, .pu), (3, .tk), (4, .pu), (5, .pu), (6, .pu), (7, .tk), (8, .pu), (9, .pu), (10, .pu), (11, .pu), (12, .pu), (13, .tk), (14, .pu), (15, .pu), (16, .pu), (17, .tk), (18, .pu), (19, .pu), (20, .pu), (21, .pu), (22, .pu), (23, .pu), (24, .tk), (25, .pu), (26, .pu), (27, .pu), (28, .tk), (29, .pu), (30, .pu), (31, .pu), (32, .pu), (33, .pu), (34, .tk), (35, .pu), (36, .pu), (37, .pu), (38, .tk), (39, .pu), (40, .pu), (41, .pu)]) mixed ⟨chk_fast (by kernel_rfl), fun _ d _ _ _ h => by cases d <;> exact h⟩ hS.drew fun hD => ?_
                            replace hS := hS.drew; generalize w.drew = w at hS ⊢
                            refine d_pu hD hF rfl rfl rfl rfl rfl (pu_move (hF.ev rfl)) ?_; clear hF; intro a hF
                            refine d_pu hD hF rfl rfl rfl rfl rfl (pu_move (hF.ev rfl)) ?_; clear hF; intro a hF
                            refine d_pu hD hF rfl rfl rfl rfl rfl ((by first | exact pu_elem sl22 (hF.ev rfl) (hF.ev rfl) (by first | omega | simp) (by first | omega | (simp; done) | (simp; omega)) | exact pu_elemA sl22 (hF.ev rfl) (hF.ev rfl) (by omega) (by omega))) ?_; clear hF; intro a hF
                            refine d_rd hD hF rfl rfl rfl rfl rfl hS (fun w hS => (by first | exact rd_load pl3 (hF.ev rfl) (by assumption) | exact rd_load pl3 (hF.ev rfl) (hS.cellL (i := 0) rfl rfl) | exact rd_load pl3 (hF.ev rfl) (hS.cellL (i := 1) rfl rfl) | exact rd_load pl3 (hF.ev rfl) (hS.cellL (i := 2) rfl rfl) | exact rd_load pl3 (hF.ev rfl) (hS.cell (i := 0) rfl (by assumption)) | exact rd_load pl3 (hF.ev rfl) (hS.cell (i := 1) rfl (by assumption)) | exact rd_load pl3 (hF.ev rfl) (hS.cell (i := 2) rfl (by assumption)) | exact rd_load pl3 (hF.ev rfl) (row_at (i := 0) hS rfl (by first | assumption | rfl)) | exact rd_load pl3 (hF.ev rfl) (row_at0 (i := 0) hS rfl (by first | assumption | rfl)) | exact rd_load pl3 (hF.ev rfl) (row_at (i := 1) hS rfl (by first | assumption | rfl)) | exact rd_load pl3 (hF.ev rfl) (row_at0 (i := 1) hS rfl (by first | assumption | rfl)) | exact rd_load pl3 (hF.ev rfl) (row_at (i := 2) hS rfl (by first | assumption | rfl)) | exact rd_load pl3 (hF.ev rfl) (row_at0 (i := 2) hS rfl (by first | assumption | rfl)))) ?_; clear hF; intro a hF
                            refine d_pu hD hF rfl rfl rfl rfl rfl (pu_move (hF.ev rfl)) ?_; clear hF; intro a hF
                            refine d_pu hD hF rfl rfl rfl rfl rfl (pu_move (hF.ev rfl)) ?_; clear hF; intro a hF
                            refine d_pu hD hF rfl rfl rfl rfl rfl ((by first | exact pu_elem sl22 (hF.ev rfl) (hF.ev rfl) (by first | omega | simp) (by first | omega | (simp; done) | (simp; omega)) | exact pu_elemA sl22 (hF.ev rfl) (hF.ev rfl) (by omega) (by omega))) ?_; clear hF; intro a hF
                            refine d_rd hD hF rfl rfl rfl rfl rfl hS (fun w hS => (by first | exact rd_load pl3 (hF.ev rfl) (by assumption) | exact rd_load pl3 (hF.ev rfl) (hS.cellL (i := 0) rfl rfl) | exact rd_load pl3 (hF.ev rfl) (hS.cellL (i := 1) rfl rfl) | exact rd_load pl3 (hF.ev rfl) (hS.cellL (i := 2) rfl rfl) | exact rd_load pl3 (hF.ev rfl) (hS.cell (i := 0) rfl (by assumption)) | exact rd_load pl3 (hF.ev rfl) (hS.cell (i := 1) rfl (by assumption)) | exact rd_load pl3 (hF.ev rfl) (hS.cell (i := 2) rfl (by assumption)) | exact rd_load pl3 (hF.ev rfl) (row_at (i := 0) hS rfl (by first | assumption | rfl)) | exact rd_load pl3 (hF.ev rfl) (row_at0 (i := 0) hS rfl (by first | assumption | rfl)) | exact rd_load pl3 (hF.ev rfl) (row_at (i := 1) hS rfl (by first | assumption | rfl)) | exact rd_load pl3 (hF.ev rfl) (row_at0 (i := 1) hS rfl (by first | assumption | rfl)) | exact rd_load pl3 (hF.ev rfl) (row_at (i := 2) hS rfl (by first | assumption | rfl)) | exact rd_load pl3 (hF.ev rfl) (row_at0 (i := 2) hS rfl (by first | assumption | rfl)))) ?_; clear hF; intro a hF
                            refine d_pu hD hF rfl rfl rfl rfl rfl (pu_geq (hF.ev rfl) (hF.ev rfl)) ?_; clear hF; intro a hF
                            refine d_pu hD hF rfl rfl rfl rfl rfl (pu_move (hF.ev rfl)) ?_; clear hF; intro a hF
                            refine fr_split hF (t := 172) rfl ?_ ?_
                            · clear hF; intro hg172 hF   -- slot 172 true
                              try simp only [decide_eq_true_eq, decide_eq_false_iff_not, Bool.not_eq_true', Bool.not_eq_false', Int.not_lt, Int.not_le, ne_eq, Decidable.not_not, Bool.or_eq_true, Bool.or_eq_false_iff, Bool.and_eq_true, Bool.and_eq_false_imp] at hg172
                              refine d_pu hD hF rfl rfl rfl rfl rfl (pu_move (hF.ev rfl)) ?_; clear hF; intro a hF
                              refine d_pu hD hF rfl rfl rfl rfl rfl (pu_move (hF.ev rfl)) ?_; clear hF; intro a hF
                              refine d_pu hD hF rfl rfl rfl rfl rfl ((by first | exact pu_elem sl22 (hF.ev rfl) (hF.ev rfl) (by first | omega | simp) (by first | omega | (simp; done) | (simp; omega)) | exact pu_elemA sl22 (hF.ev rfl) (hF.ev rfl) (by omega) (by omega))) ?_; clear hF; intro a hF
                              refine d_rd hD hF rfl rfl rfl rfl rfl hS (fun w hS => (by first | exact rd_load pl3 (hF.ev rfl) (by assumption) | exact rd_load pl3 (hF.ev rfl) (hS.cellL (i := 0) rfl rfl) | exact rd_load pl3 (hF.ev rfl) (hS.cellL (i := 1) rfl rfl) | exact rd_load pl3 (hF.ev rfl) (hS.cellL (i := 2) rfl rfl) | exact rd_load pl3 (hF.ev rfl) (hS.cell (i := 0) rfl (by assumption)) | exact rd_load pl3 (hF.ev rfl) (hS.cell (i := 1) rfl (by assumption)) | exact rd_load pl3 (hF.ev rfl) (hS.cell (i := 2) rfl (by assumption)) | exact rd_load pl3 (hF.ev rfl) (row_at (i := 0) hS rfl (by first | assumption | rfl)) | exact rd_load pl3 (hF.ev rfl) (row_at0 (i := 0) hS rfl (by first | assumption | rfl)) | exact rd_load pl3 (hF.ev rfl) (row_at (i := 1) hS rfl (by first | assumption | rfl)) | exact rd_load pl3 (hF.ev rfl) (row_at0 (i := 1) hS rfl (by first | assumption | rfl)) | exact rd_load pl3 (hF.ev rfl) (row_at (i := 2) hS rfl (by first | assumption | rfl)) | exact rd_load pl3 (hF.ev rfl) (row_at0 (i := 2) hS rfl (by first | assumption | rfl)))) ?_; clear hF; intro a hF
                              refine d_pu hD hF rfl rfl rfl rfl rfl (pu_move (hF.ev rfl)) ?_; clear hF; intro a hF
                              refine d_pu hD hF rfl rfl rfl rfl rfl (pu_move (hF.ev rfl)) ?_; clear hF; intro a hF
                              refine d_pu hD hF rfl rfl rfl rfl rfl ((by first | exact pu_elem sl22 (hF.ev rfl) (hF.ev rfl) (by first | omega | simp) (by first | omega | (simp; done) | (simp; omega)) | exact pu_elemA sl22 (hF.ev rfl) (hF.ev rfl) (by omega) (by omega))) ?_; clear hF; intro a hF
                              refine d_rd hD hF rfl rfl rfl rfl rfl hS (fun w hS => (by first | exact rd_load pl3 (hF.ev rfl) (by assumption) | exact rd_load pl3 (hF.ev rfl) (hS.cellL (i := 0) rfl rfl) | exact rd_load pl3 (hF.ev rfl) (hS.cellL (i := 1) rfl rfl) | exact rd_load pl3 (hF.ev rfl) (hS.cellL (i := 2) rfl rfl) | exact rd_load pl3 (hF.ev rfl) (hS.cell (i := 0) rfl (by assumption)) | exact rd_load pl3 (hF.ev rfl) (hS.cell (i := 1) rfl (by assumption)) | exact rd_load pl3 (hF.ev rfl) (hS.cell (i := 2) rfl (by assumption)) | exact rd_load pl3 (hF.ev rfl) (row_at (i := 0) hS rfl (by first | assumption | rfl)) | exact rd_load pl3 (hF.ev rfl) (row_at0 (i := 0) hS rfl (by first | assumption | rfl)) | exact rd_load pl3 (hF.ev rfl) (row_at (i := 1) hS rfl (by first | assumption | rfl)) | exact rd_load pl3 (hF.ev rfl) (row_at0 (i := 1) hS rfl (by first | assumption | rfl)) | exact rd_load pl3 (hF.ev rfl) (row_at (i := 2) hS rfl (by first | assumption | rfl)) | exact rd_load pl3 (hF.ev rfl) (row_at0 (i := 2) hS rfl (by first | assumption | rfl)))) ?_; clear hF; intro a hF
                              refine d_pu hD hF rfl rfl rfl rfl rfl (pu_lss (hF.ev rfl) (hF.ev rfl)) ?_; clear hF; intro a hF
                              refine d_pu hD hF rfl rfl rfl rfl rfl ((by first | exact pu_pick_t (hF.ev rfl) (hF.ev rfl) | exact pu_pick_f (hF.ev rfl) (hF.ev rfl) | exact pu_pick (hF.ev rfl) (hF.ev rfl) (hF.ev rfl))) ?_; clear hF; intro a hF
                              refine d_pu hD hF rfl rfl rfl rfl rfl (pu_move (hF.ev rfl)) ?_; clear hF; intro a hF
                              refine fr_split hF (t := 183) rfl ?_ ?_
                              · clear hF; intro hg183 hF   -- slot 183 true
                                try simp only [decide_eq_true_eq, decide_eq_false_iff_not, Bool.not_eq_true', Bool.not_eq_false', Int.not_lt, Int.not_le, ne_eq, Decidable.not_not, Bool.or_eq_true, Bool.or_eq_false_iff, Bool.and_eq_true, Bool.and_eq_false_imp] at hg183
                                have := e1 hki (by omega)
                                omega
                              · clear hF; intro hg183 hF   -- slot 183 false
                                try simp only [decide_eq_true_eq, decide_eq_false_iff_not, Bool.not_eq_true', Bool.not_eq_false', Int.not_lt, Int.not_le, ne_eq, Decidable.not_not, Bool.or_eq_true, Bool.or_eq_false_iff, Bool.and_eq_true, Bool.and_eq_false_imp] at hg183
                                refine d_pu hD hF rfl rfl rfl rfl rfl (pu_move (hF.ev rfl)) ?_; clear hF; intro a hF
                                refine d_pu hD hF rfl rfl rfl rfl rfl (pu_move (hF.ev rfl)) ?_; clear hF; intro a hF
                                refine d_pu hD hF rfl rfl rfl rfl rfl ((by first | exact pu_elem sl22 (hF.ev rfl) (hF.ev rfl) (by first | omega | simp) (by first | omega | (simp; done) | (simp; omega)) | exact pu_elemA sl22 (hF.ev rfl) (hF.ev rfl) (by omega) (by omega))) ?_; clear hF; intro a hF
                                refine d_rd hD hF rfl rfl rfl rfl rfl hS (fun w hS => (by first | exact rd_load pl3 (hF.ev rfl) (by assumption) | exact rd_load pl3 (hF.ev rfl) (hS.cellL (i := 0) rfl rfl) | exact rd_load pl3 (hF.ev rfl) (hS.cellL (i := 1) rfl rfl) | exact rd_load pl3 (hF.ev rfl) (hS.cellL (i := 2) rfl rfl) | exact rd_load pl3 (hF.ev rfl) (hS.cell (i := 0) rfl (by assumption)) | exact rd_load pl3 (hF.ev rfl) (hS.cell (i := 1) rfl (by assumption)) | exact rd_load pl3 (hF.ev rfl) (hS.cell (i := 2) rfl (by assumption)) | exact rd_load pl3 (hF.ev rfl) (row_at (i := 0) hS rfl (by first | assumption | rfl)) | exact rd_load pl3 (hF.ev rfl) (row_at0 (i := 0) hS rfl (by first | assumption | rfl)) | exact rd_load pl3 (hF.ev rfl) (row_at (i := 1) hS rfl (by first | assumption | rfl)) | exact rd_load pl3 (hF.ev rfl) (row_at0 (i := 1) hS rfl (by first | assumption | rfl)) | exact rd_load pl3 (hF.ev rfl) (row_at (i := 2) hS rfl (by first | assumption | rfl)) | exact rd_load pl3 (hF.ev rfl) (row_at0 (i := 2) hS rfl (by first | assumption | rfl)))) ?_; clear hF; intro a hF
                                refine d_pu hD hF rfl rfl rfl rfl rfl (pu_move (hF.ev rfl)) ?_; clear hF; intro a hF
                                refine d_pu hD hF rfl rfl rfl rfl rfl (pu_move (hF.ev rfl)) ?_; clear hF; intro a hF
                                refine d_pu hD hF rfl rfl rfl rfl rfl ((by first | exact pu_elem sl22 (hF.ev rfl) (hF.ev rfl) (by first | omega | simp) (by first | omega | (simp; done) | (simp; omega)) | exact pu_elemA sl22 (hF.ev rfl) (hF.ev rfl) (by omega) (by omega))) ?_; clear hF; intro a hF
                                refine d_rd hD hF rfl rfl rfl rfl rfl hS (fun w hS => (by first | exact rd_load pl3 (hF.ev rfl) (by assumption) | exact rd_load pl3 (hF.ev rfl) (hS.cellL (i := 0) rfl rfl) | exact rd_load pl3 (hF.ev rfl) (hS.cellL (i := 1) rfl rfl) | exact rd_load pl3 (hF.ev rfl) (hS.cellL (i := 2) rfl rfl) | exact rd_load pl3 (hF.ev rfl) (hS.cell (i := 0) rfl (by assumption)) | exact rd_load pl3 (hF.ev rfl) (hS.cell (i := 1) rfl (by assumption)) | exact rd_load pl3 (hF.ev rfl) (hS.cell (i := 2) rfl (by assumption)) | exact rd_load pl3 (hF.ev rfl) (row_at (i := 0) hS rfl (by first | assumption | rfl)) | exact rd_load pl3 (hF.ev rfl) (row_at0 (i := 0) hS rfl (by first | assumption | rfl)) | exact rd_load pl3 (hF.ev rfl) (row_at (i := 1) hS rfl (by first | assumption | rfl)) | exact rd_load pl3 (hF.ev rfl) (row_at0 (i := 1) hS rfl (by first | assumption | rfl)) | exact rd_load pl3 (hF.ev rfl) (row_at (i := 2) hS rfl (by first | assumption | rfl)) | exact rd_load pl3 (hF.ev rfl) (row_at0 (i := 2) hS rfl (by first | assumption | rfl)))) ?_; clear hF; intro a hF
                                refine d_pu hD hF rfl rfl rfl rfl rfl (pu_gtr (hF.ev rfl) (hF.ev rfl)) ?_; clear hF; intro a hF
                                refine d_pu hD hF rfl rfl rfl rfl rfl (pu_move (hF.ev rfl)) ?_; clear hF; intro a hF
                                refine fr_split hF (t := 193) rfl ?_ ?_
                                · clear hF; intro hg193 hF   -- slot 193 true
                                  try simp only [decide_eq_true_eq, decide_eq_false_iff_not, Bool.not_eq_true', Bool.not_eq_false', Int.not_lt, Int.not_le, ne_eq, Decidable.not_not, Bool.or_eq_true, Bool.or_eq_false_iff, Bool.and_eq_true, Bool.and_eq_false_imp] at hg193
                                  refine d_pu hD hF rfl rfl rfl rfl rfl (pu_move (hF.ev rfl)) ?_; clear hF; intro a hF
                                  refine d_pu hD hF rfl rfl rfl rfl rfl (pu_move (hF.ev rfl)) ?_; clear hF; intro a hF
                                  refine d_pu hD hF rfl rfl rfl rfl rfl ((by first | exact pu_elem sl22 (hF.ev rfl) (hF.ev rfl) (by first | omega | simp) (by first | omega | (simp; done) | (simp; omega)) | exact pu_elemA sl22 (hF.ev rfl) (hF.ev rfl) (by omega) (by omega))) ?_; clear hF; intro a hF
                                  refine d_rd hD hF rfl rfl rfl rfl rfl hS (fun w hS => (by first | exact rd_load pl3 (hF.ev rfl) (by assumption) | exact rd_load pl3 (hF.ev rfl) (hS.cellL (i := 0) rfl rfl) | exact rd_load pl3 (hF.ev rfl) (hS.cellL (i := 1) rfl rfl) | exact rd_load pl3 (hF.ev rfl) (hS.cellL (i := 2) rfl rfl) | exact rd_load pl3 (hF.ev rfl) (hS.cell (i := 0) rfl (by assumption)) | exact rd_load pl3 (hF.ev rfl) (hS.cell (i := 1) rfl (by assumption)) | exact rd_load pl3 (hF.ev rfl) (hS.cell (i := 2) rfl (by assumption)) | exact rd_load pl3 (hF.ev rfl) (row_at (i := 0) hS rfl (by first | assumption | rfl)) | exact rd_load pl3 (hF.ev rfl) (row_at0 (i := 0) hS rfl (by first | assumption | rfl)) | exact rd_load pl3 (hF.ev rfl) (row_at (i := 1) hS rfl (by first | assumption | rfl)) | exact rd_load pl3 (hF.ev rfl) (row_at0 (i := 1) hS rfl (by first | assumption | rfl)) | exact rd_load pl3 (hF.ev rfl) (row_at (i := 2) hS rfl (by first | assumption | rfl)) | exact rd_load pl3 (hF.ev rfl) (row_at0 (i := 2) hS rfl (by first | assumption | rfl)))) ?_; clear hF; intro a hF
                                  refine d_pu hD hF rfl rfl rfl rfl rfl (pu_move (hF.ev rfl)) ?_; clear hF; intro a hF
                                  refine d_pu hD hF rfl rfl rfl rfl rfl (pu_move (hF.ev rfl)) ?_; clear hF; intro a hF
                                  refine d_pu hD hF rfl rfl rfl rfl rfl ((by first | exact pu_elem sl22 (hF.ev rfl) (hF.ev rfl) (by first | omega | simp) (by first | omega | (simp; done) | (simp; omega)) | exact pu_elemA sl22 (hF.ev rfl) (hF.ev rfl) (by omega) (by omega))) ?_; clear hF; intro a hF
                                  refine d_rd hD hF rfl rfl rfl rfl rfl hS (fun w hS => (by first | exact rd_load pl3 (hF.ev rfl) (by assumption) | exact rd_load pl3 (hF.ev rfl) (hS.cellL (i := 0) rfl rfl) | exact rd_load pl3 (hF.ev rfl) (hS.cellL (i := 1) rfl rfl) | exact rd_load pl3 (hF.ev rfl) (hS.cellL (i := 2) rfl rfl) | exact rd_load pl3 (hF.ev rfl) (hS.cell (i := 0) rfl (by assumption)) | exact rd_load pl3 (hF.ev rfl) (hS.cell (i := 1) rfl (by assumption)) | exact rd_load pl3 (hF.ev rfl) (hS.cell (i := 2) rfl (by assumption)) | exact rd_load pl3 (hF.ev rfl) (row_at (i := 0) hS rfl (by first | assumption | rfl)) | exact rd_load pl3 (hF.ev rfl) (row_at0 (i := 0) hS rfl (by first | assumption | rfl)) | exact rd_load pl3 (hF.ev rfl) (row_at (i := 1) hS rfl (by first | assumption | rfl)) | exact rd_load pl3 (hF.ev rfl) (row_at0 (i := 1) hS rfl (by first | assumption | rfl)) | exact rd_load pl3 (hF.ev rfl) (row_at (i := 2) hS rfl (by first | assumption | rfl)) | exact rd_load pl3 (hF.ev rfl) (row_at0 (i := 2) hS rfl (by first | assumption | rfl)))) ?_; clear hF; intro a hF
                                  refine d_pu hD hF rfl rfl rfl rfl rfl (pu_lss (hF.ev rfl) (hF.ev rfl)) ?_; clear hF; intro a hF
                                  refine d_pu hD hF rfl rfl rfl rfl rfl ((by first | exact pu_pick_t (hF.ev rfl) (hF.ev rfl) | exact pu_pick_f (hF.ev rfl) (hF.ev rfl) | exact pu_pick (hF.ev rfl) (hF.ev rfl) (hF.ev rfl))) ?_; clear hF; intro a hF
                                  refine d_pu hD hF rfl rfl rfl rfl rfl ((by first | exact pu_pick_t (hF.ev rfl) (hF.ev rfl) | exact pu_pick_f (hF.ev rfl) (hF.ev rfl) | exact pu_pick (hF.ev rfl) (hF.ev rfl) (hF.ev rfl))) ?_; clear hF; intro a hF
                                  refine d_done hD rfl ?_; clear hD
                                  refine hK24 _ _ ?_; clear hK24
                                  refine wp_cond_split (hF.ev rfl) (fun hc7 => ?_) (fun hc7 => ?_)
                                  · -- cond 7 true
                                    try simp only [decide_eq_true_eq, decide_eq_false_iff_not, Bool.not_eq_true', Bool.not_eq_false', Int.not_lt, Int.not_le, ne_eq, Decidable.not_not, Bool.or_eq_true, Bool.or_eq_false_iff, Bool.and_eq_true, Bool.and_eq_false_imp] at hc7
                                    have := e2 (by omega)
                                    omega
                                  · -- cond 7 false
                                    try simp only [decide_eq_true_eq, decide_eq_false_iff_not, Bool.not_eq_true', Bool.not_eq_false', Int.not_lt, Int.not_le, ne_eq, Decidable.not_not, Bool.or_eq_true, Bool.or_eq_false_iff, Bool.and_eq_true, Bool.and_eq_false_imp] at hc7
                                    refine wp_skip ?_
                                    refine blk_normal ?_
                                    refine hK23 _ _ ?_; clear hK23
                                    -- region 25
                                    refine wp_region_lit ?_
                                    refine s_pu hF rfl rfl rfl (pu_move (hF.ev rfl)) ?_; clear hF; intro a hF
                                    refine s_pu hF rfl rfl rfl ((by first | exact pu_add64 (hF.ev rfl) (hF.ev rfl) (by omega) | exact pu_add (hF.ev rfl) (hF.ev rfl))) ?_; clear hF; intro a hF
                                    refine s_pu hF rfl rfl rfl (pu_assign (hF.ev rfl)) ?_; clear hF; intro a hF
                                    refine s_done ?_
                                    exact ⟨_, by omega, k + 1, rfl, by omega, hF.sub ⟨rfl, rfl, rfl, rfl, rfl, rfl, rfl, trivial⟩, hS⟩
                                · clear hF; intro hg193 hF   -- slot 193 false
                                  try simp only [decide_eq_true_eq, decide_eq_false_iff_not, Bool.not_eq_true', Bool.not_eq_false', Int.not_lt, Int.not_le, ne_eq, Decidable.not_not, Bool.or_eq_true, Bool.or_eq_false_iff, Bool.and_eq_true, Bool.and_eq_false_imp] at hg193
                                  refine d_no hD hF rfl rfl rfl rfl rfl ?_; clear hF; intro a hF
                                  refine d_no hD hF rfl rfl rfl rfl rfl ?_; clear hF; intro a hF
                                  refine d_no hD hF rfl rfl rfl rfl rfl ?_; clear hF; intro a hF
                                  refine d_nord hD hF rfl rfl rfl rfl rfl hS ?_; clear hF; intro a hF
                                  refine d_no hD hF rfl rfl rfl rfl rfl ?_; clear hF; intro a hF
                                  refine d_no hD hF rfl rfl rfl rfl rfl ?_; clear hF; intro a hF
                                  refine d_no hD hF rfl rfl rfl rfl rfl ?_; clear hF; intro a hF
                                  refine d_nord hD hF rfl rfl rfl rfl rfl hS ?_; clear hF; intro a hF
                                  refine d_no hD hF rfl rfl rfl rfl rfl ?_; clear hF; intro a hF
                                  refine d_pu hD hF rfl rfl rfl rfl rfl ((by first | exact pu_pick_t (hF.ev rfl) (hF.ev rfl) | exact pu_pick_f (hF.ev rfl) (hF.ev rfl) | exact pu_pick (hF.ev rfl) (hF.ev rfl) (hF.ev rfl))) ?_; clear hF; intro a hF
                                  refine d_pu hD hF rfl rfl rfl rfl rfl ((by first | exact pu_pick_t (hF.ev rfl) (hF.ev rfl) | exact pu_pick_f (hF.ev rfl) (hF.ev rfl) | exact pu_pick (hF.ev rfl) (hF.ev rfl) (hF.ev rfl))) ?_; clear hF; intro a hF
                                  refine d_done hD rfl ?_; clear hD
                                  refine hK24 _ _ ?_; clear hK24
                                  refine wp_cond_false (hF.ev rfl) ?_
                                  refine wp_skip ?_
                                  refine blk_normal ?_
                                  refine hK23 _ _ ?_; clear hK23
                                  -- region 25
                                  refine wp_region_lit ?_
                                  refine s_pu hF rfl rfl rfl (pu_move (hF.ev rfl)) ?_; clear hF; intro a hF
                                  refine s_pu hF rfl rfl rfl ((by first | exact pu_add64 (hF.ev rfl) (hF.ev rfl) (by omega) | exact pu_add (hF.ev rfl) (hF.ev rfl))) ?_; clear hF; intro a hF
                                  refine s_pu hF rfl rfl rfl (pu_assign (hF.ev rfl)) ?_; clear hF; intro a hF
                                  refine s_done ?_
                                  exact ⟨_, by omega, k + 1, rfl, by omega, hF.sub ⟨rfl, rfl, rfl, rfl, rfl, rfl, rfl, trivial⟩, hS⟩
                            · clear hF; intro hg172 hF   -- slot 172 false
                              try simp only [decide_eq_true_eq, decide_eq_false_iff_not, Bool.not_eq_true', Bool.not_eq_false', Int.not_lt, Int.not_le, ne_eq, Decidable.not_not, Bool.or_eq_true, Bool.or_eq_false_iff, Bool.and_eq_true, Bool.and_eq_false_imp] at hg172
                              refine d_no hD hF rfl rfl rfl rfl rfl ?_; clear hF; intro a hF
                              refine d_no hD hF rfl rfl rfl rfl rfl ?_; clear hF; intro a hF
                              refine d_no hD hF rfl rfl rfl rfl rfl ?_; clear hF; intro a hF
                              refine d_nord hD hF rfl rfl rfl rfl rfl hS ?_; clear hF; intro a hF
                              refine d_no hD hF rfl rfl rfl rfl rfl ?_; clear hF; intro a hF
                              refine d_no hD hF rfl rfl rfl rfl rfl ?_; clear hF; intro a hF
                              refine d_no hD hF rfl rfl rfl rfl rfl ?_; clear hF; intro a hF
                              refine d_nord hD hF rfl rfl rfl rfl rfl hS ?_; clear hF; intro a hF
                              refine d_no hD hF rfl rfl rfl rfl rfl ?_; clear hF; intro a hF
                              refine d_pu hD hF rfl rfl rfl rfl rfl ((by first | exact pu_pick_t (hF.ev rfl) (hF.ev rfl) | exact pu_pick_f (hF.ev rfl) (hF.ev rfl) | exact pu_pick (hF.ev rfl) (hF.ev rfl) (hF.ev rfl))) ?_; clear hF; intro a hF
                              refine d_pu hD hF rfl rfl rfl rfl rfl (pu_move (hF.ev rfl)) ?_; clear hF; intro a hF
                              refine d_pu hD hF rfl rfl rfl rfl rfl (pu_move (hF.ev rfl)) ?_; clear hF; intro a hF
                              refine d_pu hD hF rfl rfl rfl rfl rfl (pu_move (hF.ev rfl)) ?_; clear hF; intro a hF
                              refine d_pu hD hF rfl rfl rfl rfl rfl ((by first | exact pu_elem sl22 (hF.ev rfl) (hF.ev rfl) (by first | omega | simp) (by first | omega | (simp; done) | (simp; omega)) | exact pu_elemA sl22 (hF.ev rfl) (hF.ev rfl) (by omega) (by omega))) ?_; clear hF; intro a hF
                              refine d_rd hD hF rfl rfl rfl rfl rfl hS (fun w hS => (by first | exact rd_load pl3 (hF.ev rfl) (by assumption) | exact rd_load pl3 (hF.ev rfl) (hS.cellL (i := 0) rfl rfl) | exact rd_load pl3 (hF.ev rfl) (hS.cellL (i := 1) rfl rfl) | exact rd_load pl3 (hF.ev rfl) (hS.cellL (i := 2) rfl rfl) | exact rd_load pl3 (hF.ev rfl) (hS.cell (i := 0) rfl (by assumption)) | exact rd_load pl3 (hF.ev rfl) (hS.cell (i := 1) rfl (by assumption)) | exact rd_load pl3 (hF.ev rfl) (hS.cell (i := 2) rfl (by assumption)) | exact rd_load pl3 (hF.ev rfl) (row_at (i := 0) hS rfl (by first | assumption | rfl)) | exact rd_load pl3 (hF.ev rfl) (row_at0 (i := 0) hS rfl (by first | assumption | rfl)) | exact rd_load pl3 (hF.ev rfl) (row_at (i := 1) hS rfl (by first | assumption | rfl)) | exact rd_load pl3 (hF.ev rfl) (row_at0 (i := 1) hS rfl (by first | assumption | rfl)) | exact rd_load pl3 (hF.ev rfl) (row_at (i := 2) hS rfl (by first | assumption | rfl)) | exact rd_load pl3 (hF.ev rfl) (row_at0 (i := 2) hS rfl (by first | assumption | rfl)))) ?_; clear hF; intro a hF
                              refine d_pu hD hF rfl rfl rfl rfl rfl (pu_move (hF.ev rfl)) ?_; clear hF; intro a hF
                              refine d_pu hD hF rfl rfl rfl rfl rfl (pu_move (hF.ev rfl)) ?_; clear hF; intro a hF
                              refine d_pu hD hF rfl rfl rfl rfl rfl ((by first | exact pu_elem sl22 (hF.ev rfl) (hF.ev rfl) (by first | omega | simp) (by first | omega | (simp; done) | (simp; omega)) | exact pu_elemA sl22 (hF.ev rfl) (hF.ev rfl) (by omega) (by omega))) ?_; clear hF; intro a hF
                              refine d_rd hD hF rfl rfl rfl rfl rfl hS (fun w hS => (by first | exact rd_load pl3 (hF.ev rfl) (by assumption) | exact rd_load pl3 (hF.ev rfl) (hS.cellL (i := 0) rfl rfl) | exact rd_load pl3 (hF.ev rfl) (hS.cellL (i := 1) rfl rfl) | exact rd_load pl3 (hF.ev rfl) (hS.cellL (i := 2) rfl rfl) | exact rd_load pl3 (hF.ev rfl) (hS.cell (i := 0) rfl (by assumption)) | exact rd_load pl3 (hF.ev rfl) (hS.cell (i := 1) rfl (by assumption)) | exact rd_load pl3 (hF.ev rfl) (hS.cell (i := 2) rfl (by assumption)) | exact rd_load pl3 (hF.ev rfl) (row_at (i := 0) hS rfl (by first | assumption | rfl)) | exact rd_load pl3 (hF.ev rfl) (row_at0 (i := 0) hS rfl (by first | assumption | rfl)) | exact rd_load pl3 (hF.ev rfl) (row_at (i := 1) hS rfl (by first | assumption | rfl)) | exact rd_load pl3 (hF.ev rfl) (row_at0 (i := 1) hS rfl (by first | assumption | rfl)) | exact rd_load pl3 (hF.ev rfl) (row_at (i := 2) hS rfl (by first | assumption | rfl)) | exact rd_load pl3 (hF.ev rfl) (row_at0 (i := 2) hS rfl (by first | assumption | rfl)))) ?_; clear hF; intro a hF
                              refine d_pu hD hF rfl rfl rfl rfl rfl (pu_gtr (hF.ev rfl) (hF.ev rfl)) ?_; clear hF; intro a hF
                              refine d_pu hD hF rfl rfl rfl rfl rfl (pu_move (hF.ev rfl)) ?_; clear hF; intro a hF
                              refine fr_split hF (t := 193) rfl ?_ ?_
                              · clear hF; intro hg193 hF   -- slot 193 true
                                try simp only [decide_eq_true_eq, decide_eq_false_iff_not, Bool.not_eq_true', Bool.not_eq_false', Int.not_lt, Int.not_le, ne_eq, Decidable.not_not, Bool.or_eq_true, Bool.or_eq_false_iff, Bool.and_eq_true, Bool.and_eq_false_imp] at hg193
                                refine d_pu hD hF rfl rfl rfl rfl rfl (pu_move (hF.ev rfl)) ?_; clear hF; intro a hF
                                refine d_pu hD hF rfl rfl rfl rfl rfl (pu_move (hF.ev rfl)) ?_; clear hF; intro a hF
                                refine d_pu hD hF rfl rfl rfl rfl rfl ((by first | exact pu_elem sl22 (hF.ev rfl) (hF.ev rfl) (by first | omega | simp) (by first | omega | (simp; done) | (simp; omega)) | exact pu_elemA sl22 (hF.ev rfl) (hF.ev rfl) (by omega) (by omega))) ?_; clear hF; intro a hF
                                refine d_rd hD hF rfl rfl rfl rfl rfl hS (fun w hS => (by first | exact rd_load pl3 (hF.ev rfl) (by assumption) | exact rd_load pl3 (hF.ev rfl) (hS.cellL (i := 0) rfl rfl) | exact rd_load pl3 (hF.ev rfl) (hS.cellL (i := 1) rfl rfl) | exact rd_load pl3 (hF.ev rfl) (hS.cellL (i := 2) rfl rfl) | exact rd_load pl3 (hF.ev rfl) (hS.cell (i := 0) rfl (by assumption)) | exact rd_load pl3 (hF.ev rfl) (hS.cell (i := 1) rfl (by assumption)) | exact rd_load pl3 (hF.ev rfl) (hS.cell (i := 2) rfl (by assumption)) | exact rd_load pl3 (hF.ev rfl) (row_at (i := 0) hS rfl (by first | assumption | rfl)) | exact rd_load pl3 (hF.ev rfl) (row_at0 (i := 0) hS rfl (by first | assumption | rfl)) | exact rd_load pl3 (hF.ev rfl) (row_at (i := 1) hS rfl (by first | assumption | rfl)) | exact rd_load pl3 (hF.ev rfl) (row_at0 (i := 1) hS rfl (by first | assumption | rfl)) | exact rd_load pl3 (hF.ev rfl) (row_at (i := 2) hS rfl (by first | assumption | rfl)) | exact rd_load pl3 (hF.ev rfl) (row_at0 (i := 2) hS rfl (by first | assumption | rfl)))) ?_; clear hF; intro a hF
                                refine d_pu hD hF rfl rfl rfl rfl rfl (pu_move (hF.ev rfl)) ?_; clear hF; intro a hF
                                refine d_pu hD hF rfl rfl rfl rfl rfl (pu_move (hF.ev rfl)) ?_; clear hF; intro a hF
                                refine d_pu hD hF rfl rfl rfl rfl rfl ((by first | exact pu_elem sl22 (hF.ev rfl) (hF.ev rfl) (by first | omega | simp) (by first | omega | (simp; done) | (simp; omega)) | exact pu_elemA sl22 (hF.ev rfl) (hF.ev rfl) (by omega) (by omega))) ?_; clear hF; intro a hF
                                refine d_rd hD hF rfl rfl rfl rfl rfl hS (fun w hS => (by first | exact rd_load pl3 (hF.ev rfl) (by assumption) | exact rd_load pl3 (hF.ev rfl) (hS.cellL (i := 0) rfl rfl) | exact rd_load pl3 (hF.ev rfl) (hS.cellL (i := 1) rfl rfl) | exact rd_load pl3 (hF.ev rfl) (hS.cellL (i := 2) rfl rfl) | exact rd_load pl3 (hF.ev rfl) (hS.cell (i := 0) rfl (by assumption)) | exact rd_load pl3 (hF.ev rfl) (hS.cell (i := 1) rfl (by assumption)) | exact rd_load pl3 (hF.ev rfl) (hS.cell (i := 2) rfl (by assumption)) | exact rd_load pl3 (hF.ev rfl) (row_at (i := 0) hS rfl (by first | assumption | rfl)) | exact rd_load pl3 (hF.ev rfl) (row_at0 (i := 0) hS rfl (by first | assumption | rfl)) | exact rd_load pl3 (hF.ev rfl) (row_at (i := 1) hS rfl (by first | assumption | rfl)) | exact rd_load pl3 (hF.ev rfl) (row_at0 (i := 1) hS rfl (by first | assumption | rfl)) | exact rd_load pl3 (hF.ev rfl) (row_at (i := 2) hS rfl (by first | assumption | rfl)) | exact rd_load pl3 (hF.ev rfl) (row_at0 (i := 2) hS rfl (by first | assumption | rfl)))) ?_; clear hF; intro a hF
                                refine d_pu hD hF rfl rfl rfl rfl rfl (pu_lss (hF.ev rfl) (hF.ev rfl)) ?_; clear hF; intro a hF
                                refine d_pu hD hF rfl rfl rfl rfl rfl ((by first | exact pu_pick_t (hF.ev rfl) (hF.ev rfl) | exact pu_pick_f (hF.ev rfl) (hF.ev rfl) | exact pu_pick (hF.ev rfl) (hF.ev rfl) (hF.ev rfl))) ?_; clear hF; intro a hF
                                refine d_pu hD hF rfl rfl rfl rfl rfl ((by first | exact pu_pick_t (hF.ev rfl) (hF.ev rfl) | exact pu_pick_f (hF.ev rfl) (hF.ev rfl) | exact pu_pick (hF.ev rfl) (hF.ev rfl) (hF.ev rfl))) ?_; clear hF; intro a hF
                                refine d_done hD rfl ?_; clear hD
                                refine hK24 _ _ ?_; clear hK24
                                refine wp_cond_split (hF.ev rfl) (fun hc7 => ?_) (fun hc7 => ?_)
                                · -- cond 7 true
                                  try simp only [decide_eq_true_eq, decide_eq_false_iff_not, Bool.not_eq_true', Bool.not_eq_false', Int.not_lt, Int.not_le, ne_eq, Decidable.not_not, Bool.or_eq_true, Bool.or_eq_false_iff, Bool.and_eq_true, Bool.and_eq_false_imp] at hc7
                                  have := e2 (by omega)
                                  omega
                                · -- cond 7 false
                                  try simp only [decide_eq_true_eq, decide_eq_false_iff_not, Bool.not_eq_true', Bool.not_eq_false', Int.not_lt, Int.not_le, ne_eq, Decidable.not_not, Bool.or_eq_true, Bool.or_eq_false_iff, Bool.and_eq_true, Bool.and_eq_false_imp] at hc7
                                  refine wp_skip ?_
                                  refine blk_normal ?_
                                  refine hK23 _ _ ?_; clear hK23
                                  -- region 25
                                  refine wp_region_lit ?_
                                  refine s_pu hF rfl rfl rfl (pu_move (hF.ev rfl)) ?_; clear hF; intro a hF
                                  refine s_pu hF rfl rfl rfl ((by first | exact pu_add64 (hF.ev rfl) (hF.ev rfl) (by omega) | exact pu_add (hF.ev rfl) (hF.ev rfl))) ?_; clear hF; intro a hF
                                  refine s_pu hF rfl rfl rfl (pu_assign (hF.ev rfl)) ?_; clear hF; intro a hF
                                  refine s_done ?_
                                  exact ⟨_, by omega, k + 1, rfl, by omega, hF.sub ⟨rfl, rfl, rfl, rfl, rfl, rfl, rfl, trivial⟩, hS⟩
                              · clear hF; intro hg193 hF   -- slot 193 false
                                try simp only [decide_eq_true_eq, decide_eq_false_iff_not, Bool.not_eq_true', Bool.not_eq_false', Int.not_lt, Int.not_le, ne_eq, Decidable.not_not, Bool.or_eq_true, Bool.or_eq_false_iff, Bool.and_eq_true, Bool.and_eq_false_imp] at hg193
                                refine d_no hD hF rfl rfl rfl rfl rfl ?_; clear hF; intro a hF
                                refine d_no hD hF rfl rfl rfl rfl rfl ?_; clear hF; intro a hF
                                refine d_no hD hF rfl rfl rfl rfl rfl ?_; clear hF; intro a hF
                                refine d_nord hD hF rfl rfl rfl rfl rfl hS ?_; clear hF; intro a hF
                                refine d_no hD hF rfl rfl rfl rfl rfl ?_; clear hF; intro a hF
                                refine d_no hD hF rfl rfl rfl rfl rfl ?_; clear hF; intro a hF
                                refine d_no hD hF rfl rfl rfl rfl rfl ?_; clear hF; intro a hF
                                refine d_nord hD hF rfl rfl rfl rfl rfl hS ?_; clear hF; intro a hF
                                refine d_no hD hF rfl rfl rfl rfl rfl ?_; clear hF; intro a hF
                                refine d_pu hD hF rfl rfl rfl rfl rfl ((by first | exact pu_pick_t (hF.ev rfl) (hF.ev rfl) | exact pu_pick_f (hF.ev rfl) (hF.ev rfl) | exact pu_pick (hF.ev rfl) (hF.ev rfl) (hF.ev rfl))) ?_; clear hF; intro a hF
                                refine d_pu hD hF rfl rfl rfl rfl rfl ((by first | exact pu_pick_t (hF.ev rfl) (hF.ev rfl) | exact pu_pick_f (hF.ev rfl) (hF.ev rfl) | exact pu_pick (hF.ev rfl) (hF.ev rfl) (hF.ev rfl))) ?_; clear hF; intro a hF
                                refine d_done hD rfl ?_; clear hD
                                refine hK24 _ _ ?_; clear hK24
                                refine wp_cond_false (hF.ev rfl) ?_
                                refine wp_skip ?_
                                refine blk_normal ?_
                                refine hK23 _ _ ?_; clear hK23
                                -- region 25
                                refine wp_region_lit ?_
                                refine s_pu hF rfl rfl rfl (pu_move (hF.ev rfl)) ?_; clear hF; intro a hF
                                refine s_pu hF rfl rfl rfl ((by first | exact pu_add64 (hF.ev rfl) (hF.ev rfl) (by omega) | exact pu_add (hF.ev rfl) (hF.ev rfl))) ?_; clear hF; intro a hF
                                refine s_pu hF rfl rfl rfl (pu_assign (hF.ev rfl)) ?_; clear hF; intro a hF
                                refine s_done ?_
                                exact ⟨_, by omega, k + 1, rfl, by omega, hF.sub ⟨rfl, rfl, rfl, rfl, rfl, rfl, rfl, trivial⟩, hS⟩
                          · -- cond 6 false
                            try simp only [decide_eq_true_eq, decide_eq_false_iff_not, Bool.not_eq_true', Bool.not_eq_false', Int.not_lt, Int.not_le, ne_eq, Decidable.not_not, Bool.or_eq_true, Bool.or_eq_false_iff, Bool.and_eq_true, Bool.and_eq_false_imp] at hc6
                            refine wp_exit ?_
                            refine then_exit ?_
                            refine then_exit ?_
                            refine blk_exit ?_
                            refine blk_normal ?_
                            refine hK14 _ _ ?_; clear hK14
                            -- region 17
                            refine wp_region_lit ?_
                            refine s_pu hF rfl rfl rfl (pu_move (hF.ev rfl)) ?_; clear hF; intro a hF
                            refine s_pu hF rfl rfl rfl ((by first | exact pu_add64 (hF.ev rfl) (hF.ev rfl) (by omega) | exact pu_add (hF.ev rfl) (hF.ev rfl))) ?_; clear hF; intro a hF
                            refine s_pu hF rfl rfl rfl (pu_assign (hF.ev rfl)) ?_; clear hF; intro a hF
                            refine s_done ?_
                            exact ⟨_, by omega, i + 1, rfl, by omega, hF.sub ⟨rfl, rfl, rfl, rfl, rfl, rfl, trivial⟩, hS⟩
                      · clear hF; intro hg137 hF   -- slot 137 false
                        try simp only [decide_eq_true_eq, decide_eq_false_iff_not, Bool.not_eq_true', Bool.not_eq_false', Int.not_lt, Int.not_le, ne_eq, Decidable.not_not, Bool.or_eq_true, Bool.or_eq_false_iff, Bool.and_eq_true, Bool.and_eq_false_imp] at hg137
                        refine d_no hD hF rfl rfl rfl rfl rfl ?_; clear hF; intro a hF
                        refine d_no hD hF rfl rfl rfl rfl rfl ?_; clear hF; intro a hF
                        refine d_no hD hF rfl rfl rfl rfl rfl ?_; clear hF; intro a hF
                        refine d_nord hD hF rfl rfl rfl rfl rfl hS ?_; clear hF; intro a hF
                        refine d_no hD hF rfl rfl rfl rfl rfl ?_; clear hF; intro a hF
                        refine d_no hD hF rfl rfl rfl rfl rfl ?_; clear hF; intro a hF
                        refine d_no hD hF rfl rfl rfl rfl rfl ?_; clear hF; intro a hF
                        refine d_no hD hF rfl rfl rfl rfl rfl ?_; clear hF; intro a hF
                        refine d_nord hD hF rfl rfl rfl rfl rfl hS ?_; clear hF; intro a hF
                        refine d_no hD hF rfl rfl rfl rfl rfl ?_; clear hF; intro a hF
                        refine d_no hD hF rfl rfl rfl rfl rfl ?_; clear hF; intro a hF
                        refine d_no hD hF rfl rfl rfl rfl rfl ?_; clear hF; intro a hF
                        refine d_no hD hF rfl rfl rfl rfl rfl ?_; clear hF; intro a hF
                        refine d_pu hD hF rfl rfl rfl rfl rfl ((by first | exact pu_pick_t (hF.ev rfl) (hF.ev rfl) | exact pu_pick_f (hF.ev rfl) (hF.ev rfl) | exact pu_pick (hF.ev rfl) (hF.ev rfl) (hF.ev rfl))) ?_; clear hF; intro a hF
                        refine d_done hD rfl ?_; clear hD
                        refine hK18 _ _ ?_; clear hK18
                        refine wp_cond_false (hF.ev rfl) ?_
                        refine wp_skip ?_
                        refine hK17 _ _ ?_; clear hK17
                        refine wp_seq_k fun K19 hK19 => ?_
                        -- region 22
                        refine wp_region_lit ?_
                        refine s_pu hF rfl rfl rfl (pu_move (hF.ev rfl)) ?_; clear hF; intro a hF
                        refine s_pu hF rfl rfl rfl (pu_move (hF.ev rfl)) ?_; clear hF; intro a hF
                        refine s_pu hF rfl rfl rfl (pu_move (hF.ev rfl)) ?_; clear hF; intro a hF
                        refine s_pu hF rfl rfl rfl ((by first | exact pu_elem sl22 (hF.ev rfl) (hF.ev rfl) (by first | omega | simp) (by first | omega | (simp; done) | (simp; omega)) | exact pu_elemA sl22 (hF.ev rfl) (hF.ev rfl) (by omega) (by omega))) ?_; clear hF; intro a hF
                        refine s_rd hF rfl rfl rfl (by first | exact rd_load pl3 (hF.ev rfl) (by assumption) | exact rd_load pl3 (hF.ev rfl) (hS.cellL (i := 0) rfl rfl) | exact rd_load pl3 (hF.ev rfl) (hS.cellL (i := 1) rfl rfl) | exact rd_load pl3 (hF.ev rfl) (hS.cellL (i := 2) rfl rfl) | exact rd_load pl3 (hF.ev rfl) (hS.cell (i := 0) rfl (by assumption)) | exact rd_load pl3 (hF.ev rfl) (hS.cell (i := 1) rfl (by assumption)) | exact rd_load pl3 (hF.ev rfl) (hS.cell (i := 2) rfl (by assumption)) | exact rd_load pl3 (hF.ev rfl) (row_at (i := 0) hS rfl (by first | assumption | rfl)) | exact rd_load pl3 (hF.ev rfl) (row_at0 (i := 0) hS rfl (by first | assumption | rfl)) | exact rd_load pl3 (hF.ev rfl) (row_at (i := 1) hS rfl (by first | assumption | rfl)) | exact rd_load pl3 (hF.ev rfl) (row_at0 (i := 1) hS rfl (by first | assumption | rfl)) | exact rd_load pl3 (hF.ev rfl) (row_at (i := 2) hS rfl (by first | assumption | rfl)) | exact rd_load pl3 (hF.ev rfl) (row_at0 (i := 2) hS rfl (by first | assumption | rfl))) ?_; clear hF; intro a hF
                        refine s_pu hF rfl rfl rfl ((by first | exact pu_add64 (hF.ev rfl) (hF.ev rfl) (by omega) | exact pu_add (hF.ev rfl) (hF.ev rfl))) ?_; clear hF; intro a hF
                        refine s_pu hF rfl rfl rfl (pu_assign (hF.ev rfl)) ?_; clear hF; intro a hF
                        refine s_done ?_
                        refine hK19 _ _ ?_; clear hK19
                        refine wp_seq_k fun K20 hK20 => ?_
                        -- region 23
                        refine wp_region_lit ?_
                        refine s_pu hF rfl rfl rfl (pu_assign (hF.ev rfl)) ?_; clear hF; intro a hF
                        refine s_done ?_
                        refine hK20 _ _ ?_; clear hK20
                        refine wp_block ?_
                        refine wp_ind (fun j a w => ∃ (k : Nat), j = i - k ∧ k ≤ i ∧
                          Fr a 208 [(5, .int .i64 pu), (6, .slice (some ⟨ga, 0, none⟩) ls.length c), (7, .int .i64 (total ls)), (9, .slice (some ⟨go, 0, none⟩) outs.length co), (11, .int .i64 (total (outs.take (i + 1)))), (12, .int .i64 i), (13, .int .i64 k)] ∧
                          Sat W w [rowC 3 1 (.slice (some ⟨go, 0, none⟩) outs.length co) outs.length (ints outs), rowC 3 1 (.slice (some ⟨ga, 0, none⟩) ls.length c) ls.length (ints ls), whole W]) i
                          ⟨0, rfl, by omega, by rw [htt]; exact hF.sub ⟨rfl, rfl, rfl, rfl, rfl, rfl, rfl, trivial⟩, hS⟩ ?_
                        clear hS hF
                        rintro j a w ⟨k, rfl, hk, hF, hS⟩
                        refine wp_seq_k fun K21 hK21 => ?_
                        refine wp_seq_k fun K22 hK22 => ?_
                        -- region 24
                        refine wp_region_lit ?_
                        refine s_pu hF rfl rfl rfl (pu_move (hF.ev rfl)) ?_; clear hF; intro a hF
                        refine s_pu hF rfl rfl rfl (pu_move (hF.ev rfl)) ?_; clear hF; intro a hF
                        refine s_pu hF rfl rfl rfl (pu_lss (hF.ev rfl) (hF.ev rfl)) ?_; clear hF; intro a hF
                        refine s_done ?_
                        refine hK22 _ _ ?_; clear hK22
                        refine wp_cond_split (hF.ev rfl) (fun hc6 => ?_) (fun hc6 => ?_)
                        · -- cond 6 true
                          try simp only [decide_eq_true_eq, decide_eq_false_iff_not, Bool.not_eq_true', Bool.not_eq_false', Int.not_lt, Int.not_le, ne_eq, Decidable.not_not, Bool.or_eq_true, Bool.or_eq_false_iff, Bool.and_eq_true, Bool.and_eq_false_imp] at hc6
                          have hki : k < i := by omega
                          have hkl : k < ls.length := by omega
                          have hko : k < outs.length := by omega
                          have hok := ints_at hko
                          have hlk := ints_at hkl
                          obtain ⟨e1, e2⟩ := fair_two hf (by omega) hlb ht1 hkl hil
                          refine wp_skip ?_
                          refine hK21 _ _ ?_; clear hK21
                          refine wp_seq_k fun K23 hK23 => ?_
                          refine wp_block ?_
                          refine wp_seq_k fun K24 hK24 => ?_
                          -- region 26
                          refine d_start (S := (fun w => Sat W w _)) (ds := []) (ord := [(0, .pu), (1, .pu), (2, .pu), (3, .tk), (4, .pu), (5, .pu), (6, .pu), (7, .tk), (8, .pu), (9, .pu), (10, .pu), (11, .pu), (12, .pu), (13, .tk), (14, .pu), (15, .pu), (16, .pu), (17, .tk), (18, .pu), (19, .pu), (20, .pu), (21, .pu), (22, .pu), (23, .pu), (24, .tk), (25, .pu), (26, .pu), (27, .pu), (28, .tk), (29, .pu), (30, .pu), (31, .pu), (32, .pu), (33, .pu), (34, .tk), (35, .pu), (36, .pu), (37, .pu), (38, .tk), (39, .pu), (40, .pu), (41, .pu)]) mixed ⟨chk_fast (by kernel_rfl), fun _ d _ _ _ h => by cases d <;> exact h⟩ hS.drew fun hD => ?_
                          replace hS := hS.drew; generalize w.drew = w at hS ⊢
                          refine d_pu hD hF rfl rfl rfl rfl rfl (pu_move (hF.ev rfl)) ?_; clear hF; intro a hF
                          refine d_pu hD hF rfl rfl rfl rfl rfl (pu_move (hF.ev rfl)) ?_; clear hF; intro a hF
                          refine d_pu hD hF rfl rfl rfl rfl rfl ((by first | exact pu_elem sl22 (hF.ev rfl) (hF.ev rfl) (by first | omega | simp) (by first | omega | (simp; done) | (simp; omega)) | exact pu_elemA sl22 (hF.ev rfl) (hF.ev rfl) (by omega) (by omega))) ?_; clear hF; intro a hF
                          refine d_rd hD hF rfl rfl rfl rfl rfl hS (fun w hS => (by first | exact rd_load pl3 (hF.ev rfl) (by assumption) | exact rd_load pl3 (hF.ev rfl) (hS.cellL (i := 0) rfl rfl) | exact rd_load pl3 (hF.ev rfl) (hS.cellL (i := 1) rfl rfl) | exact rd_load pl3 (hF.ev rfl) (hS.cellL (i := 2) rfl rfl) | exact rd_load pl3 (hF.ev rfl) (hS.cell (i := 0) rfl (by assumption)) | exact rd_load pl3 (hF.ev rfl) (hS.cell (i := 1) rfl (by assumption)) | exact rd_load pl3 (hF.ev rfl) (hS.cell (i := 2) rfl (by assumption)) | exact rd_load pl3 (hF.ev rfl) (row_at (i := 0) hS rfl (by first | assumption | rfl)) | exact rd_load pl3 (hF.ev rfl) (row_at0 (i := 0) hS rfl (by first | assumption | rfl)) | exact rd_load pl3 (hF.ev rfl) (row_at (i := 1) hS rfl (by first | assumption | rfl)) | exact rd_load pl3 (hF.ev rfl) (row_at0 (i := 1) hS rfl (by first | assumption | rfl)) | exact rd_load pl3 (hF.ev rfl) (row_at (i := 2) hS rfl (by first | assumption | rfl)) | exact rd_load pl3 (hF.ev rfl) (row_at0 (i := 2) hS rfl (by first | assumption | rfl)))) ?_; clear hF; intro a hF
                          refine d_pu hD hF rfl rfl rfl rfl rfl (pu_move (hF.ev rfl)) ?_; clear hF; intro a hF
                          refine d_pu hD hF rfl rfl rfl rfl rfl (pu_move (hF.ev rfl)) ?_; clear hF; intro a hF
                          refine d_pu hD hF rfl rfl rfl rfl rfl ((by first | exact pu_elem sl22 (hF.ev rfl) (hF.ev rfl) (by first | omega | simp) (by first | omega | (simp; done) | (simp; omega)) | exact pu_elemA sl22 (hF.ev rfl) (hF.ev rfl) (by omega) (by omega))) ?_; clear hF; intro a hF
                          refine d_rd hD hF rfl rfl rfl rfl rfl hS (fun w hS => (by first | exact rd_load pl3 (hF.ev rfl) (by assumption) | exact rd_load pl3 (hF.ev rfl) (hS.cellL (i := 0) rfl rfl) | exact rd_load pl3 (hF.ev rfl) (hS.cellL (i := 1) rfl rfl) | exact rd_load pl3 (hF.ev rfl) (hS.cellL (i := 2) rfl rfl) | exact rd_load pl3 (hF.ev rfl) (hS.cell (i := 0) rfl (by assumption)) | exact rd_load pl3 (hF.ev rfl) (hS.cell (i := 1) rfl (by assumption)) | exact rd_load pl3 (hF.ev rfl) (hS.cell (i := 2) rfl (by assumption)) | exact rd_load pl3 (hF.ev rfl) (row_at (i := 0) hS rfl (by first | assumption | rfl)) | exact rd_load pl3 (hF.ev rfl) (row_at0 (i := 0) hS rfl (by first | assumption | rfl)) | exact rd_load pl3 (hF.ev rfl) (row_at (i := 1) hS rfl (by first | assumption | rfl)) | exact rd_load pl3 (hF.ev rfl) (row_at0 (i := 1) hS rfl (by first | assumption | rfl)) | exact rd_load pl3 (hF.ev rfl) (row_at (i := 2) hS rfl (by first | assumption | rfl)) | exact rd_load pl3 (hF.ev rfl) (row_at0 (i := 2) hS rfl (by first | assumption | rfl)))) ?_; clear hF; intro a hF
                          refine d_pu hD hF rfl rfl rfl rfl rfl (pu_geq (hF.ev rfl) (hF.ev rfl)) ?_; clear hF; intro a hF
                          refine d_pu hD hF rfl rfl rfl rfl rfl (pu_move (hF.ev rfl)) ?_; clear hF; intro a hF
                          refine fr_split hF (t := 172) rfl ?_ ?_
                          · clear hF; intro hg172 hF   -- slot 172 true
                            try simp only [decide_eq_true_eq, decide_eq_false_iff_not, Bool.not_eq_true', Bool.not_eq_false', Int.not_lt, Int.not_le, ne_eq, Decidable.not_not, Bool.or_eq_true, Bool.or_eq_false_iff, Bool.and_eq_true, Bool.and_eq_false_imp] at hg172
                            refine d_pu hD hF rfl rfl rfl rfl rfl (pu_move (hF.ev rfl)) ?_; clear hF; intro a hF
                            refine d_pu hD hF rfl rfl rfl rfl rfl (pu_move (hF.ev rfl)) ?_; clear hF; intro a hF
                            refine d_pu hD hF rfl rfl rfl rfl rfl ((by first | exact pu_elem sl22 (hF.ev rfl) (hF.ev rfl) (by first | omega | simp) (by first | omega | (simp; done) | (simp; omega)) | exact pu_elemA sl22 (hF.ev rfl) (hF.ev rfl) (by omega) (by omega))) ?_; clear hF; intro a hF
                            refine d_rd hD hF rfl rfl rfl rfl rfl hS (fun w hS => (by first | exact rd_load pl3 (hF.ev rfl) (by assumption) | exact rd_load pl3 (hF.ev rfl) (hS.cellL (i := 0) rfl rfl) | exact rd_load pl3 (hF.ev rfl) (hS.cellL (i := 1) rfl rfl) | exact rd_load pl3 (hF.ev rfl) (hS.cellL (i := 2) rfl rfl) | exact rd_load pl3 (hF.ev rfl) (hS.cell (i := 0) rfl (by assumption)) | exact rd_load pl3 (hF.ev rfl) (hS.cell (i := 1) rfl (by assumption)) | exact rd_load pl3 (hF.ev rfl) (hS.cell (i := 2) rfl (by assumption)) | exact rd_load pl3 (hF.ev rfl) (row_at (i := 0) hS rfl (by first | assumption | rfl)) | exact rd_load pl3 (hF.ev rfl) (row_at0 (i := 0) hS rfl (by first | assumption | rfl)) | exact rd_load pl3 (hF.ev rfl) (row_at (i := 1) hS rfl (by first | assumption | rfl)) | exact rd_load pl3 (hF.ev rfl) (row_at0 (i := 1) hS rfl (by first | assumption | rfl)) | exact rd_load pl3 (hF.ev rfl) (row_at (i := 2) hS rfl (by first | assumption | rfl)) | exact rd_load pl3 (hF.ev rfl) (row_at0 (i := 2) hS rfl (by first | assumption | rfl)))) ?_; clear hF; intro a hF
                            refine d_pu hD hF rfl rfl rfl rfl rfl (pu_move (hF.ev rfl)) ?_; clear hF; intro a hF
                            refine d_pu hD hF rfl rfl rfl rfl rfl (pu_move (hF.ev rfl)) ?_; clear hF; intro a hF
                            refine d_pu hD hF rfl rfl rfl rfl rfl ((by first | exact pu_elem sl22 (hF.ev rfl) (hF.ev rfl) (by first | omega | simp) (by first | omega | (simp; done) | (simp; omega)) | exact pu_elemA sl22 (hF.ev rfl) (hF.ev rfl) (by omega) (by omega))) ?_; clear hF; intro a hF
                            refine d_rd hD hF rfl rfl rfl rfl rfl hS (fun w hS => (by first | exact rd_load pl3 (hF.ev rfl) (by assumption) | exact rd_load pl3 (hF.ev rfl) (hS.cellL (i := 0) rfl rfl) | exact rd_load pl3 (hF.ev rfl) (hS.cellL (i := 1) rfl rfl) | exact rd_load pl3 (hF.ev rfl) (hS.cellL (i := 2) rfl rfl) | exact rd_load pl3 (hF.ev rfl) (hS.cell (i := 0) rfl (by assumption)) | exact rd_load pl3 (hF.ev rfl) (hS.cell (i := 1) rfl (by assumption)) | exact rd_load pl3 (hF.ev rfl) (hS.cell (i := 2) rfl (by assumption)) | exact rd_load pl3 (hF.ev rfl) (row_at (i := 0) hS rfl (by first | assumption | rfl)) | exact rd_load pl3 (hF.ev rfl) (row_at0 (i := 0) hS rfl (by first | assumption | rfl)) | exact rd_load pl3 (hF.ev rfl) (row_at (i := 1) hS rfl (by first | assumption | rfl)) | exact rd_load pl3 (hF.ev rfl) (row_at0 (i := 1) hS rfl (by first | assumption | rfl)) | exact rd_load pl3 (hF.ev rfl) (row_at (i := 2) hS rfl (by first | assumption | rfl)) | exact rd_load pl3 (hF.ev rfl) (row_at0 (i := 2) hS rfl (by first | assumption | rfl)))) ?_; clear hF; intro a hF
                            refine d_pu hD hF rfl rfl rfl rfl rfl (pu_lss (hF.ev rfl) (hF.ev rfl)) ?_; clear hF; intro a hF
                            refine d_pu hD hF rfl rfl rfl rfl rfl ((by first | exact pu_pick_t (hF.ev rfl) (hF.ev rfl) | exact pu_pick_f (hF.ev rfl) (hF.ev rfl) | exact pu_pick (hF.ev rfl) (hF.ev rfl) (hF.ev rfl))) ?_; clear hF; intro a hF
                            refine d_pu hD hF rfl rfl rfl rfl rfl (pu_move (hF.ev rfl)) ?_; clear hF; intro a hF
                            refine fr_split hF (t := 183) rfl ?_ ?_
                            · clear hF; intro hg183 hF   -- slot 183 true
                              try simp only [decide_eq_true_eq, decide_eq_false_iff_not, Bool.not_eq_true', Bool.not_eq_false', Int.not_lt, Int.not_le, ne_eq, Decidable.not_not, Bool.or_eq_true, Bool.or_eq_false_iff, Bool.and_eq_true, Bool.and_eq_false_imp] at hg183
                              have := e1 hki (by omega)
                              omega
                            · clear hF; intro hg183 hF   -- slot 183 false
                              try simp only [decide_eq_true_eq, decide_eq_false_iff_not, Bool.not_eq_true', Bool.not_eq_false', Int.not_lt, Int.not_le, ne_eq, Decidable.not_not, Bool.or_eq_true, Bool.or_eq_false_iff, Bool.and_eq_true, Bool.and_eq_false_imp] at hg183
                              refine d_pu hD hF rfl rfl rfl rfl rfl (pu_move (hF.ev rfl)) ?_; clear hF; intro a hF
                              refine d_pu hD hF rfl rfl rfl rfl rfl (pu_move (hF.ev rfl)) ?_; clear hF; intro a hF
                              refine d_pu hD hF rfl rfl rfl rfl rfl ((by first | exact pu_elem sl22 (hF.ev rfl) (hF.ev rfl) (by first | omega | simp) (by first | omega | (simp; done) | (simp; omega)) | exact pu_elemA sl22 (hF.ev rfl) (hF.ev rfl) (by omega) (by omega))) ?_; clear hF; intro a hF
                              refine d_rd hD hF rfl rfl rfl rfl rfl hS (fun w hS => (by first | exact rd_load pl3 (hF.ev rfl) (by assumption) | exact rd_load pl3 (hF.ev rfl) (hS.cellL (i := 0) rfl rfl) | exact rd_load pl3 (hF.ev rfl) (hS.cellL (i := 1) rfl rfl) | exact rd_load pl3 (hF.ev rfl) (hS.cellL (i := 2) rfl rfl) | exact rd_load pl3 (hF.ev rfl) (hS.cell (i := 0) rfl (by assumption)) | exact rd_load pl3 (hF.ev rfl) (hS.cell (i := 1) rfl (by assumption)) | exact rd_load pl3 (hF.ev rfl) (hS.cell (i := 2) rfl (by assumption)) | exact rd_load pl3 (hF.ev rfl) (row_at (i := 0) hS rfl (by first | assumption | rfl)) | exact rd_load pl3 (hF.ev rfl) (row_at0 (i := 0) hS rfl (by first | assumption | rfl)) | exact rd_load pl3 (hF.ev rfl) (row_at (i := 1) hS rfl (by first | assumption | rfl)) | exact rd_load pl3 (hF.ev rfl) (row_at0 (i := 1) hS rfl (by first | assumption | rfl)) | exact rd_load pl3 (hF.ev rfl) (row_at (i := 2) hS rfl (by first | assumption | rfl)) | exact rd_load pl3 (hF.ev rfl) (row_at0 (i := 2) hS rfl (by first | assumption | rfl)))) ?_; clear hF; intro a hF
                              refine d_pu hD hF rfl rfl rfl rfl rfl (pu_move (hF.ev rfl)) ?_; clear hF; intro a hF
                              refine d_pu hD hF rfl rfl rfl rfl rfl (pu_move (hF.ev rfl)) ?_; clear hF; intro a hF
                              refine d_pu hD hF rfl rfl rfl rfl rfl ((by first | exact pu_elem sl22 (hF.ev rfl) (hF.ev rfl) (by first | omega | simp) (by first | omega | (simp; done) | (simp; omega)) | exact pu_elemA sl22 (hF.ev rfl) (hF.ev rfl) (by omega) (by omega))) ?_; clear hF; intro a hF
                              refine d_rd hD hF rfl rfl rfl rfl rfl hS (fun w hS => (by first | exact rd_load pl3 (hF.ev rfl) (by assumption) | exact rd_load pl3 (hF.ev rfl) (hS.cellL (i := 0) rfl rfl) | exact rd_load pl3 (hF.ev rfl) (hS.cellL (i := 1) rfl rfl) | exact rd_load pl3 (hF.ev rfl) (hS.cellL (i := 2) rfl rfl) | exact rd_load pl3 (hF.ev rfl) (hS.cell (i := 0) rfl (by assumption)) | exact rd_load pl3 (hF.ev rfl) (hS.cell (i := 1) rfl (by assumption)) | exact rd_load pl3 (hF.ev rfl) (hS.cell (i := 2) rfl (by assumption)) | exact rd_load pl3 (hF.ev rfl) (row_at (i := 0) hS rfl (by first | assumption | rfl)) | exact rd_load pl3 (hF.ev rfl) (row_at0 (i := 0) hS rfl (by first | assumption | rfl)) | exact rd_load pl3 (hF.ev rfl) (row_at (i := 1) hS rfl (by first | assumption | rfl)) | exact rd_load pl3 (hF.ev rfl) (row_at0 (i := 1) hS rfl (by first | assumption | rfl)) | exact rd_load pl3 (hF.ev rfl) (row_at (i := 2) hS rfl (by first | assumption | rfl)) | exact rd_load pl3 (hF.ev rfl) (row_at0 (i := 2) hS rfl (by first | assumption | rfl)))) ?_; clear hF; intro a hF
                              refine d_pu hD hF rfl rfl rfl rfl rfl (pu_gtr (hF.ev rfl) (hF.ev rfl)) ?_; clear hF; intro a hF
                              refine d_pu hD hF rfl rfl rfl rfl rfl (pu_move (hF.ev rfl)) ?_; clear hF; intro a hF
                              refine fr_split hF (t := 193) rfl ?_ ?_
                              · clear hF; intro hg193 hF   -- slot 193 true
                                try simp only [decide_eq_true_eq, decide_eq_false_iff_not, Bool.not_eq_true', Bool.not_eq_false', Int.not_lt, Int.not_le, ne_eq, Decidable.not_not, Bool.or_eq_true, Bool.or_eq_false_iff, Bool.and_eq_true, Bool.and_eq_false_imp] at hg193
                                refine d_pu hD hF rfl rfl rfl rfl rfl (pu_move (hF.ev rfl)) ?_; clear hF; intro a hF
                                refine d_pu hD hF rfl rfl rfl rfl rfl (pu_move (hF.ev rfl)) ?_; clear hF; intro a hF
                                refine d_pu hD hF rfl rfl rfl rfl rfl ((by first | exact pu_elem sl22 (hF.ev rfl) (hF.ev rfl) (by first | omega | simp) (by first | omega | (simp; done) | (simp; omega)) | exact pu_elemA sl22 (hF.ev rfl) (hF.ev rfl) (by omega) (by omega))) ?_; clear hF; intro a hF
                                refine d_rd hD hF rfl rfl rfl rfl rfl hS (fun w hS => (by first | exact rd_load pl3 (hF.ev rfl) (by assumption) | exact rd_load pl3 (hF.ev rfl) (hS.cellL (i := 0) rfl rfl) | exact rd_load pl3 (hF.ev rfl) (hS.cellL (i := 1) rfl rfl) | exact rd_load pl3 (hF.ev rfl) (hS.cellL (i := 2) rfl rfl) | exact rd_load pl3 (hF.ev rfl) (hS.cell (i := 0) rfl (by assumption)) | exact rd_load pl3 (hF.ev rfl) (hS.cell (i := 1) rfl (by assumption)) | exact rd_load pl3 (hF.ev rfl) (hS.cell (i := 2) rfl (by assumption)) | exact rd_load pl3 (hF.ev rfl) (row_at (i := 0) hS rfl (by first | assumption | rfl)) | exact rd_load pl3 (hF.ev rfl) (row_at0 (i := 0) hS rfl (by first | assumption | rfl)) | exact rd_load pl3 (hF.ev rfl) (row_at (i := 1) hS rfl (by first | assumption | rfl)) | exact rd_load pl3 (hF.ev rfl) (row_at0 (i := 1) hS rfl (by first | assumption | rfl)) | exact rd_load pl3 (hF.ev rfl) (row_at (i := 2) hS rfl (by first | assumption | rfl)) | exact rd_load pl3 (hF.ev rfl) (row_at0 (i := 2) hS rfl (by first | assumption | rfl)))) ?_; clear hF; intro a hF
                                refine d_pu hD hF rfl rfl rfl rfl rfl (pu_move (hF.ev rfl)) ?_; clear hF; intro a hF
                                refine d_pu hD hF rfl rfl rfl rfl rfl (pu_move (hF.ev rfl)) ?_; clear hF; intro a hF
                                refine d_pu hD hF rfl rfl rfl rfl rfl ((by first | exact pu_elem sl22 (hF.ev rfl) (hF.ev rfl) (by first | omega | simp) (by first | omega | (simp; done) | (simp; omega)) | exact pu_elemA sl22 (hF.ev rfl) (hF.ev rfl) (by omega) (by omega))) ?_; clear hF; intro a hF
                                refine d_rd hD hF rfl rfl rfl rfl rfl hS (fun w hS => (by first | exact rd_load pl3 (hF.ev rfl) (by assumption) | exact rd_load pl3 (hF.ev rfl) (hS.cellL (i := 0) rfl rfl) | exact rd_load pl3 (hF.ev rfl) (hS.cellL (i := 1) rfl rfl) | exact rd_load pl3 (hF.ev rfl) (hS.cellL (i := 2) rfl rfl) | exact rd_load pl3 (hF.ev rfl) (hS.cell (i := 0) rfl (by assumption)) | exact rd_load pl3 (hF.ev rfl) (hS.cell (i := 1) rfl (by assumption)) | exact rd_load pl3 (hF.ev rfl) (hS.cell (i := 2) rfl (by assumption)) | exact rd_load pl3 (hF.ev rfl) (row_at (i := 0) hS rfl (by first | assumption | rfl)) | exact rd_load pl3 (hF.ev rfl) (row_at0 (i := 0) hS rfl (by first | assumption | rfl)) | exact rd_load pl3 (hF.ev rfl) (row_at (i := 1) hS rfl (by first | assumption | rfl)) | exact rd_load pl3 (hF.ev rfl) (row_at0 (i := 1) hS rfl (by first | assumption | rfl)) | exact rd_load pl3 (hF.ev rfl) (row_at (i := 2) hS rfl (by first | assumption | rfl)) | exact rd_load pl3 (hF.ev rfl) (row_at0 (i := 2) hS rfl (by first | assumption | rfl)))) ?_; clear hF; intro a hF
                                refine d_pu hD hF rfl rfl rfl rfl rfl (pu_lss (hF.ev rfl) (hF.ev rfl)) ?_; clear hF; intro a hF
                                refine d_pu hD hF rfl rfl rfl rfl rfl ((by first | exact pu_pick_t (hF.ev rfl) (hF.ev rfl) | exact pu_pick_f (hF.ev rfl) (hF.ev rfl) | exact pu_pick (hF.ev rfl) (hF.ev rfl) (hF.ev rfl))) ?_; clear hF; intro a hF
                                refine d_pu hD hF rfl rfl rfl rfl rfl ((by first | exact pu_pick_t (hF.ev rfl) (hF.ev rfl) | exact pu_pick_f (hF.ev rfl) (hF.ev rfl) | exact pu_pick (hF.ev rfl) (hF.ev rfl) (hF.ev rfl))) ?_; clear hF; intro a hF
                                refine d_done hD rfl ?_; clear hD
                                refine hK24 _ _ ?_; clear hK24
                                refine wp_cond_split (hF.ev rfl) (fun hc7 => ?_) (fun hc7 => ?_)
                                · -- cond 7 true
                                  try simp only [decide_eq_true_eq, decide_eq_false_iff_not, Bool.not_eq_true', Bool.not_eq_false', Int.not_lt, Int.not_le, ne_eq, Decidable.not_not, Bool.or_eq_true, Bool.or_eq_false_iff, Bool.and_eq_true, Bool.and_eq_false_imp] at hc7
                                  have := e2 (by omega)
                                  omega
                                · -- cond 7 false
                                  try simp only [decide_eq_true_eq, decide_eq_false_iff_not, Bool.not_eq_true', Bool.not_eq_false', Int.not_lt, Int.not_le, ne_eq, Decidable.not_not, Bool.or_eq_true, Bool.or_eq_false_iff, Bool.and_eq_true, Bool.and_eq_false_imp] at hc7
                                  refine wp_skip ?_
                                  refine blk_normal ?_
                                  refine hK23 _ _ ?_; clear hK23
                                  -- region 25
                                  refine wp_region_lit ?_
                                  refine s_pu hF rfl rfl rfl (pu_move (hF.ev rfl)) ?_; clear hF; intro a hF
                                  refine s_pu hF rfl rfl rfl ((by first | exact pu_add64 (hF.ev rfl) (hF.ev rfl) (by omega) | exact pu_add (hF.ev rfl) (hF.ev rfl))) ?_; clear hF; intro a hF
                                  refine s_pu hF rfl rfl rfl (pu_assign (hF.ev rfl)) ?_; clear hF; intro a hF
                                  refine s_done ?_
                                  exact ⟨_, by omega, k + 1, rfl, by omega, hF.sub ⟨rfl, rfl, rfl, rfl, rfl, rfl, rfl, trivial⟩, hS⟩
                              · clear hF; intro hg193 hF   -- slot 193 false
                                try simp only [decide_eq_true_eq, decide_eq_false_iff_not, Bool.not_eq_true', Bool.not_eq_false', Int.not_lt, Int.not_le, ne_eq, Decidable.not_not, Bool.or_eq_true, Bool.or_eq_false_iff, Bool.and_eq_true, Bool.and_eq_false_imp] at hg193
                                refine d_no hD hF rfl rfl rfl rfl rfl ?_; clear hF; intro a hF
                                refine d_no hD hF rfl rfl rfl rfl rfl ?_; clear hF; intro a hF
                                refine d_no hD hF rfl rfl rfl rfl rfl ?_; clear hF; intro a hF
                                refine d_nord hD hF rfl rfl rfl rfl rfl hS ?_; clear hF; intro a hF
                                refine d_no hD hF rfl rfl rfl rfl rfl ?_; clear hF; intro a hF
                                refine d_no hD hF rfl rfl rfl rfl rfl ?_; clear hF; intro a hF
                                refine d_no hD hF rfl rfl rfl rfl rfl ?_; clear hF; intro a hF
                                refine d_nord hD hF rfl rfl rfl rfl rfl hS ?_; clear hF; intro a hF
                                refine d_no hD hF rfl rfl rfl rfl rfl ?_; clear hF; intro a hF
                                refine d_pu hD hF rfl rfl rfl rfl rfl ((by first | exact pu_pick_t (hF.ev rfl) (hF.ev rfl) | exact pu_pick_f (hF.ev rfl) (hF.ev rfl) | exact pu_pick (hF.ev rfl) (hF.ev rfl) (hF.ev rfl))) ?_; clear hF; intro a hF
                                refine d_pu hD hF rfl rfl rfl rfl rfl ((by first | exact pu_pick_t (hF.ev rfl) (hF.ev rfl) | exact pu_pick_f (hF.ev rfl) (hF.ev rfl) | exact pu_pick (hF.ev rfl) (hF.ev rfl) (hF.ev rfl))) ?_; clear hF; intro a hF
                                refine d_done hD rfl ?_; clear hD
                                refine hK24 _ _ ?_; clear hK24
                                refine wp_cond_false (hF.ev rfl) ?_
                                refine wp_skip ?_
                                refine blk_normal ?_
                                refine hK23 _ _ ?_; clear hK23
                                -- region 25
                                refine wp_region_lit ?_
                                refine s_pu hF rfl rfl rfl (pu_move (hF.ev rfl)) ?_; clear hF; intro a hF
                                refine s_pu hF rfl rfl rfl ((by first | exact pu_add64 (hF.ev rfl) (hF.ev rfl) (by omega) | exact pu_add (hF.ev rfl) (hF.ev rfl))) ?_; clear hF; intro a hF
                                refine s_pu hF rfl rfl rfl (pu_assign (hF.ev rfl)) ?_; clear hF; intro a hF
                                refine s_done ?_
                                exact ⟨_, by omega, k + 1, rfl, by omega, hF.sub ⟨rfl, rfl, rfl, rfl, rfl, rfl, rfl, trivial⟩, hS⟩
                          · clear hF; intro hg172 hF   -- slot 172 false
                            try simp only [decide_eq_true_eq, decide_eq_false_iff_not, Bool.not_eq_true', Bool.not_eq_false', Int.not_lt, Int.not_le, ne_eq, Decidable.not_not, Bool.or_eq_true, Bool.or_eq_false_iff, Bool.and_eq_true, Bool.and_eq_false_imp] at hg172
                            refine d_no hD hF rfl rfl rfl rfl rfl ?_; clear hF; intro a hF
                            refine d_no hD hF rfl rfl rfl rfl rfl ?_; clear hF; intro a hF
                            refine d_no hD hF rfl rfl rfl rfl rfl ?_; clear hF; intro a hF
                            refine d_nord hD hF rfl rfl rfl rfl rfl hS ?_; clear hF; intro a hF
                            refine d_no hD hF rfl rfl rfl rfl rfl ?_; clear hF; intro a hF
                            refine d_no hD hF rfl rfl rfl rfl rfl ?_; clear hF; intro a hF
                            refine d_no hD hF rfl rfl rfl rfl rfl ?_; clear hF; intro a hF
                            refine d_nord hD hF rfl rfl rfl rfl rfl hS ?_; clear hF; intro a hF
                            refine d_no hD hF rfl rfl rfl rfl rfl ?_; clear hF; intro a hF
                            refine d_pu hD hF rfl rfl rfl rfl rfl ((by first | exact pu_pick_t (hF.ev rfl) (hF.ev rfl) | exact pu_pick_f (hF.ev rfl) (hF.ev rfl) | exact pu_pick (hF.ev rfl) (hF.ev rfl) (hF.ev rfl))) ?_; clear hF; intro a hF
                            refine d_pu hD hF rfl rfl rfl rfl rfl (pu_move (hF.ev rfl)) ?_; clear hF; intro a hF
                            refine d_pu hD hF rfl rfl rfl rfl rfl (pu_move (hF.ev rfl)) ?_; clear hF; intro a hF
                            refine d_pu hD hF rfl rfl rfl rfl rfl (pu_move (hF.ev rfl)) ?_; clear hF; intro a hF
                            refine d_pu hD hF rfl rfl rfl rfl rfl ((by first | exact pu_elem sl22 (hF.ev rfl) (hF.ev rfl) (by first | omega | simp) (by first | omega | (simp; done) | (simp; omega)) | exact pu_elemA sl22 (hF.ev rfl) (hF.ev rfl) (by omega) (by omega))) ?_; clear hF; intro a hF
                            refine d_rd hD hF rfl rfl rfl rfl rfl hS (fun w hS => (by first | exact rd_load pl3 (hF.ev rfl) (by assumption) | exact rd_load pl3 (hF.ev rfl) (hS.cellL (i := 0) rfl rfl) | exact rd_load pl3 (hF.ev rfl) (hS.cellL (i := 1) rfl rfl) | exact rd_load pl3 (hF.ev rfl) (hS.cellL (i := 2) rfl rfl) | exact rd_load pl3 (hF.ev rfl) (hS.cell (i := 0) rfl (by assumption)) | exact rd_load pl3 (hF.ev rfl) (hS.cell (i := 1) rfl (by assumption)) | exact rd_load pl3 (hF.ev rfl) (hS.cell (i := 2) rfl (by assumption)) | exact rd_load pl3 (hF.ev rfl) (row_at (i := 0) hS rfl (by first | assumption | rfl)) | exact rd_load pl3 (hF.ev rfl) (row_at0 (i := 0) hS rfl (by first | assumption | rfl)) | exact rd_load pl3 (hF.ev rfl) (row_at (i := 1) hS rfl (by first | assumption | rfl)) | exact rd_load pl3 (hF.ev rfl) (row_at0 (i := 1) hS rfl (by first | assumption | rfl)) | exact rd_load pl3 (hF.ev rfl) (row_at (i := 2) hS rfl (by first | assumption | rfl)) | exact rd_load pl3 (hF.ev rfl) (row_at0 (i := 2) hS rfl (by first | assumption | rfl)))) ?_; clear hF; intro a hF
                            refine d_pu hD hF rfl rfl rfl rfl rfl (pu_move (hF.ev rfl)) ?_; clear hF; intro a hF
                            refine d_pu hD hF rfl rfl rfl rfl rfl (pu_move (hF.ev rfl)) ?_; clear hF; intro a hF
                            refine d_pu hD hF rfl rfl rfl rfl rfl ((by first | exact pu_elem sl22 (hF.ev rfl) (hF.ev rfl) (by first | omega | simp) (by first | omega | (simp; done) | (simp; omega)) | exact pu_elemA sl22 (hF.ev rfl) (hF.ev rfl) (by omega) (by omega))) ?_; clear hF; intro a hF
                            refine d_rd hD hF rfl rfl rfl rfl rfl hS (fun w hS => (by first | exact rd_load pl3 (hF.ev rfl) (by assumption) | exact rd_load pl3 (hF.ev rfl) (hS.cellL (i := 0) rfl rfl) | exact rd_load pl3 (hF.ev rfl) (hS.cellL (i := 1) rfl rfl) | exact rd_load pl3 (hF.ev rfl) (hS.cellL (i := 2) rfl rfl) | exact rd_load pl3 (hF.ev rfl) (hS.cell (i := 0) rfl (by assumption)) | exact rd_load pl3 (hF.ev rfl) (hS.cell (i := 1) rfl (by assumption)) | exact rd_load pl3 (hF.ev rfl) (hS.cell (i := 2) rfl (by assumption)) | exact rd_load pl3 (hF.ev rfl) (row_at (i := 0) hS rfl (by first | assumption | rfl)) | exact rd_load pl3 (hF.ev rfl) (row_at0 (i := 0) hS rfl (by first | assumption | rfl)) | exact rd_load pl3 (hF.ev rfl) (row_at (i := 1) hS rfl (by first | assumption | rfl)) | exact rd_load pl3 (hF.ev rfl) (row_at0 (i := 1) hS rfl (by first | assumption | rfl)) | exact rd_load pl3 (hF.ev rfl) (row_at (i := 2) hS rfl (by first | assumption | rfl)) | exact rd_load pl3 (hF.ev rfl) (row_at0 (i := 2) hS rfl (by first | assumption | rfl)))) ?_; clear hF; intro a hF
                            refine d_pu hD hF rfl rfl rfl rfl rfl (pu_gtr (hF.ev rfl) (hF.ev rfl)) ?_; clear hF; intro a hF
                            refine d_pu hD hF rfl rfl rfl rfl rfl (pu_move (hF.ev rfl)) ?_; clear hF; intro a hF
                            refine fr_split hF (t := 193) rfl ?_ ?_
                            · clear hF; intro hg193 hF   -- slot 193 true
                              try simp only [decide_eq_true_eq, decide_eq_false_iff_not, Bool.not_eq_true', Bool.not_eq_false', Int.not_lt, Int.not_le, ne_eq, Decidable.not_not, Bool.or_eq_true, Bool.or_eq_false_iff, Bool.and_eq_true, Bool.and_eq_false_imp] at hg193
                              refine d_pu hD hF rfl rfl rfl rfl rfl (pu_move (hF.ev rfl)) ?_; clear hF; intro a hF
                              refine d_pu hD hF rfl rfl rfl rfl rfl (pu_move (hF.ev rfl)) ?_; clear hF; intro a hF
                              refine d_pu hD hF rfl rfl rfl rfl rfl ((by first | exact pu_elem sl22 (hF.ev rfl) (hF.ev rfl) (by first | omega | simp) (by first | omega | (simp; done) | (simp; omega)) | exact pu_elemA sl22 (hF.ev rfl) (hF.ev rfl) (by omega) (by omega))) ?_; clear hF; intro a hF
                              refine d_rd hD hF rfl rfl rfl rfl rfl hS (fun w hS => (by first | exact rd_load pl3 (hF.ev rfl) (by assumption) | exact rd_load pl3 (hF.ev rfl) (hS.cellL (i := 0) rfl rfl) | exact rd_load pl3 (hF.ev rfl) (hS.cellL (i := 1) rfl rfl) | exact rd_load pl3 (hF.ev rfl) (hS.cellL (i := 2) rfl rfl) | exact rd_load pl3 (hF.ev rfl) (hS.cell (i := 0) rfl (by assumption)) | exact rd_load pl3 (hF.ev rfl) (hS.cell (i := 1) rfl (by assumption)) | exact rd_load pl3 (hF.ev rfl) (hS.cell (i := 2) rfl (by assumption)) | exact rd_load pl3 (hF.ev rfl) (row_at (i := 0) hS rfl (by first | assumption | rfl)) | exact rd_load pl3 (hF.ev rfl) (row_at0 (i := 0) hS rfl (by first | assumption | rfl)) | exact rd_load pl3 (hF.ev rfl) (row_at (i := 1) hS rfl (by first | assumption | rfl)) | exact rd_load pl3 (hF.ev rfl) (row_at0 (i := 1) hS rfl (by first | assumption | rfl)) | exact rd_load pl3 (hF.ev rfl) (row_at (i := 2) hS rfl (by first | assumption | rfl)) | exact rd_load pl3 (hF.ev rfl) (row_at0 (i := 2) hS rfl (by first | assumption | rfl)))) ?_; clear hF; intro a hF
                              refine d_pu hD hF rfl rfl rfl rfl rfl (pu_move (hF.ev rfl)) ?_; clear hF; intro a hF
                              refine d_pu hD hF rfl rfl rfl rfl rfl (pu_move (hF.ev rfl)) ?_; clear hF; intro a hF
                              refine d_pu hD hF rfl rfl rfl rfl rfl ((by first | exact pu_elem sl22 (hF.ev rfl) (hF.ev rfl) (by first | omega | simp) (by first | omega | (simp; done) | (simp; omega)) | exact pu_elemA sl22 (hF.ev rfl) (hF.ev rfl) (by omega) (by omega))) ?_; clear hF; intro a hF
                              refine d_rd hD hF rfl rfl rfl rfl rfl hS (fun w hS => (by first | exact rd_load pl3 (hF.ev rfl) (by assumption) | exact rd_load pl3 (hF.ev rfl) (hS.cellL (i := 0) rfl rfl) | exact rd_load pl3 (hF.ev rfl) (hS.cellL (i := 1) rfl rfl) | exact rd_load pl3 (hF.ev rfl) (hS.cellL (i := 2) rfl rfl) | exact rd_load pl3 (hF.ev rfl) (hS.cell (i := 0) rfl (by assumption)) | exact rd_load pl3 (hF.ev rfl) (hS.cell (i := 1) rfl (by assumption)) | exact rd_load pl3 (hF.ev rfl) (hS.cell (i := 2) rfl (by assumption)) | exact rd_load pl3 (hF.ev rfl) (row_at (i := 0) hS rfl (by first | assumption | rfl)) | exact rd_load pl3 (hF.ev rfl) (row_at0 (i := 0) hS rfl (by first | assumption | rfl)) | exact rd_load pl3 (hF.ev rfl) (row_at (i := 1) hS rfl (by first | assumption | rfl)) | exact rd_load pl3 (hF.ev rfl) (row_at0 (i := 1) hS rfl (by first | assumption | rfl)) | exact rd_load pl3 (hF.ev rfl) (row_at (i := 2) hS rfl (by first | assumption | rfl)) | exact rd_load pl3 (hF.ev rfl) (row_at0 (i := 2) hS rfl (by first | assumption | rfl)))) ?_; clear hF; intro a hF
                              refine d_pu hD hF rfl rfl rfl rfl rfl (pu_lss (hF.ev rfl) (hF.ev rfl)) ?_; clear hF; intro a hF
                              refine d_pu hD hF rfl rfl rfl rfl rfl ((by first | exact pu_pick_t (hF.ev rfl) (hF.ev rfl) | exact pu_pick_f (hF.ev rfl) (hF.ev rfl) | exact pu_pick (hF.ev rfl) (hF.ev rfl) (hF.ev rfl))) ?_; clear hF; intro a hF
                              refine d_pu hD hF rfl rfl rfl rfl rfl ((by first | exact pu_pick_t (hF.ev rfl) (hF.ev rfl) | exact pu_pick_f (hF.ev rfl) (hF.ev rfl) | exact pu_pick (hF.ev rfl) (hF.ev rfl) (hF.ev rfl))) ?_; clear hF; intro a hF
                              refine d_done hD rfl ?_; clear hD
                              refine hK24 _ _ ?_; clear hK24
                              refine wp_cond_split (hF.ev rfl) (fun hc7 => ?_) (fun hc7 => ?_)
                              · -- cond 7 true
                                try simp only [decide_eq_true_eq, decide_eq_false_iff_not, Bool.not_eq_true', Bool.not_eq_false', Int.not_lt, Int.not_le, ne_eq, Decidable.not_not, Bool.or_eq_true, Bool.or_eq_false_iff, Bool.and_eq_true, Bool.and_eq_false_imp] at hc7
                                have := e2 (by omega)
                                omega
                              · -- cond 7 false
                                try simp only [decide_eq_true_eq, decide_eq_false_iff_not, Bool.not_eq_true', Bool.not_eq_false', Int.not_lt, Int.not_le, ne_eq, Decidable.not_not, Bool.or_eq_true, Bool.or_eq_false_iff, Bool.and_eq_true, Bool.and_eq_false_imp] at hc7
                                refine wp_skip ?_
                                refine blk_normal ?_
                                refine hK23 _ _ ?_; clear hK23
                                -- region 25
                                refine wp_region_lit ?_
                                refine s_pu hF rfl rfl rfl (pu_move (hF.ev rfl)) ?_; clear hF; intro a hF
                                refine s_pu hF rfl rfl rfl ((by first | exact pu_add64 (hF.ev rfl) (hF.ev rfl) (by omega) | exact pu_add (hF.ev rfl) (hF.ev rfl))) ?_; clear hF; intro a hF
                                refine s_pu hF rfl rfl rfl (pu_assign (hF.ev rfl)) ?_; clear hF; intro a hF
                                refine s_done ?_
                                exact ⟨_, by omega, k + 1, rfl, by omega, hF.sub ⟨rfl, rfl, rfl, rfl, rfl, rfl, rfl, trivial⟩, hS⟩
                            · clear hF; intro hg193 hF   -- slot 193 false
                              try simp only [decide_eq_true_eq, decide_eq_false_iff_not, Bool.not_eq_true', Bool.not_eq_false', Int.not_lt, Int.not_le, ne_eq, Decidable.not_not, Bool.or_eq_true, Bool.or_eq_false_iff, Bool.and_eq_true, Bool.and_eq_false_imp] at hg193
                              refine d_no hD hF rfl rfl rfl rfl rfl ?_; clear hF; intro a hF
                              refine d_no hD hF rfl rfl rfl rfl rfl ?_; clear hF; intro a hF
                              refine d_no hD hF rfl rfl rfl rfl rfl ?_; clear hF; intro a hF
                              refine d_nord hD hF rfl rfl rfl rfl rfl hS ?_; clear hF; intro a hF
                              refine d_no hD hF rfl rfl rfl rfl rfl ?_; clear hF; intro a hF
                              refine d_no hD hF rfl rfl rfl rfl rfl ?_; clear hF; intro a hF
                              refine d_no hD hF rfl rfl rfl rfl rfl ?_; clear hF; intro a hF
                              refine d_nord hD hF rfl rfl rfl rfl rfl hS ?_; clear hF; intro a hF
                              refine d_no hD hF rfl rfl rfl rfl rfl ?_; clear hF; intro a hF
                              refine d_pu hD hF rfl rfl rfl rfl rfl ((by first | exact pu_pick_t (hF.ev rfl) (hF.ev rfl) | exact pu_pick_f (hF.ev rfl) (hF.ev rfl) | exact pu_pick (hF.ev rfl) (hF.ev rfl) (hF.ev rfl))) ?_; clear hF; intro a hF
                              refine d_pu hD hF rfl rfl rfl rfl rfl ((by first | exact pu_pick_t (hF.ev rfl) (hF.ev rfl) | exact pu_pick_f (hF.ev rfl) (hF.ev rfl) | exact pu_pick (hF.ev rfl) (hF.ev rfl) (hF.ev rfl))) ?_; clear hF; intro a hF
                              refine d_done hD rfl ?_; clear hD
                              refine hK24 _ _ ?_; clear hK24
                              refine wp_cond_false (hF.ev rfl) ?_
                              refine wp_skip ?_
                              refine blk_normal ?_
                              refine hK23 _ _ ?_; clear hK23
                              -- region 25
                              refine wp_region_lit ?_
                              refine s_pu hF rfl rfl rfl (pu_move (hF.ev rfl)) ?_; clear hF; intro a hF
                              refine s_pu hF rfl rfl rfl ((by first | exact pu_add64 (hF.ev rfl) (hF.ev rfl) (by omega) | exact pu_add (hF.ev rfl) (hF.ev rfl))) ?_; clear hF; intro a hF
                              refine s_pu hF rfl rfl rfl (pu_assign (hF.ev rfl)) ?_; clear hF; intro a hF
                              refine s_done ?_
                              exact ⟨_, by omega, k + 1, rfl, by omega, hF.sub ⟨rfl, rfl, rfl, rfl, rfl, rfl, rfl, trivial⟩, hS⟩
                        · -- cond 6 false
                          try simp only [decide_eq_true_eq, decide_eq_false_iff_not, Bool.not_eq_true', Bool.not_eq_false', Int.not_lt, Int.not_le, ne_eq, Decidable.not_not, Bool.or_eq_true, Bool.or_eq_false_iff, Bool.and_eq_true, Bool.and_eq_false_imp] at hc6
                          refine wp_exit ?_
                          refine then_exit ?_
                          refine then_exit ?_
                          refine blk_exit ?_
                          refine blk_normal ?_
                          refine hK14 _ _ ?_; clear hK14
                          -- region 17
                          refine wp_region_lit ?_
                          refine s_pu hF rfl rfl rfl (pu_move (hF.ev rfl)) ?_; clear hF; intro a hF
                          refine s_pu hF rfl rfl rfl ((by first | exact pu_add64 (hF.ev rfl) (hF.ev rfl) (by omega) | exact pu_add (hF.ev rfl) (hF.ev rfl))) ?_; clear hF; intro a hF
                          refine s_pu hF rfl rfl rfl (pu_assign (hF.ev rfl)) ?_; clear hF; intro a hF
                          refine s_done ?_
                          exact ⟨_, by omega, i + 1, rfl, by omega, hF.sub ⟨rfl, rfl, rfl, rfl, rfl, rfl, trivial⟩, hS⟩
          · -- cond 3 false
            try simp only [decide_eq_true_eq, decide_eq_false_iff_not, Bool.not_eq_true', Bool.not_eq_false', Int.not_lt, Int.not_le, ne_eq, Decidable.not_not, Bool.or_eq_true, Bool.or_eq_false_iff, Bool.and_eq_true, Bool.and_eq_false_imp] at hc3
            refine wp_exit ?_
            refine then_exit ?_
            refine then_exit ?_
            refine blk_exit ?_
            refine hK10 _ _ ?_; clear hK10
            refine wp_seq_k fun K14 hK14 => ?_
            -- region 28
            refine wp_region_lit ?_
            refine s_pu hF rfl rfl rfl (pu_move (hF.ev rfl)) ?_; clear hF; intro a hF
            refine s_pu hF rfl rfl rfl (pu_move (hF.ev rfl)) ?_; clear hF; intro a hF
            refine s_pu hF rfl rfl rfl (pu_eql (hF.ev rfl) (hF.ev rfl)) ?_; clear hF; intro a hF
            refine s_pu hF rfl rfl rfl (pu_assign (hF.ev rfl)) ?_; clear hF; intro a hF
            refine s_done ?_
            refine hK14 _ _ ?_; clear hK14
            refine wp_ret ?_
            refine fin1 Try.results5 hF rfl ?_
            have hil : i = ls.length := by omega
            subst hil
            rw [List.take_of_length_le (by omega), hf.sum]
            exact ⟨by simp, (hS.front 2 rfl).below⟩
    · -- bad
      -- region 9
      refine wp_region_lit ?_
      refine s_pu hF rfl rfl rfl (pu_move (hF.ev rfl)) ?_; clear hF; intro a hF
      refine s_pu hF rfl rfl rfl (pu_move (hF.ev rfl)) ?_; clear hF; intro a hF
      refine s_en hF rfl rfl rfl (run_fn fk13 (hF.ev rfl) (hF.evs rfl)) (share_bad (u := pu) hS (reads_row (i := 0) rfl hA) (by omega) (by rw [hse, if_neg (fun k => k ht0)]; decide)) ?_
      clear hS; rintro e w ⟨rfl, hS⟩
      rw [hse, if_neg (fun k => k ht0)]
      refine ⟨_, rfl, ?_⟩; clear hF; intro a hF
      refine s_pu hF rfl rfl rfl (pu_move (hF.ev rfl)) ?_; clear hF; intro a hF
      refine s_pu hF rfl rfl rfl (pu_extract (hF.ev rfl) rfl) ?_; clear hF; intro a hF
      refine s_pu hF rfl rfl rfl (pu_extract (hF.ev rfl) rfl) ?_; clear hF; intro a hF
      refine s_pu hF rfl rfl rfl (pu_assign (hF.ev rfl)) ?_; clear hF; intro a hF
      refine s_pu hF rfl rfl rfl (pu_assign (hF.ev rfl)) ?_; clear hF; intro a hF
      refine s_done ?_
      refine hK4 _ _ ?_; clear hK4
      refine wp_seq_k fun K5 hK5 => ?_
      refine wp_seq_k fun K6 hK6 => ?_
      -- region 10
      refine wp_region_lit ?_
      refine s_pu hF rfl rfl rfl (pu_move (hF.ev rfl)) ?_; clear hF; intro a hF
      refine s_pu hF rfl rfl rfl (pu_eql (hF.ev rfl) (hF.ev rfl)) ?_; clear hF; intro a hF
      refine s_done ?_
      refine hK6 _ _ ?_; clear hK6
      refine wp_cond_split (hF.ev rfl) (fun hc1 => ?_) (fun hc1 => ?_)
      · -- cond 1 true
        try simp only [decide_eq_true_eq, decide_eq_false_iff_not, Bool.not_eq_true', Bool.not_eq_false', Int.not_lt, Int.not_le, ne_eq, Decidable.not_not, Bool.or_eq_true, Bool.or_eq_false_iff, Bool.and_eq_true, Bool.and_eq_false_imp] at hc1
        refine wp_seq_k fun K7 hK7 => ?_
        -- region 11
        refine wp_region_lit ?_
        refine s_pu hF rfl rfl rfl (pu_move (hF.ev rfl)) ?_; clear hF; intro a hF
        refine s_pu hF rfl rfl rfl (pu_eql (hF.ev rfl) (hF.ev rfl)) ?_; clear hF; intro a hF
        refine s_pu hF rfl rfl rfl (pu_move (hF.ev rfl)) ?_; clear hF; intro a hF
        refine s_pu hF rfl rfl rfl (pu_move (hF.ev rfl)) ?_; clear hF; intro a hF
        refine s_pu hF rfl rfl rfl (pu_len sl22 (hF.ev rfl)) ?_; clear hF; intro a hF
        refine s_pu hF rfl rfl rfl (pu_eql (hF.ev rfl) (hF.ev rfl)) ?_; clear hF; intro a hF
        refine s_pu hF rfl rfl rfl ((by first | exact pu_pick_t (hF.ev rfl) (hF.ev rfl) | exact pu_pick_f (hF.ev rfl) (hF.ev rfl) | exact pu_pick (hF.ev rfl) (hF.ev rfl) (hF.ev rfl))) ?_; clear hF; intro a hF
        refine s_pu hF rfl rfl rfl (pu_assign (hF.ev rfl)) ?_; clear hF; intro a hF
        refine s_done ?_
        refine hK7 _ _ ?_; clear hK7
        refine wp_ret ?_
        refine then_ret ?_
        refine fin1 Try.results5 hF rfl ?_
        exact ⟨rfl, (hS.front 1 rfl).below⟩
      · -- cond 1 false
        try simp only [decide_eq_true_eq, decide_eq_false_iff_not, Bool.not_eq_true', Bool.not_eq_false', Int.not_lt, Int.not_le, ne_eq, Decidable.not_not, Bool.or_eq_true, Bool.or_eq_false_iff, Bool.and_eq_true, Bool.and_eq_false_imp] at hc1
        omega
end Go.Proofs.Ytommaijibiipeaa
