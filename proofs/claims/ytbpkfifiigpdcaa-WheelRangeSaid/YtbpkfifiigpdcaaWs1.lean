import Derived.Test.YtbpkfifiigpdcaaWh7
import Derived.Test.YtbpkfifiigpdcaaSk29
/-! The order of the wheel's All: cmp.Compare, cmp.Or, the closure. -/
namespace Go.Proofs.Ytbpkfifiigpdcaa
open Go Go.RowKit Go.Proofs.Ytbpkfifiigpdcaa.Sk
set_option linter.unusedVariables false
set_option linter.unusedSimpArgs false
set_option maxRecDepth 100000

def cmpI (x y : Int) : Int := if x < y then -1 else if y < x then 1 else 0
def orI (u v : Int) : Int := if u = 0 then v else u
theorem isnan_c {w0 w : World} {F : List Chunk} {x : Int} (hS : Sat w0 w F) : Calls Try.prog 57 #[.int .i64 x] w fun e w' => e = .returned (.bool false) ∧ Sat w0 w' F := by
  refine enter Try.func57 rfl Try.ntmps57 (Nat.le_of_ble_eq_true rfl) fun a hF => ?_
  refine wp_seq_k fun K0 hK0 => ?_
  refine wp_region_lit ?_
  refine s_pu hF rfl rfl rfl (pu_assign (hF.ev rfl)) ?_; clear hF; intro a hF
  refine s_done ?_
  refine hK0 _ _ ?_; clear hK0
  refine wp_seq_k fun K1 hK1 => ?_
  refine wp_region_lit ?_
  refine s_pu hF rfl rfl rfl (pu_move (hF.ev rfl)) ?_; clear hF; intro a hF
  refine s_pu hF rfl rfl rfl (pu_move (hF.ev rfl)) ?_; clear hF; intro a hF
  refine s_pu hF rfl rfl rfl (pu_neq (hF.ev rfl) (hF.ev rfl)) ?_; clear hF; intro a hF
  refine s_pu hF rfl rfl rfl (pu_assign (hF.ev rfl)) ?_; clear hF; intro a hF
  refine s_done ?_
  refine hK1 _ _ ?_; clear hK1
  refine wp_ret ?_
  refine fin1 Try.results57 hF rfl ?_
  exact ⟨by simp, hS⟩
theorem compare_c {w0 w : World} {F : List Chunk} {x y : Int} (hS : Sat w0 w F) : Calls Try.prog 48 #[.int .i64 x, .int .i64 y] w fun e w' => e = .returned (.int .i64 (cmpI x y)) ∧ Sat w0 w' F := by
  refine enter Try.func48 rfl Try.ntmps48 (Nat.le_of_ble_eq_true rfl) fun a hF => ?_
  refine wp_seq_k fun K0 hK0 => ?_
  refine wp_region_lit ?_
  refine s_pu hF rfl rfl rfl (pu_assign (hF.ev rfl)) ?_; clear hF; intro a hF
  refine s_done ?_
  refine hK0 _ _ ?_; clear hK0
  refine wp_seq_k fun K1 hK1 => ?_
  refine wp_region_lit ?_
  refine s_pu hF rfl rfl rfl (pu_move (hF.ev rfl)) ?_; clear hF; intro a hF
  refine s_en hF rfl rfl rfl (run_fn fk57 (hF.ev rfl) (hF.evs rfl)) (isnan_c hS) ?_
  clear hS; rintro e w ⟨rfl, hS⟩
  refine ⟨_, rfl, ?_⟩; clear hF; intro a hF
  refine s_pu hF rfl rfl rfl (pu_assign (hF.ev rfl)) ?_; clear hF; intro a hF
  refine s_done ?_
  refine hK1 _ _ ?_; clear hK1
  refine wp_seq_k fun K2 hK2 => ?_
  refine wp_region_lit ?_
  refine s_pu hF rfl rfl rfl (pu_move (hF.ev rfl)) ?_; clear hF; intro a hF
  refine s_en hF rfl rfl rfl (run_fn fk57 (hF.ev rfl) (hF.evs rfl)) (isnan_c hS) ?_
  clear hS; rintro e w ⟨rfl, hS⟩
  refine ⟨_, rfl, ?_⟩; clear hF; intro a hF
  refine s_pu hF rfl rfl rfl (pu_assign (hF.ev rfl)) ?_; clear hF; intro a hF
  refine s_done ?_
  refine hK2 _ _ ?_; clear hK2
  refine wp_seq_k fun K3 hK3 => ?_
  refine wp_seq_k fun K4 hK4 => ?_
  refine wp_region_lit ?_
  refine s_pu hF rfl rfl rfl (pu_move (hF.ev rfl)) ?_; clear hF; intro a hF
  refine s_done ?_
  refine hK4 _ _ ?_; clear hK4
  refine wp_cond_false (hF.ev rfl) ?_
  refine wp_skip ?_
  refine hK3 _ _ ?_; clear hK3
  refine wp_seq_k fun K5 hK5 => ?_
  refine wp_seq_k fun K6 hK6 => ?_
  refine wp_region_lit ?_
  refine s_pu hF rfl rfl rfl (pu_move (hF.ev rfl)) ?_; clear hF; intro a hF
  refine s_done ?_
  refine hK6 _ _ ?_; clear hK6
  refine wp_cond_false (hF.ev rfl) ?_
  refine wp_skip ?_
  refine hK5 _ _ ?_; clear hK5
  refine wp_seq_k fun K7 hK7 => ?_
  refine wp_seq_k fun K8 hK8 => ?_
  refine wp_region_lit ?_
  refine s_pu hF rfl rfl rfl (pu_move (hF.ev rfl)) ?_; clear hF; intro a hF
  refine s_pu hF rfl rfl rfl (pu_move (hF.ev rfl)) ?_; clear hF; intro a hF
  refine s_pu hF rfl rfl rfl (pu_lss (hF.ev rfl) (hF.ev rfl)) ?_; clear hF; intro a hF
  refine s_done ?_
  refine hK8 _ _ ?_; clear hK8
  refine wp_cond_split (hF.ev rfl) (fun hc3 => ?_) (fun hc3 => ?_)
  · -- cond 3 true
    try simp only [decide_eq_true_eq, decide_eq_false_iff_not, Bool.not_eq_true', Bool.not_eq_false', Int.not_lt, Int.not_le, ne_eq, Decidable.not_not, Bool.or_eq_true, Bool.or_eq_false_iff, Bool.and_eq_true, Bool.and_eq_false_imp] at hc3
    refine wp_seq_k fun K9 hK9 => ?_
    refine wp_region_lit ?_
    refine s_pu hF rfl rfl rfl (pu_assign (hF.ev rfl)) ?_; clear hF; intro a hF
    refine s_done ?_
    refine hK9 _ _ ?_; clear hK9
    refine wp_ret ?_
    refine then_ret ?_
    refine fin1 Try.results48 hF rfl ?_
    refine ⟨?_, hS⟩
    unfold cmpI
    first
      | rw [if_pos hc3]
      | rw [if_neg (by omega), if_pos hc4]
      | rw [if_neg (by omega), if_neg (by omega)]
  · -- cond 3 false
    try simp only [decide_eq_true_eq, decide_eq_false_iff_not, Bool.not_eq_true', Bool.not_eq_false', Int.not_lt, Int.not_le, ne_eq, Decidable.not_not, Bool.or_eq_true, Bool.or_eq_false_iff, Bool.and_eq_true, Bool.and_eq_false_imp] at hc3
    refine wp_skip ?_
    refine hK7 _ _ ?_; clear hK7
    refine wp_seq_k fun K9 hK9 => ?_
    refine wp_seq_k fun K10 hK10 => ?_
    refine wp_region_lit ?_
    refine s_pu hF rfl rfl rfl (pu_move (hF.ev rfl)) ?_; clear hF; intro a hF
    refine s_pu hF rfl rfl rfl (pu_move (hF.ev rfl)) ?_; clear hF; intro a hF
    refine s_pu hF rfl rfl rfl (pu_gtr (hF.ev rfl) (hF.ev rfl)) ?_; clear hF; intro a hF
    refine s_done ?_
    refine hK10 _ _ ?_; clear hK10
    refine wp_cond_split (hF.ev rfl) (fun hc4 => ?_) (fun hc4 => ?_)
    · -- cond 4 true
      try simp only [decide_eq_true_eq, decide_eq_false_iff_not, Bool.not_eq_true', Bool.not_eq_false', Int.not_lt, Int.not_le, ne_eq, Decidable.not_not, Bool.or_eq_true, Bool.or_eq_false_iff, Bool.and_eq_true, Bool.and_eq_false_imp] at hc4
      refine wp_seq_k fun K11 hK11 => ?_
      refine wp_region_lit ?_
      refine s_pu hF rfl rfl rfl (pu_assign (hF.ev rfl)) ?_; clear hF; intro a hF
      refine s_done ?_
      refine hK11 _ _ ?_; clear hK11
      refine wp_ret ?_
      refine then_ret ?_
      refine fin1 Try.results48 hF rfl ?_
      refine ⟨?_, hS⟩
      unfold cmpI
      first
        | rw [if_pos hc3]
        | rw [if_neg (by omega), if_pos hc4]
        | rw [if_neg (by omega), if_neg (by omega)]
    · -- cond 4 false
      try simp only [decide_eq_true_eq, decide_eq_false_iff_not, Bool.not_eq_true', Bool.not_eq_false', Int.not_lt, Int.not_le, ne_eq, Decidable.not_not, Bool.or_eq_true, Bool.or_eq_false_iff, Bool.and_eq_true, Bool.and_eq_false_imp] at hc4
      refine wp_skip ?_
      refine hK9 _ _ ?_; clear hK9
      refine wp_seq_k fun K11 hK11 => ?_
      refine wp_region_lit ?_
      refine s_pu hF rfl rfl rfl (pu_assign (hF.ev rfl)) ?_; clear hF; intro a hF
      refine s_done ?_
      refine hK11 _ _ ?_; clear hK11
      refine wp_ret ?_
      refine fin1 Try.results48 hF rfl ?_
      refine ⟨?_, hS⟩
      unfold cmpI
      first
        | rw [if_pos hc3]
        | rw [if_neg (by omega), if_pos hc4]
        | rw [if_neg (by omega), if_neg (by omega)]
theorem or_c {w0 w : World} {F : List Chunk} {b : Nat} {u v : Int} (hS : Sat w0 w (.obj b (.cells #[.int .i64 u, .int .i64 v] 3 (0, 0)) :: F)) : Calls Try.prog 47 #[.slice (some ⟨b, 0, none⟩) 2 2] w fun e w' => e = .returned (.int .i64 (orI u v)) ∧ Sat w0 w' (.obj b (.cells #[.int .i64 u, .int .i64 v] 3 (0, 0)) :: F) := by
  refine enter Try.func47 rfl Try.ntmps47 (Nat.le_of_ble_eq_true rfl) fun a hF => ?_
  refine wp_seq_k fun K0 hK0 => ?_
  refine wp_region_lit ?_
  refine s_pu hF rfl rfl rfl (pu_assign (hF.ev rfl)) ?_; clear hF; intro a hF
  refine s_done ?_
  refine hK0 _ _ ?_; clear hK0
  refine wp_seq_k fun K1 hK1 => ?_
  refine wp_region_lit ?_
  refine s_pu hF rfl rfl rfl (pu_assign (hF.ev rfl)) ?_; clear hF; intro a hF
  refine s_done ?_
  refine hK1 _ _ ?_; clear hK1
  refine wp_seq_k fun K2 hK2 => ?_
  refine wp_seq_k fun K3 hK3 => ?_
  refine wp_region_lit ?_
  refine s_pu hF rfl rfl rfl (pu_move (hF.ev rfl)) ?_; clear hF; intro a hF
  refine s_pu hF rfl rfl rfl (pu_len sl22 (hF.ev rfl)) ?_; clear hF; intro a hF
  refine s_pu hF rfl rfl rfl (pu_move (hF.ev rfl)) ?_; clear hF; intro a hF
  refine s_done ?_
  refine hK3 _ _ ?_; clear hK3
  refine wp_block ?_
  refine wp_ind (fun j a w => ∃ i : Nat, j = 2 - i ∧ i ≤ 2 ∧ (i = 1 → u = 0) ∧ (i = 2 → u = 0 ∧ v = 0) ∧ Fr a 18 [(3, .int .i64 0), (6, .slice (some ⟨b, 0, none⟩) 2 2), (7, .int .i64 2), (8, .int .i64 i)] ∧ Sat w0 w (.obj b (.cells #[.int .i64 u, .int .i64 v] 3 (0, 0)) :: F)) 2
    ⟨0, by omega, by omega, by omega, by omega, hF.sub ⟨rfl, rfl, rfl, rfl, trivial⟩, hS⟩ ?_
  clear hS hF
  rintro j a w ⟨i, rfl, hi, h1, h2, hF, hS⟩
  refine wp_seq_k fun K4 hK4 => ?_
  refine wp_region_lit ?_
  refine s_pu hF rfl rfl rfl (pu_lss (hF.ev rfl) (hF.ev rfl)) ?_; clear hF; intro a hF
  refine s_done ?_
  refine hK4 _ _ ?_; clear hK4
  refine wp_seq_k fun K5 hK5 => ?_
  refine wp_cond_split (hF.ev rfl) (fun hc0 => ?_) (fun hc0 => ?_)
  · -- cond 0 true
    try simp only [decide_eq_true_eq, decide_eq_false_iff_not, Bool.not_eq_true', Bool.not_eq_false', Int.not_lt, Int.not_le, ne_eq, Decidable.not_not, Bool.or_eq_true, Bool.or_eq_false_iff, Bool.and_eq_true, Bool.and_eq_false_imp] at hc0
    have hi2 : i < 2 := by omega
    obtain ⟨z, hz, hzu⟩ : ∃ z, w.cell? ⟨b, 0 + (i : Int).toNat * 1, none⟩ = some (.int .i64 z) ∧ ((i = 0 ∧ z = u) ∨ (i = 1 ∧ z = v)) := by
      have hi' : i = 0 ∨ i = 1 := by omega
      rcases hi' with rfl | rfl
      · exact ⟨u, hS.cellL (i := 0) rfl rfl, .inl ⟨rfl, rfl⟩⟩
      · exact ⟨v, hS.cellL (i := 0) rfl rfl, .inr ⟨rfl, rfl⟩⟩
    refine wp_skip ?_
    refine hK5 _ _ ?_; clear hK5
    refine wp_seq_k fun K6 hK6 => ?_
    refine wp_block ?_
    refine wp_seq_k fun K7 hK7 => ?_
    refine wp_region_lit ?_
    refine s_pu hF rfl rfl rfl ((by exact pu_elem sl22 (hF.ev rfl) (hF.ev rfl) (by omega) (by omega))) ?_; clear hF; intro a hF
    refine s_rd hF rfl rfl rfl (by exact rd_load pl3 (hF.ev rfl) (by assumption)) ?_; clear hF; intro a hF
    refine s_pu hF rfl rfl rfl (pu_assign (hF.ev rfl)) ?_; clear hF; intro a hF
    refine s_done ?_
    refine hK7 _ _ ?_; clear hK7
    refine wp_seq_k fun K8 hK8 => ?_
    refine wp_region_lit ?_
    refine s_pu hF rfl rfl rfl (pu_move (hF.ev rfl)) ?_; clear hF; intro a hF
    refine s_pu hF rfl rfl rfl (pu_move (hF.ev rfl)) ?_; clear hF; intro a hF
    refine s_pu hF rfl rfl rfl (pu_neq (hF.ev rfl) (hF.ev rfl)) ?_; clear hF; intro a hF
    refine s_done ?_
    refine hK8 _ _ ?_; clear hK8
    refine wp_cond_split (hF.ev rfl) (fun hc1 => ?_) (fun hc1 => ?_)
    · -- cond 1 true
      try simp only [decide_eq_true_eq, decide_eq_false_iff_not, Bool.not_eq_true', Bool.not_eq_false', Int.not_lt, Int.not_le, ne_eq, Decidable.not_not, Bool.or_eq_true, Bool.or_eq_false_iff, Bool.and_eq_true, Bool.and_eq_false_imp] at hc1
      refine wp_seq_k fun K9 hK9 => ?_
      refine wp_region_lit ?_
      refine s_pu hF rfl rfl rfl (pu_move (hF.ev rfl)) ?_; clear hF; intro a hF
      refine s_pu hF rfl rfl rfl (pu_assign (hF.ev rfl)) ?_; clear hF; intro a hF
      refine s_done ?_
      refine hK9 _ _ ?_; clear hK9
      refine wp_ret ?_
      refine blk_ret ?_
      refine then_ret ?_
      refine then_ret ?_
      refine blk_ret ?_
      refine then_ret ?_
      refine fin1 Try.results47 hF rfl ?_
      refine ⟨?_, hS⟩
      unfold orI
      rcases hzu with ⟨rfl, rfl⟩ | ⟨rfl, rfl⟩
      · rw [if_neg (by omega)]
      · rw [if_pos (h1 rfl)]
    · -- cond 1 false
      try simp only [decide_eq_true_eq, decide_eq_false_iff_not, Bool.not_eq_true', Bool.not_eq_false', Int.not_lt, Int.not_le, ne_eq, Decidable.not_not, Bool.or_eq_true, Bool.or_eq_false_iff, Bool.and_eq_true, Bool.and_eq_false_imp] at hc1
      refine wp_skip ?_
      refine blk_normal ?_
      refine hK6 _ _ ?_; clear hK6
      refine wp_region_lit ?_
      refine s_pu hF rfl rfl rfl ((by exact pu_add64 (hF.ev rfl) (hF.ev rfl) (by omega))) ?_; clear hF; intro a hF
      refine s_pu hF rfl rfl rfl (pu_move (hF.ev rfl)) ?_; clear hF; intro a hF
      refine s_done ?_
      refine ⟨2 - (i + 1), by omega, i + 1, rfl, by omega, fun h => by omega, fun h => by omega, hF.sub ⟨rfl, rfl, rfl, rfl, trivial⟩, hS⟩
  · -- cond 0 false
    try simp only [decide_eq_true_eq, decide_eq_false_iff_not, Bool.not_eq_true', Bool.not_eq_false', Int.not_lt, Int.not_le, ne_eq, Decidable.not_not, Bool.or_eq_true, Bool.or_eq_false_iff, Bool.and_eq_true, Bool.and_eq_false_imp] at hc0
    refine wp_exit ?_
    refine then_exit ?_
    refine then_exit ?_
    refine blk_exit ?_
    refine hK2 _ _ ?_; clear hK2
    refine wp_seq_k fun K6 hK6 => ?_
    refine wp_region_lit ?_
    refine s_pu hF rfl rfl rfl (pu_move (hF.ev rfl)) ?_; clear hF; intro a hF
    refine s_pu hF rfl rfl rfl (pu_assign (hF.ev rfl)) ?_; clear hF; intro a hF
    refine s_done ?_
    refine hK6 _ _ ?_; clear hK6
    refine wp_ret ?_
    refine fin1 Try.results47 hF rfl ?_
    have hi2 : i = 2 := by omega
    obtain ⟨h3, h4⟩ := h2 hi2
    refine ⟨?_, hS⟩
    unfold orI
    rw [if_pos h3, h4]
def entCmp (x y : Ent) : Int := orI (cmpI x.at_ y.at_) (cmpI x.timer y.timer)
theorem entCmp_c {w0 w : World} {F : List Chunk} {x y : Ent} (hS : Sat w0 w F) :
    Calls Try.prog 46 #[.agg #[.int .i64 x.timer, .int .i64 x.at_, x.v], .agg #[.int .i64 y.timer, .int .i64 y.at_, y.v]] w fun e w' => e = .returned (.int .i64 (entCmp x y)) ∧ Sat w0 w' F := by
  refine enter Try.func46 rfl Try.ntmps46 (Nat.le_of_ble_eq_true rfl) fun a hF => ?_
  refine wp_seq_k fun K0 hK0 => ?_
  refine wp_region_lit ?_
  refine s_newp hF rfl rfl rfl (ef_box (cs := #[_, _, _]) (hF.ev rfl) rfl) hS ?_; clear hF hS; intro b2 w hS a hF
  refine s_newp hF rfl rfl rfl (ef_box (cs := #[_, _, _]) (hF.ev rfl) rfl) hS ?_; clear hF hS; intro b3 w hS a hF
  refine s_pu hF rfl rfl rfl (pu_assign (hF.ev rfl)) ?_; clear hF; intro a hF
  refine s_done ?_
  refine hK0 _ _ ?_; clear hK0
  refine wp_seq_k fun K1 hK1 => ?_
  refine d_start (S := (fun w => Sat w0 w _)) (ds := [11]) (ord := [(0, .pu), (1, .tk), (2, .pu), (3, .tk), (5, .pu), (6, .tk), (7, .pu), (8, .tk), (4, .on), (9, .on), (10, .on), (11, .ls), (12, .pu)]) mixed ⟨by kernel_rfl, fun _ d _ _ _ h => by cases d <;> exact h⟩ hS.drew fun hD => ?_
  replace hS := hS.drew; generalize w.drew = w at hS ⊢
  refine d_pu hD hF rfl rfl rfl rfl rfl ((by exact pu_field fd89_1 (hF.ev rfl))) ?_; clear hF; intro a hF
  refine d_rd hD hF rfl rfl rfl rfl rfl hS (fun w hS => (by exact rd_load pl3 (hF.ev rfl) (hS.cellL (i := 1) rfl rfl))) ?_; clear hF; intro a hF
  refine d_pu hD hF rfl rfl rfl rfl rfl ((by exact pu_field fd89_1 (hF.ev rfl))) ?_; clear hF; intro a hF
  refine d_rd hD hF rfl rfl rfl rfl rfl hS (fun w hS => (by exact rd_load pl3 (hF.ev rfl) (hS.cellL (i := 0) rfl rfl))) ?_; clear hF; intro a hF
  refine d_pu hD hF rfl rfl rfl rfl rfl ((by exact pu_field fd89_0 (hF.ev rfl))) ?_; clear hF; intro a hF
  refine d_rd hD hF rfl rfl rfl rfl rfl hS (fun w hS => (by exact rd_load pl3 (hF.ev rfl) (hS.cellL (i := 1) rfl rfl))) ?_; clear hF; intro a hF
  refine d_pu hD hF rfl rfl rfl rfl rfl ((by exact pu_field fd89_0 (hF.ev rfl))) ?_; clear hF; intro a hF
  refine d_rd hD hF rfl rfl rfl rfl rfl hS (fun w hS => (by exact rd_load pl3 (hF.ev rfl) (hS.cellL (i := 0) rfl rfl))) ?_; clear hF; intro a hF
  refine d_en hD hF rfl rfl rfl rfl rfl (run_fn fk48 (hF.ev rfl) (hF.evs rfl)) (compare_c hS) ?_
  clear hS; rintro e w ⟨rfl, hS⟩
  refine ⟨_, rfl, hS, ?_⟩; clear hF; intro a hF
  refine d_en hD hF rfl rfl rfl rfl rfl (run_fn fk48 (hF.ev rfl) (hF.evs rfl)) (compare_c hS) ?_
  clear hS; rintro e w ⟨rfl, hS⟩
  refine ⟨_, rfl, hS, ?_⟩; clear hF; intro a hF
  refine d_news hD hF rfl rfl rfl rfl rfl (ef_lit (res := [_, _]) sl22 ze3 (hF.evp rfl) (by omega) (by omega) rfl (by simp)) hS (fun _ _ h => h.tail) ?_; clear hF hS; intro b15 w hS a hF
  refine l_en hD hF rfl rfl rfl rfl rfl (run_fn fk47 (hF.ev rfl) (hF.evs rfl)) (or_c hS) ?_
  clear hS; rintro e w ⟨rfl, hS⟩
  refine ⟨_, rfl, ?_⟩; clear hF; intro a hF
  refine d_pu hD hF rfl rfl rfl rfl rfl (pu_assign (hF.ev rfl)) ?_; clear hF; intro a hF
  refine d_done hD rfl ?_; clear hD
  refine hK1 _ _ ?_; clear hK1
  refine wp_ret ?_
  refine fin1 Try.results46 hF rfl ?_
  exact ⟨rfl, hS.tail.tail.tail⟩
end Go.Proofs.Ytbpkfifiigpdcaa
