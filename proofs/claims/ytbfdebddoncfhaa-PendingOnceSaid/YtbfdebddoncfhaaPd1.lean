import Derived.Test.YtbfdebddoncfhaaWh6
/-! Pending: a list without a number (slices.DeleteFunc). -/
namespace Go.Proofs.Ytbfdebddoncfhaa
open Go Go.RowKit Go.Proofs.Ytbfdebddoncfhaa.Sk
set_option linter.unusedVariables false
set_option linter.unusedSimpArgs false
set_option maxRecDepth 100000

theorem ints_at {zs : List Int} {i : Nat} (h : i < zs.length) : (ints zs)[i]? = some (.int .i64 (zs.getD i 0)) := by
  unfold ints
  simp [List.getD_eq_getElem?_getD, h]
theorem isn_c {w0 w : World} {C : List Chunk} {b : Nat} {x n : Int} (hS : Sat w0 w (.obj b (.cells #[.int .i64 n] 3 (0, 0)) :: C)) :
    Calls Try.prog 54 #[.int .i64 x, .pointer (some ⟨b, 0, none⟩)] w fun e w' => e = .returned (.bool (decide (x = n))) ∧ Sat w0 w' (.obj b (.cells #[.int .i64 n] 3 (0, 0)) :: C) := by
  refine enter Try.func54 rfl Try.ntmps54 (Nat.le_of_ble_eq_true rfl) fun a hF => ?_
  refine wp_seq_k fun K0 hK0 => ?_
  refine wp_region_lit ?_
  refine s_pu hF rfl rfl rfl (pu_assign (hF.ev rfl)) ?_; clear hF; intro a hF
  refine s_done ?_
  refine hK0 _ _ ?_; clear hK0
  refine wp_seq_k fun K1 hK1 => ?_
  refine wp_region_lit ?_
  refine s_pu hF rfl rfl rfl (pu_move (hF.ev rfl)) ?_; clear hF; intro a hF
  refine s_rd hF rfl rfl rfl (by exact rd_load pl3 (hF.ev rfl) (hS.cellL (i := 0) rfl rfl)) ?_; clear hF; intro a hF
  refine s_pu hF rfl rfl rfl (pu_eql (hF.ev rfl) (hF.ev rfl)) ?_; clear hF; intro a hF
  refine s_pu hF rfl rfl rfl (pu_assign (hF.ev rfl)) ?_; clear hF; intro a hF
  refine s_done ?_
  refine hK1 _ _ ?_; clear hK1
  refine wp_ret ?_
  refine fin1 Try.results54 hF rfl ?_
  exact ⟨rfl, hS⟩
theorem index_c {w0 w : World} {C : List Chunk} {b c : Nat} {A : Option Addr} {zs : List Int} {n : Int} (hS : Sat w0 w (.obj b (.cells #[.int .i64 n] 3 (0, 0)) :: rowC 3 1 (.slice A zs.length c) zs.length (ints zs) :: C)) (hlen : zs.length ≤ 140737488355328) :
    Calls Try.prog 68 #[.slice A zs.length c, .func (.func 54) #[] #[.pointer (some ⟨b, 0, none⟩)]] w fun e w' => ∃ i : Int, e = .returned (.int .i64 i) ∧ (i = -1 ∧ (∀ z ∈ zs, z ≠ n) ∨ ∃ k : Nat, i = k ∧ k < zs.length ∧ zs.getD k 0 = n ∧ ∀ z ∈ zs.take k, z ≠ n) ∧
      Sat w0 w' (.obj b (.cells #[.int .i64 n] 3 (0, 0)) :: rowC 3 1 (.slice A zs.length c) zs.length (ints zs) :: C) := by
  refine enter Try.func68 rfl Try.ntmps68 (Nat.le_of_ble_eq_true rfl) fun a hF => ?_
  refine wp_seq_k fun K0 hK0 => ?_
  refine wp_region_lit ?_
  refine s_pu hF rfl rfl rfl (pu_assign (hF.ev rfl)) ?_; clear hF; intro a hF
  refine s_done ?_
  refine hK0 _ _ ?_; clear hK0
  refine wp_seq_k fun K1 hK1 => ?_
  refine wp_seq_k fun K2 hK2 => ?_
  refine wp_region_lit ?_
  refine s_pu hF rfl rfl rfl (pu_move (hF.ev rfl)) ?_; clear hF; intro a hF
  refine s_pu hF rfl rfl rfl (pu_len sl22 (hF.ev rfl)) ?_; clear hF; intro a hF
  refine s_pu hF rfl rfl rfl (pu_move (hF.ev rfl)) ?_; clear hF; intro a hF
  refine s_done ?_
  refine hK2 _ _ ?_; clear hK2
  refine wp_block ?_
  refine wp_ind (fun j a w => ∃ k : Nat, j = zs.length - k ∧ k ≤ zs.length ∧ (∀ z ∈ zs.take k, z ≠ n) ∧ Fr a 19 [(0, .slice A zs.length c), (1, .func (.func 54) #[] #[.pointer (some ⟨b, 0, none⟩)]), (7, .int .i64 zs.length), (8, .int .i64 k)] ∧
    Sat w0 w (.obj b (.cells #[.int .i64 n] 3 (0, 0)) :: rowC 3 1 (.slice A zs.length c) zs.length (ints zs) :: C)) zs.length
    ⟨0, by omega, by omega, by simp, hF.sub ⟨rfl, rfl, rfl, rfl, trivial⟩, hS⟩ ?_
  clear hS hF
  rintro j a w ⟨k, rfl, hk, hno, hF, hS⟩
  refine wp_seq_k fun K3 hK3 => ?_
  refine wp_region_lit ?_
  refine s_pu hF rfl rfl rfl (pu_lss (hF.ev rfl) (hF.ev rfl)) ?_; clear hF; intro a hF
  refine s_done ?_
  refine hK3 _ _ ?_; clear hK3
  refine wp_seq_k fun K4 hK4 => ?_
  refine wp_cond_split (hF.ev rfl) (fun hc0 => ?_) (fun hc0 => ?_)
  · -- cond 0 true
    try simp only [decide_eq_true_eq, decide_eq_false_iff_not, Bool.not_eq_true', Bool.not_eq_false', Int.not_lt, Int.not_le, ne_eq, Decidable.not_not, Bool.or_eq_true, Bool.or_eq_false_iff, Bool.and_eq_true, Bool.and_eq_false_imp] at hc0
    have hkl : k < zs.length := by omega
    obtain ⟨g, rfl⟩ := row_some (i := 1) hS rfl (by omega)
    have hv := row_at (i := 1) hS rfl (ints_at hkl)
    refine wp_skip ?_
    refine hK4 _ _ ?_; clear hK4
    refine wp_seq_k fun K5 hK5 => ?_
    refine wp_block ?_
    refine wp_seq_k fun K6 hK6 => ?_
    refine wp_region_lit ?_
    refine s_pu hF rfl rfl rfl (pu_move (hF.ev rfl)) ?_; clear hF; intro a hF
    refine s_pu hF rfl rfl rfl (pu_assign (hF.ev rfl)) ?_; clear hF; intro a hF
    refine s_done ?_
    refine hK6 _ _ ?_; clear hK6
    refine wp_seq_k fun K7 hK7 => ?_
    refine wp_region_lit ?_
    refine s_pu hF rfl rfl rfl (pu_move (hF.ev rfl)) ?_; clear hF; intro a hF
    refine s_pu hF rfl rfl rfl (pu_move (hF.ev rfl)) ?_; clear hF; intro a hF
    refine s_pu hF rfl rfl rfl (pu_move (hF.ev rfl)) ?_; clear hF; intro a hF
    refine s_pu hF rfl rfl rfl ((by exact pu_elem sl22 (hF.ev rfl) (hF.ev rfl) (by omega) (by omega))) ?_; clear hF; intro a hF
    refine s_rd hF rfl rfl rfl (by exact rd_load pl3 (hF.ev rfl) (by assumption)) ?_; clear hF; intro a hF
    refine s_en hF rfl rfl rfl (run_fn fk54 (hF.ev rfl) (hF.evs rfl)) (isn_c hS) ?_
    clear hS; rintro e w ⟨rfl, hS⟩
    refine ⟨_, rfl, ?_⟩; clear hF; intro a hF
    refine s_done ?_
    refine hK7 _ _ ?_; clear hK7
    refine wp_cond_split (hF.ev rfl) (fun hc1 => ?_) (fun hc1 => ?_)
    · -- cond 1 true
      try simp only [decide_eq_true_eq, decide_eq_false_iff_not, Bool.not_eq_true', Bool.not_eq_false', Int.not_lt, Int.not_le, ne_eq, Decidable.not_not, Bool.or_eq_true, Bool.or_eq_false_iff, Bool.and_eq_true, Bool.and_eq_false_imp] at hc1
      refine wp_seq_k fun K8 hK8 => ?_
      refine wp_region_lit ?_
      refine s_pu hF rfl rfl rfl (pu_move (hF.ev rfl)) ?_; clear hF; intro a hF
      refine s_pu hF rfl rfl rfl (pu_assign (hF.ev rfl)) ?_; clear hF; intro a hF
      refine s_done ?_
      refine hK8 _ _ ?_; clear hK8
      refine wp_ret ?_
      refine blk_ret ?_
      refine then_ret ?_
      refine then_ret ?_
      refine blk_ret ?_
      refine then_ret ?_
      refine fin1 Try.results68 hF rfl ?_
      exact ⟨_, rfl, .inr ⟨k, rfl, by omega, hc1, hno⟩, hS⟩
    · -- cond 1 false
      try simp only [decide_eq_true_eq, decide_eq_false_iff_not, Bool.not_eq_true', Bool.not_eq_false', Int.not_lt, Int.not_le, ne_eq, Decidable.not_not, Bool.or_eq_true, Bool.or_eq_false_iff, Bool.and_eq_true, Bool.and_eq_false_imp] at hc1
      refine wp_skip ?_
      refine blk_normal ?_
      refine hK5 _ _ ?_; clear hK5
      refine wp_region_lit ?_
      refine s_pu hF rfl rfl rfl ((by exact pu_add64 (hF.ev rfl) (hF.ev rfl) (by omega))) ?_; clear hF; intro a hF
      refine s_pu hF rfl rfl rfl (pu_move (hF.ev rfl)) ?_; clear hF; intro a hF
      refine s_done ?_
      refine ⟨_, by omega, k + 1, rfl, by omega, ?_, hF.sub ⟨rfl, rfl, rfl, rfl, trivial⟩, hS⟩
      intro z hz
      rw [List.take_add_one, List.getElem?_eq_getElem hkl] at hz
      rcases List.mem_append.1 hz with hz | hz
      · exact hno z hz
      · simp at hz
        subst hz
        simpa [List.getD_eq_getElem?_getD, hkl] using hc1
  · -- cond 0 false
    try simp only [decide_eq_true_eq, decide_eq_false_iff_not, Bool.not_eq_true', Bool.not_eq_false', Int.not_lt, Int.not_le, ne_eq, Decidable.not_not, Bool.or_eq_true, Bool.or_eq_false_iff, Bool.and_eq_true, Bool.and_eq_false_imp] at hc0
    refine wp_exit ?_
    refine then_exit ?_
    refine then_exit ?_
    refine blk_exit ?_
    refine hK1 _ _ ?_; clear hK1
    refine wp_seq_k fun K5 hK5 => ?_
    refine wp_region_lit ?_
    refine s_pu hF rfl rfl rfl (pu_assign (hF.ev rfl)) ?_; clear hF; intro a hF
    refine s_done ?_
    refine hK5 _ _ ?_; clear hK5
    refine wp_ret ?_
    refine fin1 Try.results68 hF rfl ?_
    have hkl : k = zs.length := by omega
    subst hkl
    rw [List.take_length] at hno
    exact ⟨_, rfl, .inl ⟨rfl, hno⟩, hS⟩
end Go.Proofs.Ytbfdebddoncfhaa
