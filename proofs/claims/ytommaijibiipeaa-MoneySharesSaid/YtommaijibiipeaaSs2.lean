import Derived.Test.YtommaijibiipeaaSs1
/-! The sort: rotate; sorting by insertion. -/
namespace Go.Proofs.Ytommaijibiipeaa
open Go Go.RowKit Go.Proofs.Ytommaijibiipeaa.Sk
set_option linter.unusedVariables false
set_option linter.unusedSimpArgs false
set_option maxRecDepth 100000

theorem rotate_c {w0 w : World} {C : List Chunk} {g n c : Nat} {P A B S : List Prt} {fv : Value} (hS : Sat w0 w (prow g n c (P ++ A ++ B ++ S) :: C)) (hA : 0 < A.length) (hB : 0 < B.length) (hn : n ≤ 140737488355328) :
    Calls Try.prog 47 #[.slice (some ⟨g, 0, none⟩) n c, .int .i64 P.length, .int .i64 (P ++ A).length, .int .i64 (P ++ A ++ B).length, fv] w fun e w' => e = .returned (.tuple #[]) ∧ Sat w0 w' (prow g n c (P ++ B ++ A ++ S) :: C) := by
  have hlen := prow_len hS
  simp only [List.length_append] at hlen
  obtain ⟨m, hm⟩ : ∃ m : Nat, m = (P ++ A).length := ⟨_, rfl⟩
  obtain ⟨tgt, htgt⟩ : ∃ tgt, tgt = P ++ B ++ A ++ S := ⟨_, rfl⟩
  rw [← htgt, ← hm]
  have q1 : (P ++ A ++ B).length = P.length + A.length + B.length := by simp only [List.length_append]
  have q2 : m = P.length + A.length := by rw [hm, List.length_append]
  refine enter Try.func47 rfl Try.ntmps47 (Nat.le_of_ble_eq_true rfl) fun a hF => ?_
  refine wp_seq_k fun K0 hK0 => ?_
  -- region 0
  refine wp_region_lit ?_
  refine s_pu hF rfl rfl rfl (pu_move (hF.ev rfl)) ?_; clear hF; intro a hF
  refine s_pu hF rfl rfl rfl (pu_move (hF.ev rfl)) ?_; clear hF; intro a hF
  refine s_pu hF rfl rfl rfl ((by first | exact pu_sub64 (hF.ev rfl) (hF.ev rfl) (by omega) | exact pu_sub (hF.ev rfl) (hF.ev rfl))) ?_; clear hF; intro a hF
  refine s_pu hF rfl rfl rfl (pu_assign (hF.ev rfl)) ?_; clear hF; intro a hF
  refine s_done ?_
  refine hK0 _ _ ?_; clear hK0
  refine wp_seq_k fun K1 hK1 => ?_
  -- region 1
  refine wp_region_lit ?_
  refine s_pu hF rfl rfl rfl (pu_move (hF.ev rfl)) ?_; clear hF; intro a hF
  refine s_pu hF rfl rfl rfl (pu_move (hF.ev rfl)) ?_; clear hF; intro a hF
  refine s_pu hF rfl rfl rfl ((by first | exact pu_sub64 (hF.ev rfl) (hF.ev rfl) (by omega) | exact pu_sub (hF.ev rfl) (hF.ev rfl))) ?_; clear hF; intro a hF
  refine s_pu hF rfl rfl rfl (pu_assign (hF.ev rfl)) ?_; clear hF; intro a hF
  refine s_done ?_
  refine hK1 _ _ ?_; clear hK1
  refine wp_seq_k fun K2 hK2 => ?_
  refine wp_block ?_
  refine wp_ind (fun j a w => ∃ (P A B S : List Prt), j = A.length + B.length ∧ 0 < A.length ∧ 0 < B.length ∧ m = P.length + A.length ∧ tgt = P ++ B ++ A ++ S ∧
    Fr a 58 [(0, .slice (some ⟨g, 0, none⟩) n c), (2, .int .i64 m), (4, fv), (10, .int .i64 A.length), (11, .int .i64 B.length)] ∧ Sat w0 w (prow g n c (P ++ A ++ B ++ S) :: C)) (A.length + B.length)
    ⟨P, A, B, S, rfl, hA, hB, by rw [hm, List.length_append], htgt, ?_, hS⟩ ?_
  · rw [show (A.length : Int) = (m : Int) - P.length by rw [hm, List.length_append]; omega, show (B.length : Int) = ((P ++ A ++ B).length : Int) - m by rw [hm]; simp only [List.length_append]; omega]
    exact hF.sub ⟨rfl, rfl, rfl, rfl, rfl, trivial⟩
  clear hS hF hA hB hm htgt hlen q1 q2 P A B S
  rintro j a w ⟨P, A, B, S, rfl, hA, hB, hm, htgt, hF, hS⟩
  have hlen := prow_len hS
  simp only [List.length_append] at hlen
  refine wp_seq_k fun K3 hK3 => ?_
  refine wp_seq_k fun K4 hK4 => ?_
  -- region 2
  refine wp_region_lit ?_
  refine s_pu hF rfl rfl rfl (pu_move (hF.ev rfl)) ?_; clear hF; intro a hF
  refine s_pu hF rfl rfl rfl (pu_move (hF.ev rfl)) ?_; clear hF; intro a hF
  refine s_pu hF rfl rfl rfl (pu_neq (hF.ev rfl) (hF.ev rfl)) ?_; clear hF; intro a hF
  refine s_done ?_
  refine hK4 _ _ ?_; clear hK4
  refine wp_cond_split (hF.ev rfl) (fun hc0 => ?_) (fun hc0 => ?_)
  · -- cond 0 true
    try simp only [decide_eq_true_eq, decide_eq_false_iff_not, Bool.not_eq_true', Bool.not_eq_false', Int.not_lt, Int.not_le, ne_eq, Decidable.not_not, Bool.or_eq_true, Bool.or_eq_false_iff, Bool.and_eq_true, Bool.and_eq_false_imp] at hc0
    refine wp_skip ?_
    refine hK3 _ _ ?_; clear hK3
    refine wp_block ?_
    refine wp_seq_k fun K5 hK5 => ?_
    -- region 3
    refine wp_region_lit ?_
    refine s_pu hF rfl rfl rfl (pu_move (hF.ev rfl)) ?_; clear hF; intro a hF
    refine s_pu hF rfl rfl rfl (pu_move (hF.ev rfl)) ?_; clear hF; intro a hF
    refine s_pu hF rfl rfl rfl (pu_gtr (hF.ev rfl) (hF.ev rfl)) ?_; clear hF; intro a hF
    refine s_done ?_
    refine hK5 _ _ ?_; clear hK5
    refine wp_cond_split (hF.ev rfl) (fun hc1 => ?_) (fun hc1 => ?_)
    · -- cond 1 true
      try simp only [decide_eq_true_eq, decide_eq_false_iff_not, Bool.not_eq_true', Bool.not_eq_false', Int.not_lt, Int.not_le, ne_eq, Decidable.not_not, Bool.or_eq_true, Bool.or_eq_false_iff, Bool.and_eq_true, Bool.and_eq_false_imp] at hc1
      obtain ⟨A1, A2, rfl, hA1⟩ : ∃ A1 A2, A = A1 ++ A2 ∧ A1.length = B.length := ⟨A.take B.length, A.drop B.length, (List.take_append_drop _ _).symm, by rw [List.length_take]; omega⟩
      rw [List.length_append] at hm hc1 hc0 hlen hA
      have hS2 : Sat w0 w (prow g n c (P ++ A1 ++ A2 ++ B ++ S) :: C) := by simpa using hS
      have q3 : (A1 ++ A2).length = A1.length + A2.length := List.length_append
      have a1 : ((m : Int) - ((A1 ++ A2).length : Nat)) = (P.length : Nat) := by rw [List.length_append]; omega
      have a2 : (m : Int) = ((P ++ A1 ++ A2).length : Nat) := by simp only [List.length_append]; omega
      refine wp_seq_k fun K6 hK6 => ?_
      -- region 4
      refine wp_region_lit ?_
      refine s_pu hF rfl rfl rfl (pu_move (hF.ev rfl)) ?_; clear hF; intro a hF
      refine s_pu hF rfl rfl rfl (pu_move (hF.ev rfl)) ?_; clear hF; intro a hF
      refine s_pu hF rfl rfl rfl (pu_move (hF.ev rfl)) ?_; clear hF; intro a hF
      refine s_pu hF rfl rfl rfl ((by first | exact pu_sub64 (hF.ev rfl) (hF.ev rfl) (by omega) | exact pu_sub (hF.ev rfl) (hF.ev rfl))) ?_; clear hF; intro a hF
      refine s_pu hF rfl rfl rfl (pu_move (hF.ev rfl)) ?_; clear hF; intro a hF
      refine s_pu hF rfl rfl rfl (pu_move (hF.ev rfl)) ?_; clear hF; intro a hF
      refine s_pu hF rfl rfl rfl (pu_move (hF.ev rfl)) ?_; clear hF; intro a hF
      rw [a1] at hF
      refine s_en hF rfl rfl rfl (run_fn fk54 (hF.ev rfl) (hF.evs rfl)) ((by rw [a2, ← hA1]; exact swapRange_c hS2 hA1 (by omega))) ?_
      clear hS; rintro e w ⟨rfl, hS⟩
      refine ⟨_, rfl, ?_⟩; clear hF; intro a hF
      refine s_done ?_
      refine hK6 _ _ ?_; clear hK6
      -- region 5
      refine wp_region_lit ?_
      refine s_pu hF rfl rfl rfl (pu_move (hF.ev rfl)) ?_; clear hF; intro a hF
      refine s_pu hF rfl rfl rfl (pu_move (hF.ev rfl)) ?_; clear hF; intro a hF
      refine s_pu hF rfl rfl rfl ((by first | exact pu_sub64 (hF.ev rfl) (hF.ev rfl) (by omega) | exact pu_sub (hF.ev rfl) (hF.ev rfl))) ?_; clear hF; intro a hF
      refine s_pu hF rfl rfl rfl (pu_assign (hF.ev rfl)) ?_; clear hF; intro a hF
      refine s_done ?_
      refine blk_normal ?_
      first
        | (refine ⟨_, by simp only [List.length_append]; omega, P ++ B, A2, A1, S, rfl, by omega, by omega, by simp only [List.length_append]; omega, by rw [htgt]; simp, ?_, by simpa using hS⟩
           rw [hA1, show (A2.length : Int) = ((A1 ++ A2).length : Int) - (B.length : Int) by rw [List.length_append]; omega]
           exact hF.sub ⟨rfl, rfl, rfl, rfl, rfl, trivial⟩)
        | (refine ⟨_, by simp only [List.length_append]; omega, P, B2, B1, A ++ S, rfl, by omega, by omega, by omega, by rw [htgt]; simp, ?_, by simpa using hS⟩
           rw [hB2, show (B1.length : Int) = ((B1 ++ B2).length : Int) - (A.length : Int) by rw [List.length_append]; omega]
           exact hF.sub ⟨rfl, rfl, rfl, rfl, rfl, trivial⟩)
    · -- cond 1 false
      try simp only [decide_eq_true_eq, decide_eq_false_iff_not, Bool.not_eq_true', Bool.not_eq_false', Int.not_lt, Int.not_le, ne_eq, Decidable.not_not, Bool.or_eq_true, Bool.or_eq_false_iff, Bool.and_eq_true, Bool.and_eq_false_imp] at hc1
      refine wp_seq_k fun K6 hK6 => ?_
      -- region 6
      refine wp_region_lit ?_
      obtain ⟨B1, B2, rfl, hB2⟩ : ∃ B1 B2, B = B1 ++ B2 ∧ B2.length = A.length := ⟨B.take (B.length - A.length), B.drop (B.length - A.length), (List.take_append_drop _ _).symm, by rw [List.length_drop]; omega⟩
      rw [List.length_append] at hc1 hc0 hlen hB
      have hS2 : Sat w0 w (prow g n c (P ++ A ++ B1 ++ B2 ++ S) :: C) := by simpa using hS
      have q3 : (B1 ++ B2).length = B1.length + B2.length := List.length_append
      have a1 : ((m : Int) - (A.length : Nat)) = (P.length : Nat) := by omega
      have a2 : ((m : Int) + ((B1 ++ B2).length : Nat) - (A.length : Nat)) = ((P ++ A ++ B1).length : Nat) := by simp only [List.length_append]; omega
      refine s_pu hF rfl rfl rfl (pu_move (hF.ev rfl)) ?_; clear hF; intro a hF
      refine s_pu hF rfl rfl rfl (pu_move (hF.ev rfl)) ?_; clear hF; intro a hF
      refine s_pu hF rfl rfl rfl (pu_move (hF.ev rfl)) ?_; clear hF; intro a hF
      refine s_pu hF rfl rfl rfl ((by first | exact pu_sub64 (hF.ev rfl) (hF.ev rfl) (by omega) | exact pu_sub (hF.ev rfl) (hF.ev rfl))) ?_; clear hF; intro a hF
      refine s_pu hF rfl rfl rfl (pu_move (hF.ev rfl)) ?_; clear hF; intro a hF
      refine s_pu hF rfl rfl rfl (pu_move (hF.ev rfl)) ?_; clear hF; intro a hF
      refine s_pu hF rfl rfl rfl ((by first | exact pu_add64 (hF.ev rfl) (hF.ev rfl) (by omega) | exact pu_add (hF.ev rfl) (hF.ev rfl))) ?_; clear hF; intro a hF
      refine s_pu hF rfl rfl rfl (pu_move (hF.ev rfl)) ?_; clear hF; intro a hF
      refine s_pu hF rfl rfl rfl ((by first | exact pu_sub64 (hF.ev rfl) (hF.ev rfl) (by omega) | exact pu_sub (hF.ev rfl) (hF.ev rfl))) ?_; clear hF; intro a hF
      refine s_pu hF rfl rfl rfl (pu_move (hF.ev rfl)) ?_; clear hF; intro a hF
      refine s_pu hF rfl rfl rfl (pu_move (hF.ev rfl)) ?_; clear hF; intro a hF
      rw [a1, a2] at hF
      refine s_en hF rfl rfl rfl (run_fn fk54 (hF.ev rfl) (hF.evs rfl)) (swapRange_c hS2 hB2.symm (by omega)) ?_
      clear hS; rintro e w ⟨rfl, hS⟩
      refine ⟨_, rfl, ?_⟩; clear hF; intro a hF
      refine s_done ?_
      refine hK6 _ _ ?_; clear hK6
      -- region 7
      refine wp_region_lit ?_
      refine s_pu hF rfl rfl rfl (pu_move (hF.ev rfl)) ?_; clear hF; intro a hF
      refine s_pu hF rfl rfl rfl (pu_move (hF.ev rfl)) ?_; clear hF; intro a hF
      refine s_pu hF rfl rfl rfl ((by first | exact pu_sub64 (hF.ev rfl) (hF.ev rfl) (by omega) | exact pu_sub (hF.ev rfl) (hF.ev rfl))) ?_; clear hF; intro a hF
      refine s_pu hF rfl rfl rfl (pu_assign (hF.ev rfl)) ?_; clear hF; intro a hF
      refine s_done ?_
      refine blk_normal ?_
      first
        | (refine ⟨_, by simp only [List.length_append]; omega, P ++ B, A2, A1, S, rfl, by omega, by omega, by simp only [List.length_append]; omega, by rw [htgt]; simp, ?_, by simpa using hS⟩
           rw [hA1, show (A2.length : Int) = ((A1 ++ A2).length : Int) - (B.length : Int) by rw [List.length_append]; omega]
           exact hF.sub ⟨rfl, rfl, rfl, rfl, rfl, trivial⟩)
        | (refine ⟨_, by simp only [List.length_append]; omega, P, B2, B1, A ++ S, rfl, by omega, by omega, by omega, by rw [htgt]; simp, ?_, by simpa using hS⟩
           rw [hB2, show (B1.length : Int) = ((B1 ++ B2).length : Int) - (A.length : Int) by rw [List.length_append]; omega]
           exact hF.sub ⟨rfl, rfl, rfl, rfl, rfl, trivial⟩)
  · -- cond 0 false
    try simp only [decide_eq_true_eq, decide_eq_false_iff_not, Bool.not_eq_true', Bool.not_eq_false', Int.not_lt, Int.not_le, ne_eq, Decidable.not_not, Bool.or_eq_true, Bool.or_eq_false_iff, Bool.and_eq_true, Bool.and_eq_false_imp] at hc0
    refine wp_exit ?_
    refine then_exit ?_
    refine then_exit ?_
    refine blk_exit ?_
    refine hK2 _ _ ?_; clear hK2
    -- region 8
    refine wp_region_lit ?_
    have hS2 : Sat w0 w (prow g n c (P ++ A ++ [] ++ B ++ S) :: C) := by simpa using hS
    have a1 : ((m : Int) - (A.length : Nat)) = (P.length : Nat) := by omega
    have a2 : (m : Int) = ((P ++ A ++ []).length : Nat) := by simp only [List.length_append, List.length_nil]; omega
    have hab : A.length = B.length := by omega
    refine s_pu hF rfl rfl rfl (pu_move (hF.ev rfl)) ?_; clear hF; intro a hF
    refine s_pu hF rfl rfl rfl (pu_move (hF.ev rfl)) ?_; clear hF; intro a hF
    refine s_pu hF rfl rfl rfl (pu_move (hF.ev rfl)) ?_; clear hF; intro a hF
    refine s_pu hF rfl rfl rfl ((by first | exact pu_sub64 (hF.ev rfl) (hF.ev rfl) (by omega) | exact pu_sub (hF.ev rfl) (hF.ev rfl))) ?_; clear hF; intro a hF
    refine s_pu hF rfl rfl rfl (pu_move (hF.ev rfl)) ?_; clear hF; intro a hF
    refine s_pu hF rfl rfl rfl (pu_move (hF.ev rfl)) ?_; clear hF; intro a hF
    refine s_pu hF rfl rfl rfl (pu_move (hF.ev rfl)) ?_; clear hF; intro a hF
    rw [a1] at hF
    refine s_en hF rfl rfl rfl (run_fn fk54 (hF.ev rfl) (hF.evs rfl)) ((by rw [a2]; exact swapRange_c hS2 hab (by omega))) ?_
    clear hS; rintro e w ⟨rfl, hS⟩
    refine ⟨_, rfl, ?_⟩; clear hF; intro a hF
    refine s_done ?_
    refine fin0 Try.results47 hF ?_
    refine ⟨rfl, ?_⟩
    rw [htgt]
    simpa using hS
end Go.Proofs.Ytommaijibiipeaa
