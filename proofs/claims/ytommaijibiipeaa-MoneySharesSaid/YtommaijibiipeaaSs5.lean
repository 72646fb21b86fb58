import Derived.Test.YtommaijibiipeaaSs4
/-! The sort: the whole. -/
namespace Go.Proofs.Ytommaijibiipeaa
open Go Go.RowKit Go.Proofs.Ytommaijibiipeaa.Sk
set_option linter.unusedVariables false
set_option linter.unusedSimpArgs false
set_option maxRecDepth 100000

/-- Sorted in blocks of s; the places rise from block to block. -/
inductive Good (s : Nat) : List Prt → Prop where
  | short {l : List Prt} (h : l.length ≤ s) (hs : Srt l) : Good s l
  | cons {B l : List Prt} (h : B.length = s) (hs : Srt B) (hx : Cross B l) (hl : Good s l) : Good s (B ++ l)
theorem Good.srt {s : Nat} {l : List Prt} (h : Good s l) (h1 : 1 ≤ s) (hl : l.length ≤ s) : Srt l := by
  cases h with
  | short _ hs => exact hs
  | cons hb hs hx hg =>
    rename_i B r
    rw [List.length_append] at hl
    have : r = [] := List.eq_nil_of_length_eq_zero (by omega)
    subst this
    rw [List.append_nil]
    exact hs
theorem Good.split {s : Nat} {l : List Prt} (h : Good s l) (hl : s ≤ l.length) : ∃ L r, l = L ++ r ∧ L.length = s ∧ Srt L ∧ Cross L r ∧ Good s r := by
  cases h with
  | short hb hs => exact ⟨l, [], by simp, by omega, hs, fun _ _ _ h => (by cases h), .short (by simp) List.Pairwise.nil⟩
  | cons hb hs hx hg => exact ⟨_, _, rfl, hb, hs, hx, hg⟩
/-- What stands in whole blocks. -/
def Ahead (s : Nat) (D : List Prt) : Prop := ∀ Z, Good s Z → Cross D Z → Good s (D ++ Z)
theorem Ahead.nil {s : Nat} : Ahead s [] := fun Z h _ => h
theorem Ahead.snoc {s : Nat} {D M : List Prt} (h : Ahead s D) (hm : M.length = s) (hs : Srt M) (hx : Cross D M) : Ahead s (D ++ M) := by
  intro Z hZ hc
  rw [List.append_assoc]
  refine h _ (.cons hm hs (fun x hx y hy => hc x (List.mem_append.2 (.inr hx)) y hy) hZ) ?_
  intro x hx2 y hy
  rcases List.mem_append.1 hy with hy | hy
  · exact hx x hx2 y hy
  · exact hc x (List.mem_append.2 (.inl hx2)) y hy
theorem Cross.perm {A B A' B' : List Prt} (h : Cross A B) (h1 : A'.Perm A) (h2 : B'.Perm B) : Cross A' B' := fun x hx y hy => h x (h1.mem_iff.1 hx) y (h2.mem_iff.1 hy)
theorem Cross.app {A B C : List Prt} (h1 : Cross A C) (h2 : Cross B C) : Cross (A ++ B) C := fun x hx y hy => by
  rcases List.mem_append.1 hx with hx | hx
  · exact h1 x hx y hy
  · exact h2 x hx y hy
theorem Cross.left {A B C : List Prt} (h : Cross A (B ++ C)) : Cross A B := fun x hx y hy => h x hx y (List.mem_append.2 (.inl hy))
theorem Cross.right {A B C : List Prt} (h : Cross A (B ++ C)) : Cross A C := fun x hx y hy => h x hx y (List.mem_append.2 (.inr hy))
theorem Bd.perm {A B : List Prt} (h : Bd A) (hp : B.Perm A) : Bd B := fun x hx => h x (hp.mem_iff.1 hx)
theorem up_cross {A B : List Prt} (h : Up (A ++ B)) : Cross A B := fun x hx y hy => (List.pairwise_append.1 h).2.2 x hx y hy
set_option maxHeartbeats 1000000 in
theorem stable_c {w0 w : World} {C : List Chunk} {g n c : Nat} {xs : List Prt} (hS : Sat w0 w (prow g n c xs :: C)) (hU : Up xs) (hB : Bd xs) (hn : n ≤ 100000) :
    Calls Try.prog 30 #[.slice (some ⟨g, 0, none⟩) n c, .int .i64 n, .func (.func 24) #[] #[]] w fun e w' => e = .returned (.tuple #[]) ∧ ∃ ys, ys.Perm xs ∧ Srt ys ∧ Sat w0 w' (prow g n c ys :: C) := by
  have hlen := prow_len hS
  refine enter Try.func30 rfl Try.ntmps30 (Nat.le_of_ble_eq_true rfl) fun a hF => ?_
  refine wp_seq_k fun K0 hK0 => ?_
  -- region 0
  refine wp_region_lit ?_
  refine s_pu hF rfl rfl rfl (pu_assign (hF.ev rfl)) ?_; clear hF; intro a hF
  refine s_done ?_
  refine hK0 _ _ ?_; clear hK0
  refine wp_seq_k fun K1 hK1 => ?_
  -- region 1
  refine wp_region_lit ?_
  refine s_pu hF rfl rfl rfl (pu_move (hF.ev rfl)) ?_; clear hF; intro a hF
  refine s_pu hF rfl rfl rfl (pu_assign (hF.ev rfl)) ?_; clear hF; intro a hF
  refine s_pu hF rfl rfl rfl (pu_assign (hF.ev rfl)) ?_; clear hF; intro a hF
  refine s_done ?_
  refine hK1 _ _ ?_; clear hK1
  refine wp_seq_k fun K2 hK2 => ?_
  refine wp_block ?_
  refine wp_ind (fun j a w => ∃ (D T : List Prt), j = T.length ∧ (D ++ T).Perm xs ∧ Up T ∧ Cross D T ∧ Ahead 20 D ∧
    Fr a 63 [(0, .slice (some ⟨g, 0, none⟩) n c), (1, .int .i64 n), (2, .func (.func 24) #[] #[]), (6, .int .i64 20), (7, .int .i64 D.length), (8, .int .i64 (D.length + 20 : Nat))] ∧ Sat w0 w (prow g n c (D ++ T) :: C)) xs.length
    ⟨[], xs, rfl, .refl _, hU, (fun _ h => by cases h), .nil, hF.sub ⟨rfl, rfl, rfl, rfl, rfl, rfl, trivial⟩, hS⟩ ?_
  clear hS hF
  rintro j a w ⟨D, T, rfl, hp, hUT, hX, hA, hF, hS⟩
  have hl := prow_len hS
  rw [List.length_append] at hl
  refine wp_seq_k fun K3 hK3 => ?_
  refine wp_seq_k fun K4 hK4 => ?_
  -- region 2
  refine wp_region_lit ?_
  refine s_pu hF rfl rfl rfl (pu_move (hF.ev rfl)) ?_; clear hF; intro a hF
  refine s_pu hF rfl rfl rfl (pu_move (hF.ev rfl)) ?_; clear hF; intro a hF
  refine s_pu hF rfl rfl rfl (pu_leq (hF.ev rfl) (hF.ev rfl)) ?_; clear hF; intro a hF
  refine s_done ?_
  refine hK4 _ _ ?_; clear hK4
  refine wp_cond_split (hF.ev rfl) (fun hc0 => ?_) (fun hc0 => ?_)
  · -- cond 0 true
    try simp only [decide_eq_true_eq, decide_eq_false_iff_not, Bool.not_eq_true', Bool.not_eq_false', Int.not_lt, Int.not_le, ne_eq, Decidable.not_not, Bool.or_eq_true, Bool.or_eq_false_iff, Bool.and_eq_true, Bool.and_eq_false_imp] at hc0
    obtain ⟨B, T2, rfl, hBl⟩ : ∃ B T2, T = B ++ T2 ∧ B.length = 20 := ⟨T.take 20, T.drop 20, (List.take_append_drop _ _).symm, by rw [List.length_take]; omega⟩
    have hbl : D.length + 20 = (D ++ B).length := by rw [List.length_append]; omega
    have hUB : Up B ∧ Up T2 := ⟨(List.pairwise_append.1 hUT).1, (List.pairwise_append.1 hUT).2.1⟩
    have hBB : Bd B := fun z hz => hB z (hp.mem_iff.1 (by simp [hz]))
    rw [List.length_append] at hl
    refine wp_skip ?_
    refine hK3 _ _ ?_; clear hK3
    refine wp_block ?_
    refine wp_seq_k fun K5 hK5 => ?_
    -- region 3
    refine wp_region_lit ?_
    refine s_pu hF rfl rfl rfl (pu_move (hF.ev rfl)) ?_; clear hF; intro a hF
    refine s_pu hF rfl rfl rfl (pu_move (hF.ev rfl)) ?_; clear hF; intro a hF
    refine s_pu hF rfl rfl rfl (pu_move (hF.ev rfl)) ?_; clear hF; intro a hF
    refine s_pu hF rfl rfl rfl (pu_move (hF.ev rfl)) ?_; clear hF; intro a hF
    refine s_en hF rfl rfl rfl (run_fn fk34 (hF.ev rfl) (hF.evs rfl)) ((by rw [hbl]; exact insertion_c (S := T2) (by simpa using hS) hUB.1 hBB (by omega))) ?_
    clear hS; rintro e w ⟨rfl, M, hm1, hm2, hS⟩
    refine ⟨_, rfl, ?_⟩; clear hF; intro a hF
    refine s_done ?_
    refine hK5 _ _ ?_; clear hK5
    refine wp_seq_k fun K6 hK6 => ?_
    -- region 4
    refine wp_region_lit ?_
    refine s_pu hF rfl rfl rfl (pu_move (hF.ev rfl)) ?_; clear hF; intro a hF
    refine s_pu hF rfl rfl rfl (pu_assign (hF.ev rfl)) ?_; clear hF; intro a hF
    refine s_done ?_
    refine hK6 _ _ ?_; clear hK6
    -- region 5
    refine wp_region_lit ?_
    refine s_pu hF rfl rfl rfl (pu_move (hF.ev rfl)) ?_; clear hF; intro a hF
    refine s_pu hF rfl rfl rfl (pu_move (hF.ev rfl)) ?_; clear hF; intro a hF
    refine s_pu hF rfl rfl rfl ((by first | exact pu_add64 (hF.ev rfl) (hF.ev rfl) (by omega) | exact pu_add (hF.ev rfl) (hF.ev rfl))) ?_; clear hF; intro a hF
    refine s_pu hF rfl rfl rfl (pu_assign (hF.ev rfl)) ?_; clear hF; intro a hF
    refine s_done ?_
    refine blk_normal ?_
    have hml : M.length = 20 := by rw [hm1.length_eq]; exact hBl
    refine ⟨_, by simp only [List.length_append]; omega, D ++ M, T2, rfl, ?_, hUB.2, ?_, hA.snoc hml hm2 (hX.left.perm (.refl _) hm1), ?_, by simpa using hS⟩
    · refine List.Perm.trans ?_ hp
      rw [List.append_assoc]
      exact (hm1.append_right T2).append_left D
    · exact Cross.app hX.right ((up_cross hUT).perm hm1 (.refl _))
    · rw [show (D ++ M).length = D.length + 20 by rw [List.length_append, hml], show ((D.length + 20 + 20 : Nat) : Int) = ((D.length + 20 : Nat) : Int) + 20 by omega]
      exact hF.sub ⟨rfl, rfl, rfl, rfl, rfl, rfl, trivial⟩
  · -- cond 0 false
    try simp only [decide_eq_true_eq, decide_eq_false_iff_not, Bool.not_eq_true', Bool.not_eq_false', Int.not_lt, Int.not_le, ne_eq, Decidable.not_not, Bool.or_eq_true, Bool.or_eq_false_iff, Bool.and_eq_true, Bool.and_eq_false_imp] at hc0
    have hBT : Bd T := fun z hz => hB z (hp.mem_iff.1 (by simp [hz]))
    have hbl : (n : Int) = ((D ++ T).length : Nat) := by rw [List.length_append]; omega
    refine wp_exit ?_
    refine then_exit ?_
    refine then_exit ?_
    refine blk_exit ?_
    refine hK2 _ _ ?_; clear hK2
    refine wp_seq_k fun K5 hK5 => ?_
    -- region 6
    refine wp_region_lit ?_
    refine s_pu hF rfl rfl rfl (pu_move (hF.ev rfl)) ?_; clear hF; intro a hF
    refine s_pu hF rfl rfl rfl (pu_move (hF.ev rfl)) ?_; clear hF; intro a hF
    refine s_pu hF rfl rfl rfl (pu_move (hF.ev rfl)) ?_; clear hF; intro a hF
    refine s_pu hF rfl rfl rfl (pu_move (hF.ev rfl)) ?_; clear hF; intro a hF
    refine s_en hF rfl rfl rfl (run_fn fk34 (hF.ev rfl) (hF.evs rfl)) ((by rw [hbl]; exact insertion_c (S := []) (by simpa [hbl] using hS) hUT hBT (by omega))) ?_
    clear hS; rintro e w ⟨rfl, M, hm1, hm2, hS⟩
    refine ⟨_, rfl, ?_⟩; clear hF; intro a hF
    refine s_done ?_
    refine hK5 _ _ ?_; clear hK5
    refine wp_block ?_
    rw [List.append_nil] at hS
    have hml : M.length = T.length := hm1.length_eq
    have hgood : Good 20 (D ++ M) := hA M (.short (by omega) hm2) (hX.perm (.refl _) hm1)
    have hperm : (D ++ M).Perm xs := (hm1.append_left D).trans hp
    refine wp_ind (fun j a w => ∃ (s : Nat) (zs : List Prt), j = n - s ∧ 1 ≤ s ∧ s ≤ 200000 ∧ Good s zs ∧ zs.Perm xs ∧
      Fr a 63 [(0, .slice (some ⟨g, 0, none⟩) n c), (1, .int .i64 n), (2, .func (.func 24) #[] #[]), (6, .int .i64 s)] ∧ Sat w0 w (prow g n c zs :: C)) (n - 20)
      ⟨20, D ++ M, rfl, by omega, by omega, hgood, hperm, hF.sub ⟨rfl, rfl, rfl, rfl, trivial⟩, hS⟩ ?_
    clear hS hF hp hUT hX hA hl hm1 hm2 hgood hperm hml hBT hbl
    rintro j a w ⟨s, zs, rfl, hs1, hs2, hG, hp, hF, hS⟩
    have hl := prow_len hS
    refine wp_seq_k fun K6 hK6 => ?_
    refine wp_seq_k fun K7 hK7 => ?_
    -- region 7
    refine wp_region_lit ?_
    refine s_pu hF rfl rfl rfl (pu_move (hF.ev rfl)) ?_; clear hF; intro a hF
    refine s_pu hF rfl rfl rfl (pu_move (hF.ev rfl)) ?_; clear hF; intro a hF
    refine s_pu hF rfl rfl rfl (pu_lss (hF.ev rfl) (hF.ev rfl)) ?_; clear hF; intro a hF
    refine s_done ?_
    refine hK7 _ _ ?_; clear hK7
    refine wp_cond_split (hF.ev rfl) (fun hc1 => ?_) (fun hc1 => ?_)
    · -- cond 1 true
      try simp only [decide_eq_true_eq, decide_eq_false_iff_not, Bool.not_eq_true', Bool.not_eq_false', Int.not_lt, Int.not_le, ne_eq, Decidable.not_not, Bool.or_eq_true, Bool.or_eq_false_iff, Bool.and_eq_true, Bool.and_eq_false_imp] at hc1
      refine wp_skip ?_
      refine hK6 _ _ ?_; clear hK6
      refine wp_block ?_
      refine wp_seq_k fun K8 hK8 => ?_
      -- region 8
      refine wp_region_lit ?_
      refine s_pu hF rfl rfl rfl (pu_move (hF.ev rfl)) ?_; clear hF; intro a hF
      refine s_pu hF rfl rfl rfl ((by first | exact pu_mul64 (hF.ev rfl) (hF.ev rfl) (by omega) | exact pu_mul (hF.ev rfl) (hF.ev rfl))) ?_; clear hF; intro a hF
      refine s_pu hF rfl rfl rfl (pu_assign (hF.ev rfl)) ?_; clear hF; intro a hF
      refine s_pu hF rfl rfl rfl (pu_assign (hF.ev rfl)) ?_; clear hF; intro a hF
      refine s_done ?_
      refine hK8 _ _ ?_; clear hK8
      refine wp_seq_k fun K9 hK9 => ?_
      refine wp_block ?_
      refine wp_ind (fun j a w => ∃ (D T : List Prt), j = T.length ∧ (D ++ T).Perm xs ∧ Good s T ∧ Cross D T ∧ Ahead (2 * s) D ∧
        Fr a 63 [(0, .slice (some ⟨g, 0, none⟩) n c), (1, .int .i64 n), (2, .func (.func 24) #[] #[]), (6, .int .i64 s), (7, .int .i64 D.length), (8, .int .i64 (D.length + 2 * s : Nat))] ∧ Sat w0 w (prow g n c (D ++ T) :: C)) zs.length
        ⟨[], zs, rfl, hp, hG, (fun _ h => by cases h), .nil, ?_, hS⟩ ?_
      · rw [show ((([] : List Prt).length + 2 * s : Nat) : Int) = 2 * (s : Int) by simp]
        exact hF.sub ⟨rfl, rfl, rfl, rfl, rfl, rfl, trivial⟩
      clear hS hF hG hp hl
      rintro j a w ⟨D, T, rfl, hp, hG, hX, hA, hF, hS⟩
      have hl := prow_len hS
      rw [List.length_append] at hl
      have hBT : Bd T := fun z hz => hB z (hp.mem_iff.1 (by simp [hz]))
      refine wp_seq_k fun K10 hK10 => ?_
      refine wp_seq_k fun K11 hK11 => ?_
      -- region 9
      refine wp_region_lit ?_
      refine s_pu hF rfl rfl rfl (pu_move (hF.ev rfl)) ?_; clear hF; intro a hF
      refine s_pu hF rfl rfl rfl (pu_move (hF.ev rfl)) ?_; clear hF; intro a hF
      refine s_pu hF rfl rfl rfl (pu_leq (hF.ev rfl) (hF.ev rfl)) ?_; clear hF; intro a hF
      refine s_done ?_
      refine hK11 _ _ ?_; clear hK11
      refine wp_cond_split (hF.ev rfl) (fun hc2 => ?_) (fun hc2 => ?_)
      · -- cond 2 true
        try simp only [decide_eq_true_eq, decide_eq_false_iff_not, Bool.not_eq_true', Bool.not_eq_false', Int.not_lt, Int.not_le, ne_eq, Decidable.not_not, Bool.or_eq_true, Bool.or_eq_false_iff, Bool.and_eq_true, Bool.and_eq_false_imp] at hc2
        obtain ⟨L, T1, rfl, hLl, hsL, hX1, hG1⟩ := hG.split (by omega)
        rw [List.length_append] at hl
        obtain ⟨R, T2, rfl, hRl, hsR, hX2, hG2⟩ := hG1.split (by omega)
        rw [List.length_append] at hl
        have hb1 : D.length + s = D.length + L.length := by omega
        have hb2 : D.length + 2 * s = D.length + L.length + R.length := by omega
        have hBLR : Bd (L ++ R) := fun z hz => hBT z (by simp only [List.mem_append] at hz ⊢; rcases hz with h | h <;> simp [h])
        refine wp_skip ?_
        refine hK10 _ _ ?_; clear hK10
        refine wp_block ?_
        refine wp_seq_k fun K12 hK12 => ?_
        -- region 10
        refine wp_region_lit ?_
        refine s_pu hF rfl rfl rfl (pu_move (hF.ev rfl)) ?_; clear hF; intro a hF
        refine s_pu hF rfl rfl rfl (pu_move (hF.ev rfl)) ?_; clear hF; intro a hF
        refine s_pu hF rfl rfl rfl (pu_move (hF.ev rfl)) ?_; clear hF; intro a hF
        refine s_pu hF rfl rfl rfl (pu_move (hF.ev rfl)) ?_; clear hF; intro a hF
        refine s_pu hF rfl rfl rfl ((by first | exact pu_add64 (hF.ev rfl) (hF.ev rfl) (by omega) | exact pu_add (hF.ev rfl) (hF.ev rfl))) ?_; clear hF; intro a hF
        refine s_pu hF rfl rfl rfl (pu_move (hF.ev rfl)) ?_; clear hF; intro a hF
        refine s_pu hF rfl rfl rfl (pu_move (hF.ev rfl)) ?_; clear hF; intro a hF
        rw [show ((D.length : Nat) : Int) + (s : Int) = ((D.length + s : Nat) : Int) by omega] at hF
        refine s_en hF rfl rfl rfl (run_fn fk35 (hF.ev rfl) (hF.evs rfl)) ((by rw [hb2, hb1]; exact sym_c (L.length + R.length) (S := T2) (by simpa using hS) (Nat.le_refl _) (by omega) (by omega) hsL hsR hX1.left hBLR (by omega))) ?_
        clear hS; rintro e w ⟨rfl, M, hm1, hm2, hS⟩
        refine ⟨_, rfl, ?_⟩; clear hF; intro a hF
        refine s_done ?_
        refine hK12 _ _ ?_; clear hK12
        refine wp_seq_k fun K13 hK13 => ?_
        -- region 11
        refine wp_region_lit ?_
        refine s_pu hF rfl rfl rfl (pu_move (hF.ev rfl)) ?_; clear hF; intro a hF
        refine s_pu hF rfl rfl rfl (pu_assign (hF.ev rfl)) ?_; clear hF; intro a hF
        refine s_done ?_
        refine hK13 _ _ ?_; clear hK13
        -- region 12
        refine wp_region_lit ?_
        refine s_pu hF rfl rfl rfl (pu_move (hF.ev rfl)) ?_; clear hF; intro a hF
        refine s_pu hF rfl rfl rfl (pu_move (hF.ev rfl)) ?_; clear hF; intro a hF
        refine s_pu hF rfl rfl rfl ((by first | exact pu_mul64 (hF.ev rfl) (hF.ev rfl) (by omega) | exact pu_mul (hF.ev rfl) (hF.ev rfl))) ?_; clear hF; intro a hF
        refine s_pu hF rfl rfl rfl ((by first | exact pu_add64 (hF.ev rfl) (hF.ev rfl) (by omega) | exact pu_add (hF.ev rfl) (hF.ev rfl))) ?_; clear hF; intro a hF
        refine s_pu hF rfl rfl rfl (pu_assign (hF.ev rfl)) ?_; clear hF; intro a hF
        refine s_done ?_
        refine blk_normal ?_
        have hml : M.length = 2 * s := by rw [hm1.length_eq, List.length_append]; omega
        have hXD : Cross D (L ++ R) := fun x hx y hy => hX x hx y (by simp only [List.mem_append] at hy ⊢; rcases hy with h | h <;> simp [h])
        refine ⟨_, by simp only [List.length_append]; omega, D ++ M, T2, rfl, ?_, hG2, ?_, hA.snoc hml hm2 (hXD.perm (.refl _) hm1), ?_, by simpa using hS⟩
        · refine List.Perm.trans ?_ hp
          rw [List.append_assoc, ← List.append_assoc L]
          exact (hm1.append_right T2).append_left D
        · exact Cross.app hX.right.right (Cross.perm (Cross.app hX1.right hX2) hm1 (.refl _))
        · rw [show (D ++ M).length = D.length + 2 * s by rw [List.length_append, hml], show ((D.length + 2 * s + 2 * s : Nat) : Int) = ((D.length + 2 * s : Nat) : Int) + 2 * (s : Int) by omega]
          exact hF.sub ⟨rfl, rfl, rfl, rfl, rfl, rfl, trivial⟩
      · -- cond 2 false
        try simp only [decide_eq_true_eq, decide_eq_false_iff_not, Bool.not_eq_true', Bool.not_eq_false', Int.not_lt, Int.not_le, ne_eq, Decidable.not_not, Bool.or_eq_true, Bool.or_eq_false_iff, Bool.and_eq_true, Bool.and_eq_false_imp] at hc2
        refine wp_exit ?_
        refine then_exit ?_
        refine then_exit ?_
        refine blk_exit ?_
        refine hK9 _ _ ?_; clear hK9
        refine wp_seq_j (fun a w => ∃ zs, Good (2 * s) zs ∧ zs.Perm xs ∧ Fr a 63 [(0, .slice (some ⟨g, 0, none⟩) n c), (1, .int .i64 n), (2, .func (.func 24) #[] #[]), (6, .int .i64 s)] ∧ Sat w0 w (prow g n c zs :: C)) ?_ ?_
        · -- up to the join s16
          refine wp_seq_k fun K13 hK13 => ?_
          -- region 13
          refine wp_region_lit ?_
          refine s_pu hF rfl rfl rfl (pu_move (hF.ev rfl)) ?_; clear hF; intro a hF
          refine s_pu hF rfl rfl rfl (pu_move (hF.ev rfl)) ?_; clear hF; intro a hF
          refine s_pu hF rfl rfl rfl ((by first | exact pu_add64 (hF.ev rfl) (hF.ev rfl) (by omega) | exact pu_add (hF.ev rfl) (hF.ev rfl))) ?_; clear hF; intro a hF
          refine s_pu hF rfl rfl rfl (pu_assign (hF.ev rfl)) ?_; clear hF; intro a hF
          refine s_done ?_
          refine hK13 _ _ ?_; clear hK13
          refine wp_seq_k fun K14 hK14 => ?_
          -- region 14
          refine wp_region_lit ?_
          refine s_pu hF rfl rfl rfl (pu_move (hF.ev rfl)) ?_; clear hF; intro a hF
          refine s_pu hF rfl rfl rfl (pu_move (hF.ev rfl)) ?_; clear hF; intro a hF
          refine s_pu hF rfl rfl rfl (pu_lss (hF.ev rfl) (hF.ev rfl)) ?_; clear hF; intro a hF
          refine s_done ?_
          refine hK14 _ _ ?_; clear hK14
          refine wp_cond_split (hF.ev rfl) (fun hc3 => ?_) (fun hc3 => ?_)
          · -- cond 3 true
            try simp only [decide_eq_true_eq, decide_eq_false_iff_not, Bool.not_eq_true', Bool.not_eq_false', Int.not_lt, Int.not_le, ne_eq, Decidable.not_not, Bool.or_eq_true, Bool.or_eq_false_iff, Bool.and_eq_true, Bool.and_eq_false_imp] at hc3
            obtain ⟨L, R, rfl, hLl, hsL, hX1, hG1⟩ := hG.split (by omega)
            rw [List.length_append] at hl
            have hb1 : D.length + s = D.length + L.length := by omega
            have hb2 : (n : Int) = ((D.length + L.length + R.length : Nat) : Int) := by omega
            have hsR := hG1.srt hs1 (by omega)
            rw [show ((D.length : Nat) : Int) + (s : Int) = ((D.length + s : Nat) : Int) by omega] at hF
            -- region 15
            refine wp_region_lit ?_
            refine s_pu hF rfl rfl rfl (pu_move (hF.ev rfl)) ?_; clear hF; intro a hF
            refine s_pu hF rfl rfl rfl (pu_move (hF.ev rfl)) ?_; clear hF; intro a hF
            refine s_pu hF rfl rfl rfl (pu_move (hF.ev rfl)) ?_; clear hF; intro a hF
            refine s_pu hF rfl rfl rfl (pu_move (hF.ev rfl)) ?_; clear hF; intro a hF
            refine s_pu hF rfl rfl rfl (pu_move (hF.ev rfl)) ?_; clear hF; intro a hF
            refine s_en hF rfl rfl rfl (run_fn fk35 (hF.ev rfl) (hF.evs rfl)) ((by rw [hb2, hb1]; exact sym_c (L.length + R.length) (S := []) (by simpa [hb2] using hS) (Nat.le_refl _) (by omega) (by omega) hsL hsR hX1 hBT (by omega))) ?_
            clear hS; rintro e w ⟨rfl, M, hm1, hm2, hS⟩
            refine ⟨_, rfl, ?_⟩; clear hF; intro a hF
            refine s_done ?_
            first
              | (rw [List.append_nil] at hS
                 have hml : M.length = L.length + R.length := by rw [hm1.length_eq, List.length_append]
                 exact ⟨D ++ M, hA M (.short (by omega) hm2) (hX.perm (.refl _) hm1), (hm1.append_left D).trans hp, hF.sub ⟨rfl, rfl, rfl, rfl, trivial⟩, hS⟩)
              | exact ⟨D ++ T, hA T (.short (by omega) (hG.srt hs1 (by omega))) hX, hp, hF.sub ⟨rfl, rfl, rfl, rfl, trivial⟩, hS⟩
          · -- cond 3 false
            try simp only [decide_eq_true_eq, decide_eq_false_iff_not, Bool.not_eq_true', Bool.not_eq_false', Int.not_lt, Int.not_le, ne_eq, Decidable.not_not, Bool.or_eq_true, Bool.or_eq_false_iff, Bool.and_eq_true, Bool.and_eq_false_imp] at hc3
            refine wp_skip ?_
            first
              | (rw [List.append_nil] at hS
                 have hml : M.length = L.length + R.length := by rw [hm1.length_eq, List.length_append]
                 exact ⟨D ++ M, hA M (.short (by omega) hm2) (hX.perm (.refl _) hm1), (hm1.append_left D).trans hp, hF.sub ⟨rfl, rfl, rfl, rfl, trivial⟩, hS⟩)
              | exact ⟨D ++ T, hA T (.short (by omega) (hG.srt hs1 (by omega))) hX, hp, hF.sub ⟨rfl, rfl, rfl, rfl, trivial⟩, hS⟩
        · -- behind the join s16
          clear hS hF hp hG hX hA hl hBT
          rintro a w ⟨zs, hG, hp, hF, hS⟩
          -- region 16
          refine wp_region_lit ?_
          refine s_pu hF rfl rfl rfl (pu_move (hF.ev rfl)) ?_; clear hF; intro a hF
          refine s_pu hF rfl rfl rfl ((by first | exact pu_mul64 (hF.ev rfl) (hF.ev rfl) (by omega) | exact pu_mul (hF.ev rfl) (hF.ev rfl))) ?_; clear hF; intro a hF
          refine s_pu hF rfl rfl rfl (pu_assign (hF.ev rfl)) ?_; clear hF; intro a hF
          refine s_done ?_
          refine blk_normal ?_
          refine ⟨_, by omega, 2 * s, zs, rfl, by omega, by omega, hG, hp, ?_, hS⟩
          rw [show ((2 * s : Nat) : Int) = (s : Int) * 2 by omega]
          exact hF.sub ⟨rfl, rfl, rfl, rfl, trivial⟩
    · -- cond 1 false
      try simp only [decide_eq_true_eq, decide_eq_false_iff_not, Bool.not_eq_true', Bool.not_eq_false', Int.not_lt, Int.not_le, ne_eq, Decidable.not_not, Bool.or_eq_true, Bool.or_eq_false_iff, Bool.and_eq_true, Bool.and_eq_false_imp] at hc1
      refine wp_exit ?_
      refine then_exit ?_
      refine then_exit ?_
      refine blk_exit ?_
      refine fin0 Try.results30 hF ?_
      exact ⟨rfl, zs, hp, hG.srt hs1 (by omega), hS⟩
theorem sort_c {w0 w : World} {C : List Chunk} {g n c : Nat} {xs : List Prt} (hS : Sat w0 w (prow g n c xs :: C)) (hU : Up xs) (hB : Bd xs) (hn : n ≤ 100000) :
    Calls Try.prog 23 #[.slice (some ⟨g, 0, none⟩) n c, .func (.func 24) #[] #[]] w fun e w' => e = .returned (.tuple #[]) ∧ ∃ ys, ys.Perm xs ∧ Srt ys ∧ Sat w0 w' (prow g n c ys :: C) := by
  refine enter Try.func23 rfl Try.ntmps23 (Nat.le_of_ble_eq_true rfl) fun a hF => ?_
  -- region 0
  refine wp_region_lit ?_
  refine s_pu hF rfl rfl rfl (pu_move (hF.ev rfl)) ?_; clear hF; intro a hF
  refine s_pu hF rfl rfl rfl (pu_move (hF.ev rfl)) ?_; clear hF; intro a hF
  refine s_pu hF rfl rfl rfl (pu_len sl50 (hF.ev rfl)) ?_; clear hF; intro a hF
  refine s_pu hF rfl rfl rfl (pu_move (hF.ev rfl)) ?_; clear hF; intro a hF
  refine s_en hF rfl rfl rfl (run_fn fk30 (hF.ev rfl) (hF.evs rfl)) (stable_c hS hU hB hn) ?_
  clear hS; rintro e w ⟨rfl, ys, h1, h2, hS⟩
  refine ⟨_, rfl, ?_⟩; clear hF; intro a hF
  refine s_done ?_
  refine fin0 Try.results23 hF ?_
  exact ⟨rfl, ys, h1, h2, hS⟩
end Go.Proofs.Ytommaijibiipeaa
