import Derived.Test.YtbpkfifiigpdcaaWs2
/-! The document's own wheel: Cancel, Tick, All. -/
namespace Go.Proofs.Ytbpkfifiigpdcaa
open Go Go.RowKit Go.Proofs.Ytbpkfifiigpdcaa.Sk
set_option linter.unusedVariables false
set_option linter.unusedSimpArgs false
set_option maxRecDepth 100000

section
variable {w0 w : World} {F : List Chunk} {g : Nat} {P : List Ent} {now last t : Int}
theorem rCancel_no (hS : Sat w0 w (refC g P now last :: F)) (hlen : P.length ≤ 5864062014805) (ht : ∀ e ∈ P, e.timer ≠ t) : Calls Try.prog 27 #[.pointer (some ⟨g, 0, none⟩), .int .i64 t] w fun e w' => e = .returned (.tuple #[.int .i64 0, .int .i64 170]) ∧ Sat w0 w' (refC g P now last :: F) := by
  obtain ⟨A, c, hc, hS⟩ := ref_open hS
  refine enter Try.func27 rfl Try.ntmps27 (Nat.le_of_ble_eq_true rfl) fun a hF => ?_
  refine wp_seq_k fun K0 hK0 => ?_
  refine wp_region_lit ?_
  refine s_pu hF rfl rfl rfl (pu_assign (hF.ev rfl)) ?_; clear hF; intro a hF
  refine s_pu hF rfl rfl rfl (pu_assign (hF.ev rfl)) ?_; clear hF; intro a hF
  refine s_done ?_
  refine hK0 _ _ ?_; clear hK0
  refine wp_seq_k fun K1 hK1 => ?_
  refine wp_seq_k fun K2 hK2 => ?_
  refine wp_region_lit ?_
  refine s_pu hF rfl rfl rfl (pu_assign (hF.ev rfl)) ?_; clear hF; intro a hF
  refine s_done ?_
  refine hK2 _ _ ?_; clear hK2
  refine wp_block ?_
  refine wp_ind (fun j a w => ∃ i : Nat, j = P.length - i ∧ i ≤ P.length ∧ Fr a 57 [(0, .pointer (some ⟨g, 0, none⟩)), (1, .int .i64 t), (6, .int .i64 i)] ∧ Sat w0 w (.obj g (.cells #[.slice A P.length c, .int .i64 last, .int .i64 now] 53) :: rowC 62 3 (.slice A P.length c) P.length (entCells P) :: F)) P.length
    ⟨0, by omega, by omega, hF.sub ⟨rfl, rfl, rfl, trivial⟩, hS⟩ ?_
  clear hS hF
  rintro j a w ⟨i, rfl, hi, hF, hS⟩
  refine wp_seq_k fun K3 hK3 => ?_
  refine wp_seq_k fun K4 hK4 => ?_
  refine wp_region_lit ?_
  refine s_pu hF rfl rfl rfl (pu_move (hF.ev rfl)) ?_; clear hF; intro a hF
  refine s_pu hF rfl rfl rfl (pu_move (hF.ev rfl)) ?_; clear hF; intro a hF
  refine s_pu hF rfl rfl rfl ((by exact pu_nil (hF.ev rfl))) ?_; clear hF; intro a hF
  refine s_pu hF rfl rfl rfl ((by exact pu_field fd53_0 (hF.ev rfl))) ?_; clear hF; intro a hF
  refine s_rd hF rfl rfl rfl (by exact rd_load pl51 (hF.ev rfl) (hS.cellL (i := 0) rfl rfl)) ?_; clear hF; intro a hF
  refine s_pu hF rfl rfl rfl (pu_len sl51 (hF.ev rfl)) ?_; clear hF; intro a hF
  refine s_pu hF rfl rfl rfl (pu_lss (hF.ev rfl) (hF.ev rfl)) ?_; clear hF; intro a hF
  refine s_done ?_
  refine hK4 _ _ ?_; clear hK4
  refine wp_cond_split (hF.ev rfl) (fun hc0 => ?_) (fun hc0 => ?_)
  · -- cond 0 true
    try simp only [decide_eq_true_eq, decide_eq_false_iff_not, Bool.not_eq_true', Bool.not_eq_false', Int.not_lt, Int.not_le, ne_eq, Decidable.not_not, Bool.or_eq_true, Bool.or_eq_false_iff, Bool.and_eq_true, Bool.and_eq_false_imp] at hc0
    have hil : i < P.length := by omega
    obtain ⟨e, he⟩ : ∃ e, P[i]? = some e := ⟨P[i], List.getElem?_eq_getElem _⟩
    obtain ⟨ga, rfl⟩ := row_some (i := 1) hS rfl (by omega)
    have hc0 := row_load (i := 1) hS rfl (by omega) (entCells_at he)
    have hct : w.cell? ⟨ga, 0 + (i : Int).toNat * 3 + 0, none⟩ = some (.int .i64 e.timer) := hc0 0 _ rfl
    have hte := ht e (List.mem_of_getElem? he)
    refine wp_skip ?_
    refine hK3 _ _ ?_; clear hK3
    refine wp_seq_k fun K5 hK5 => ?_
    refine wp_block ?_
    refine wp_seq_k fun K6 hK6 => ?_
    refine wp_region_lit ?_
    refine s_pu hF rfl rfl rfl (pu_move (hF.ev rfl)) ?_; clear hF; intro a hF
    refine s_pu hF rfl rfl rfl ((by exact pu_nil (hF.ev rfl))) ?_; clear hF; intro a hF
    refine s_pu hF rfl rfl rfl ((by exact pu_field fd53_0 (hF.ev rfl))) ?_; clear hF; intro a hF
    refine s_rd hF rfl rfl rfl (by exact rd_load pl51 (hF.ev rfl) (hS.cellL (i := 0) rfl rfl)) ?_; clear hF; intro a hF
    refine s_pu hF rfl rfl rfl (pu_move (hF.ev rfl)) ?_; clear hF; intro a hF
    refine s_pu hF rfl rfl rfl ((by exact pu_elem sl51 (hF.ev rfl) (hF.ev rfl) (by omega) (by omega))) ?_; clear hF; intro a hF
    refine s_pu hF rfl rfl rfl ((by exact pu_field fd62_0 (hF.ev rfl))) ?_; clear hF; intro a hF
    refine s_rd hF rfl rfl rfl (by exact rd_load pl3 (hF.ev rfl) (by assumption)) ?_; clear hF; intro a hF
    refine s_pu hF rfl rfl rfl (pu_move (hF.ev rfl)) ?_; clear hF; intro a hF
    refine s_pu hF rfl rfl rfl (pu_eql (hF.ev rfl) (hF.ev rfl)) ?_; clear hF; intro a hF
    refine s_done ?_
    refine hK6 _ _ ?_; clear hK6
    refine wp_cond_split (hF.ev rfl) (fun hc1 => ?_) (fun hc1 => ?_)
    · -- cond 1 true
      try simp only [decide_eq_true_eq, decide_eq_false_iff_not, Bool.not_eq_true', Bool.not_eq_false', Int.not_lt, Int.not_le, ne_eq, Decidable.not_not, Bool.or_eq_true, Bool.or_eq_false_iff, Bool.and_eq_true, Bool.and_eq_false_imp] at hc1
      omega
    · -- cond 1 false
      try simp only [decide_eq_true_eq, decide_eq_false_iff_not, Bool.not_eq_true', Bool.not_eq_false', Int.not_lt, Int.not_le, ne_eq, Decidable.not_not, Bool.or_eq_true, Bool.or_eq_false_iff, Bool.and_eq_true, Bool.and_eq_false_imp] at hc1
      refine wp_skip ?_
      refine blk_normal ?_
      refine hK5 _ _ ?_; clear hK5
      refine wp_region_lit ?_
      refine s_pu hF rfl rfl rfl (pu_move (hF.ev rfl)) ?_; clear hF; intro a hF
      refine s_pu hF rfl rfl rfl ((by exact pu_add64 (hF.ev rfl) (hF.ev rfl) (by omega))) ?_; clear hF; intro a hF
      refine s_pu hF rfl rfl rfl (pu_assign (hF.ev rfl)) ?_; clear hF; intro a hF
      refine s_done ?_
      exact ⟨_, by omega, i + 1, rfl, by omega, hF.sub ⟨rfl, rfl, rfl, trivial⟩, hS⟩
  · -- cond 0 false
    try simp only [decide_eq_true_eq, decide_eq_false_iff_not, Bool.not_eq_true', Bool.not_eq_false', Int.not_lt, Int.not_le, ne_eq, Decidable.not_not, Bool.or_eq_true, Bool.or_eq_false_iff, Bool.and_eq_true, Bool.and_eq_false_imp] at hc0
    refine wp_exit ?_
    refine then_exit ?_
    refine then_exit ?_
    refine blk_exit ?_
    refine hK1 _ _ ?_; clear hK1
    refine wp_seq_k fun K5 hK5 => ?_
    refine wp_region_lit ?_
    refine s_pu hF rfl rfl rfl (pu_assign (hF.ev rfl)) ?_; clear hF; intro a hF
    refine s_pu hF rfl rfl rfl (pu_assign (hF.ev rfl)) ?_; clear hF; intro a hF
    refine s_done ?_
    refine hK5 _ _ ?_; clear hK5
    refine wp_ret ?_
    refine fin2 Try.results27 hF rfl rfl ?_
    exact ⟨rfl, ref_shut hS⟩
theorem rCancel_c {A0 B0 : List Ent} {en : Ent} (hS : Sat w0 w (refC g P now last :: F)) (hlen : P.length ≤ 5864062014805) (hP : P = A0 ++ en :: B0) (hA : ∀ e ∈ A0, e.timer ≠ t) (hen : en.timer = t) :
    Calls Try.prog 27 #[.pointer (some ⟨g, 0, none⟩), .int .i64 t] w fun e w' => e = .returned (.tuple #[en.v, .int .i64 0]) ∧ Sat w0 w' (refC g (A0 ++ B0) now last :: F) := by
  obtain ⟨A, c, hc, hS⟩ := ref_open hS
  have hpl : P.length = A0.length + 1 + B0.length := by rw [hP]; simp; omega
  refine enter Try.func27 rfl Try.ntmps27 (Nat.le_of_ble_eq_true rfl) fun a hF => ?_
  refine wp_seq_k fun K0 hK0 => ?_
  refine wp_region_lit ?_
  refine s_pu hF rfl rfl rfl (pu_assign (hF.ev rfl)) ?_; clear hF; intro a hF
  refine s_pu hF rfl rfl rfl (pu_assign (hF.ev rfl)) ?_; clear hF; intro a hF
  refine s_done ?_
  refine hK0 _ _ ?_; clear hK0
  refine wp_seq_k fun K1 hK1 => ?_
  refine wp_seq_k fun K2 hK2 => ?_
  refine wp_region_lit ?_
  refine s_pu hF rfl rfl rfl (pu_assign (hF.ev rfl)) ?_; clear hF; intro a hF
  refine s_done ?_
  refine hK2 _ _ ?_; clear hK2
  refine wp_block ?_
  refine wp_ind (fun j a w => ∃ i : Nat, j = P.length - i ∧ i ≤ A0.length ∧ Fr a 57 [(0, .pointer (some ⟨g, 0, none⟩)), (1, .int .i64 t), (6, .int .i64 i)] ∧ Sat w0 w (.obj g (.cells #[.slice A P.length c, .int .i64 last, .int .i64 now] 53) :: rowC 62 3 (.slice A P.length c) P.length (entCells P) :: F)) P.length
    ⟨0, by omega, by omega, hF.sub ⟨rfl, rfl, rfl, trivial⟩, hS⟩ ?_
  clear hS hF
  rintro j a w ⟨i, rfl, hi, hF, hS⟩
  refine wp_seq_k fun K3 hK3 => ?_
  refine wp_seq_k fun K4 hK4 => ?_
  refine wp_region_lit ?_
  refine s_pu hF rfl rfl rfl (pu_move (hF.ev rfl)) ?_; clear hF; intro a hF
  refine s_pu hF rfl rfl rfl (pu_move (hF.ev rfl)) ?_; clear hF; intro a hF
  refine s_pu hF rfl rfl rfl ((by exact pu_nil (hF.ev rfl))) ?_; clear hF; intro a hF
  refine s_pu hF rfl rfl rfl ((by exact pu_field fd53_0 (hF.ev rfl))) ?_; clear hF; intro a hF
  refine s_rd hF rfl rfl rfl (by exact rd_load pl51 (hF.ev rfl) (hS.cellL (i := 0) rfl rfl)) ?_; clear hF; intro a hF
  refine s_pu hF rfl rfl rfl (pu_len sl51 (hF.ev rfl)) ?_; clear hF; intro a hF
  refine s_pu hF rfl rfl rfl (pu_lss (hF.ev rfl) (hF.ev rfl)) ?_; clear hF; intro a hF
  refine s_done ?_
  refine hK4 _ _ ?_; clear hK4
  refine wp_cond_split (hF.ev rfl) (fun hc0 => ?_) (fun hc0 => ?_)
  · -- cond 0 true
    try simp only [decide_eq_true_eq, decide_eq_false_iff_not, Bool.not_eq_true', Bool.not_eq_false', Int.not_lt, Int.not_le, ne_eq, Decidable.not_not, Bool.or_eq_true, Bool.or_eq_false_iff, Bool.and_eq_true, Bool.and_eq_false_imp] at hc0
    have hil : i < P.length := by omega
    obtain ⟨e, he⟩ : ∃ e, P[i]? = some e := ⟨P[i], List.getElem?_eq_getElem _⟩
    obtain ⟨ga, rfl⟩ := row_some (i := 1) hS rfl (by omega)
    have hc0 := row_load (i := 1) hS rfl (by omega) (entCells_at he)
    have hct : w.cell? ⟨ga, 0 + (i : Int).toNat * 3 + 0, none⟩ = some (.int .i64 e.timer) := hc0 0 _ rfl
    have hcv : w.cell? ⟨ga, 0 + (i : Int).toNat * 3 + 2, none⟩ = some e.v := hc0 2 _ rfl
    have hee : (i < A0.length ∧ e.timer ≠ t) ∨ (i = A0.length ∧ e = en) := by
      rw [hP] at he
      by_cases h : i < A0.length
      · rw [List.getElem?_append_left h] at he
        exact .inl ⟨h, hA e (List.mem_of_getElem? he)⟩
      · have : i = A0.length := by omega
        subst this
        simp at he
        exact .inr ⟨rfl, he.symm⟩
    refine wp_skip ?_
    refine hK3 _ _ ?_; clear hK3
    refine wp_seq_k fun K5 hK5 => ?_
    refine wp_block ?_
    refine wp_seq_k fun K6 hK6 => ?_
    refine wp_region_lit ?_
    refine s_pu hF rfl rfl rfl (pu_move (hF.ev rfl)) ?_; clear hF; intro a hF
    refine s_pu hF rfl rfl rfl ((by exact pu_nil (hF.ev rfl))) ?_; clear hF; intro a hF
    refine s_pu hF rfl rfl rfl ((by exact pu_field fd53_0 (hF.ev rfl))) ?_; clear hF; intro a hF
    refine s_rd hF rfl rfl rfl (by exact rd_load pl51 (hF.ev rfl) (hS.cellL (i := 0) rfl rfl)) ?_; clear hF; intro a hF
    refine s_pu hF rfl rfl rfl (pu_move (hF.ev rfl)) ?_; clear hF; intro a hF
    refine s_pu hF rfl rfl rfl ((by exact pu_elem sl51 (hF.ev rfl) (hF.ev rfl) (by omega) (by omega))) ?_; clear hF; intro a hF
    refine s_pu hF rfl rfl rfl ((by exact pu_field fd62_0 (hF.ev rfl))) ?_; clear hF; intro a hF
    refine s_rd hF rfl rfl rfl (by exact rd_load pl3 (hF.ev rfl) (by assumption)) ?_; clear hF; intro a hF
    refine s_pu hF rfl rfl rfl (pu_move (hF.ev rfl)) ?_; clear hF; intro a hF
    refine s_pu hF rfl rfl rfl (pu_eql (hF.ev rfl) (hF.ev rfl)) ?_; clear hF; intro a hF
    refine s_done ?_
    refine hK6 _ _ ?_; clear hK6
    refine wp_cond_split (hF.ev rfl) (fun hc1 => ?_) (fun hc1 => ?_)
    · -- cond 1 true
      try simp only [decide_eq_true_eq, decide_eq_false_iff_not, Bool.not_eq_true', Bool.not_eq_false', Int.not_lt, Int.not_le, ne_eq, Decidable.not_not, Bool.or_eq_true, Bool.or_eq_false_iff, Bool.and_eq_true, Bool.and_eq_false_imp] at hc1
      obtain ⟨h1, h2⟩ : i = A0.length ∧ e = en := by
        rcases hee with h | h
        · exact absurd hc1 h.2
        · exact h
      subst h2
      have hw1 : P.take i = A0 := by rw [hP, h1]; simp
      have hw2 : P.drop (i + 1) = B0 := by rw [hP, h1]; simp
      refine wp_seq_k fun K7 hK7 => ?_
      refine wp_region_lit ?_
      refine s_pu hF rfl rfl rfl (pu_move (hF.ev rfl)) ?_; clear hF; intro a hF
      refine s_pu hF rfl rfl rfl ((by exact pu_nil (hF.ev rfl))) ?_; clear hF; intro a hF
      refine s_pu hF rfl rfl rfl ((by exact pu_field fd53_0 (hF.ev rfl))) ?_; clear hF; intro a hF
      refine s_rd hF rfl rfl rfl (by exact rd_load pl51 (hF.ev rfl) (hS.cellL (i := 0) rfl rfl)) ?_; clear hF; intro a hF
      refine s_pu hF rfl rfl rfl (pu_move (hF.ev rfl)) ?_; clear hF; intro a hF
      refine s_pu hF rfl rfl rfl ((by exact pu_elem sl51 (hF.ev rfl) (hF.ev rfl) (by omega) (by omega))) ?_; clear hF; intro a hF
      refine s_pu hF rfl rfl rfl ((by exact pu_field fd62_2 (hF.ev rfl))) ?_; clear hF; intro a hF
      refine s_rd hF rfl rfl rfl (by exact rd_load pl3 (hF.ev rfl) (by assumption)) ?_; clear hF; intro a hF
      refine s_pu hF rfl rfl rfl (pu_assign (hF.ev rfl)) ?_; clear hF; intro a hF
      refine s_done ?_
      refine hK7 _ _ ?_; clear hK7
      refine wp_seq_k fun K8 hK8 => ?_
      refine wp_region_lit ?_
      refine s_pu hF rfl rfl rfl (pu_assign (hF.ev rfl)) ?_; clear hF; intro a hF
      refine s_done ?_
      replace hS := row_nil (E := 62) (sz := 3) hS
      refine hK8 _ _ ?_; clear hK8
      refine wp_seq_k fun K9 hK9 => ?_
      refine wp_region_lit ?_
      refine s_pu hF rfl rfl rfl (pu_move (hF.ev rfl)) ?_; clear hF; intro a hF
      refine s_pu hF rfl rfl rfl (pu_move (hF.ev rfl)) ?_; clear hF; intro a hF
      refine s_pu hF rfl rfl rfl ((by exact pu_nil (hF.ev rfl))) ?_; clear hF; intro a hF
      refine s_pu hF rfl rfl rfl ((by exact pu_field fd53_0 (hF.ev rfl))) ?_; clear hF; intro a hF
      refine s_rd hF rfl rfl rfl (by exact rd_load pl51 (hF.ev rfl) (hS.cellL (i := 1) rfl rfl)) ?_; clear hF; intro a hF
      refine s_pu hF rfl rfl rfl (pu_move (hF.ev rfl)) ?_; clear hF; intro a hF
      refine s_pu hF rfl rfl rfl (pu_cutHi sl51 (hF.ev rfl) (hF.ev rfl) (by omega) (by omega)) ?_; clear hF; intro a hF
      refine s_appendV 0 hF rfl rfl sl51 el62 (hF.ev rfl) (hF.ev rfl) hS rfl (news := entCells (P.take i)) (by rw [entCells_len, List.length_take]; omega) (by
        have := win_pre (jj := 2) (m := (i : Int).toNat) hS rfl (by omega)
        rw [Int.toNat_natCast, entCells_take] at this
        rw [Int.toNat_natCast]
        exact this) (entCells_one _) (by unfold maxLen; omega) (by omega) ?_; clear hF hS; intro A43 q43 w hS a hF
      simp only [del, List.nil_append, Nat.zero_add] at hS hF
      refine s_pu hF rfl rfl rfl (pu_assign (hF.ev rfl)) ?_; clear hF; intro a hF
      refine s_done ?_
      refine hK9 _ _ ?_; clear hK9
      refine wp_seq_k fun K10 hK10 => ?_
      refine wp_region_lit ?_
      refine s_pu hF rfl rfl rfl (pu_move (hF.ev rfl)) ?_; clear hF; intro a hF
      refine s_pu hF rfl rfl rfl (pu_move (hF.ev rfl)) ?_; clear hF; intro a hF
      refine s_pu hF rfl rfl rfl (pu_move (hF.ev rfl)) ?_; clear hF; intro a hF
      refine s_pu hF rfl rfl rfl ((by exact pu_nil (hF.ev rfl))) ?_; clear hF; intro a hF
      refine s_pu hF rfl rfl rfl ((by exact pu_field fd53_0 (hF.ev rfl))) ?_; clear hF; intro a hF
      refine s_rd hF rfl rfl rfl (by exact rd_load pl51 (hF.ev rfl) (hS.cellL (i := 1) rfl rfl)) ?_; clear hF; intro a hF
      refine s_pu hF rfl rfl rfl (pu_move (hF.ev rfl)) ?_; clear hF; intro a hF
      refine s_pu hF rfl rfl rfl ((by exact pu_add64 (hF.ev rfl) (hF.ev rfl) (by omega))) ?_; clear hF; intro a hF
      refine s_pu hF rfl rfl rfl (pu_cutLoO sl51 (hF.ev rfl) (hF.ev rfl) (by omega) (by omega)) ?_; clear hF; intro a hF
      refine s_appendV 0 hF rfl rfl sl51 el62 (hF.ev rfl) (hF.ev rfl) hS rfl (news := entCells (P.drop (i + 1))) (by rw [entCells_len, List.length_drop]; omega) (by
        have := win_post (jj := 2) (o := ((i : Int) + 1).toNat) hS rfl (by omega)
        have e1 : ((i : Int) + 1).toNat = i + 1 := by omega
        rw [e1] at this ⊢
        rw [entCells_drop] at this
        exact this) (entCells_one _) (by unfold maxLen; omega) (by omega) ?_; clear hF hS; intro A53 q53 w hS a hF
      simp only [del] at hS
      refine s_pu hF rfl rfl rfl ((by exact pu_nil (hF.ev rfl))) ?_; clear hF; intro a hF
      refine s_pu hF rfl rfl rfl ((by exact pu_field fd53_0 (hF.ev rfl))) ?_; clear hF; intro a hF
      ((refine s_store (vs := [_]) (cs' := #[_, _, _]) 1 hF rfl (hF.ev rfl) (hF.ev rfl) hS rfl rfl sz51 (by rfl) (by exact Nat.le_of_ble_eq_true rfl) rfl ?_))
      clear hS; intro w hS; (try simp only [upd, del] at hS)
      refine s_done ?_
      refine hK10 _ _ ?_; clear hK10
      refine wp_seq_k fun K11 hK11 => ?_
      refine wp_region_lit ?_
      refine s_pu hF rfl rfl rfl (pu_move (hF.ev rfl)) ?_; clear hF; intro a hF
      refine s_pu hF rfl rfl rfl (pu_assign (hF.ev rfl)) ?_; clear hF; intro a hF
      refine s_pu hF rfl rfl rfl (pu_assign (hF.ev rfl)) ?_; clear hF; intro a hF
      refine s_done ?_
      refine hK11 _ _ ?_; clear hK11
      refine wp_ret ?_
      refine blk_ret ?_
      refine then_ret ?_
      refine then_ret ?_
      refine blk_ret ?_
      refine then_ret ?_
      refine fin2 Try.results27 hF rfl rfl ?_
      refine ⟨rfl, ?_⟩
      have e1 : (i : Int).toNat + (P.length - ((i : Int) + 1).toNat) = (A0 ++ B0).length := by rw [List.length_append]; omega
      rw [hw1, hw2, ← entCells_append, e1] at hS
      refine ref_shut ((hS.drop 2).sel [1])
    · -- cond 1 false
      try simp only [decide_eq_true_eq, decide_eq_false_iff_not, Bool.not_eq_true', Bool.not_eq_false', Int.not_lt, Int.not_le, ne_eq, Decidable.not_not, Bool.or_eq_true, Bool.or_eq_false_iff, Bool.and_eq_true, Bool.and_eq_false_imp] at hc1
      have h1 : i < A0.length := by
        rcases hee with h | h
        · exact h.1
        · exact absurd (h.2 ▸ hen) hc1
      refine wp_skip ?_
      refine blk_normal ?_
      refine hK5 _ _ ?_; clear hK5
      refine wp_region_lit ?_
      refine s_pu hF rfl rfl rfl (pu_move (hF.ev rfl)) ?_; clear hF; intro a hF
      refine s_pu hF rfl rfl rfl ((by exact pu_add64 (hF.ev rfl) (hF.ev rfl) (by omega))) ?_; clear hF; intro a hF
      refine s_pu hF rfl rfl rfl (pu_assign (hF.ev rfl)) ?_; clear hF; intro a hF
      refine s_done ?_
      exact ⟨_, by omega, i + 1, rfl, by omega, hF.sub ⟨rfl, rfl, rfl, trivial⟩, hS⟩
  · -- cond 0 false
    try simp only [decide_eq_true_eq, decide_eq_false_iff_not, Bool.not_eq_true', Bool.not_eq_false', Int.not_lt, Int.not_le, ne_eq, Decidable.not_not, Bool.or_eq_true, Bool.or_eq_false_iff, Bool.and_eq_true, Bool.and_eq_false_imp] at hc0
    omega
theorem rTick_c (hS : Sat w0 w (refC g P now last :: F)) (hlen : P.length ≤ 5864062014805) (h0 : 0 ≤ now) (hnow : now + 1 ≤ 4611686018427387904) :
    Calls Try.prog 29 #[.pointer (some ⟨g, 0, none⟩)] w fun e w' => ∃ A c, e = .returned (.slice A (P.filter fun e => decide (e.at_ = now + 1)).length c) ∧
      Sat w0 w' (rowC 3 1 (.slice A (P.filter fun e => decide (e.at_ = now + 1)).length c) (P.filter fun e => decide (e.at_ = now + 1)).length ((P.filter fun e => decide (e.at_ = now + 1)).map Ent.v) ::
        refC g (P.filter fun e => !decide (e.at_ = now + 1)) (now + 1) last :: F) := by
  obtain ⟨A, c, hc, hS⟩ := ref_open hS
  obtain ⟨p, hp⟩ : ∃ p : Ent → Bool, p = fun e => decide (e.at_ = now + 1) := ⟨_, rfl⟩
  have hp2 : (fun e : Ent => !decide (e.at_ = now + 1)) = fun e => !p e := by rw [hp]
  rw [← hp, hp2]
  refine enter Try.func29 rfl Try.ntmps29 (Nat.le_of_ble_eq_true rfl) fun a hF => ?_
  refine wp_seq_k fun K0 hK0 => ?_
  refine wp_region_lit ?_
  refine s_pu hF rfl rfl rfl (pu_assign (hF.ev rfl)) ?_; clear hF; intro a hF
  refine s_done ?_
  refine hK0 _ _ ?_; clear hK0
  refine wp_seq_k fun K1 hK1 => ?_
  refine wp_region_lit ?_
  refine s_pu hF rfl rfl rfl (pu_move (hF.ev rfl)) ?_; clear hF; intro a hF
  refine s_pu hF rfl rfl rfl ((by exact pu_nil (hF.ev rfl))) ?_; clear hF; intro a hF
  refine s_pu hF rfl rfl rfl ((by exact pu_field fd53_2 (hF.ev rfl))) ?_; clear hF; intro a hF
  refine s_rd hF rfl rfl rfl (by exact rd_load pl3 (hF.ev rfl) (hS.cellL (i := 0) rfl rfl)) ?_; clear hF; intro a hF
  refine s_pu hF rfl rfl rfl ((by exact pu_add64 (hF.ev rfl) (hF.ev rfl) (by omega))) ?_; clear hF; intro a hF
  refine s_pu hF rfl rfl rfl ((by exact pu_nil (hF.ev rfl))) ?_; clear hF; intro a hF
  refine s_pu hF rfl rfl rfl ((by exact pu_field fd53_2 (hF.ev rfl))) ?_; clear hF; intro a hF
  ((refine s_store (vs := [_]) (cs' := #[_, _, _]) 0 hF rfl (hF.ev rfl) (hF.ev rfl) hS rfl rfl sz3 (by rfl) (by exact Nat.le_of_ble_eq_true rfl) rfl ?_))
  clear hS; intro w hS; (try simp only [upd, del] at hS)
  refine s_done ?_
  refine hK1 _ _ ?_; clear hK1
  refine wp_seq_k fun K2 hK2 => ?_
  refine wp_region_lit ?_
  refine s_pu hF rfl rfl rfl (pu_assign (hF.ev rfl)) ?_; clear hF; intro a hF
  refine s_done ?_
  refine hK2 _ _ ?_; clear hK2
  refine wp_seq_k fun K3 hK3 => ?_
  refine wp_region_lit ?_
  refine s_pu hF rfl rfl rfl (pu_assign (hF.ev rfl)) ?_; clear hF; intro a hF
  refine s_done ?_
  replace hS := row_nil (E := 62) (sz := 3) (row_nil (E := 3) (sz := 1) hS)
  refine hK3 _ _ ?_; clear hK3
  refine wp_seq_k fun K4 hK4 => ?_
  refine wp_seq_k fun K5 hK5 => ?_
  refine wp_region_lit ?_
  refine s_pu hF rfl rfl rfl (pu_assign (hF.ev rfl)) ?_; clear hF; intro a hF
  refine s_done ?_
  refine hK5 _ _ ?_; clear hK5
  refine wp_block ?_
  refine wp_ind (fun j a w => ∃ (i : Nat) (o o4 : Option Addr) (d3 d4 : Nat), j = P.length - i ∧ i ≤ P.length ∧
    Fr a 61 [(0, .pointer (some ⟨g, 0, none⟩)), (3, .slice o ((P.take i).filter p).length d3), (4, .slice o4 ((P.take i).filter fun e => !p e).length d4), (5, .int .i64 i)] ∧
    Sat w0 w (rowC 62 3 (.slice o4 ((P.take i).filter fun e => !p e).length d4) ((P.take i).filter fun e => !p e).length (entCells ((P.take i).filter fun e => !p e)) :: rowC 3 1 (.slice o ((P.take i).filter p).length d3) ((P.take i).filter p).length (((P.take i).filter p).map Ent.v) ::
      .obj g (.cells #[.slice A P.length c, .int .i64 last, .int .i64 (now + 1)] 53) :: rowC 62 3 (.slice A P.length c) P.length (entCells P) :: F)) P.length
    ⟨0, none, none, 0, 0, by omega, by omega, hF.sub ⟨rfl, rfl, rfl, rfl, trivial⟩, by simpa [entCells] using hS⟩ ?_
  clear hS hF
  rintro j a w ⟨i, o, o4, d3, d4, rfl, hi, hF, hS⟩
  refine wp_seq_k fun K6 hK6 => ?_
  refine wp_seq_k fun K7 hK7 => ?_
  refine wp_region_lit ?_
  refine s_pu hF rfl rfl rfl (pu_move (hF.ev rfl)) ?_; clear hF; intro a hF
  refine s_pu hF rfl rfl rfl (pu_move (hF.ev rfl)) ?_; clear hF; intro a hF
  refine s_pu hF rfl rfl rfl ((by exact pu_nil (hF.ev rfl))) ?_; clear hF; intro a hF
  refine s_pu hF rfl rfl rfl ((by exact pu_field fd53_0 (hF.ev rfl))) ?_; clear hF; intro a hF
  refine s_rd hF rfl rfl rfl (by exact rd_load pl51 (hF.ev rfl) (hS.cellL (i := 2) rfl rfl)) ?_; clear hF; intro a hF
  refine s_pu hF rfl rfl rfl (pu_len sl51 (hF.ev rfl)) ?_; clear hF; intro a hF
  refine s_pu hF rfl rfl rfl (pu_lss (hF.ev rfl) (hF.ev rfl)) ?_; clear hF; intro a hF
  refine s_done ?_
  refine hK7 _ _ ?_; clear hK7
  refine wp_cond_split (hF.ev rfl) (fun hc0 => ?_) (fun hc0 => ?_)
  · -- cond 0 true
    try simp only [decide_eq_true_eq, decide_eq_false_iff_not, Bool.not_eq_true', Bool.not_eq_false', Int.not_lt, Int.not_le, ne_eq, Decidable.not_not, Bool.or_eq_true, Bool.or_eq_false_iff, Bool.and_eq_true, Bool.and_eq_false_imp] at hc0
    have hil : i < P.length := by omega
    obtain ⟨e, he⟩ : ∃ e, P[i]? = some e := ⟨P[i], List.getElem?_eq_getElem _⟩
    obtain ⟨ga, rfl⟩ := row_some (i := 3) hS rfl (by omega)
    have h1 := List.length_filter_le p (P.take i)
    have h2 := List.length_filter_le (fun e => !p e) (P.take i)
    have h3 : (P.take i).length = i := by simp; omega
    have hev := e.one
    refine wp_skip ?_
    refine hK6 _ _ ?_; clear hK6
    refine wp_seq_k fun K8 hK8 => ?_
    refine wp_block ?_
    refine wp_seq_k fun K9 hK9 => ?_
    refine d_start (S := (fun w => Sat w0 w _)) (ds := []) (ord := [(0, .pu), (1, .pu), (2, .pu), (3, .tk), (4, .pu), (5, .pu), (6, .pu), (7, .tk), (8, .pu), (9, .pu), (10, .pu), (11, .tk), (12, .pu)]) mixed ⟨by kernel_rfl, fun _ d _ _ _ h => by cases d <;> exact h⟩ hS.drew fun hD => ?_
    replace hS := hS.drew; generalize w.drew = w at hS ⊢
    refine d_pu hD hF rfl rfl rfl rfl rfl (pu_move (hF.ev rfl)) ?_; clear hF; intro a hF
    refine d_pu hD hF rfl rfl rfl rfl rfl ((by exact pu_nil (hF.ev rfl))) ?_; clear hF; intro a hF
    refine d_pu hD hF rfl rfl rfl rfl rfl ((by exact pu_field fd53_0 (hF.ev rfl))) ?_; clear hF; intro a hF
    refine d_rd hD hF rfl rfl rfl rfl rfl hS (fun w hS => (by exact rd_load pl51 (hF.ev rfl) (hS.cellL (i := 2) rfl rfl))) ?_; clear hF; intro a hF
    refine d_pu hD hF rfl rfl rfl rfl rfl (pu_move (hF.ev rfl)) ?_; clear hF; intro a hF
    refine d_pu hD hF rfl rfl rfl rfl rfl ((by exact pu_elem sl51 (hF.ev rfl) (hF.ev rfl) (by omega) (by omega))) ?_; clear hF; intro a hF
    refine d_pu hD hF rfl rfl rfl rfl rfl ((by exact pu_field fd62_1 (hF.ev rfl))) ?_; clear hF; intro a hF
    refine d_rd hD hF rfl rfl rfl rfl rfl hS (fun w hS => rd_load pl3 (hF.ev rfl) (row_load (i := 3) hS rfl (by omega) (entCells_at he) 1 _ rfl)) ?_; clear hF; intro a hF
    refine d_pu hD hF rfl rfl rfl rfl rfl (pu_move (hF.ev rfl)) ?_; clear hF; intro a hF
    refine d_pu hD hF rfl rfl rfl rfl rfl ((by exact pu_nil (hF.ev rfl))) ?_; clear hF; intro a hF
    refine d_pu hD hF rfl rfl rfl rfl rfl ((by exact pu_field fd53_2 (hF.ev rfl))) ?_; clear hF; intro a hF
    refine d_rd hD hF rfl rfl rfl rfl rfl hS (fun w hS => (by exact rd_load pl3 (hF.ev rfl) (hS.cellL (i := 2) rfl rfl))) ?_; clear hF; intro a hF
    refine d_pu hD hF rfl rfl rfl rfl rfl (pu_eql (hF.ev rfl) (hF.ev rfl)) ?_; clear hF; intro a hF
    refine d_done hD rfl ?_; clear hD
    refine hK9 _ _ ?_; clear hK9
    refine wp_cond_split (hF.ev rfl) (fun hc1 => ?_) (fun hc1 => ?_)
    · -- cond 1 true
      try simp only [decide_eq_true_eq, decide_eq_false_iff_not, Bool.not_eq_true', Bool.not_eq_false', Int.not_lt, Int.not_le, ne_eq, Decidable.not_not, Bool.or_eq_true, Bool.or_eq_false_iff, Bool.and_eq_true, Bool.and_eq_false_imp] at hc1
      have hpe : p e = true := by rw [hp]; simpa using hc1
      have hcv : w.cell? ⟨ga, 0 + (i : Int).toNat * 3 + 2, none⟩ = some e.v := row_load (i := 3) hS rfl (by omega) (entCells_at he) 2 _ rfl
      refine wp_region_lit ?_
      refine s_pu hF rfl rfl rfl (pu_move (hF.ev rfl)) ?_; clear hF; intro a hF
      refine s_pu hF rfl rfl rfl (pu_move (hF.ev rfl)) ?_; clear hF; intro a hF
      refine s_pu hF rfl rfl rfl ((by exact pu_nil (hF.ev rfl))) ?_; clear hF; intro a hF
      refine s_pu hF rfl rfl rfl ((by exact pu_field fd53_0 (hF.ev rfl))) ?_; clear hF; intro a hF
      refine s_rd hF rfl rfl rfl (by exact rd_load pl51 (hF.ev rfl) (hS.cellL (i := 2) rfl rfl)) ?_; clear hF; intro a hF
      refine s_pu hF rfl rfl rfl (pu_move (hF.ev rfl)) ?_; clear hF; intro a hF
      refine s_pu hF rfl rfl rfl ((by exact pu_elem sl51 (hF.ev rfl) (hF.ev rfl) (by omega) (by omega))) ?_; clear hF; intro a hF
      refine s_pu hF rfl rfl rfl ((by exact pu_field fd62_2 (hF.ev rfl))) ?_; clear hF; intro a hF
      refine s_rd hF rfl rfl rfl (by exact rd_load pl3 (hF.ev rfl) (by assumption)) ?_; clear hF; intro a hF
      refine s_news hF rfl rfl rfl (ef_lit1 (cs := [_]) sl22 ze3 rfl (hF.ev rfl) (by exact cells_one (by assumption)) rfl (by omega) (by omega)) hS ?_; clear hF hS; intro b44 w hS a hF
      (((refine s_append 2 0 hF rfl rfl sl22 el3 (hF.ev rfl) (hF.ev rfl) hS rfl rfl rfl (by ((simp only [List.all_cons, List.all_nil, Value.oneCell', Bool.and_true, Bool.true_and]; assumption))) (by unfold maxLen; omega) (by omega) ?_))); (clear hS hF; intro A45 q45 w hS a hF; (try simp only [upd, del] at hS))
      refine s_pu hF rfl rfl rfl (pu_assign (hF.ev rfl)) ?_; clear hF; intro a hF
      refine s_done ?_
      refine blk_normal ?_
      refine hK8 _ _ ?_; clear hK8
      refine wp_region_lit ?_
      refine s_pu hF rfl rfl rfl (pu_move (hF.ev rfl)) ?_; clear hF; intro a hF
      refine s_pu hF rfl rfl rfl ((by exact pu_add64 (hF.ev rfl) (hF.ev rfl) (by omega))) ?_; clear hF; intro a hF
      refine s_pu hF rfl rfl rfl (pu_assign (hF.ev rfl)) ?_; clear hF; intro a hF
      refine s_done ?_
      have e1 := filter_take_succ p he
      have e2 := filter_take_succ (fun e => !p e) he
      simp only [hpe] at e1 e2
      simp at e1 e2
      refine ⟨P.length - (i + 1), by omega, i + 1, ?_⟩
      simp only [e1, e2, List.length_append, List.length_cons, List.length_nil, Nat.zero_add, Nat.add_zero]
      replace hS := hS.drop 1
      simp only [del] at hS
      first
        | (replace hS := hS.sel [1]
           simp only [selR, nth, del] at hS
           exact ⟨A45, o4, q45, d4, trivial, by omega, hF.sub ⟨rfl, rfl, rfl, rfl, trivial⟩, by simpa [entCells_append, entCells, Ent.cells] using hS⟩)
        | exact ⟨o, A55, d3, q55, trivial, by omega, hF.sub ⟨rfl, rfl, rfl, rfl, trivial⟩, by simpa [entCells_append, entCells, Ent.cells] using hS⟩
    · -- cond 1 false
      try simp only [decide_eq_true_eq, decide_eq_false_iff_not, Bool.not_eq_true', Bool.not_eq_false', Int.not_lt, Int.not_le, ne_eq, Decidable.not_not, Bool.or_eq_true, Bool.or_eq_false_iff, Bool.and_eq_true, Bool.and_eq_false_imp] at hc1
      have hpe : p e = false := by rw [hp]; simpa using hc1
      refine wp_region_lit ?_
      refine s_pu hF rfl rfl rfl (pu_move (hF.ev rfl)) ?_; clear hF; intro a hF
      refine s_pu hF rfl rfl rfl (pu_move (hF.ev rfl)) ?_; clear hF; intro a hF
      refine s_pu hF rfl rfl rfl ((by exact pu_nil (hF.ev rfl))) ?_; clear hF; intro a hF
      refine s_pu hF rfl rfl rfl ((by exact pu_field fd53_0 (hF.ev rfl))) ?_; clear hF; intro a hF
      refine s_rd hF rfl rfl rfl (by exact rd_load pl51 (hF.ev rfl) (hS.cellL (i := 2) rfl rfl)) ?_; clear hF; intro a hF
      refine s_pu hF rfl rfl rfl (pu_move (hF.ev rfl)) ?_; clear hF; intro a hF
      refine s_pu hF rfl rfl rfl ((by exact pu_elem sl51 (hF.ev rfl) (hF.ev rfl) (by omega) (by omega))) ?_; clear hF; intro a hF
      refine s_rd hF rfl rfl rfl (rd_loadN (vs := [.int .i64 e.timer, .int .i64 e.at_, e.v]) ag62 (hF.ev rfl) rfl (row_load (i := 3) hS rfl (by omega) (entCells_at he))) ?_; clear hF; intro a hF
      refine s_news hF rfl rfl rfl (ef_lit1 (cs := [_, _, _]) sl51 ze62 rfl (hF.ev rfl) (by rfl) rfl (by omega) (by omega)) hS ?_; clear hF hS; intro b54 w hS a hF
      (((refine s_append 1 0 hF rfl rfl sl51 el62 (hF.ev rfl) (hF.ev rfl) hS rfl rfl rfl (by ((simp only [List.all_cons, List.all_nil, Value.oneCell', Bool.and_true, Bool.true_and]; assumption))) (by unfold maxLen; omega) (by omega) ?_))); (clear hS hF; intro A55 q55 w hS a hF; (try simp only [upd, del] at hS))
      refine s_pu hF rfl rfl rfl (pu_assign (hF.ev rfl)) ?_; clear hF; intro a hF
      refine s_done ?_
      refine blk_normal ?_
      refine hK8 _ _ ?_; clear hK8
      refine wp_region_lit ?_
      refine s_pu hF rfl rfl rfl (pu_move (hF.ev rfl)) ?_; clear hF; intro a hF
      refine s_pu hF rfl rfl rfl ((by exact pu_add64 (hF.ev rfl) (hF.ev rfl) (by omega))) ?_; clear hF; intro a hF
      refine s_pu hF rfl rfl rfl (pu_assign (hF.ev rfl)) ?_; clear hF; intro a hF
      refine s_done ?_
      have e1 := filter_take_succ p he
      have e2 := filter_take_succ (fun e => !p e) he
      simp only [hpe] at e1 e2
      simp at e1 e2
      refine ⟨P.length - (i + 1), by omega, i + 1, ?_⟩
      simp only [e1, e2, List.length_append, List.length_cons, List.length_nil, Nat.zero_add, Nat.add_zero]
      replace hS := hS.drop 1
      simp only [del] at hS
      first
        | (replace hS := hS.sel [1]
           simp only [selR, nth, del] at hS
           exact ⟨A45, o4, q45, d4, trivial, by omega, hF.sub ⟨rfl, rfl, rfl, rfl, trivial⟩, by simpa [entCells_append, entCells, Ent.cells] using hS⟩)
        | exact ⟨o, A55, d3, q55, trivial, by omega, hF.sub ⟨rfl, rfl, rfl, rfl, trivial⟩, by simpa [entCells_append, entCells, Ent.cells] using hS⟩
  · -- cond 0 false
    try simp only [decide_eq_true_eq, decide_eq_false_iff_not, Bool.not_eq_true', Bool.not_eq_false', Int.not_lt, Int.not_le, ne_eq, Decidable.not_not, Bool.or_eq_true, Bool.or_eq_false_iff, Bool.and_eq_true, Bool.and_eq_false_imp] at hc0
    refine wp_exit ?_
    refine then_exit ?_
    refine then_exit ?_
    refine blk_exit ?_
    refine hK4 _ _ ?_; clear hK4
    refine wp_seq_k fun K8 hK8 => ?_
    refine wp_region_lit ?_
    refine s_pu hF rfl rfl rfl (pu_move (hF.ev rfl)) ?_; clear hF; intro a hF
    refine s_pu hF rfl rfl rfl (pu_move (hF.ev rfl)) ?_; clear hF; intro a hF
    refine s_pu hF rfl rfl rfl ((by exact pu_nil (hF.ev rfl))) ?_; clear hF; intro a hF
    refine s_pu hF rfl rfl rfl ((by exact pu_field fd53_0 (hF.ev rfl))) ?_; clear hF; intro a hF
    ((refine s_store (vs := [_]) (cs' := #[_, _, _]) 2 hF rfl (hF.ev rfl) (hF.ev rfl) hS rfl rfl sz51 (by rfl) (by exact Nat.le_of_ble_eq_true rfl) rfl ?_))
    clear hS; intro w hS; (try simp only [upd, del] at hS)
    refine s_done ?_
    refine hK8 _ _ ?_; clear hK8
    refine wp_seq_k fun K9 hK9 => ?_
    refine wp_region_lit ?_
    refine s_pu hF rfl rfl rfl (pu_move (hF.ev rfl)) ?_; clear hF; intro a hF
    refine s_pu hF rfl rfl rfl (pu_assign (hF.ev rfl)) ?_; clear hF; intro a hF
    refine s_done ?_
    refine hK9 _ _ ?_; clear hK9
    refine wp_ret ?_
    refine fin1 Try.results29 hF rfl ?_
    have hil : i = P.length := by omega
    subst hil
    rw [List.take_length] at hS
    refine ⟨o, d3, by rw [List.take_length], ?_⟩
    exact (ref_shut ((hS.drop 3).sel [2, 0])).sel [1]
end
end Go.Proofs.Ytbpkfifiigpdcaa
