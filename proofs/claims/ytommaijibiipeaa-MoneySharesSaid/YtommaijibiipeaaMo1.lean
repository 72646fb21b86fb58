import Derived.Test.YtommaijibiipeaaFc
/-! Money: amounts and sums. -/
namespace Go.Proofs.Ytommaijibiipeaa
open Go Go.RowKit Go.Proofs.Ytommaijibiipeaa.Sk
set_option linter.unusedVariables false
set_option linter.unusedSimpArgs false
set_option maxRecDepth 100000

def amt (z : Int) : Bool := decide (0 ≤ z) && decide (z ≤ 999999999999)
theorem amt_iff {z : Int} : amt z = true ↔ 0 ≤ z ∧ z ≤ 999999999999 := by simp [amt]
def total (zs : List Int) : Int := zs.foldl (· + ·) 0
theorem total_snoc (zs : List Int) (z : Int) : total (zs ++ [z]) = total zs + z := by simp [total]
theorem total_take {zs : List Int} {i : Nat} (h : i < zs.length) : total (zs.take (i + 1)) = total (zs.take i) + zs.getD i 0 := by
  have e : zs.take (i + 1) = zs.take i ++ [zs.getD i 0] := by
    rw [List.take_add_one, List.getElem?_eq_getElem h]
    simp [List.getD_eq_getElem?_getD, h]
  rw [e, total_snoc]
/-- What Sum answers. -/
def sumOf (zs : List Int) : Int × Int := if zs.all amt then (if 999999999999 < total zs then (0, 13) else (total zs, 0)) else (0, 71)
theorem total_mono {zs : List Int} (h : zs.all amt = true) : ∀ j, total (zs.take j) ≤ total zs ∧ 0 ≤ total (zs.take j) := by
  have key : ∀ (zs : List Int) (s : Int), zs.all amt = true → s ≤ zs.foldl (· + ·) s := by
    intro zs
    induction zs with
    | nil => intros; exact Int.le_refl _
    | cons a r ih =>
      intro s h
      simp only [List.all_cons, Bool.and_eq_true] at h
      have h1 := amt_iff.1 h.1
      have := ih (s + a) h.2
      simp only [List.foldl_cons]
      omega
  intro j
  constructor
  · have : total zs = (zs.drop j).foldl (· + ·) (total (zs.take j)) := by
      unfold total
      rw [← List.foldl_append, List.take_append_drop]
    rw [this]
    apply key
    rw [List.all_eq_true] at h ⊢
    exact fun x hx => h x (List.mem_of_mem_drop hx)
  · apply key
    rw [List.all_eq_true] at h ⊢
    exact fun x hx => h x (List.mem_of_mem_take hx)
theorem all_take {zs : List Int} {i : Nat} (h : i < zs.length) (h1 : (zs.take i).all amt = true) (h2 : amt (zs.getD i 0) = true) : (zs.take (i + 1)).all amt = true := by
  rw [List.take_add_one, List.getElem?_eq_getElem h, List.all_append, h1]
  rw [List.getD_eq_getElem?_getD, List.getElem?_eq_getElem h] at h2
  simpa using h2
theorem sumOf_bad {zs : List Int} {i : Nat} (h : i < zs.length) (h2 : amt (zs.getD i 0) = false) : sumOf zs = (0, 71) := by
  unfold sumOf
  rw [if_neg]
  rw [List.all_eq_true]
  intro h3
  rw [List.getD_eq_getElem?_getD, List.getElem?_eq_getElem h] at h2
  rw [Option.getD_some, h3 _ (List.getElem_mem h)] at h2
  cases h2
theorem amount_c (k : Nat) {w0 w : World} {C : List Chunk} {z : Int} (hS : Sat w0 w C) : Calls Try.prog 21 #[.int .i64 z] w fun e w' => e = .returned (.bool (amt z)) ∧ Sat w0 w' C := by
  refine enter Try.func21 rfl Try.ntmps21 (Nat.le_of_ble_eq_true rfl) fun a hF => ?_
  refine wp_seq_k fun K0 hK0 => ?_
  -- region 0
  refine wp_region_lit ?_
  refine s_pu hF rfl rfl rfl (pu_assign (hF.ev rfl)) ?_; clear hF; intro a hF
  refine s_done ?_
  refine hK0 _ _ ?_; clear hK0
  refine wp_seq_k fun K1 hK1 => ?_
  -- region 1
  refine wp_region_lit ?_
  refine s_pu hF rfl rfl rfl (pu_move (hF.ev rfl)) ?_; clear hF; intro a hF
  refine s_pu hF rfl rfl rfl (pu_geq (hF.ev rfl) (hF.ev rfl)) ?_; clear hF; intro a hF
  refine s_pu hF rfl rfl rfl (pu_move (hF.ev rfl)) ?_; clear hF; intro a hF
  refine fr_split hF (t := 5) rfl ?_ ?_
  · clear hF; intro hg5 hF   -- slot 5 true
    try simp only [decide_eq_true_eq, decide_eq_false_iff_not, Bool.not_eq_true', Bool.not_eq_false', Int.not_lt, Int.not_le, ne_eq, Decidable.not_not, Bool.or_eq_true, Bool.or_eq_false_iff, Bool.and_eq_true, Bool.and_eq_false_imp] at hg5
    refine s_pu hF rfl rfl rfl (pu_move (hF.ev rfl)) ?_; clear hF; intro a hF
    refine s_pu hF rfl rfl rfl (pu_leq (hF.ev rfl) (hF.ev rfl)) ?_; clear hF; intro a hF
    refine s_pu hF rfl rfl rfl ((by first | exact pu_pick_t (hF.ev rfl) (hF.ev rfl) | exact pu_pick_f (hF.ev rfl) (hF.ev rfl) | exact pu_pick (hF.ev rfl) (hF.ev rfl) (hF.ev rfl))) ?_; clear hF; intro a hF
    refine s_pu hF rfl rfl rfl (pu_assign (hF.ev rfl)) ?_; clear hF; intro a hF
    refine s_done ?_
    refine hK1 _ _ ?_; clear hK1
    refine wp_ret ?_
    refine fin1 Try.results21 hF rfl ?_
    exact ⟨by simp [amt]; omega, hS⟩
  · clear hF; intro hg5 hF   -- slot 5 false
    try simp only [decide_eq_true_eq, decide_eq_false_iff_not, Bool.not_eq_true', Bool.not_eq_false', Int.not_lt, Int.not_le, ne_eq, Decidable.not_not, Bool.or_eq_true, Bool.or_eq_false_iff, Bool.and_eq_true, Bool.and_eq_false_imp] at hg5
    refine s_no hF rfl rfl rfl ?_; clear hF; intro a hF
    refine s_no hF rfl rfl rfl ?_; clear hF; intro a hF
    refine s_pu hF rfl rfl rfl ((by first | exact pu_pick_t (hF.ev rfl) (hF.ev rfl) | exact pu_pick_f (hF.ev rfl) (hF.ev rfl) | exact pu_pick (hF.ev rfl) (hF.ev rfl) (hF.ev rfl))) ?_; clear hF; intro a hF
    refine s_pu hF rfl rfl rfl (pu_assign (hF.ev rfl)) ?_; clear hF; intro a hF
    refine s_done ?_
    refine hK1 _ _ ?_; clear hK1
    refine wp_ret ?_
    refine fin1 Try.results21 hF rfl ?_
    exact ⟨by simp [amt]; omega, hS⟩
theorem refAmount_c (k : Nat) {w0 w : World} {C : List Chunk} {z : Int} (hS : Sat w0 w C) : Calls Try.prog 22 #[.int .i64 z] w fun e w' => e = .returned (.bool (amt z)) ∧ Sat w0 w' C := by
  refine enter Try.func22 rfl Try.ntmps22 (Nat.le_of_ble_eq_true rfl) fun a hF => ?_
  refine wp_seq_k fun K0 hK0 => ?_
  -- region 0
  refine wp_region_lit ?_
  refine s_pu hF rfl rfl rfl (pu_assign (hF.ev rfl)) ?_; clear hF; intro a hF
  refine s_done ?_
  refine hK0 _ _ ?_; clear hK0
  refine wp_seq_k fun K1 hK1 => ?_
  -- region 1
  refine wp_region_lit ?_
  refine s_pu hF rfl rfl rfl (pu_move (hF.ev rfl)) ?_; clear hF; intro a hF
  refine s_pu hF rfl rfl rfl (pu_geq (hF.ev rfl) (hF.ev rfl)) ?_; clear hF; intro a hF
  refine s_pu hF rfl rfl rfl (pu_move (hF.ev rfl)) ?_; clear hF; intro a hF
  refine fr_split hF (t := 5) rfl ?_ ?_
  · clear hF; intro hg5 hF   -- slot 5 true
    try simp only [decide_eq_true_eq, decide_eq_false_iff_not, Bool.not_eq_true', Bool.not_eq_false', Int.not_lt, Int.not_le, ne_eq, Decidable.not_not, Bool.or_eq_true, Bool.or_eq_false_iff, Bool.and_eq_true, Bool.and_eq_false_imp] at hg5
    refine s_pu hF rfl rfl rfl (pu_move (hF.ev rfl)) ?_; clear hF; intro a hF
    refine s_pu hF rfl rfl rfl (pu_leq (hF.ev rfl) (hF.ev rfl)) ?_; clear hF; intro a hF
    refine s_pu hF rfl rfl rfl ((by first | exact pu_pick_t (hF.ev rfl) (hF.ev rfl) | exact pu_pick_f (hF.ev rfl) (hF.ev rfl) | exact pu_pick (hF.ev rfl) (hF.ev rfl) (hF.ev rfl))) ?_; clear hF; intro a hF
    refine s_pu hF rfl rfl rfl (pu_assign (hF.ev rfl)) ?_; clear hF; intro a hF
    refine s_done ?_
    refine hK1 _ _ ?_; clear hK1
    refine wp_ret ?_
    refine fin1 Try.results22 hF rfl ?_
    exact ⟨by simp [amt]; omega, hS⟩
  · clear hF; intro hg5 hF   -- slot 5 false
    try simp only [decide_eq_true_eq, decide_eq_false_iff_not, Bool.not_eq_true', Bool.not_eq_false', Int.not_lt, Int.not_le, ne_eq, Decidable.not_not, Bool.or_eq_true, Bool.or_eq_false_iff, Bool.and_eq_true, Bool.and_eq_false_imp] at hg5
    refine s_no hF rfl rfl rfl ?_; clear hF; intro a hF
    refine s_no hF rfl rfl rfl ?_; clear hF; intro a hF
    refine s_pu hF rfl rfl rfl ((by first | exact pu_pick_t (hF.ev rfl) (hF.ev rfl) | exact pu_pick_f (hF.ev rfl) (hF.ev rfl) | exact pu_pick (hF.ev rfl) (hF.ev rfl) (hF.ev rfl))) ?_; clear hF; intro a hF
    refine s_pu hF rfl rfl rfl (pu_assign (hF.ev rfl)) ?_; clear hF; intro a hF
    refine s_done ?_
    refine hK1 _ _ ?_; clear hK1
    refine wp_ret ?_
    refine fin1 Try.results22 hF rfl ?_
    exact ⟨by simp [amt]; omega, hS⟩

theorem sum_c {w0 w : World} {C : List Chunk} {av : Option Addr} {len cap : Nat} {zs : List Int} (hS : Sat w0 w C) (hR : Reads w0 C av len zs) (hlen : len ≤ 140737488355328) :
    Calls Try.prog 8 #[.slice av len cap] w fun e w' => e = .returned (.tuple #[.int .i64 (sumOf zs).1, .int .i64 (sumOf zs).2]) ∧ Sat w0 w' C := by
  have hl := hR.long
  refine enter Try.func8 rfl Try.ntmps8 (Nat.le_of_ble_eq_true rfl) fun a hF => ?_
  refine wp_seq_k fun K0 hK0 => ?_
  -- region 0
  refine wp_region_lit ?_
  refine s_pu hF rfl rfl rfl (pu_assign (hF.ev rfl)) ?_; clear hF; intro a hF
  refine s_pu hF rfl rfl rfl (pu_assign (hF.ev rfl)) ?_; clear hF; intro a hF
  refine s_done ?_
  refine hK0 _ _ ?_; clear hK0
  refine wp_seq_k fun K1 hK1 => ?_
  -- region 1
  refine wp_region_lit ?_
  refine s_pu hF rfl rfl rfl (pu_assign (hF.ev rfl)) ?_; clear hF; intro a hF
  refine s_pu hF rfl rfl rfl (pu_assign (hF.ev rfl)) ?_; clear hF; intro a hF
  refine s_done ?_
  refine hK1 _ _ ?_; clear hK1
  refine wp_seq_k fun K2 hK2 => ?_
  refine wp_seq_k fun K3 hK3 => ?_
  -- region 2
  refine wp_region_lit ?_
  refine s_pu hF rfl rfl rfl (pu_move (hF.ev rfl)) ?_; clear hF; intro a hF
  refine s_pu hF rfl rfl rfl (pu_len sl22 (hF.ev rfl)) ?_; clear hF; intro a hF
  refine s_pu hF rfl rfl rfl (pu_move (hF.ev rfl)) ?_; clear hF; intro a hF
  refine s_done ?_
  refine hK3 _ _ ?_; clear hK3
  refine wp_block ?_
  refine wp_ind (fun j a w => ∃ (i : Nat) (t : Int) (o : Bool), j = len - i ∧ i ≤ len ∧ (zs.take i).all amt = true ∧ (o = false ∧ t = total (zs.take i) ∧ total (zs.take i) ≤ 999999999999 ∨ o = true ∧ 999999999999 < total (zs.take i) ∧ 0 ≤ t ∧ t ≤ 999999999999) ∧
    Fr a 25 [(4, .int .i64 t), (5, .bool o), (8, .slice av len cap), (9, .int .i64 len), (10, .int .i64 i)] ∧ Sat w0 w C) len
    ⟨0, 0, false, by omega, by omega, by simp, .inl ⟨rfl, by simp [total], by simp [total]⟩, hF.sub ⟨rfl, rfl, rfl, rfl, rfl, trivial⟩, hS⟩ ?_
  clear hS hF
  rintro j a w ⟨i, t, o, rfl, hi, hall, ho, hF, hS⟩
  refine wp_seq_k fun K4 hK4 => ?_
  -- region 3
  refine wp_region_lit ?_
  refine s_pu hF rfl rfl rfl (pu_lss (hF.ev rfl) (hF.ev rfl)) ?_; clear hF; intro a hF
  refine s_done ?_
  refine hK4 _ _ ?_; clear hK4
  refine wp_seq_k fun K5 hK5 => ?_
  refine wp_cond_split (hF.ev rfl) (fun hc0 => ?_) (fun hc0 => ?_)
  · -- cond 0 true
    try simp only [decide_eq_true_eq, decide_eq_false_iff_not, Bool.not_eq_true', Bool.not_eq_false', Int.not_lt, Int.not_le, ne_eq, Decidable.not_not, Bool.or_eq_true, Bool.or_eq_false_iff, Bool.and_eq_true, Bool.and_eq_false_imp] at hc0
    obtain ⟨x, rfl, hv⟩ := hR.at_ i (by omega)
    have hv1 := hv w hS
    have htt := total_take (zs := zs) (i := i) (by omega)
    have ht0 := total_mono hall i
    rw [List.take_take, Nat.min_self] at ht0
    refine wp_skip ?_
    refine hK5 _ _ ?_; clear hK5
    refine wp_seq_k fun K6 hK6 => ?_
    refine wp_block ?_
    refine wp_seq_k fun K7 hK7 => ?_
    -- region 4
    refine wp_region_lit ?_
    refine s_pu hF rfl rfl rfl ((by first | exact pu_elem sl22 (hF.ev rfl) (hF.ev rfl) (by first | omega | simp) (by first | omega | (simp; done) | (simp; omega)) | exact pu_elemA sl22 (hF.ev rfl) (hF.ev rfl) (by omega) (by omega))) ?_; clear hF; intro a hF
    refine s_rd hF rfl rfl rfl (by first | exact rd_load pl3 (hF.ev rfl) (by assumption) | exact rd_load pl3 (hF.ev rfl) (hS.cellL (i := 0) rfl rfl) | exact rd_load pl3 (hF.ev rfl) (hS.cellL (i := 1) rfl rfl) | exact rd_load pl3 (hF.ev rfl) (hS.cellL (i := 2) rfl rfl) | exact rd_load pl3 (hF.ev rfl) (hS.cellL (i := 3) rfl rfl) | exact rd_load pl3 (hF.ev rfl) (hS.cellL (i := 4) rfl rfl) | exact rd_load pl3 (hF.ev rfl) (hS.cellL (i := 5) rfl rfl) | exact rd_load pl3 (hF.ev rfl) (hS.cell (i := 0) rfl (by assumption)) | exact rd_load pl3 (hF.ev rfl) (hS.cell (i := 1) rfl (by assumption)) | exact rd_load pl3 (hF.ev rfl) (hS.cell (i := 2) rfl (by assumption)) | exact rd_load pl3 (hF.ev rfl) (hS.cell (i := 3) rfl (by assumption)) | exact rd_load pl3 (hF.ev rfl) (hS.cell (i := 4) rfl (by assumption)) | exact rd_load pl3 (hF.ev rfl) (hS.cell (i := 5) rfl (by assumption)) | exact rd_load pl3 (hF.ev rfl) (row_at (i := 0) hS rfl (by first | assumption | rfl)) | exact rd_load pl3 (hF.ev rfl) (row_at0 (i := 0) hS rfl (by first | assumption | rfl)) | exact rd_load pl3 (hF.ev rfl) (row_at (i := 1) hS rfl (by first | assumption | rfl)) | exact rd_load pl3 (hF.ev rfl) (row_at0 (i := 1) hS rfl (by first | assumption | rfl)) | exact rd_load pl3 (hF.ev rfl) (row_at (i := 2) hS rfl (by first | assumption | rfl)) | exact rd_load pl3 (hF.ev rfl) (row_at0 (i := 2) hS rfl (by first | assumption | rfl)) | exact rd_load pl3 (hF.ev rfl) (row_at (i := 3) hS rfl (by first | assumption | rfl)) | exact rd_load pl3 (hF.ev rfl) (row_at0 (i := 3) hS rfl (by first | assumption | rfl)) | exact rd_load pl3 (hF.ev rfl) (row_at (i := 4) hS rfl (by first | assumption | rfl)) | exact rd_load pl3 (hF.ev rfl) (row_at0 (i := 4) hS rfl (by first | assumption | rfl)) | exact rd_load pl3 (hF.ev rfl) (row_at (i := 5) hS rfl (by first | assumption | rfl)) | exact rd_load pl3 (hF.ev rfl) (row_at0 (i := 5) hS rfl (by first | assumption | rfl))) ?_; clear hF; intro a hF
    refine s_pu hF rfl rfl rfl (pu_assign (hF.ev rfl)) ?_; clear hF; intro a hF
    refine s_done ?_
    refine hK7 _ _ ?_; clear hK7
    refine wp_seq_k fun K8 hK8 => ?_
    refine wp_seq_k fun K9 hK9 => ?_
    -- region 5
    refine wp_region_lit ?_
    refine s_pu hF rfl rfl rfl (pu_move (hF.ev rfl)) ?_; clear hF; intro a hF
    refine s_en hF rfl rfl rfl (run_fn fk21 (hF.ev rfl) (hF.evs rfl)) (amount_c 0 hS) ?_
    clear hS; rintro e w ⟨rfl, hS⟩
    refine ⟨_, rfl, ?_⟩; clear hF; intro a hF
    refine s_pu hF rfl rfl rfl (pu_not (hF.ev rfl)) ?_; clear hF; intro a hF
    refine s_done ?_
    refine hK9 _ _ ?_; clear hK9
    refine wp_cond_split (hF.ev rfl) (fun hc1 => ?_) (fun hc1 => ?_)
    · -- cond 1 true
      try simp only [decide_eq_true_eq, decide_eq_false_iff_not, Bool.not_eq_true', Bool.not_eq_false', Int.not_lt, Int.not_le, ne_eq, Decidable.not_not, Bool.or_eq_true, Bool.or_eq_false_iff, Bool.and_eq_true, Bool.and_eq_false_imp] at hc1
      skip
      refine wp_seq_k fun K10 hK10 => ?_
      -- region 6
      refine wp_region_lit ?_
      refine s_pu hF rfl rfl rfl (pu_assign (hF.ev rfl)) ?_; clear hF; intro a hF
      refine s_pu hF rfl rfl rfl (pu_assign (hF.ev rfl)) ?_; clear hF; intro a hF
      refine s_done ?_
      refine hK10 _ _ ?_; clear hK10
      refine wp_ret ?_
      refine then_ret ?_
      refine blk_ret ?_
      refine then_ret ?_
      refine then_ret ?_
      refine blk_ret ?_
      refine then_ret ?_
      refine fin2 Try.results8 hF rfl rfl ?_
      exact ⟨by rw [sumOf_bad (i := i) (by omega) hc1], hS⟩
    · -- cond 1 false
      try simp only [decide_eq_true_eq, decide_eq_false_iff_not, Bool.not_eq_true', Bool.not_eq_false', Int.not_lt, Int.not_le, ne_eq, Decidable.not_not, Bool.or_eq_true, Bool.or_eq_false_iff, Bool.and_eq_true, Bool.and_eq_false_imp] at hc1
      have hall' := all_take (zs := zs) (i := i) (by omega) hall hc1
      have hz := amt_iff.1 hc1
      refine wp_skip ?_
      refine hK8 _ _ ?_; clear hK8
      refine wp_seq_k fun K10 hK10 => ?_
      -- region 7
      refine wp_region_lit ?_
      refine s_pu hF rfl rfl rfl (pu_move (hF.ev rfl)) ?_; clear hF; intro a hF
      refine s_pu hF rfl rfl rfl (pu_move (hF.ev rfl)) ?_; clear hF; intro a hF
      refine s_pu hF rfl rfl rfl ((by first | exact pu_add64 (hF.ev rfl) (hF.ev rfl) (by omega) | exact pu_add (hF.ev rfl) (hF.ev rfl))) ?_; clear hF; intro a hF
      refine s_pu hF rfl rfl rfl (pu_assign (hF.ev rfl)) ?_; clear hF; intro a hF
      refine s_done ?_
      refine hK10 _ _ ?_; clear hK10
      refine wp_seq_k fun K11 hK11 => ?_
      -- region 8
      refine wp_region_lit ?_
      refine s_pu hF rfl rfl rfl (pu_move (hF.ev rfl)) ?_; clear hF; intro a hF
      refine s_pu hF rfl rfl rfl (pu_gtr (hF.ev rfl) (hF.ev rfl)) ?_; clear hF; intro a hF
      refine s_done ?_
      refine hK11 _ _ ?_; clear hK11
      refine wp_cond_split (hF.ev rfl) (fun hc2 => ?_) (fun hc2 => ?_)
      · -- cond 2 true
        try simp only [decide_eq_true_eq, decide_eq_false_iff_not, Bool.not_eq_true', Bool.not_eq_false', Int.not_lt, Int.not_le, ne_eq, Decidable.not_not, Bool.or_eq_true, Bool.or_eq_false_iff, Bool.and_eq_true, Bool.and_eq_false_imp] at hc2
        skip
        -- region 9
        refine wp_region_lit ?_
        refine s_pu hF rfl rfl rfl (pu_assign (hF.ev rfl)) ?_; clear hF; intro a hF
        refine s_pu hF rfl rfl rfl (pu_assign (hF.ev rfl)) ?_; clear hF; intro a hF
        refine s_done ?_
        refine blk_normal ?_
        refine hK6 _ _ ?_; clear hK6
        -- region 10
        refine wp_region_lit ?_
        refine s_pu hF rfl rfl rfl ((by first | exact pu_add64 (hF.ev rfl) (hF.ev rfl) (by omega) | exact pu_add (hF.ev rfl) (hF.ev rfl))) ?_; clear hF; intro a hF
        refine s_pu hF rfl rfl rfl (pu_move (hF.ev rfl)) ?_; clear hF; intro a hF
        refine s_done ?_
        first
        | exact ⟨_, by omega, i + 1, _, true, rfl, by omega, hall', .inr ⟨rfl, by omega, by omega, by omega⟩, hF.sub ⟨rfl, rfl, rfl, rfl, rfl, trivial⟩, hS⟩
        | exact ⟨_, by omega, i + 1, _, o, rfl, by omega, hall', by rcases ho with ⟨h1, h2, h3⟩ | ⟨h1, h2, h3, h4⟩; exact .inl ⟨h1, by omega, by omega⟩; exact .inr ⟨h1, by omega, by omega, by omega⟩, hF.sub ⟨rfl, rfl, rfl, rfl, rfl, trivial⟩, hS⟩
      · -- cond 2 false
        try simp only [decide_eq_true_eq, decide_eq_false_iff_not, Bool.not_eq_true', Bool.not_eq_false', Int.not_lt, Int.not_le, ne_eq, Decidable.not_not, Bool.or_eq_true, Bool.or_eq_false_iff, Bool.and_eq_true, Bool.and_eq_false_imp] at hc2
        refine wp_skip ?_
        refine blk_normal ?_
        refine hK6 _ _ ?_; clear hK6
        -- region 10
        refine wp_region_lit ?_
        refine s_pu hF rfl rfl rfl ((by first | exact pu_add64 (hF.ev rfl) (hF.ev rfl) (by omega) | exact pu_add (hF.ev rfl) (hF.ev rfl))) ?_; clear hF; intro a hF
        refine s_pu hF rfl rfl rfl (pu_move (hF.ev rfl)) ?_; clear hF; intro a hF
        refine s_done ?_
        first
        | exact ⟨_, by omega, i + 1, _, true, rfl, by omega, hall', .inr ⟨rfl, by omega, by omega, by omega⟩, hF.sub ⟨rfl, rfl, rfl, rfl, rfl, trivial⟩, hS⟩
        | exact ⟨_, by omega, i + 1, _, o, rfl, by omega, hall', by rcases ho with ⟨h1, h2, h3⟩ | ⟨h1, h2, h3, h4⟩; exact .inl ⟨h1, by omega, by omega⟩; exact .inr ⟨h1, by omega, by omega, by omega⟩, hF.sub ⟨rfl, rfl, rfl, rfl, rfl, trivial⟩, hS⟩
  · -- cond 0 false
    try simp only [decide_eq_true_eq, decide_eq_false_iff_not, Bool.not_eq_true', Bool.not_eq_false', Int.not_lt, Int.not_le, ne_eq, Decidable.not_not, Bool.or_eq_true, Bool.or_eq_false_iff, Bool.and_eq_true, Bool.and_eq_false_imp] at hc0
    refine wp_exit ?_
    refine then_exit ?_
    refine then_exit ?_
    refine blk_exit ?_
    refine hK2 _ _ ?_; clear hK2
    refine wp_seq_k fun K6 hK6 => ?_
    refine wp_seq_k fun K7 hK7 => ?_
    -- region 11
    refine wp_region_lit ?_
    refine s_pu hF rfl rfl rfl (pu_move (hF.ev rfl)) ?_; clear hF; intro a hF
    refine s_done ?_
    refine hK7 _ _ ?_; clear hK7
    have hil : i = zs.length := by omega
    subst hil
    rw [List.take_length] at hall ho
    have hsum : sumOf zs = if 999999999999 < total zs then (0, 13) else (total zs, 0) := by unfold sumOf; rw [if_pos hall]
    refine wp_cond_split (hF.ev rfl) (fun hc3 => ?_) (fun hc3 => ?_)
    · -- cond 3 true
      try simp only [decide_eq_true_eq, decide_eq_false_iff_not, Bool.not_eq_true', Bool.not_eq_false', Int.not_lt, Int.not_le, ne_eq, Decidable.not_not, Bool.or_eq_true, Bool.or_eq_false_iff, Bool.and_eq_true, Bool.and_eq_false_imp] at hc3
      refine wp_seq_k fun K8 hK8 => ?_
      -- region 12
      refine wp_region_lit ?_
      refine s_pu hF rfl rfl rfl (pu_assign (hF.ev rfl)) ?_; clear hF; intro a hF
      refine s_pu hF rfl rfl rfl (pu_assign (hF.ev rfl)) ?_; clear hF; intro a hF
      refine s_done ?_
      refine hK8 _ _ ?_; clear hK8
      refine wp_ret ?_
      refine then_ret ?_
      refine fin2 Try.results8 hF rfl rfl ?_
      refine ⟨?_, hS⟩
      rw [hsum]
      rcases ho with ⟨h1, h2, h3⟩ | ⟨h1, h2, h3, h4⟩
      · first
        | (rw [h1] at hc3; simp at hc3; done)
        | (rw [if_neg (by omega), h2]; done)
      · first
        | (rw [h1] at hc3; simp at hc3; done)
        | (rw [if_pos h2]; done)
    · -- cond 3 false
      try simp only [decide_eq_true_eq, decide_eq_false_iff_not, Bool.not_eq_true', Bool.not_eq_false', Int.not_lt, Int.not_le, ne_eq, Decidable.not_not, Bool.or_eq_true, Bool.or_eq_false_iff, Bool.and_eq_true, Bool.and_eq_false_imp] at hc3
      refine wp_skip ?_
      refine hK6 _ _ ?_; clear hK6
      refine wp_seq_k fun K8 hK8 => ?_
      -- region 13
      refine wp_region_lit ?_
      refine s_pu hF rfl rfl rfl (pu_move (hF.ev rfl)) ?_; clear hF; intro a hF
      refine s_pu hF rfl rfl rfl (pu_assign (hF.ev rfl)) ?_; clear hF; intro a hF
      refine s_pu hF rfl rfl rfl (pu_assign (hF.ev rfl)) ?_; clear hF; intro a hF
      refine s_done ?_
      refine hK8 _ _ ?_; clear hK8
      refine wp_ret ?_
      refine fin2 Try.results8 hF rfl rfl ?_
      refine ⟨?_, hS⟩
      rw [hsum]
      rcases ho with ⟨h1, h2, h3⟩ | ⟨h1, h2, h3, h4⟩
      · first
        | (rw [h1] at hc3; simp at hc3; done)
        | (rw [if_neg (by omega), h2]; done)
      · first
        | (rw [h1] at hc3; simp at hc3; done)
        | (rw [if_pos h2]; done)
end Go.Proofs.Ytommaijibiipeaa
