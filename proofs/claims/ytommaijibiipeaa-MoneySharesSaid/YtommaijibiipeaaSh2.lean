import Derived.Test.YtommaijibiipeaaSh1
/-! Share: the walk. -/
namespace Go.Proofs.Ytommaijibiipeaa
open Go Go.RowKit Go.Proofs.Ytommaijibiipeaa.Sk
set_option linter.unusedVariables false
set_option linter.unusedSimpArgs false
set_option maxRecDepth 100000

/-- What Share deals out. -/
structure Dealt (u : Int) (zs : List Int) (outs : List Int) : Prop where
  ex : ∃ ys, ys.Perm (prts u zs) ∧ Srt ys ∧ outs = bump (qs u zs) (ys.take (left u zs).toNat)
theorem bump_len (o : List Int) (ys : List Prt) : (bump o ys).length = o.length := by
  unfold bump
  induction ys generalizing o with
  | nil => rfl
  | cons y r ih => rw [List.foldl_cons, ih, List.length_set]
theorem bump_snoc {o : List Int} {ys : List Prt} {k : Nat} {y : Prt} (h : ys[k]? = some y) : bump o (ys.take (k + 1)) = (bump o (ys.take k)).set y.1.toNat ((bump o (ys.take k)).getD y.1.toNat 0 + 1) := by
  unfold bump
  rw [List.take_add_one, h]
  simp
theorem total_app {a b : List Int} : total (a ++ b) = total a + total b := by
  unfold total
  rw [List.foldl_append]
  have : ∀ (l : List Int) (x : Int), l.foldl (· + ·) x = x + l.foldl (· + ·) 0 := by
    intro l
    induction l with
    | nil => intro x; simp
    | cons y r ih =>
      intro x
      rw [List.foldl_cons, List.foldl_cons, ih, ih (0 + y)]
      omega
  rw [this]
theorem wrap_small {m : Int} (h0 : 0 ≤ m) (h1 : m ≤ 9223372036854775807) : IntKind.i64.wrap m = m := wrap_pos rfl h0 h1
theorem bump_bd {o : List Int} (ho : ∀ z ∈ o, 0 ≤ z ∧ z ≤ 999999999999) : ∀ (ys : List Prt) (k : Nat), ys.length ≤ k → ∀ z ∈ bump o ys, 0 ≤ z ∧ z ≤ 999999999999 + k := by
  intro ys
  induction ys generalizing o with
  | nil => intro k _ z hz; have := ho z hz; omega
  | cons y r ih =>
    intro k hk
    have : ∀ (o : List Int) (b : Int), (∀ z ∈ o, 0 ≤ z ∧ z ≤ b) → 0 ≤ b → ∀ (r : List Prt), ∀ z ∈ bump o r, 0 ≤ z ∧ z ≤ b + r.length := by
      intro o b hb h0 r
      induction r generalizing o b with
      | nil => intro z hz; have := hb z hz; simp; omega
      | cons y r ih =>
        intro z hz
        have h2 : ∀ z ∈ o.set y.1.toNat (o.getD y.1.toNat 0 + 1), 0 ≤ z ∧ z ≤ b + 1 := by
          intro z hz
          rcases List.mem_or_eq_of_mem_set hz with h | h
          · have := hb z h; omega
          · subst h
            by_cases hl : y.1.toNat < o.length
            · have := hb (o.getD y.1.toNat 0) (by rw [List.getD_eq_getElem?_getD, List.getElem?_eq_getElem hl]; exact List.getElem_mem hl)
              omega
            · rw [List.getD_eq_getElem?_getD, List.getElem?_eq_none (by omega)]
              simp; omega
        have h3 : z ∈ bump (o.set y.1.toNat (o.getD y.1.toNat 0 + 1)) r := hz
        have := ih _ (b + 1) h2 (by omega) z h3
        rw [List.length_cons]
        omega
    intro z hz
    have := this o 999999999999 ho (by omega) (y :: r) z hz
    rw [List.length_cons] at this hk
    omega
set_option maxHeartbeats 1000000 in
theorem share_c {w0 w : World} {F : List Chunk} {av : Option Addr} {len cap : Nat} {zs : List Int} {u : Int} (hS : Sat w0 w F) (hR : Reads w0 F av len zs) (hlen : len ≤ 17592186044400) :
    Calls Try.prog 13 #[.int .i64 u, .slice av len cap] w fun e w' => (shErr u zs = 0 ∧ ∃ outs g c, outs.length = zs.length ∧ Dealt u zs outs ∧ e = .returned (.tuple #[.slice (some ⟨g, 0, none⟩) outs.length c, .int .i64 0]) ∧ Sat w0 w' (rowC 3 1 (.slice (some ⟨g, 0, none⟩) outs.length c) outs.length (ints outs) :: F)) ∨
      (shErr u zs ≠ 0 ∧ e = .returned (.tuple #[.slice none 0 0, .int .i64 (shErr u zs)]) ∧ Sat w0 w' F) := by
  have hl := hR.long
  subst hl
  refine enter Try.func13 rfl Try.ntmps13 (Nat.le_of_ble_eq_true rfl) fun a hF => ?_
  refine wp_seq_k fun K0 hK0 => ?_
  -- region 0
  refine wp_region_lit ?_
  refine s_pu hF rfl rfl rfl (pu_assign (hF.ev rfl)) ?_; clear hF; intro a hF
  refine s_pu hF rfl rfl rfl (pu_assign (hF.ev rfl)) ?_; clear hF; intro a hF
  refine s_done ?_
  refine hK0 _ _ ?_; clear hK0
  refine wp_seq_k fun K1 hK1 => ?_
  refine wp_seq_k fun K2 hK2 => ?_
  -- region 1
  refine wp_region_lit ?_
  refine s_pu hF rfl rfl rfl (pu_move (hF.ev rfl)) ?_; clear hF; intro a hF
  refine s_en hF rfl rfl rfl (run_fn fk21 (hF.ev rfl) (hF.evs rfl)) (amount_c 0 hS) ?_
  clear hS; rintro e w ⟨rfl, hS⟩
  refine ⟨_, rfl, ?_⟩; clear hF; intro a hF
  refine s_pu hF rfl rfl rfl (pu_not (hF.ev rfl)) ?_; clear hF; intro a hF
  refine s_done ?_
  refine hK2 _ _ ?_; clear hK2
  refine wp_cond_split (hF.ev rfl) (fun hc0 => ?_) (fun hc0 => ?_)
  · -- cond 0 true
    try simp only [decide_eq_true_eq, decide_eq_false_iff_not, Bool.not_eq_true', Bool.not_eq_false', Int.not_lt, Int.not_le, ne_eq, Decidable.not_not, Bool.or_eq_true, Bool.or_eq_false_iff, Bool.and_eq_true, Bool.and_eq_false_imp] at hc0
    refine wp_seq_k fun K3 hK3 => ?_
    -- region 2
    refine wp_region_lit ?_
    refine s_pu hF rfl rfl rfl (pu_assign (hF.ev rfl)) ?_; clear hF; intro a hF
    refine s_pu hF rfl rfl rfl (pu_assign (hF.ev rfl)) ?_; clear hF; intro a hF
    refine s_done ?_
    refine hK3 _ _ ?_; clear hK3
    refine wp_ret ?_
    refine then_ret ?_
    refine fin2 Try.results13 hF rfl rfl ?_
    right
    unfold shErr
    rw [if_neg (by rw [hc0]; decide)]
    exact ⟨by decide, rfl, hS⟩
  · -- cond 0 false
    try simp only [decide_eq_true_eq, decide_eq_false_iff_not, Bool.not_eq_true', Bool.not_eq_false', Int.not_lt, Int.not_le, ne_eq, Decidable.not_not, Bool.or_eq_true, Bool.or_eq_false_iff, Bool.and_eq_true, Bool.and_eq_false_imp] at hc0
    have hu := amt_iff.1 hc0
    refine wp_skip ?_
    refine hK1 _ _ ?_; clear hK1
    refine wp_seq_k fun K3 hK3 => ?_
    -- region 3
    refine wp_region_lit ?_
    refine s_pu hF rfl rfl rfl (pu_assign (hF.ev rfl)) ?_; clear hF; intro a hF
    refine s_done ?_
    refine hK3 _ _ ?_; clear hK3
    refine wp_seq_k fun K4 hK4 => ?_
    refine wp_seq_k fun K5 hK5 => ?_
    -- region 4
    refine wp_region_lit ?_
    refine s_pu hF rfl rfl rfl (pu_move (hF.ev rfl)) ?_; clear hF; intro a hF
    refine s_pu hF rfl rfl rfl (pu_len sl22 (hF.ev rfl)) ?_; clear hF; intro a hF
    refine s_pu hF rfl rfl rfl (pu_move (hF.ev rfl)) ?_; clear hF; intro a hF
    refine s_done ?_
    refine hK5 _ _ ?_; clear hK5
    refine wp_block ?_
    refine wp_ind (fun j a w => ∃ (i : Nat) (al : Int), j = zs.length - i ∧ i ≤ zs.length ∧ (∀ z ∈ zs.take i, 0 ≤ z ∧ z ≤ 1000000) ∧ (i ≤ 100 → al = total (zs.take i)) ∧
      Fr a 100 [(0, .int .i64 u), (1, .slice av zs.length cap), (6, .int .i64 al), (19, .slice av zs.length cap), (20, .int .i64 zs.length), (21, .int .i64 i)] ∧ Sat w0 w F) zs.length
      ⟨0, 0, by omega, by omega, by simp, by simp [total], hF.sub ⟨rfl, rfl, rfl, rfl, rfl, rfl, trivial⟩, hS⟩ ?_
    clear hS hF
    rintro j a w ⟨i, al, rfl, hi, hall, hal, hF, hS⟩
    refine wp_seq_k fun K6 hK6 => ?_
    -- region 5
    refine wp_region_lit ?_
    refine s_pu hF rfl rfl rfl (pu_lss (hF.ev rfl) (hF.ev rfl)) ?_; clear hF; intro a hF
    refine s_done ?_
    refine hK6 _ _ ?_; clear hK6
    refine wp_seq_k fun K7 hK7 => ?_
    refine wp_cond_split (hF.ev rfl) (fun hc1 => ?_) (fun hc1 => ?_)
    · -- cond 1 true
      try simp only [decide_eq_true_eq, decide_eq_false_iff_not, Bool.not_eq_true', Bool.not_eq_false', Int.not_lt, Int.not_le, ne_eq, Decidable.not_not, Bool.or_eq_true, Bool.or_eq_false_iff, Bool.and_eq_true, Bool.and_eq_false_imp] at hc1
      have hil : i < zs.length := by omega
      obtain ⟨x, rfl, hv⟩ := hR.at_ i hil
      have hv1 := hv w hS
      have hmem : zs.getD i 0 ∈ zs := by rw [List.getD_eq_getElem?_getD, List.getElem?_eq_getElem hil]; exact List.getElem_mem hil
      refine wp_skip ?_
      refine hK7 _ _ ?_; clear hK7
      refine wp_seq_k fun K8 hK8 => ?_
      refine wp_block ?_
      refine wp_seq_k fun K9 hK9 => ?_
      -- region 6
      refine wp_region_lit ?_
      refine s_pu hF rfl rfl rfl ((by first | exact pu_elem sl22 (hF.ev rfl) (hF.ev rfl) (by first | omega | simp) (by first | omega | (simp; done) | (simp; omega)) | exact pu_elemA sl22 (hF.ev rfl) (hF.ev rfl) (by omega) (by omega))) ?_; clear hF; intro a hF
      refine s_rd hF rfl rfl rfl (by first | exact rd_load pl3 (hF.ev rfl) (by assumption) | exact rd_load pl3 (hF.ev rfl) (hS.cellL (i := 0) rfl rfl) | exact rd_load pl3 (hF.ev rfl) (hS.cellL (i := 1) rfl rfl) | exact rd_load pl3 (hF.ev rfl) (hS.cellL (i := 2) rfl rfl) | exact rd_load pl3 (hF.ev rfl) (hS.cellL (i := 3) rfl rfl) | exact rd_load pl3 (hF.ev rfl) (hS.cell (i := 0) rfl (by assumption)) | exact rd_load pl3 (hF.ev rfl) (hS.cell (i := 1) rfl (by assumption)) | exact rd_load pl3 (hF.ev rfl) (hS.cell (i := 2) rfl (by assumption)) | exact rd_load pl3 (hF.ev rfl) (hS.cell (i := 3) rfl (by assumption)) | exact rd_load pl3 (hF.ev rfl) (row_at (i := 0) hS rfl (by first | assumption | rfl)) | exact rd_load pl3 (hF.ev rfl) (row_at0 (i := 0) hS rfl (by first | assumption | rfl)) | exact rd_load pl3 (hF.ev rfl) (row_at (i := 1) hS rfl (by first | assumption | rfl)) | exact rd_load pl3 (hF.ev rfl) (row_at0 (i := 1) hS rfl (by first | assumption | rfl)) | exact rd_load pl3 (hF.ev rfl) (row_at (i := 2) hS rfl (by first | assumption | rfl)) | exact rd_load pl3 (hF.ev rfl) (row_at0 (i := 2) hS rfl (by first | assumption | rfl)) | exact rd_load pl3 (hF.ev rfl) (row_at (i := 3) hS rfl (by first | assumption | rfl)) | exact rd_load pl3 (hF.ev rfl) (row_at0 (i := 3) hS rfl (by first | assumption | rfl))) ?_; clear hF; intro a hF
      refine s_pu hF rfl rfl rfl (pu_assign (hF.ev rfl)) ?_; clear hF; intro a hF
      refine s_done ?_
      refine hK9 _ _ ?_; clear hK9
      refine wp_seq_k fun K10 hK10 => ?_
      refine wp_seq_k fun K11 hK11 => ?_
      -- region 7
      refine wp_region_lit ?_
      refine s_pu hF rfl rfl rfl (pu_move (hF.ev rfl)) ?_; clear hF; intro a hF
      refine s_pu hF rfl rfl rfl (pu_lss (hF.ev rfl) (hF.ev rfl)) ?_; clear hF; intro a hF
      refine s_pu hF rfl rfl rfl (pu_move (hF.ev rfl)) ?_; clear hF; intro a hF
      refine fr_split hF (t := 27) rfl ?_ ?_
      · clear hF; intro hg27 hF   -- slot 27 true
        try simp only [decide_eq_true_eq, decide_eq_false_iff_not, Bool.not_eq_true', Bool.not_eq_false', Int.not_lt, Int.not_le, ne_eq, Decidable.not_not, Bool.or_eq_true, Bool.or_eq_false_iff, Bool.and_eq_true, Bool.and_eq_false_imp] at hg27
        have hbad : ¬ (zs.all wOk = true) := fun h => by
          have := wOk_iff.1 (List.all_eq_true.1 h _ hmem)
          omega
        refine s_no hF rfl rfl rfl ?_; clear hF; intro a hF
        refine s_no hF rfl rfl rfl ?_; clear hF; intro a hF
        refine s_pu hF rfl rfl rfl ((by first | exact pu_pick_t (hF.ev rfl) (hF.ev rfl) | exact pu_pick_f (hF.ev rfl) (hF.ev rfl) | exact pu_pick (hF.ev rfl) (hF.ev rfl) (hF.ev rfl))) ?_; clear hF; intro a hF
        refine s_done ?_
        refine hK11 _ _ ?_; clear hK11
        refine wp_cond_true (hF.ev rfl) ?_
        refine wp_seq_k fun K12 hK12 => ?_
        -- region 8
        refine wp_region_lit ?_
        refine s_pu hF rfl rfl rfl (pu_assign (hF.ev rfl)) ?_; clear hF; intro a hF
        refine s_pu hF rfl rfl rfl (pu_assign (hF.ev rfl)) ?_; clear hF; intro a hF
        refine s_done ?_
        refine hK12 _ _ ?_; clear hK12
        refine wp_ret ?_
        refine then_ret ?_
        refine blk_ret ?_
        refine then_ret ?_
        refine then_ret ?_
        refine blk_ret ?_
        refine then_ret ?_
        refine fin2 Try.results13 hF rfl rfl ?_
        right
        have hbad : ¬ (zs.all wOk = true) := fun h => by
          have := wOk_iff.1 (List.all_eq_true.1 h _ hmem)
          omega
        have he : shErr u zs = 1 := by
          unfold shErr
          rw [if_pos hc0, if_neg (fun h => hbad h.1)]
        rw [he]
        exact ⟨by decide, rfl, hS⟩
      · clear hF; intro hg27 hF   -- slot 27 false
        try simp only [decide_eq_true_eq, decide_eq_false_iff_not, Bool.not_eq_true', Bool.not_eq_false', Int.not_lt, Int.not_le, ne_eq, Decidable.not_not, Bool.or_eq_true, Bool.or_eq_false_iff, Bool.and_eq_true, Bool.and_eq_false_imp] at hg27
        refine s_pu hF rfl rfl rfl (pu_move (hF.ev rfl)) ?_; clear hF; intro a hF
        refine s_pu hF rfl rfl rfl (pu_gtr (hF.ev rfl) (hF.ev rfl)) ?_; clear hF; intro a hF
        refine s_pu hF rfl rfl rfl ((by first | exact pu_pick_t (hF.ev rfl) (hF.ev rfl) | exact pu_pick_f (hF.ev rfl) (hF.ev rfl) | exact pu_pick (hF.ev rfl) (hF.ev rfl) (hF.ev rfl))) ?_; clear hF; intro a hF
        refine s_done ?_
        refine hK11 _ _ ?_; clear hK11
        refine wp_cond_split (hF.ev rfl) (fun hc2 => ?_) (fun hc2 => ?_)
        · -- cond 2 true
          try simp only [decide_eq_true_eq, decide_eq_false_iff_not, Bool.not_eq_true', Bool.not_eq_false', Int.not_lt, Int.not_le, ne_eq, Decidable.not_not, Bool.or_eq_true, Bool.or_eq_false_iff, Bool.and_eq_true, Bool.and_eq_false_imp] at hc2
          refine wp_seq_k fun K12 hK12 => ?_
          -- region 8
          refine wp_region_lit ?_
          refine s_pu hF rfl rfl rfl (pu_assign (hF.ev rfl)) ?_; clear hF; intro a hF
          refine s_pu hF rfl rfl rfl (pu_assign (hF.ev rfl)) ?_; clear hF; intro a hF
          refine s_done ?_
          refine hK12 _ _ ?_; clear hK12
          refine wp_ret ?_
          refine then_ret ?_
          refine blk_ret ?_
          refine then_ret ?_
          refine then_ret ?_
          refine blk_ret ?_
          refine then_ret ?_
          refine fin2 Try.results13 hF rfl rfl ?_
          right
          have hbad : ¬ (zs.all wOk = true) := fun h => by
            have := wOk_iff.1 (List.all_eq_true.1 h _ hmem)
            omega
          have he : shErr u zs = 1 := by
            unfold shErr
            rw [if_pos hc0, if_neg (fun h => hbad h.1)]
          rw [he]
          exact ⟨by decide, rfl, hS⟩
        · -- cond 2 false
          try simp only [decide_eq_true_eq, decide_eq_false_iff_not, Bool.not_eq_true', Bool.not_eq_false', Int.not_lt, Int.not_le, ne_eq, Decidable.not_not, Bool.or_eq_true, Bool.or_eq_false_iff, Bool.and_eq_true, Bool.and_eq_false_imp] at hc2
          refine wp_skip ?_
          refine hK10 _ _ ?_; clear hK10
          -- region 9
          refine wp_region_lit ?_
          refine s_pu hF rfl rfl rfl (pu_move (hF.ev rfl)) ?_; clear hF; intro a hF
          refine s_pu hF rfl rfl rfl (pu_move (hF.ev rfl)) ?_; clear hF; intro a hF
          refine s_pu hF rfl rfl rfl ((by first | exact pu_add64 (hF.ev rfl) (hF.ev rfl) (by omega) | exact pu_add (hF.ev rfl) (hF.ev rfl))) ?_; clear hF; intro a hF
          refine s_pu hF rfl rfl rfl (pu_assign (hF.ev rfl)) ?_; clear hF; intro a hF
          refine s_done ?_
          refine blk_normal ?_
          refine hK8 _ _ ?_; clear hK8
          -- region 10
          refine wp_region_lit ?_
          refine s_pu hF rfl rfl rfl ((by first | exact pu_add64 (hF.ev rfl) (hF.ev rfl) (by omega) | exact pu_add (hF.ev rfl) (hF.ev rfl))) ?_; clear hF; intro a hF
          refine s_pu hF rfl rfl rfl (pu_move (hF.ev rfl)) ?_; clear hF; intro a hF
          refine s_done ?_
          have hall2 : ∀ z ∈ zs.take (i + 1), 0 ≤ z ∧ z ≤ 1000000 := by
            intro z hz
            rw [List.take_add_one, List.getElem?_eq_getElem hil] at hz
            rcases List.mem_append.1 hz with hz | hz
            · exact hall z hz
            · simp at hz
              subst hz
              have e : zs.getD i 0 = zs[i] := by rw [List.getD_eq_getElem?_getD, List.getElem?_eq_getElem hil]; rfl
              rw [e] at hc2 hg27
              omega
          refine ⟨_, by omega, i + 1, _, rfl, by omega, hall2, fun h => ?_, hF.sub ⟨rfl, rfl, rfl, rfl, rfl, rfl, trivial⟩, hS⟩
          have h1 := hal (by omega)
          have h2 := total_take (zs := zs) hil
          have hz : 0 ≤ zs.getD i 0 ∧ zs.getD i 0 ≤ 1000000 := by omega
          have h3 : 0 ≤ total (zs.take i) ∧ total (zs.take i) ≤ 1000000 * i := by
            have := total_nonneg (zs := zs.take i) hall i
            rw [List.take_take, Nat.min_self] at this
            exact ⟨this.1, this.2.1⟩
          first
            | (rw [wrap_small (by omega) (by omega)]; omega)
            | omega
    · -- cond 1 false
      try simp only [decide_eq_true_eq, decide_eq_false_iff_not, Bool.not_eq_true', Bool.not_eq_false', Int.not_lt, Int.not_le, ne_eq, Decidable.not_not, Bool.or_eq_true, Bool.or_eq_false_iff, Bool.and_eq_true, Bool.and_eq_false_imp] at hc1
      have hil : i = zs.length := by omega
      subst hil
      rw [List.take_length] at hall hal
      have hok : zs.all wOk = true := List.all_eq_true.2 fun z hz => wOk_iff.2 (hall z hz)
      refine wp_exit ?_
      refine then_exit ?_
      refine then_exit ?_
      refine blk_exit ?_
      refine hK4 _ _ ?_; clear hK4
      refine wp_seq_k fun K8 hK8 => ?_
      refine wp_seq_k fun K9 hK9 => ?_
      -- region 11
      refine wp_region_lit ?_
      refine s_pu hF rfl rfl rfl (pu_move (hF.ev rfl)) ?_; clear hF; intro a hF
      refine s_pu hF rfl rfl rfl (pu_len sl22 (hF.ev rfl)) ?_; clear hF; intro a hF
      refine s_pu hF rfl rfl rfl (pu_gtr (hF.ev rfl) (hF.ev rfl)) ?_; clear hF; intro a hF
      refine s_pu hF rfl rfl rfl (pu_move (hF.ev rfl)) ?_; clear hF; intro a hF
      refine fr_split hF (t := 38) rfl ?_ ?_
      · clear hF; intro hg38 hF   -- slot 38 true
        try simp only [decide_eq_true_eq, decide_eq_false_iff_not, Bool.not_eq_true', Bool.not_eq_false', Int.not_lt, Int.not_le, ne_eq, Decidable.not_not, Bool.or_eq_true, Bool.or_eq_false_iff, Bool.and_eq_true, Bool.and_eq_false_imp] at hg38
        refine s_no hF rfl rfl rfl ?_; clear hF; intro a hF
        refine s_no hF rfl rfl rfl ?_; clear hF; intro a hF
        refine s_pu hF rfl rfl rfl ((by first | exact pu_pick_t (hF.ev rfl) (hF.ev rfl) | exact pu_pick_f (hF.ev rfl) (hF.ev rfl) | exact pu_pick (hF.ev rfl) (hF.ev rfl) (hF.ev rfl))) ?_; clear hF; intro a hF
        refine s_done ?_
        refine hK9 _ _ ?_; clear hK9
        refine wp_cond_true (hF.ev rfl) ?_
        refine wp_seq_k fun K10 hK10 => ?_
        -- region 12
        refine wp_region_lit ?_
        refine s_pu hF rfl rfl rfl (pu_assign (hF.ev rfl)) ?_; clear hF; intro a hF
        refine s_pu hF rfl rfl rfl (pu_assign (hF.ev rfl)) ?_; clear hF; intro a hF
        refine s_done ?_
        refine hK10 _ _ ?_; clear hK10
        refine wp_ret ?_
        refine then_ret ?_
        refine fin2 Try.results13 hF rfl rfl ?_
        right
        have he : shErr u zs = 1 := by
          unfold shErr
          rw [if_pos hc0, if_neg]
          rintro ⟨_, h1, h2⟩
          omega
        rw [he]
        exact ⟨by decide, rfl, hS⟩
      · clear hF; intro hg38 hF   -- slot 38 false
        try simp only [decide_eq_true_eq, decide_eq_false_iff_not, Bool.not_eq_true', Bool.not_eq_false', Int.not_lt, Int.not_le, ne_eq, Decidable.not_not, Bool.or_eq_true, Bool.or_eq_false_iff, Bool.and_eq_true, Bool.and_eq_false_imp] at hg38
        refine s_pu hF rfl rfl rfl (pu_move (hF.ev rfl)) ?_; clear hF; intro a hF
        refine s_pu hF rfl rfl rfl (pu_eql (hF.ev rfl) (hF.ev rfl)) ?_; clear hF; intro a hF
        refine s_pu hF rfl rfl rfl ((by first | exact pu_pick_t (hF.ev rfl) (hF.ev rfl) | exact pu_pick_f (hF.ev rfl) (hF.ev rfl) | exact pu_pick (hF.ev rfl) (hF.ev rfl) (hF.ev rfl))) ?_; clear hF; intro a hF
        refine s_done ?_
        refine hK9 _ _ ?_; clear hK9
        refine wp_cond_split (hF.ev rfl) (fun hc3 => ?_) (fun hc3 => ?_)
        · -- cond 3 true
          try simp only [decide_eq_true_eq, decide_eq_false_iff_not, Bool.not_eq_true', Bool.not_eq_false', Int.not_lt, Int.not_le, ne_eq, Decidable.not_not, Bool.or_eq_true, Bool.or_eq_false_iff, Bool.and_eq_true, Bool.and_eq_false_imp] at hc3
          skip
          refine wp_seq_k fun K10 hK10 => ?_
          -- region 12
          refine wp_region_lit ?_
          refine s_pu hF rfl rfl rfl (pu_assign (hF.ev rfl)) ?_; clear hF; intro a hF
          refine s_pu hF rfl rfl rfl (pu_assign (hF.ev rfl)) ?_; clear hF; intro a hF
          refine s_done ?_
          refine hK10 _ _ ?_; clear hK10
          refine wp_ret ?_
          refine then_ret ?_
          refine fin2 Try.results13 hF rfl rfl ?_
          right
          have he : shErr u zs = 1 := by
            unfold shErr
            rw [if_pos hc0, if_neg]
            rintro ⟨_, h1, h2⟩
            exact h2 (by rw [← hal (by omega)]; exact hc3)
          rw [he]
          exact ⟨by decide, rfl, hS⟩
        · -- cond 3 false
          try simp only [decide_eq_true_eq, decide_eq_false_iff_not, Bool.not_eq_true', Bool.not_eq_false', Int.not_lt, Int.not_le, ne_eq, Decidable.not_not, Bool.or_eq_true, Bool.or_eq_false_iff, Bool.and_eq_true, Bool.and_eq_false_imp] at hc3
          have hle : zs.length ≤ 100 := by omega
          have hal2 := hal hle
          subst hal2
          have htn := total_nonneg hall zs.length
          rw [List.take_length] at htn
          have ht1 : 1 ≤ total zs := by omega
          have hse : shErr u zs = 0 := by
            unfold shErr
            rw [if_pos hc0, if_pos ⟨hok, hle, by omega⟩]
          refine wp_skip ?_
          refine hK8 _ _ ?_; clear hK8
          refine wp_seq_k fun K10 hK10 => ?_
          -- region 13
          refine wp_region_lit ?_
          refine s_pu hF rfl rfl rfl (pu_move (hF.ev rfl)) ?_; clear hF; intro a hF
          refine s_pu hF rfl rfl rfl (pu_len sl22 (hF.ev rfl)) ?_; clear hF; intro a hF
          refine s_news hF rfl rfl rfl (ef_make1 sl22 el3 ze3 rfl (hF.ev rfl) (hF.ev rfl) (by omega) (by omega)) hS ?_; clear hF hS; intro b44 w hS a hF
          refine s_pu hF rfl rfl rfl (pu_assign (hF.ev rfl)) ?_; clear hF; intro a hF
          refine s_done ?_
          refine hK10 _ _ ?_; clear hK10
          refine wp_seq_k fun K11 hK11 => ?_
          -- region 14
          refine wp_region_lit ?_
          refine s_pu hF rfl rfl rfl (pu_move (hF.ev rfl)) ?_; clear hF; intro a hF
          refine s_pu hF rfl rfl rfl (pu_len sl22 (hF.ev rfl)) ?_; clear hF; intro a hF
          refine s_news hF rfl rfl rfl (ef_make2 sl50 el52 ze52 rfl (hF.ev rfl) (hF.ev rfl) (by omega) (by omega)) hS ?_; clear hF hS; intro b47 w hS a hF
          refine s_pu hF rfl rfl rfl (pu_assign (hF.ev rfl)) ?_; clear hF; intro a hF
          refine s_done ?_
          refine hK11 _ _ ?_; clear hK11
          refine wp_seq_k fun K12 hK12 => ?_
          -- region 15
          refine wp_region_lit ?_
          refine s_pu hF rfl rfl rfl (pu_move (hF.ev rfl)) ?_; clear hF; intro a hF
          refine s_pu hF rfl rfl rfl (pu_assign (hF.ev rfl)) ?_; clear hF; intro a hF
          refine s_done ?_
          refine hK12 _ _ ?_; clear hK12
          refine wp_seq_k fun K13 hK13 => ?_
          refine wp_seq_k fun K14 hK14 => ?_
          -- region 16
          refine wp_region_lit ?_
          refine s_pu hF rfl rfl rfl (pu_move (hF.ev rfl)) ?_; clear hF; intro a hF
          refine s_pu hF rfl rfl rfl (pu_len sl22 (hF.ev rfl)) ?_; clear hF; intro a hF
          refine s_pu hF rfl rfl rfl (pu_move (hF.ev rfl)) ?_; clear hF; intro a hF
          refine s_done ?_
          refine hK14 _ _ ?_; clear hK14
          refine wp_block ?_
          have hS1 := row_shut (n := zs.length) (cap := zs.length) (sz := 2) (xs := parts (List.replicate zs.length (0, 0))) hS (by omega) (by unfold maxLen; omega) (by simp) (by
            rw [List.take_of_length_le (by simp)]
            have : ∀ m : Nat, List.replicate (m * 2) (Value.int .i64 0) = parts (List.replicate m (0, 0)) := by
              intro m
              induction m with
              | zero => rfl
              | succ m ih => rw [show (m + 1) * 2 = m * 2 + 1 + 1 by omega, List.replicate_succ, List.replicate_succ, List.replicate_succ, ih]; rfl
            simpa using this zs.length)
          have hS2 := row_shut (n := zs.length) (cap := zs.length) (sz := 1) (xs := ints (List.replicate zs.length 0)) (hS1.front 1 rfl) (by omega) (by unfold maxLen; omega) (by simp) (by simp [ints])
          simp only [del] at hS2
          clear hS hS1
          refine wp_ind (fun j a w => ∃ (i : Nat), j = zs.length - i ∧ i ≤ zs.length ∧
            Fr a 100 [(0, .int .i64 u), (6, .int .i64 (total zs)), (9, .slice (some ⟨b44, 0, none⟩) zs.length zs.length), (10, .slice (some ⟨b47, 0, none⟩) zs.length zs.length), (11, .int .i64 (u - total ((qs u zs).take i))), (49, .slice av zs.length cap), (50, .int .i64 zs.length), (51, .int .i64 i)] ∧
            Sat w0 w (rowC 3 1 (.slice (some ⟨b44, 0, none⟩) zs.length zs.length) zs.length (ints ((qs u zs).take i ++ List.replicate (zs.length - i) 0)) :: prow b47 zs.length zs.length ((prts u zs).take i ++ List.replicate (zs.length - i) (0, 0)) :: F)) zs.length
            ⟨0, rfl, by omega, ?_, by simpa [prow] using hS2⟩ ?_
          · rw [show u - total ((qs u zs).take 0) = u by simp [total]]
            exact hF.sub ⟨rfl, rfl, rfl, rfl, rfl, rfl, rfl, rfl, trivial⟩
          clear hF hS2
          rintro j a w ⟨i, rfl, hi, hF, hS⟩
          refine wp_seq_k fun K15 hK15 => ?_
          -- region 17
          refine wp_region_lit ?_
          refine s_pu hF rfl rfl rfl (pu_lss (hF.ev rfl) (hF.ev rfl)) ?_; clear hF; intro a hF
          refine s_done ?_
          refine hK15 _ _ ?_; clear hK15
          refine wp_seq_k fun K16 hK16 => ?_
          refine wp_cond_split (hF.ev rfl) (fun hc4 => ?_) (fun hc4 => ?_)
          · -- cond 4 true
            try simp only [decide_eq_true_eq, decide_eq_false_iff_not, Bool.not_eq_true', Bool.not_eq_false', Int.not_lt, Int.not_le, ne_eq, Decidable.not_not, Bool.or_eq_true, Bool.or_eq_false_iff, Bool.and_eq_true, Bool.and_eq_false_imp] at hc4
            have hil : i < zs.length := by omega
            obtain ⟨x, rfl, hv⟩ := hR.at_ i hil
            have hv1 := hv w hS.tail.tail
            have hmem : zs.getD i 0 ∈ zs := by rw [List.getD_eq_getElem?_getD, List.getElem?_eq_getElem hil]; exact List.getElem_mem hil
            have hz := hall _ hmem
            have hm0 : 0 ≤ u * zs.getD i 0 := Int.mul_nonneg hu.1 hz.1
            have hm1 : u * zs.getD i 0 ≤ 999999999999 * 1000000 := Int.mul_le_mul hu.2 hz.2 hz.1 (by omega)
            have hq1 := qsum_le hu.1 hall ht1 (i := i) (by omega)
            have hq2 := qsum_le hu.1 hall ht1 (i := i + 1) (by omega)
            have hqg : (qs u zs).getD i 0 = u * zs.getD i 0 / total zs := by rw [List.getD_eq_getElem?_getD, qs_get hil]; rfl
            have htt := total_take (zs := qs u zs) (i := i) (by rw [qs_len]; exact hil)
            rw [hqg] at htt
            have hfq := fill_stepG (N := zs.length) (z := (0 : Int)) qs_len hil (qs_get (u := u) hil)
            have hfp := fill_stepG (N := zs.length) (z := ((0, 0) : Prt)) prts_len hil (prts_get (u := u) hil)
            refine wp_skip ?_
            refine hK16 _ _ ?_; clear hK16
            refine wp_seq_k fun K17 hK17 => ?_
            refine wp_block ?_
            refine wp_seq_k fun K18 hK18 => ?_
            -- region 18
            refine wp_region_lit ?_
            refine s_pu hF rfl rfl rfl (pu_move (hF.ev rfl)) ?_; clear hF; intro a hF
            refine s_pu hF rfl rfl rfl ((by first | exact pu_elem sl22 (hF.ev rfl) (hF.ev rfl) (by first | omega | simp) (by first | omega | (simp; done) | (simp; omega)) | exact pu_elemA sl22 (hF.ev rfl) (hF.ev rfl) (by omega) (by omega))) ?_; clear hF; intro a hF
            refine s_rd hF rfl rfl rfl (by first | exact rd_load pl3 (hF.ev rfl) (by assumption) | exact rd_load pl3 (hF.ev rfl) (hS.cellL (i := 0) rfl rfl) | exact rd_load pl3 (hF.ev rfl) (hS.cellL (i := 1) rfl rfl) | exact rd_load pl3 (hF.ev rfl) (hS.cellL (i := 2) rfl rfl) | exact rd_load pl3 (hF.ev rfl) (hS.cellL (i := 3) rfl rfl) | exact rd_load pl3 (hF.ev rfl) (hS.cell (i := 0) rfl (by assumption)) | exact rd_load pl3 (hF.ev rfl) (hS.cell (i := 1) rfl (by assumption)) | exact rd_load pl3 (hF.ev rfl) (hS.cell (i := 2) rfl (by assumption)) | exact rd_load pl3 (hF.ev rfl) (hS.cell (i := 3) rfl (by assumption)) | exact rd_load pl3 (hF.ev rfl) (row_at (i := 0) hS rfl (by first | assumption | rfl)) | exact rd_load pl3 (hF.ev rfl) (row_at0 (i := 0) hS rfl (by first | assumption | rfl)) | exact rd_load pl3 (hF.ev rfl) (row_at (i := 1) hS rfl (by first | assumption | rfl)) | exact rd_load pl3 (hF.ev rfl) (row_at0 (i := 1) hS rfl (by first | assumption | rfl)) | exact rd_load pl3 (hF.ev rfl) (row_at (i := 2) hS rfl (by first | assumption | rfl)) | exact rd_load pl3 (hF.ev rfl) (row_at0 (i := 2) hS rfl (by first | assumption | rfl)) | exact rd_load pl3 (hF.ev rfl) (row_at (i := 3) hS rfl (by first | assumption | rfl)) | exact rd_load pl3 (hF.ev rfl) (row_at0 (i := 3) hS rfl (by first | assumption | rfl))) ?_; clear hF; intro a hF
            refine s_pu hF rfl rfl rfl (pu_assign (hF.ev rfl)) ?_; clear hF; intro a hF
            refine s_pu hF rfl rfl rfl (pu_assign (hF.ev rfl)) ?_; clear hF; intro a hF
            refine s_done ?_
            refine hK18 _ _ ?_; clear hK18
            refine wp_seq_k fun K19 hK19 => ?_
            -- region 19
            refine wp_region_lit ?_
            refine s_pu hF rfl rfl rfl (pu_move (hF.ev rfl)) ?_; clear hF; intro a hF
            refine s_pu hF rfl rfl rfl (pu_move (hF.ev rfl)) ?_; clear hF; intro a hF
            refine s_pu hF rfl rfl rfl (pu_move (hF.ev rfl)) ?_; clear hF; intro a hF
            refine s_pu hF rfl rfl rfl (pu_move (hF.ev rfl)) ?_; clear hF; intro a hF
            refine s_pu hF rfl rfl rfl ((by first | exact pu_mul64 (hF.ev rfl) (hF.ev rfl) (by omega) | exact pu_mul (hF.ev rfl) (hF.ev rfl))) ?_; clear hF; intro a hF
            refine s_pu hF rfl rfl rfl (pu_move (hF.ev rfl)) ?_; clear hF; intro a hF
            refine s_pu hF rfl rfl rfl (pu_quo64 (hF.ev rfl) (hF.ev rfl) (by omega)) ?_; clear hF; intro a hF
            refine s_pu hF rfl rfl rfl ((by first | exact pu_elem sl22 (hF.ev rfl) (hF.ev rfl) (by first | omega | simp) (by first | omega | (simp; done) | (simp; omega)) | exact pu_elemA sl22 (hF.ev rfl) (hF.ev rfl) (by omega) (by omega))) ?_; clear hF; intro a hF
            refine s_rstore 0 hF rfl (hF.ev rfl) (hF.ev rfl) hS rfl sz3 rfl (by omega) ?_
            clear hS; intro w hS; (try simp only [upd, del] at hS)
            rw [ints_set, hfq] at hS
            refine s_done ?_
            refine hK19 _ _ ?_; clear hK19
            refine wp_seq_k fun K20 hK20 => ?_
            -- region 20
            refine wp_region_lit ?_
            refine s_pu hF rfl rfl rfl (pu_move (hF.ev rfl)) ?_; clear hF; intro a hF
            refine s_pu hF rfl rfl rfl (pu_move (hF.ev rfl)) ?_; clear hF; intro a hF
            refine s_pu hF rfl rfl rfl (pu_move (hF.ev rfl)) ?_; clear hF; intro a hF
            refine s_pu hF rfl rfl rfl (pu_move (hF.ev rfl)) ?_; clear hF; intro a hF
            refine s_pu hF rfl rfl rfl (pu_move (hF.ev rfl)) ?_; clear hF; intro a hF
            refine s_pu hF rfl rfl rfl ((by first | exact pu_mul64 (hF.ev rfl) (hF.ev rfl) (by omega) | exact pu_mul (hF.ev rfl) (hF.ev rfl))) ?_; clear hF; intro a hF
            refine s_pu hF rfl rfl rfl (pu_move (hF.ev rfl)) ?_; clear hF; intro a hF
            refine s_pu hF rfl rfl rfl (pu_rem64 (hF.ev rfl) (hF.ev rfl) (by omega)) ?_; clear hF; intro a hF
            refine s_pu hF rfl rfl rfl ((pu_build st52 (hF.evp rfl) rfl rfl : Pu _ _ _ (.agg #[_, _]))) ?_; clear hF; intro a hF
            refine s_pu hF rfl rfl rfl ((by first | exact pu_elem sl50 (hF.ev rfl) (hF.ev rfl) (by first | omega | simp) (by first | omega | (simp; done) | (simp; omega)) | exact pu_elemA sl50 (hF.ev rfl) (hF.ev rfl) (by omega) (by omega))) ?_; clear hF; intro a hF
            refine s_rstoreN (k := i) (vs := [_, _]) 1 hF rfl (hF.ev rfl) (hF.ev rfl) hS rfl rfl sz52 rfl rfl (by omega) ?_
            clear hS; intro w hS; (try simp only [upd, del] at hS)
            have hps := parts_set (xs := (prts u zs).take i ++ List.replicate (zs.length - i) (0, 0)) (k := i) (p := ((i : Int), u * zs.getD i 0 % total zs)) (by rw [List.length_append, List.length_take, prts_len, List.length_replicate]; omega)
            dsimp only at hps
            rw [hps, hfp] at hS
            have hv2 : w.cell? ⟨b44, 0 + (i : Int).toNat * 1, none⟩ = some (.int .i64 (u * zs.getD i 0 / total zs)) := row_at (i := 0) hS rfl (by
              have e := qs_get (u := u) hil
              simp only [ints, List.getElem?_map]
              rw [List.getElem?_append_left (by rw [List.length_take, qs_len]; omega), List.getElem?_take, if_pos (by omega), e]
              rfl)
            refine s_done ?_
            refine hK20 _ _ ?_; clear hK20
            -- region 21
            refine wp_region_lit ?_
            refine s_pu hF rfl rfl rfl (pu_move (hF.ev rfl)) ?_; clear hF; intro a hF
            refine s_pu hF rfl rfl rfl (pu_move (hF.ev rfl)) ?_; clear hF; intro a hF
            refine s_pu hF rfl rfl rfl (pu_move (hF.ev rfl)) ?_; clear hF; intro a hF
            refine s_pu hF rfl rfl rfl ((by first | exact pu_elem sl22 (hF.ev rfl) (hF.ev rfl) (by first | omega | simp) (by first | omega | (simp; done) | (simp; omega)) | exact pu_elemA sl22 (hF.ev rfl) (hF.ev rfl) (by omega) (by omega))) ?_; clear hF; intro a hF
            refine s_rd hF rfl rfl rfl (by first | exact rd_load pl3 (hF.ev rfl) (by assumption) | exact rd_load pl3 (hF.ev rfl) (hS.cellL (i := 0) rfl rfl) | exact rd_load pl3 (hF.ev rfl) (hS.cellL (i := 1) rfl rfl) | exact rd_load pl3 (hF.ev rfl) (hS.cellL (i := 2) rfl rfl) | exact rd_load pl3 (hF.ev rfl) (hS.cellL (i := 3) rfl rfl) | exact rd_load pl3 (hF.ev rfl) (hS.cell (i := 0) rfl (by assumption)) | exact rd_load pl3 (hF.ev rfl) (hS.cell (i := 1) rfl (by assumption)) | exact rd_load pl3 (hF.ev rfl) (hS.cell (i := 2) rfl (by assumption)) | exact rd_load pl3 (hF.ev rfl) (hS.cell (i := 3) rfl (by assumption)) | exact rd_load pl3 (hF.ev rfl) (row_at (i := 0) hS rfl (by first | assumption | rfl)) | exact rd_load pl3 (hF.ev rfl) (row_at0 (i := 0) hS rfl (by first | assumption | rfl)) | exact rd_load pl3 (hF.ev rfl) (row_at (i := 1) hS rfl (by first | assumption | rfl)) | exact rd_load pl3 (hF.ev rfl) (row_at0 (i := 1) hS rfl (by first | assumption | rfl)) | exact rd_load pl3 (hF.ev rfl) (row_at (i := 2) hS rfl (by first | assumption | rfl)) | exact rd_load pl3 (hF.ev rfl) (row_at0 (i := 2) hS rfl (by first | assumption | rfl)) | exact rd_load pl3 (hF.ev rfl) (row_at (i := 3) hS rfl (by first | assumption | rfl)) | exact rd_load pl3 (hF.ev rfl) (row_at0 (i := 3) hS rfl (by first | assumption | rfl))) ?_; clear hF; intro a hF
            refine s_pu hF rfl rfl rfl ((by first | exact pu_sub64 (hF.ev rfl) (hF.ev rfl) (by omega) | exact pu_sub (hF.ev rfl) (hF.ev rfl))) ?_; clear hF; intro a hF
            refine s_pu hF rfl rfl rfl (pu_assign (hF.ev rfl)) ?_; clear hF; intro a hF
            refine s_done ?_
            refine blk_normal ?_
            refine hK17 _ _ ?_; clear hK17
            -- region 22
            refine wp_region_lit ?_
            refine s_pu hF rfl rfl rfl ((by first | exact pu_add64 (hF.ev rfl) (hF.ev rfl) (by omega) | exact pu_add (hF.ev rfl) (hF.ev rfl))) ?_; clear hF; intro a hF
            refine s_pu hF rfl rfl rfl (pu_move (hF.ev rfl)) ?_; clear hF; intro a hF
            refine s_done ?_
            refine ⟨_, by omega, i + 1, rfl, by omega, ?_, hS⟩
            rw [show u - total ((qs u zs).take (i + 1)) = u - total ((qs u zs).take i) - u * zs.getD i 0 / total zs by omega]
            exact hF.sub ⟨rfl, rfl, rfl, rfl, rfl, rfl, rfl, rfl, trivial⟩
          · -- cond 4 false
            try simp only [decide_eq_true_eq, decide_eq_false_iff_not, Bool.not_eq_true', Bool.not_eq_false', Int.not_lt, Int.not_le, ne_eq, Decidable.not_not, Bool.or_eq_true, Bool.or_eq_false_iff, Bool.and_eq_true, Bool.and_eq_false_imp] at hc4
            have hil : i = zs.length := by omega
            subst hil
            rw [Nat.sub_self, List.replicate_zero, List.replicate_zero, List.append_nil, List.append_nil, List.take_of_length_le (by rw [qs_len]; omega), List.take_of_length_le (by rw [prts_len]; omega)] at hS
            rw [List.take_of_length_le (by rw [qs_len]; omega), ← left] at hF
            have hlb := left_bd hu.1 hall ht1
            have hbd : Bd (prts u zs) := by
              intro p hp
              obtain ⟨k, hk, rfl⟩ := prts_mem hp
              have e2 := Int.emod_nonneg (u * zs.getD k 0) (show total zs ≠ 0 by omega)
              have e3 := Int.emod_lt_of_pos (u * zs.getD k 0) (show 0 < total zs by omega)
              exact ⟨e2, by simp only; omega⟩
            refine wp_exit ?_
            refine then_exit ?_
            refine then_exit ?_
            refine blk_exit ?_
            refine hK13 _ _ ?_; clear hK13
            refine wp_seq_k fun K17 hK17 => ?_
            -- region 23
            refine wp_region_lit ?_
            refine s_pu hF rfl rfl rfl (pu_move (hF.ev rfl)) ?_; clear hF; intro a hF
            refine s_en hF rfl rfl rfl (run_fn fk23 (hF.ev rfl) (hF.evs rfl)) (at_place 1 hS rfl (fun h => sort_c h prts_up hbd (by omega))) ?_
            clear hS; rintro e w ⟨rfl, ys, hyp, hys, hS⟩
            simp only [del] at hS
            refine ⟨_, rfl, ?_⟩; clear hF; intro a hF
            refine s_done ?_
            refine hK17 _ _ ?_; clear hK17
            refine wp_seq_k fun K18 hK18 => ?_
            refine wp_seq_k fun K19 hK19 => ?_
            -- region 24
            refine wp_region_lit ?_
            refine s_pu hF rfl rfl rfl (pu_move (hF.ev rfl)) ?_; clear hF; intro a hF
            refine s_pu hF rfl rfl rfl (pu_move (hF.ev rfl)) ?_; clear hF; intro a hF
            refine s_pu hF rfl rfl rfl (pu_cutHi sl50 (hF.ev rfl) (hF.ev rfl) (by omega) (by omega)) ?_; clear hF; intro a hF
            refine s_pu hF rfl rfl rfl (pu_len sl50 (hF.ev rfl)) ?_; clear hF; intro a hF
            refine s_pu hF rfl rfl rfl (pu_move (hF.ev rfl)) ?_; clear hF; intro a hF
            refine s_done ?_
            refine hK19 _ _ ?_; clear hK19
            refine wp_block ?_
            have hyl : ys.length = zs.length := by rw [hyp.length_eq, prts_len]
            obtain ⟨lf, hlf⟩ : ∃ lf : Nat, left u zs = lf := ⟨(left u zs).toNat, by omega⟩
            have hlf2 : (left u zs).toNat = lf := by omega
            rw [hlf] at hlb
            refine wp_ind (fun j a w => ∃ (k : Nat), j = lf - k ∧ k ≤ lf ∧
              Fr a 100 [(9, .slice (some ⟨b44, 0, none⟩) zs.length zs.length), (85, .slice (some ⟨b47, 0, none⟩) lf zs.length), (86, .int .i64 lf), (87, .int .i64 k)] ∧
              Sat w0 w (prow b47 zs.length zs.length ys :: rowC 3 1 (.slice (some ⟨b44, 0, none⟩) zs.length zs.length) zs.length (ints (bump (qs u zs) (ys.take k))) :: F)) lf
              ⟨0, rfl, by omega, ?_, by simpa [bump] using hS⟩ ?_
            · rw [hlf, Int.toNat_natCast] at hF
              exact hF.sub ⟨rfl, rfl, rfl, rfl, trivial⟩
            clear hF hS
            rintro j a w ⟨k, rfl, hk, hF, hS⟩
            refine wp_seq_k fun K20 hK20 => ?_
            -- region 25
            refine wp_region_lit ?_
            refine s_pu hF rfl rfl rfl (pu_lss (hF.ev rfl) (hF.ev rfl)) ?_; clear hF; intro a hF
            refine s_done ?_
            refine hK20 _ _ ?_; clear hK20
            refine wp_seq_k fun K21 hK21 => ?_
            refine wp_cond_split (hF.ev rfl) (fun hc5 => ?_) (fun hc5 => ?_)
            · -- cond 5 true
              try simp only [decide_eq_true_eq, decide_eq_false_iff_not, Bool.not_eq_true', Bool.not_eq_false', Int.not_lt, Int.not_le, ne_eq, Decidable.not_not, Bool.or_eq_true, Bool.or_eq_false_iff, Bool.and_eq_true, Bool.and_eq_false_imp] at hc5
              have hkl : k < ys.length := by omega
              obtain ⟨y, hy⟩ : ∃ y, ys[k]? = some y := ⟨ys[k], List.getElem?_eq_getElem _⟩
              obtain ⟨m, hm, hym⟩ := prts_mem (hyp.mem_iff.1 (List.mem_of_getElem? hy))
              have hy1 : y.1 = (m : Int) := by rw [hym]
              have hcells := row_load (i := 0) (k := k) hS rfl (by omega) (parts_at hy)
              rw [hy1] at hcells
              have hbl := bump_len (qs u zs) (ys.take k)
              rw [qs_len] at hbl
              have hmb : m < (bump (qs u zs) (ys.take k)).length := by omega
              obtain ⟨ov, hov⟩ : ∃ ov, (bump (qs u zs) (ys.take k))[m]? = some ov := ⟨_, List.getElem?_eq_getElem hmb⟩
              have hov2 : (ints (bump (qs u zs) (ys.take k)))[m]? = some (.int .i64 ov) := by simp [ints, hov]
              have hqb : ∀ z ∈ qs u zs, 0 ≤ z ∧ z ≤ 999999999999 := by
                intro z hz
                obtain ⟨q, hq, rfl⟩ := List.mem_map.1 hz
                have hq2 := List.mem_range.1 hq
                have hmem : zs.getD q 0 ∈ zs := by rw [List.getD_eq_getElem?_getD, List.getElem?_eq_getElem hq2]; exact List.getElem_mem hq2
                have hz := hall _ hmem
                have h1 := (total_nonneg hall (q + 1)).2.2
                have h2 := (total_nonneg hall q).1
                rw [total_take hq2] at h1
                refine ⟨Int.ediv_nonneg (Int.mul_nonneg hu.1 hz.1) (by omega), ?_⟩
                refine Int.le_trans (Int.ediv_le_of_le_mul (by omega) (?_ : u * zs.getD q 0 ≤ u * total zs)) hu.2
                exact Int.mul_le_mul_of_nonneg_left (by omega) hu.1
              have hob := bump_bd hqb (ys.take k) 100 (by rw [List.length_take]; omega) ov (List.mem_of_getElem? hov)
              refine wp_skip ?_
              refine hK21 _ _ ?_; clear hK21
              refine wp_seq_k fun K22 hK22 => ?_
              refine wp_block ?_
              refine wp_seq_k fun K23 hK23 => ?_
              -- region 26
              refine wp_region_lit ?_
              refine s_pu hF rfl rfl rfl ((by first | exact pu_elem sl50 (hF.ev rfl) (hF.ev rfl) (by first | omega | simp) (by first | omega | (simp; done) | (simp; omega)) | exact pu_elemA sl50 (hF.ev rfl) (hF.ev rfl) (by omega) (by omega))) ?_; clear hF; intro a hF
              refine s_rd hF rfl rfl rfl (rd_loadN ag52 (hF.ev rfl) rfl hcells) ?_; clear hF; intro a hF
              refine s_newp hF rfl rfl rfl (ef_alloc (cs := #[_, _]) ze52 rfl) hS ?_; clear hF hS; intro b15 w hS a hF
              (first | (refine s_store (vs := [_, _]) (cs' := #[_, _]) 0 hF rfl (hF.ev rfl) (hF.ev rfl) hS rfl rfl sz52 (by first | rfl | (simp only [List.all_cons, List.all_nil, Value.oneCell', Bool.and_true, Bool.true_and]; assumption) | (simp [Value.oneCell', *]; done)) (by first | exact Nat.le_of_ble_eq_true rfl | (simp [Value.cells]; omega)) rfl ?_) | (refine s_store (vs := [_, _]) (cs' := #[_, _]) 1 hF rfl (hF.ev rfl) (hF.ev rfl) hS rfl rfl sz52 (by first | rfl | (simp only [List.all_cons, List.all_nil, Value.oneCell', Bool.and_true, Bool.true_and]; assumption) | (simp [Value.oneCell', *]; done)) (by first | exact Nat.le_of_ble_eq_true rfl | (simp [Value.cells]; omega)) rfl ?_) | (refine s_store (vs := [_, _]) (cs' := #[_, _]) 2 hF rfl (hF.ev rfl) (hF.ev rfl) hS rfl rfl sz52 (by first | rfl | (simp only [List.all_cons, List.all_nil, Value.oneCell', Bool.and_true, Bool.true_and]; assumption) | (simp [Value.oneCell', *]; done)) (by first | exact Nat.le_of_ble_eq_true rfl | (simp [Value.cells]; omega)) rfl ?_) | (refine s_store (vs := [_, _]) (cs' := #[_, _]) 3 hF rfl (hF.ev rfl) (hF.ev rfl) hS rfl rfl sz52 (by first | rfl | (simp only [List.all_cons, List.all_nil, Value.oneCell', Bool.and_true, Bool.true_and]; assumption) | (simp [Value.oneCell', *]; done)) (by first | exact Nat.le_of_ble_eq_true rfl | (simp [Value.cells]; omega)) rfl ?_) | (refine s_store (vs := [_, _]) (cs' := _) 0 hF rfl (hF.ev rfl) (hF.ev rfl) hS rfl rfl sz52 (by first | rfl | (simp only [List.all_cons, List.all_nil, Value.oneCell', Bool.and_true, Bool.true_and]; assumption) | (simp [Value.oneCell', *]; done)) (by first | exact Nat.le_of_ble_eq_true rfl | (simp [Value.cells]; omega)) rfl ?_) | (refine s_store (vs := [_, _]) (cs' := _) 1 hF rfl (hF.ev rfl) (hF.ev rfl) hS rfl rfl sz52 (by first | rfl | (simp only [List.all_cons, List.all_nil, Value.oneCell', Bool.and_true, Bool.true_and]; assumption) | (simp [Value.oneCell', *]; done)) (by first | exact Nat.le_of_ble_eq_true rfl | (simp [Value.cells]; omega)) rfl ?_) | (refine s_store (vs := [_, _]) (cs' := _) 2 hF rfl (hF.ev rfl) (hF.ev rfl) hS rfl rfl sz52 (by first | rfl | (simp only [List.all_cons, List.all_nil, Value.oneCell', Bool.and_true, Bool.true_and]; assumption) | (simp [Value.oneCell', *]; done)) (by first | exact Nat.le_of_ble_eq_true rfl | (simp [Value.cells]; omega)) rfl ?_) | (refine s_store (vs := [_, _]) (cs' := _) 3 hF rfl (hF.ev rfl) (hF.ev rfl) hS rfl rfl sz52 (by first | rfl | (simp only [List.all_cons, List.all_nil, Value.oneCell', Bool.and_true, Bool.true_and]; assumption) | (simp [Value.oneCell', *]; done)) (by first | exact Nat.le_of_ble_eq_true rfl | (simp [Value.cells]; omega)) rfl ?_))
              clear hS; intro w hS; (try simp only [upd, del] at hS)
              refine s_done ?_
              refine hK23 _ _ ?_; clear hK23
              -- region 27
              refine wp_region_lit ?_
              have hv2 := row_at (i := 2) hS rfl hov2
              refine s_pu hF rfl rfl rfl (pu_move (hF.ev rfl)) ?_; clear hF; intro a hF
              refine s_pu hF rfl rfl rfl ((by first | exact pu_field fd52_0 (hF.ev rfl) | exact pu_fieldA fd52_0 (hF.ev rfl))) ?_; clear hF; intro a hF
              refine s_rd hF rfl rfl rfl (by first | exact rd_load pl3 (hF.ev rfl) (by assumption) | exact rd_load pl3 (hF.ev rfl) (hS.cellL (i := 0) rfl rfl) | exact rd_load pl3 (hF.ev rfl) (hS.cellL (i := 1) rfl rfl) | exact rd_load pl3 (hF.ev rfl) (hS.cellL (i := 2) rfl rfl) | exact rd_load pl3 (hF.ev rfl) (hS.cellL (i := 3) rfl rfl) | exact rd_load pl3 (hF.ev rfl) (hS.cell (i := 0) rfl (by assumption)) | exact rd_load pl3 (hF.ev rfl) (hS.cell (i := 1) rfl (by assumption)) | exact rd_load pl3 (hF.ev rfl) (hS.cell (i := 2) rfl (by assumption)) | exact rd_load pl3 (hF.ev rfl) (hS.cell (i := 3) rfl (by assumption)) | exact rd_load pl3 (hF.ev rfl) (row_at (i := 0) hS rfl (by first | assumption | rfl)) | exact rd_load pl3 (hF.ev rfl) (row_at0 (i := 0) hS rfl (by first | assumption | rfl)) | exact rd_load pl3 (hF.ev rfl) (row_at (i := 1) hS rfl (by first | assumption | rfl)) | exact rd_load pl3 (hF.ev rfl) (row_at0 (i := 1) hS rfl (by first | assumption | rfl)) | exact rd_load pl3 (hF.ev rfl) (row_at (i := 2) hS rfl (by first | assumption | rfl)) | exact rd_load pl3 (hF.ev rfl) (row_at0 (i := 2) hS rfl (by first | assumption | rfl)) | exact rd_load pl3 (hF.ev rfl) (row_at (i := 3) hS rfl (by first | assumption | rfl)) | exact rd_load pl3 (hF.ev rfl) (row_at0 (i := 3) hS rfl (by first | assumption | rfl))) ?_; clear hF; intro a hF
              refine s_pu hF rfl rfl rfl ((by first | exact pu_elem sl22 (hF.ev rfl) (hF.ev rfl) (by first | omega | simp) (by first | omega | (simp; done) | (simp; omega)) | exact pu_elemA sl22 (hF.ev rfl) (hF.ev rfl) (by omega) (by omega))) ?_; clear hF; intro a hF
              refine s_rd hF rfl rfl rfl (by first | exact rd_load pl3 (hF.ev rfl) (by assumption) | exact rd_load pl3 (hF.ev rfl) (hS.cellL (i := 0) rfl rfl) | exact rd_load pl3 (hF.ev rfl) (hS.cellL (i := 1) rfl rfl) | exact rd_load pl3 (hF.ev rfl) (hS.cellL (i := 2) rfl rfl) | exact rd_load pl3 (hF.ev rfl) (hS.cellL (i := 3) rfl rfl) | exact rd_load pl3 (hF.ev rfl) (hS.cell (i := 0) rfl (by assumption)) | exact rd_load pl3 (hF.ev rfl) (hS.cell (i := 1) rfl (by assumption)) | exact rd_load pl3 (hF.ev rfl) (hS.cell (i := 2) rfl (by assumption)) | exact rd_load pl3 (hF.ev rfl) (hS.cell (i := 3) rfl (by assumption)) | exact rd_load pl3 (hF.ev rfl) (row_at (i := 0) hS rfl (by first | assumption | rfl)) | exact rd_load pl3 (hF.ev rfl) (row_at0 (i := 0) hS rfl (by first | assumption | rfl)) | exact rd_load pl3 (hF.ev rfl) (row_at (i := 1) hS rfl (by first | assumption | rfl)) | exact rd_load pl3 (hF.ev rfl) (row_at0 (i := 1) hS rfl (by first | assumption | rfl)) | exact rd_load pl3 (hF.ev rfl) (row_at (i := 2) hS rfl (by first | assumption | rfl)) | exact rd_load pl3 (hF.ev rfl) (row_at0 (i := 2) hS rfl (by first | assumption | rfl)) | exact rd_load pl3 (hF.ev rfl) (row_at (i := 3) hS rfl (by first | assumption | rfl)) | exact rd_load pl3 (hF.ev rfl) (row_at0 (i := 3) hS rfl (by first | assumption | rfl))) ?_; clear hF; intro a hF
              refine s_pu hF rfl rfl rfl ((by first | exact pu_add64 (hF.ev rfl) (hF.ev rfl) (by omega) | exact pu_add (hF.ev rfl) (hF.ev rfl))) ?_; clear hF; intro a hF
              refine s_pu hF rfl rfl rfl ((by first | exact pu_elem sl22 (hF.ev rfl) (hF.ev rfl) (by first | omega | simp) (by first | omega | (simp; done) | (simp; omega)) | exact pu_elemA sl22 (hF.ev rfl) (hF.ev rfl) (by omega) (by omega))) ?_; clear hF; intro a hF
              refine s_rstore 2 hF rfl (hF.ev rfl) (hF.ev rfl) hS rfl sz3 rfl (by omega) ?_
              clear hS; intro w hS; (try simp only [upd, del] at hS)
              rw [ints_set] at hS
              refine s_done ?_
              refine blk_normal ?_
              refine hK22 _ _ ?_; clear hK22
              -- region 28
              refine wp_region_lit ?_
              refine s_pu hF rfl rfl rfl ((by first | exact pu_add64 (hF.ev rfl) (hF.ev rfl) (by omega) | exact pu_add (hF.ev rfl) (hF.ev rfl))) ?_; clear hF; intro a hF
              refine s_pu hF rfl rfl rfl (pu_move (hF.ev rfl)) ?_; clear hF; intro a hF
              refine s_done ?_
              refine ⟨_, by omega, k + 1, rfl, by omega, hF.sub ⟨rfl, rfl, rfl, rfl, trivial⟩, ?_⟩
              rw [bump_snoc hy, hy1, Int.toNat_natCast, List.getD_eq_getElem?_getD, hov]
              exact hS.tail
            · -- cond 5 false
              try simp only [decide_eq_true_eq, decide_eq_false_iff_not, Bool.not_eq_true', Bool.not_eq_false', Int.not_lt, Int.not_le, ne_eq, Decidable.not_not, Bool.or_eq_true, Bool.or_eq_false_iff, Bool.and_eq_true, Bool.and_eq_false_imp] at hc5
              refine wp_exit ?_
              refine then_exit ?_
              refine then_exit ?_
              refine blk_exit ?_
              refine hK18 _ _ ?_; clear hK18
              refine wp_seq_k fun K22 hK22 => ?_
              -- region 29
              refine wp_region_lit ?_
              refine s_pu hF rfl rfl rfl (pu_move (hF.ev rfl)) ?_; clear hF; intro a hF
              refine s_pu hF rfl rfl rfl (pu_assign (hF.ev rfl)) ?_; clear hF; intro a hF
              refine s_pu hF rfl rfl rfl (pu_assign (hF.ev rfl)) ?_; clear hF; intro a hF
              refine s_done ?_
              refine hK22 _ _ ?_; clear hK22
              refine wp_ret ?_
              refine fin2 Try.results13 hF rfl rfl ?_
              have hkl : k = lf := by omega
              subst hkl
              left
              have hbl := bump_len (qs u zs) (ys.take k)
              rw [qs_len] at hbl
              refine ⟨hse, bump (qs u zs) (ys.take k), b44, zs.length, hbl, ⟨ys, hyp, hys, by rw [hlf2]⟩, ?_, ?_⟩
              · rw [hbl]
              · rw [hbl]
                exact hS.tail
end Go.Proofs.Ytommaijibiipeaa
