import Derived.Test.YtbpkfifiigpdcaaWs3
/-! The document's own wheel: All. -/
namespace Go.Proofs.Ytbpkfifiigpdcaa
open Go Go.RowKit Go.Proofs.Ytbpkfifiigpdcaa.Sk
set_option linter.unusedVariables false
set_option linter.unusedSimpArgs false
set_option maxRecDepth 100000

/-- The thing e is put in ahead of those that come later. -/
theorem ins_sorted {out : List Ent} {e : Ent} {k : Nat} (hs : out.Pairwise (fun a b => entLe a b = true)) (hk : k ≤ out.length) (hlate : ∀ j x, k ≤ j → out[j]? = some x → e.at_ < x.at_) (hahead : ∀ x, k ≠ 0 → out[k - 1]? = some x → x.at_ ≤ e.at_) (ht : ∀ x ∈ out, x.timer < e.timer) :
    (out.take k ++ e :: out.drop k).Pairwise (fun a b => entLe a b = true) := by
  have h1 : ∀ x ∈ out.take k, x.at_ ≤ e.at_ := by
    intro x hx
    obtain ⟨j, hj⟩ := List.getElem?_of_mem hx
    rw [List.getElem?_take] at hj
    split at hj
    · rename_i hjk
      obtain ⟨y, hy⟩ : ∃ y, out[k - 1]? = some y := ⟨out[k - 1], List.getElem?_eq_getElem (by omega)⟩
      have hye := hahead y (by omega) hy
      by_cases hjk' : j = k - 1
      · subst hjk'
        rw [hy] at hj
        injection hj with hj
        rw [← hj]
        exact hye
      · have hlt : j < out.length := (List.getElem?_eq_some_iff.1 hj).1
        have h9 : entLe x y = true := by
          have := List.pairwise_iff_getElem.1 hs j (k - 1) hlt (by omega) (by omega)
          rwa [(List.getElem?_eq_some_iff.1 hj).2, (List.getElem?_eq_some_iff.1 hy).2] at this
        simp only [entLe, decide_eq_true_eq] at h9
        omega
    · cases hj
  have h2 : ∀ x ∈ out.drop k, e.at_ < x.at_ := by
    intro x hx
    obtain ⟨j, hj⟩ := List.getElem?_of_mem hx
    rw [List.getElem?_drop] at hj
    exact hlate _ x (by omega) hj
  have hsp : (out.take k ++ out.drop k).Pairwise (fun a b => entLe a b = true) := by rw [List.take_append_drop]; exact hs
  rw [List.pairwise_append] at hsp ⊢
  refine ⟨hsp.1, ?_, ?_⟩
  · rw [List.pairwise_cons]
    refine ⟨fun x hx => ?_, hsp.2.1⟩
    have := h2 x hx
    simp only [entLe, decide_eq_true_eq]
    omega
  · intro x hx y hy
    rcases List.mem_cons.1 hy with rfl | hy
    · have := h1 x hx
      have := ht x (List.mem_of_mem_take hx)
      simp only [entLe, decide_eq_true_eq]
      omega
    · exact hsp.2.2 x hx y hy
theorem ins_perm {out : List Ent} {e : Ent} {k : Nat} : (out.take k ++ e :: out.drop k).Perm (out ++ [e]) := by
  refine List.perm_middle.trans ?_
  rw [List.take_append_drop]
  exact (List.perm_append_singleton _ _).symm
section
variable {w0 w : World} {F : List Chunk} {g : Nat} {P : List Ent} {now last t : Int}
theorem rAll_c (hS : Sat w0 w (refC g P now last :: F)) (hR : Rising P last) (hlen : P.length ≤ 5864062014805) :
    Calls Try.prog 22 #[.pointer (some ⟨g, 0, none⟩)] w fun e w' => ∃ A c, e = .returned (.slice A P.length c) ∧ Sat w0 w' (rowC 62 3 (.slice A P.length c) P.length (entCells (sortE P)) :: refC g P now last :: F) := by
  obtain ⟨A, c, hc, hS⟩ := ref_open hS
  refine enter Try.func22 rfl Try.ntmps22 (Nat.le_of_ble_eq_true rfl) fun a hF => ?_
  refine wp_seq_k fun K0 hK0 => ?_
  refine wp_region_lit ?_
  refine s_pu hF rfl rfl rfl (pu_assign (hF.ev rfl)) ?_; clear hF; intro a hF
  refine s_done ?_
  refine hK0 _ _ ?_; clear hK0
  refine wp_seq_k fun K1 hK1 => ?_
  refine wp_region_lit ?_
  refine s_pu hF rfl rfl rfl (pu_assign (hF.ev rfl)) ?_; clear hF; intro a hF
  refine s_done ?_
  replace hS := row_nil (E := 62) (sz := 3) hS
  refine hK1 _ _ ?_; clear hK1
  refine wp_seq_k fun K2 hK2 => ?_
  refine wp_seq_k fun K3 hK3 => ?_
  refine wp_region_lit ?_
  refine s_pu hF rfl rfl rfl (pu_assign (hF.ev rfl)) ?_; clear hF; intro a hF
  refine s_done ?_
  refine hK3 _ _ ?_; clear hK3
  refine wp_block ?_
  refine wp_ind (fun j a w => ∃ (i : Nat) (out : List Ent) (o : Option Addr) (d : Nat), j = P.length - i ∧ i ≤ P.length ∧ out.length = i ∧ out.Perm (P.take i) ∧ out.Pairwise (fun a b => entLe a b = true) ∧
    Fr a 60 [(0, .pointer (some ⟨g, 0, none⟩)), (3, .slice o i d), (4, .int .i64 i)] ∧
    Sat w0 w (rowC 62 3 (.slice o i d) i (entCells out) :: .obj g (.cells #[.slice A P.length c, .int .i64 last, .int .i64 now] 53) :: rowC 62 3 (.slice A P.length c) P.length (entCells P) :: F)) P.length
    ⟨0, [], none, 0, by omega, by omega, rfl, by simp, by simp, hF.sub ⟨rfl, rfl, rfl, trivial⟩, hS⟩ ?_
  clear hS hF
  rintro j a w ⟨i, out, o, d, rfl, hi, hol, hop, hos, hF, hS⟩
  refine wp_seq_k fun K4 hK4 => ?_
  refine wp_seq_k fun K5 hK5 => ?_
  refine wp_region_lit ?_
  refine s_pu hF rfl rfl rfl (pu_move (hF.ev rfl)) ?_; clear hF; intro a hF
  refine s_pu hF rfl rfl rfl (pu_move (hF.ev rfl)) ?_; clear hF; intro a hF
  refine s_pu hF rfl rfl rfl ((by exact pu_nil (hF.ev rfl))) ?_; clear hF; intro a hF
  refine s_pu hF rfl rfl rfl ((by exact pu_field fd53_0 (hF.ev rfl))) ?_; clear hF; intro a hF
  refine s_rd hF rfl rfl rfl (by exact rd_load pl51 (hF.ev rfl) (hS.cellL (i := 1) rfl rfl)) ?_; clear hF; intro a hF
  refine s_pu hF rfl rfl rfl (pu_len sl51 (hF.ev rfl)) ?_; clear hF; intro a hF
  refine s_pu hF rfl rfl rfl (pu_lss (hF.ev rfl) (hF.ev rfl)) ?_; clear hF; intro a hF
  refine s_done ?_
  refine hK5 _ _ ?_; clear hK5
  refine wp_cond_split (hF.ev rfl) (fun hc0 => ?_) (fun hc0 => ?_)
  · -- cond 0 true
    try simp only [decide_eq_true_eq, decide_eq_false_iff_not, Bool.not_eq_true', Bool.not_eq_false', Int.not_lt, Int.not_le, ne_eq, Decidable.not_not, Bool.or_eq_true, Bool.or_eq_false_iff, Bool.and_eq_true, Bool.and_eq_false_imp] at hc0
    have hil : i < P.length := by omega
    obtain ⟨e, he⟩ : ∃ e, P[i]? = some e := ⟨P[i], List.getElem?_eq_getElem _⟩
    obtain ⟨ga, rfl⟩ := row_some (i := 2) hS rfl (by omega)
    have hev := e.one
    have het : ∀ x ∈ out, x.timer < e.timer := by
      intro x hx
      have hx2 := hop.subset hx
      obtain ⟨j, hj⟩ := List.getElem?_of_mem hx2
      rw [List.getElem?_take] at hj
      split at hj
      · rename_i hji
        have h1 := List.pairwise_iff_getElem.1 hR.1 j i (by simpa using (List.getElem?_eq_some_iff.1 hj).1) (by simpa using hil) hji
        simp only [List.getElem_map] at h1
        rw [(List.getElem?_eq_some_iff.1 hj).2, (List.getElem?_eq_some_iff.1 he).2] at h1
        exact h1
      · cases hj
    refine wp_skip ?_
    refine hK4 _ _ ?_; clear hK4
    refine wp_seq_k fun K6 hK6 => ?_
    refine wp_block ?_
    refine wp_seq_k fun K7 hK7 => ?_
    refine wp_region_lit ?_
    refine s_pu hF rfl rfl rfl (pu_move (hF.ev rfl)) ?_; clear hF; intro a hF
    refine s_pu hF rfl rfl rfl (pu_len sl51 (hF.ev rfl)) ?_; clear hF; intro a hF
    refine s_pu hF rfl rfl rfl (pu_assign (hF.ev rfl)) ?_; clear hF; intro a hF
    refine s_done ?_
    refine hK7 _ _ ?_; clear hK7
    refine wp_seq_k fun K8 hK8 => ?_
    refine wp_block ?_
    refine wp_ind (fun j a w => ∃ (k : Nat), j = k ∧ k ≤ i ∧ (∀ j x, k ≤ j → out[j]? = some x → e.at_ < x.at_) ∧
      Fr a 60 [(0, .pointer (some ⟨g, 0, none⟩)), (3, .slice o i d), (4, .int .i64 i), (5, .int .i64 k)] ∧
      Sat w0 w (rowC 62 3 (.slice o i d) i (entCells out) :: .obj g (.cells #[.slice (some ⟨ga, 0, none⟩) P.length c, .int .i64 last, .int .i64 now] 53) :: rowC 62 3 (.slice (some ⟨ga, 0, none⟩) P.length c) P.length (entCells P) :: F)) i
      ⟨i, rfl, Nat.le_refl _, fun j x h1 h2 => by
        have := (List.getElem?_eq_some_iff.1 h2).1
        omega, hF.sub ⟨rfl, rfl, rfl, rfl, trivial⟩, hS⟩ ?_
    clear hS hF
    rintro k a w ⟨_, rfl, hk, hlate, hF, hS⟩
    refine wp_seq_k fun K9 hK9 => ?_
    refine wp_seq_k fun K10 hK10 => ?_
    refine d_start (S := (fun w => Sat w0 w _)) (ds := []) (ord := [(0, .pu), (1, .pu), (2, .pu), (3, .pu), (4, .pu), (5, .pu), (6, .pu), (7, .pu), (8, .tk), (9, .pu), (10, .pu), (11, .pu), (12, .tk), (13, .pu), (14, .pu), (15, .pu), (16, .tk), (17, .pu), (18, .pu)]) mixed ⟨by kernel_rfl, fun _ d _ _ _ h => by cases d <;> exact h⟩ hS.drew fun hD => ?_
    replace hS := hS.drew; generalize w.drew = w at hS ⊢
    refine d_pu hD hF rfl rfl rfl rfl rfl (pu_move (hF.ev rfl)) ?_; clear hF; intro a hF
    refine d_pu hD hF rfl rfl rfl rfl rfl (pu_gtr (hF.ev rfl) (hF.ev rfl)) ?_; clear hF; intro a hF
    refine d_pu hD hF rfl rfl rfl rfl rfl (pu_move (hF.ev rfl)) ?_; clear hF; intro a hF
    refine fr_split hF (t := 20) rfl ?_ ?_
    · clear hF; intro hg20 hF   -- slot 20 true
      try simp only [decide_eq_true_eq, decide_eq_false_iff_not, Bool.not_eq_true', Bool.not_eq_false', Int.not_lt, Int.not_le, ne_eq, Decidable.not_not, Bool.or_eq_true, Bool.or_eq_false_iff, Bool.and_eq_true, Bool.and_eq_false_imp] at hg20
      obtain ⟨go, rfl⟩ := row_some (i := 0) hS rfl (by omega)
      obtain ⟨x, hx⟩ : ∃ x, out[k - 1]? = some x := ⟨out[k - 1], List.getElem?_eq_getElem (by omega)⟩
      have ekk : ((k : Int) - 1) = ((k - 1 : Nat) : Int) := by omega
      refine d_pu hD hF rfl rfl rfl rfl rfl (pu_move (hF.ev rfl)) ?_; clear hF; intro a hF
      refine d_pu hD hF rfl rfl rfl rfl rfl (pu_move (hF.ev rfl)) ?_; clear hF; intro a hF
      refine d_pu hD hF rfl rfl rfl rfl rfl ((by exact pu_sub64 (hF.ev rfl) (hF.ev rfl) (by omega))) ?_; clear hF; intro a hF
      refine d_pu hD hF rfl rfl rfl rfl rfl ((by exact pu_elem sl51 (hF.ev rfl) (hF.ev rfl) (by omega) (by omega))) ?_; clear hF; intro a hF
      refine d_pu hD hF rfl rfl rfl rfl rfl ((by exact pu_field fd62_1 (hF.ev rfl))) ?_; clear hF; intro a hF
      refine d_rd hD hF rfl rfl rfl rfl rfl hS (fun w hS => rd_load pl3 (hF.ev rfl) (by
        rw [ekk]
        exact row_load (i := 0) hS rfl (by omega) (entCells_at hx) 1 _ rfl)) ?_; clear hF; intro a hF
      refine d_pu hD hF rfl rfl rfl rfl rfl (pu_move (hF.ev rfl)) ?_; clear hF; intro a hF
      refine d_pu hD hF rfl rfl rfl rfl rfl ((by exact pu_nil (hF.ev rfl))) ?_; clear hF; intro a hF
      refine d_pu hD hF rfl rfl rfl rfl rfl ((by exact pu_field fd53_0 (hF.ev rfl))) ?_; clear hF; intro a hF
      refine d_rd hD hF rfl rfl rfl rfl rfl hS (fun w hS => (by exact rd_load pl51 (hF.ev rfl) (hS.cellL (i := 1) rfl rfl))) ?_; clear hF; intro a hF
      refine d_pu hD hF rfl rfl rfl rfl rfl (pu_move (hF.ev rfl)) ?_; clear hF; intro a hF
      refine d_pu hD hF rfl rfl rfl rfl rfl ((by exact pu_elem sl51 (hF.ev rfl) (hF.ev rfl) (by omega) (by omega))) ?_; clear hF; intro a hF
      refine d_pu hD hF rfl rfl rfl rfl rfl ((by exact pu_field fd62_1 (hF.ev rfl))) ?_; clear hF; intro a hF
      refine d_rd hD hF rfl rfl rfl rfl rfl hS (fun w hS => rd_load pl3 (hF.ev rfl) (row_load (i := 2) hS rfl (by omega) (entCells_at he) 1 _ rfl)) ?_; clear hF; intro a hF
      refine d_pu hD hF rfl rfl rfl rfl rfl (pu_gtr (hF.ev rfl) (hF.ev rfl)) ?_; clear hF; intro a hF
      refine d_pu hD hF rfl rfl rfl rfl rfl ((by exact pu_pick_t (hF.ev rfl) (hF.ev rfl))) ?_; clear hF; intro a hF
      refine d_done hD rfl ?_; clear hD
      refine hK10 _ _ ?_; clear hK10
      refine wp_cond_split (hF.ev rfl) (fun hc1 => ?_) (fun hc1 => ?_)
      · -- cond 1 true
        try simp only [decide_eq_true_eq, decide_eq_false_iff_not, Bool.not_eq_true', Bool.not_eq_false', Int.not_lt, Int.not_le, ne_eq, Decidable.not_not, Bool.or_eq_true, Bool.or_eq_false_iff, Bool.and_eq_true, Bool.and_eq_false_imp] at hc1
        refine wp_skip ?_
        refine hK9 _ _ ?_; clear hK9
        refine wp_block ?_
        refine wp_region_lit ?_
        refine s_pu hF rfl rfl rfl (pu_move (hF.ev rfl)) ?_; clear hF; intro a hF
        refine s_pu hF rfl rfl rfl ((by exact pu_sub64 (hF.ev rfl) (hF.ev rfl) (by omega))) ?_; clear hF; intro a hF
        refine s_pu hF rfl rfl rfl (pu_assign (hF.ev rfl)) ?_; clear hF; intro a hF
        refine s_done ?_
        refine blk_normal ?_
        refine ⟨k - 1, by omega, k - 1, rfl, by omega, fun j y h1 h2 => ?_, hF.sub ⟨rfl, rfl, rfl, by rw [← ekk]; rfl, trivial⟩, hS⟩
        by_cases h3 : j = k - 1
        · subst h3
          rw [hx] at h2
          injection h2 with h2
          subst h2
          omega
        · exact hlate j y (by omega) h2
      · -- cond 1 false
        try simp only [decide_eq_true_eq, decide_eq_false_iff_not, Bool.not_eq_true', Bool.not_eq_false', Int.not_lt, Int.not_le, ne_eq, Decidable.not_not, Bool.or_eq_true, Bool.or_eq_false_iff, Bool.and_eq_true, Bool.and_eq_false_imp] at hc1
        refine wp_exit ?_
        refine then_exit ?_
        refine then_exit ?_
        refine blk_exit ?_
        refine hK8 _ _ ?_; clear hK8
        refine wp_seq_k fun K11 hK11 => ?_
        refine wp_region_lit ?_
        have hahead : ∀ x, k ≠ 0 → out[k - 1]? = some x → x.at_ ≤ e.at_ := by
          intro y hk0 hy
          first
            | omega
            | (rw [hx] at hy
               injection hy with hy
               subst hy
               omega)
        refine s_pu hF rfl rfl rfl (pu_assign (hF.ev rfl)) ?_; clear hF; intro a hF
        refine s_done ?_
        replace hS := row_nil (E := 62) (sz := 3) hS
        refine hK11 _ _ ?_; clear hK11
        refine wp_seq_k fun K12 hK12 => ?_
        refine wp_region_lit ?_
        refine s_pu hF rfl rfl rfl (pu_move (hF.ev rfl)) ?_; clear hF; intro a hF
        refine s_pu hF rfl rfl rfl (pu_move (hF.ev rfl)) ?_; clear hF; intro a hF
        refine s_pu hF rfl rfl rfl (pu_move (hF.ev rfl)) ?_; clear hF; intro a hF
        refine s_pu hF rfl rfl rfl (pu_cutHiO sl51 (hF.ev rfl) (hF.ev rfl) (by omega) (by have := row_val (hS.front 1 rfl); obtain ⟨_, _, e9, h9, _⟩ := this; injection e9 with _ _ e9; omega)) ?_; clear hF; intro a hF
        refine s_appendV 0 hF rfl rfl sl51 el62 (hF.ev rfl) (hF.ev rfl) hS rfl (news := entCells (out.take k)) (by rw [entCells_len, List.length_take]; omega) (by
          have := win_pre (jj := 1) (m := (k : Int).toNat) hS rfl (by omega)
          rw [Int.toNat_natCast, entCells_take] at this
          rw [Int.toNat_natCast]
          exact this) (entCells_one _) (by unfold maxLen; omega) (by omega) ?_; clear hF hS; intro A43 q43 w hS a hF
        simp only [del, List.nil_append, Nat.zero_add, Int.toNat_natCast] at hS hF
        refine s_pu hF rfl rfl rfl (pu_assign (hF.ev rfl)) ?_; clear hF; intro a hF
        refine s_done ?_
        refine hK12 _ _ ?_; clear hK12
        refine wp_seq_k fun K13 hK13 => ?_
        refine wp_region_lit ?_
        refine s_pu hF rfl rfl rfl (pu_move (hF.ev rfl)) ?_; clear hF; intro a hF
        refine s_pu hF rfl rfl rfl (pu_move (hF.ev rfl)) ?_; clear hF; intro a hF
        refine s_pu hF rfl rfl rfl ((by exact pu_nil (hF.ev rfl))) ?_; clear hF; intro a hF
        refine s_pu hF rfl rfl rfl ((by exact pu_field fd53_0 (hF.ev rfl))) ?_; clear hF; intro a hF
        refine s_rd hF rfl rfl rfl (by exact rd_load pl51 (hF.ev rfl) (hS.cellL (i := 2) rfl rfl)) ?_; clear hF; intro a hF
        refine s_pu hF rfl rfl rfl (pu_move (hF.ev rfl)) ?_; clear hF; intro a hF
        refine s_pu hF rfl rfl rfl ((by exact pu_elem sl51 (hF.ev rfl) (hF.ev rfl) (by omega) (by omega))) ?_; clear hF; intro a hF
        refine s_rd hF rfl rfl rfl (rd_loadN (vs := [.int .i64 e.timer, .int .i64 e.at_, e.v]) ag62 (hF.ev rfl) rfl (row_load (i := 3) hS rfl (by omega) (entCells_at he))) ?_; clear hF; intro a hF
        refine s_news hF rfl rfl rfl (ef_lit1 (cs := [_, _, _]) sl51 ze62 rfl (hF.ev rfl) (by rfl) rfl (by omega) (by omega)) hS ?_; clear hF hS; intro b52 w hS a hF
        (((refine s_append 1 0 hF rfl rfl sl51 el62 (hF.ev rfl) (hF.ev rfl) hS rfl rfl rfl (by ((simp only [List.all_cons, List.all_nil, Value.oneCell', Bool.and_true, Bool.true_and]; assumption))) (by unfold maxLen; omega) (by omega) ?_))); (clear hS hF; intro A53 q53 w hS a hF; (try simp only [upd, del] at hS))
        refine s_pu hF rfl rfl rfl (pu_assign (hF.ev rfl)) ?_; clear hF; intro a hF
        refine s_done ?_
        replace hS := hS.drop 1
        simp only [del] at hS
        obtain ⟨_, d9, e9, h9, _⟩ := row_val (hS.front 1 rfl)
        injection e9 with _ _ e9
        subst e9
        refine hK13 _ _ ?_; clear hK13
        refine wp_region_lit ?_
        refine s_pu hF rfl rfl rfl (pu_move (hF.ev rfl)) ?_; clear hF; intro a hF
        refine s_pu hF rfl rfl rfl (pu_move (hF.ev rfl)) ?_; clear hF; intro a hF
        refine s_pu hF rfl rfl rfl (pu_move (hF.ev rfl)) ?_; clear hF; intro a hF
        refine s_pu hF rfl rfl rfl (pu_cutLoO sl51 (hF.ev rfl) (hF.ev rfl) (by omega) (by omega)) ?_; clear hF; intro a hF
        refine s_appendV 0 hF rfl rfl sl51 el62 (hF.ev rfl) (hF.ev rfl) hS rfl (news := entCells (out.drop k)) (by rw [entCells_len, List.length_drop]; omega) (by
          have := win_post (jj := 1) (o := (k : Int).toNat) hS rfl (by omega)
          rw [Int.toNat_natCast, entCells_drop] at this
          rw [Int.toNat_natCast]
          exact this) (entCells_one _) (by unfold maxLen; omega) (by omega) ?_; clear hF hS; intro A58 q58 w hS a hF
        simp only [del] at hS
        refine s_pu hF rfl rfl rfl (pu_assign (hF.ev rfl)) ?_; clear hF; intro a hF
        refine s_done ?_
        refine blk_normal ?_
        refine hK6 _ _ ?_; clear hK6
        refine wp_region_lit ?_
        refine s_pu hF rfl rfl rfl (pu_move (hF.ev rfl)) ?_; clear hF; intro a hF
        refine s_pu hF rfl rfl rfl ((by exact pu_add64 (hF.ev rfl) (hF.ev rfl) (by omega))) ?_; clear hF; intro a hF
        refine s_pu hF rfl rfl rfl (pu_assign (hF.ev rfl)) ?_; clear hF; intro a hF
        refine s_done ?_
        have e1 : entCells (out.take k) ++ [Value.int .i64 e.timer, .int .i64 e.at_, e.v] ++ entCells (out.drop k) = entCells (out.take k ++ e :: out.drop k) := by simp [entCells, Ent.cells]
        have e2 : k + 1 + (i - k) = i + 1 := by omega
        simp only [Int.toNat_natCast, e1, e2] at hS hF
        refine ⟨P.length - (i + 1), by omega, i + 1, out.take k ++ e :: out.drop k, A58, q58, rfl, by omega, by simp; omega, ?_, ins_sorted hos (by omega) hlate hahead het, hF.sub ⟨rfl, rfl, rfl, trivial⟩, hS.drop 1⟩
        rw [List.take_add_one, he]
        exact ins_perm.trans (hop.append_right [e])
    · clear hF; intro hg20 hF   -- slot 20 false
      try simp only [decide_eq_true_eq, decide_eq_false_iff_not, Bool.not_eq_true', Bool.not_eq_false', Int.not_lt, Int.not_le, ne_eq, Decidable.not_not, Bool.or_eq_true, Bool.or_eq_false_iff, Bool.and_eq_true, Bool.and_eq_false_imp] at hg20
      refine d_no hD hF rfl rfl rfl rfl rfl ?_; clear hF; intro a hF
      refine d_no hD hF rfl rfl rfl rfl rfl ?_; clear hF; intro a hF
      refine d_no hD hF rfl rfl rfl rfl rfl ?_; clear hF; intro a hF
      refine d_no hD hF rfl rfl rfl rfl rfl ?_; clear hF; intro a hF
      refine d_no hD hF rfl rfl rfl rfl rfl ?_; clear hF; intro a hF
      refine d_nord hD hF rfl rfl rfl rfl rfl hS ?_; clear hF; intro a hF
      refine d_no hD hF rfl rfl rfl rfl rfl ?_; clear hF; intro a hF
      refine d_no hD hF rfl rfl rfl rfl rfl ?_; clear hF; intro a hF
      refine d_no hD hF rfl rfl rfl rfl rfl ?_; clear hF; intro a hF
      refine d_nord hD hF rfl rfl rfl rfl rfl hS ?_; clear hF; intro a hF
      refine d_no hD hF rfl rfl rfl rfl rfl ?_; clear hF; intro a hF
      refine d_no hD hF rfl rfl rfl rfl rfl ?_; clear hF; intro a hF
      refine d_no hD hF rfl rfl rfl rfl rfl ?_; clear hF; intro a hF
      refine d_nord hD hF rfl rfl rfl rfl rfl hS ?_; clear hF; intro a hF
      refine d_no hD hF rfl rfl rfl rfl rfl ?_; clear hF; intro a hF
      refine d_pu hD hF rfl rfl rfl rfl rfl ((by exact pu_pick_f (hF.ev rfl) (hF.ev rfl))) ?_; clear hF; intro a hF
      refine d_done hD rfl ?_; clear hD
      refine hK10 _ _ ?_; clear hK10
      refine wp_cond_false (hF.ev rfl) ?_
      refine wp_exit ?_
      refine then_exit ?_
      refine then_exit ?_
      refine blk_exit ?_
      refine hK8 _ _ ?_; clear hK8
      refine wp_seq_k fun K11 hK11 => ?_
      refine wp_region_lit ?_
      have hahead : ∀ x, k ≠ 0 → out[k - 1]? = some x → x.at_ ≤ e.at_ := by
        intro y hk0 hy
        first
          | omega
          | (rw [hx] at hy
             injection hy with hy
             subst hy
             first | omega | (simp at hc1; omega))
      refine s_pu hF rfl rfl rfl (pu_assign (hF.ev rfl)) ?_; clear hF; intro a hF
      refine s_done ?_
      replace hS := row_nil (E := 62) (sz := 3) hS
      refine hK11 _ _ ?_; clear hK11
      refine wp_seq_k fun K12 hK12 => ?_
      refine wp_region_lit ?_
      refine s_pu hF rfl rfl rfl (pu_move (hF.ev rfl)) ?_; clear hF; intro a hF
      refine s_pu hF rfl rfl rfl (pu_move (hF.ev rfl)) ?_; clear hF; intro a hF
      refine s_pu hF rfl rfl rfl (pu_move (hF.ev rfl)) ?_; clear hF; intro a hF
      refine s_pu hF rfl rfl rfl (pu_cutHiO sl51 (hF.ev rfl) (hF.ev rfl) (by omega) (by have := row_val (hS.front 1 rfl); obtain ⟨_, _, e9, h9, _⟩ := this; injection e9 with _ _ e9; omega)) ?_; clear hF; intro a hF
      refine s_appendV 0 hF rfl rfl sl51 el62 (hF.ev rfl) (hF.ev rfl) hS rfl (news := entCells (out.take k)) (by rw [entCells_len, List.length_take]; omega) (by
        have := win_pre (jj := 1) (m := (k : Int).toNat) hS rfl (by omega)
        rw [Int.toNat_natCast, entCells_take] at this
        rw [Int.toNat_natCast]
        exact this) (entCells_one _) (by unfold maxLen; omega) (by omega) ?_; clear hF hS; intro A43 q43 w hS a hF
      simp only [del, List.nil_append, Nat.zero_add, Int.toNat_natCast] at hS hF
      refine s_pu hF rfl rfl rfl (pu_assign (hF.ev rfl)) ?_; clear hF; intro a hF
      refine s_done ?_
      refine hK12 _ _ ?_; clear hK12
      refine wp_seq_k fun K13 hK13 => ?_
      refine wp_region_lit ?_
      refine s_pu hF rfl rfl rfl (pu_move (hF.ev rfl)) ?_; clear hF; intro a hF
      refine s_pu hF rfl rfl rfl (pu_move (hF.ev rfl)) ?_; clear hF; intro a hF
      refine s_pu hF rfl rfl rfl ((by exact pu_nil (hF.ev rfl))) ?_; clear hF; intro a hF
      refine s_pu hF rfl rfl rfl ((by exact pu_field fd53_0 (hF.ev rfl))) ?_; clear hF; intro a hF
      refine s_rd hF rfl rfl rfl (by exact rd_load pl51 (hF.ev rfl) (hS.cellL (i := 2) rfl rfl)) ?_; clear hF; intro a hF
      refine s_pu hF rfl rfl rfl (pu_move (hF.ev rfl)) ?_; clear hF; intro a hF
      refine s_pu hF rfl rfl rfl ((by exact pu_elem sl51 (hF.ev rfl) (hF.ev rfl) (by omega) (by omega))) ?_; clear hF; intro a hF
      refine s_rd hF rfl rfl rfl (rd_loadN (vs := [.int .i64 e.timer, .int .i64 e.at_, e.v]) ag62 (hF.ev rfl) rfl (row_load (i := 3) hS rfl (by omega) (entCells_at he))) ?_; clear hF; intro a hF
      refine s_news hF rfl rfl rfl (ef_lit1 (cs := [_, _, _]) sl51 ze62 rfl (hF.ev rfl) (by rfl) rfl (by omega) (by omega)) hS ?_; clear hF hS; intro b52 w hS a hF
      (((refine s_append 1 0 hF rfl rfl sl51 el62 (hF.ev rfl) (hF.ev rfl) hS rfl rfl rfl (by ((simp only [List.all_cons, List.all_nil, Value.oneCell', Bool.and_true, Bool.true_and]; assumption))) (by unfold maxLen; omega) (by omega) ?_))); (clear hS hF; intro A53 q53 w hS a hF; (try simp only [upd, del] at hS))
      refine s_pu hF rfl rfl rfl (pu_assign (hF.ev rfl)) ?_; clear hF; intro a hF
      refine s_done ?_
      replace hS := hS.drop 1
      simp only [del] at hS
      obtain ⟨_, d9, e9, h9, _⟩ := row_val (hS.front 1 rfl)
      injection e9 with _ _ e9
      subst e9
      refine hK13 _ _ ?_; clear hK13
      refine wp_region_lit ?_
      refine s_pu hF rfl rfl rfl (pu_move (hF.ev rfl)) ?_; clear hF; intro a hF
      refine s_pu hF rfl rfl rfl (pu_move (hF.ev rfl)) ?_; clear hF; intro a hF
      refine s_pu hF rfl rfl rfl (pu_move (hF.ev rfl)) ?_; clear hF; intro a hF
      refine s_pu hF rfl rfl rfl (pu_cutLoO sl51 (hF.ev rfl) (hF.ev rfl) (by omega) (by omega)) ?_; clear hF; intro a hF
      refine s_appendV 0 hF rfl rfl sl51 el62 (hF.ev rfl) (hF.ev rfl) hS rfl (news := entCells (out.drop k)) (by rw [entCells_len, List.length_drop]; omega) (by
        have := win_post (jj := 1) (o := (k : Int).toNat) hS rfl (by omega)
        rw [Int.toNat_natCast, entCells_drop] at this
        rw [Int.toNat_natCast]
        exact this) (entCells_one _) (by unfold maxLen; omega) (by omega) ?_; clear hF hS; intro A58 q58 w hS a hF
      simp only [del] at hS
      refine s_pu hF rfl rfl rfl (pu_assign (hF.ev rfl)) ?_; clear hF; intro a hF
      refine s_done ?_
      refine blk_normal ?_
      refine hK6 _ _ ?_; clear hK6
      refine wp_region_lit ?_
      refine s_pu hF rfl rfl rfl (pu_move (hF.ev rfl)) ?_; clear hF; intro a hF
      refine s_pu hF rfl rfl rfl ((by exact pu_add64 (hF.ev rfl) (hF.ev rfl) (by omega))) ?_; clear hF; intro a hF
      refine s_pu hF rfl rfl rfl (pu_assign (hF.ev rfl)) ?_; clear hF; intro a hF
      refine s_done ?_
      have e1 : entCells (out.take k) ++ [Value.int .i64 e.timer, .int .i64 e.at_, e.v] ++ entCells (out.drop k) = entCells (out.take k ++ e :: out.drop k) := by simp [entCells, Ent.cells]
      have e2 : k + 1 + (i - k) = i + 1 := by omega
      simp only [Int.toNat_natCast, e1, e2] at hS hF
      refine ⟨P.length - (i + 1), by omega, i + 1, out.take k ++ e :: out.drop k, A58, q58, rfl, by omega, by simp; omega, ?_, ins_sorted hos (by omega) hlate hahead het, hF.sub ⟨rfl, rfl, rfl, trivial⟩, hS.drop 1⟩
      rw [List.take_add_one, he]
      exact ins_perm.trans (hop.append_right [e])
  · -- cond 0 false
    try simp only [decide_eq_true_eq, decide_eq_false_iff_not, Bool.not_eq_true', Bool.not_eq_false', Int.not_lt, Int.not_le, ne_eq, Decidable.not_not, Bool.or_eq_true, Bool.or_eq_false_iff, Bool.and_eq_true, Bool.and_eq_false_imp] at hc0
    refine wp_exit ?_
    refine then_exit ?_
    refine then_exit ?_
    refine blk_exit ?_
    refine hK2 _ _ ?_; clear hK2
    refine wp_seq_k fun K6 hK6 => ?_
    refine wp_region_lit ?_
    refine s_pu hF rfl rfl rfl (pu_move (hF.ev rfl)) ?_; clear hF; intro a hF
    refine s_pu hF rfl rfl rfl (pu_assign (hF.ev rfl)) ?_; clear hF; intro a hF
    refine s_done ?_
    refine hK6 _ _ ?_; clear hK6
    refine wp_ret ?_
    refine fin1 Try.results22 hF rfl ?_
    have hil : i = P.length := by omega
    subst hil
    rw [List.take_length] at hop
    have := sortE_unique hR.nodup hop hos
    subst this
    exact ⟨o, d, rfl, (ref_shut (hS.sel [1, 1])).sel [1]⟩
end
end Go.Proofs.Ytbpkfifiigpdcaa
