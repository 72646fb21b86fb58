import Derived.Test.YtommaijibiipeaaBk3
/-! MoneyShares: the walk. -/
namespace Go.Proofs.Ytommaijibiipeaa
open Go Go.RowKit Go.Proofs.Ytommaijibiipeaa.Sk
set_option linter.unusedVariables false
set_option linter.unusedSimpArgs false
set_option maxRecDepth 100000

/-- What Share gives: the lists that may come out, and nothing where there is an error. -/
def Gives (u : Int) (zs outs : List Int) : Prop := (shErr u zs = 0 → Dealt u zs outs ∧ outs.length = zs.length) ∧ (shErr u zs ≠ 0 → outs = [])
theorem Gives.short {u : Int} {zs outs : List Int} (h : Gives u zs outs) : outs.length ≤ 100 := by
  by_cases he : shErr u zs = 0
  · rw [(h.1 he).2]
    unfold shErr at he
    split at he
    · split at he
      · rename_i h2; exact h2.2.1
      · cases he
    · cases he
  · rw [h.2 he]; simp
theorem share2_c {w0 w : World} {F : List Chunk} {av : Option Addr} {len cap : Nat} {zs : List Int} {u : Int} (hS : Sat w0 w F) (hR : Reads w0 F av len zs) (hlen : len ≤ 17592186044400) :
    Calls Try.prog 13 #[.int .i64 u, .slice av len cap] w fun e w' => ∃ outs A n c, Gives u zs outs ∧ outs.length = n ∧ e = .returned (.tuple #[.slice A n c, .int .i64 (shErr u zs)]) ∧ Sat w0 w' (fRow (.slice A n c, outs) :: F) := by
  refine (share_c hS hR hlen).mono ?_
  rintro e w' (⟨h0, outs, g, c, h1, h2, h3, h4⟩ | ⟨h1, h2, h3⟩)
  · exact ⟨outs, _, _, _, ⟨fun _ => ⟨h2, h1⟩, fun h => absurd h0 h⟩, rfl, by rw [h0]; exact h3, h4⟩
  · exact ⟨[], _, _, _, ⟨fun h => absurd h h1, fun _ => rfl⟩, rfl, h2, row_nil h3⟩
theorem refShare2_c {w0 w : World} {F : List Chunk} {av : Option Addr} {len cap : Nat} {zs outs : List Int} {u : Int} (hS : Sat w0 w F) (hR : Reads w0 F av len zs) (hlen : len ≤ 17592186044400) (hg : Gives u zs outs) :
    Calls Try.prog 15 #[.int .i64 u, .slice av len cap] w fun e w' => ∃ A n c, outs.length = n ∧ e = .returned (.tuple #[.slice A n c, .int .i64 (shErr u zs)]) ∧ Sat w0 w' (fRow (.slice A n c, outs) :: F) := by
  refine (refShare_c hS hR hlen (fun h => (hg.1 h).1)).mono ?_
  rintro e w' (⟨h0, A, c, h1, h3, h4⟩ | ⟨h1, h2, h3⟩)
  · exact ⟨A, _, c, rfl, by rw [h0]; exact h3, h4⟩
  · rw [hg.2 h1]
    exact ⟨_, _, _, rfl, h2, row_nil h3⟩
theorem three {outs : List Int} (hd : Dealt 7 [2, 1, 2] outs) (hl : outs.length = 3) : outs = [3, 1, 3] := by
  obtain ⟨b, hf⟩ := dealt_fair hd (by omega) (by intro z hz; simp at hz; omega) (by decide)
  have g0 := hf.get 0 (by decide)
  have g1 := hf.get 1 (by decide)
  have g2 := hf.get 2 (by decide)
  have hs := hf.sum
  match outs, hl with
  | [x, y, z], _ =>
    simp [total] at g0 g1 g2 hs
    have o0 := hf.ord 0 1 (by decide) (by decide) (.inl (by decide))
    have o2 := hf.ord 2 1 (by decide) (by decide) (.inl (by decide))
    cases h0 : b 0 <;> cases h1 : b 1 <;> cases h2 : b 2 <;> simp [h0, h1, h2] at g0 g1 g2 o0 o2 <;> first | omega | (simp; omega)
theorem gives_three {outs : List Int} (hg : Gives 7 [2, 1, 2] outs) : outs = [3, 1, 3] := three (hg.1 (by decide)).1 (hg.1 (by decide)).2
def same2 (fs ws : List (Value × List Int)) (k : Nat) : Prop := fs.length = k ∧ fs.map (·.2) = ws.map (·.2) ∧ ∀ p ∈ fs, p.2.length ≤ 1000000
theorem same2.len {fs ws : List (Value × List Int)} {k : Nat} (h : same2 fs ws k) : ws.length = k := by
  have := congrArg List.length h.2.1
  rw [List.length_map, List.length_map] at this
  rw [← this]
  exact h.1
theorem same2.snoc {fs ws : List (Value × List Int)} {k : Nat} {v u : Value} {l : List Int} (h : same2 fs ws k) (hl : l.length ≤ 100) : same2 (fs ++ [(v, l)]) (ws ++ [(u, l)]) (k + 1) := by
  refine ⟨by rw [List.length_append, h.1]; rfl, by rw [List.map_append, List.map_append, h.2.1]; rfl, fun p hp => ?_⟩
  rcases List.mem_append.1 hp with hp | hp
  · exact h.2.2 p hp
  · simp at hp
    subst hp
    show l.length ≤ 1000000
    omega
theorem same2.nil : same2 [] [] 0 := ⟨rfl, rfl, by simp⟩
theorem lentL_set2 {zs : List Int} {p : Nat} {v : Int} (h : p < zs.length) : (lentL zs).set p (.int .i64 v) = lentL (zs.set p v) := by
  unfold lentL ints
  rw [List.set_append, if_pos (by simpa using h), List.map_set]
theorem rd_row2 {w0 w : World} {F : List Chunk} {A : Option Addr} {n c : Nat} {zs : List Int} (hi : nth F 0 = some (fRow (.slice A n c, zs))) (hn : zs.length = n) (hS : Sat w0 w F) : Reads w0 F A n zs := by
  subst hn
  exact rd_frow hS hi
set_option maxHeartbeats 1000000 in
theorem moneyShares_walk (W : World) (x0 : Int) (hx0 : (Lit.int .i64 x0).wf = true) (a1 : Option Addr) (l1 q1 : Nat) (z1 : List Int) (h1 : IsRow .i64 W a1 l1 q1 z1) (hlen : l1 * 8 ≤ 140737488351232) (x2 : Int) (hx2 : (Lit.int .i64 x2).wf = true) (x3 : Int) (hx3 : (Lit.int .i64 x3).wf = true) :
    Calls Try.prog 4 #[.int .i64 x0, .slice a1 l1 q1, .int .i64 x2, .int .i64 x3] W fun e w' => e = .returned (.bool true) ∧ Below W.heap.size W w' := by
  obtain ⟨zs, hl, hRW⟩ : ∃ zs : List Int, zs.length = l1 ∧ ∀ C i, nth C i = some (whole W) → Reads W C a1 l1 zs := ⟨z1.take l1, (Reads.of_in (w0 := W) (C := [whole W]) 0 h1.ints rfl).long, fun C i hi => .of_in i h1.ints hi⟩
  subst hl
  have hx2 := wf64 hx2
  have hS0 := sat_whole W
  obtain ⟨w, hw⟩ : ∃ w, w = W := ⟨_, rfl⟩
  have hS : Sat W w [whole W] := by rw [hw]; exact hS0
  rw [show Calls Try.prog 4 #[.int .i64 x0, .slice a1 zs.length q1, .int .i64 x2, .int .i64 x3] W = Calls Try.prog 4 #[.int .i64 x0, .slice a1 zs.length q1, .int .i64 x2, .int .i64 x3] w by rw [hw]]
  clear hw hS0
  refine enter Try.func4 rfl Try.ntmps4 (Nat.le_of_ble_eq_true rfl) fun a hF => ?_
  refine wp_seq_k fun K0 hK0 => ?_
  -- region 0
  refine wp_region_lit ?_
  refine s_pu hF rfl rfl rfl (pu_assign (hF.ev rfl)) ?_; clear hF; intro a hF
  refine s_done ?_
  refine hK0 _ _ ?_; clear hK0
  refine wp_seq_k fun K1 hK1 => ?_
  -- region 1
  refine wp_region_lit ?_
  refine s_pu hF rfl rfl rfl (pu_move (hF.ev rfl)) ?_; clear hF; intro a hF
  refine s_en hF rfl rfl rfl (run_fn fk9 (hF.ev rfl) (hF.evs rfl)) (lent_c hS (hRW _ 0 rfl) hlen) ?_
  clear hS; rintro e w ⟨b, rfl, hS⟩
  refine ⟨_, rfl, ?_⟩; clear hF; intro a hF
  refine s_pu hF rfl rfl rfl (pu_assign (hF.ev rfl)) ?_; clear hF; intro a hF
  refine s_done ?_
  refine hK1 _ _ ?_; clear hK1
  refine wp_seq_k fun K2 hK2 => ?_
  -- region 2
  refine wp_region_lit ?_
  refine s_pu hF rfl rfl rfl ((pu_build st34 (hF.evp rfl) rfl rfl : Pu _ _ _ (.agg #[_, _, _]))) ?_; clear hF; intro a hF
  refine s_newp hF rfl rfl rfl (ef_box (cs := #[_, _, _]) (hF.ev rfl) rfl) hS ?_; clear hF hS; intro b29 w hS a hF
  refine s_pu hF rfl rfl rfl (pu_assign (hF.ev rfl)) ?_; clear hF; intro a hF
  refine s_done ?_
  have hS1 := row_nil (E := 22) (sz := 1) (row_nil (E := 22) (sz := 1) (row_nil (E := 22) (sz := 1) (marks_nil (fr_nil (fr_nil hS)))))
  have hS2 := bk_shut (fs := []) (ws := []) (L := []) (hS1.front 6 rfl)
  clear hS1
  clear hS
  have hS := hS2
  clear hS2
  refine hK2 _ _ ?_; clear hK2
  refine wp_seq_k fun K3 hK3 => ?_
  refine wp_seq_k fun K4 hK4 => ?_
  -- region 3
  refine wp_region_lit ?_
  refine s_pu hF rfl rfl rfl (pu_assign (hF.ev rfl)) ?_; clear hF; intro a hF
  refine s_done ?_
  refine hK4 _ _ ?_; clear hK4
  refine wp_block ?_
  refine wp_ind (fun j a w => ∃ (k : Nat) (fs ws : List (Value × List Int)), j = 6 - k ∧ k ≤ 6 ∧ same2 fs ws k ∧
    Fr a 144 [(0, .int .i64 x0), (1, .slice a1 zs.length q1), (2, .int .i64 x2), (3, .int .i64 x3), (9, .slice (some ⟨b, 0, none⟩) zs.length (zs.length + 8)), (10, .pointer (some ⟨b29, 0, none⟩)), (11, .int .i64 k)] ∧
    Sat W w [bkC b29 fs ws [], lentC b zs, whole W]) 6
    ⟨0, [], [], by omega, by omega, .nil, hF.sub ⟨rfl, rfl, rfl, rfl, rfl, rfl, rfl, trivial⟩, hS⟩ ?_
  clear hS hF
  rintro j a w ⟨k, fs, ws, rfl, hk, hsm, hF, hS⟩
  refine wp_seq_k fun K5 hK5 => ?_
  refine wp_seq_k fun K6 hK6 => ?_
  -- region 4
  refine wp_region_lit ?_
  refine s_pu hF rfl rfl rfl (pu_move (hF.ev rfl)) ?_; clear hF; intro a hF
  refine s_pu hF rfl rfl rfl (pu_lss (hF.ev rfl) (hF.ev rfl)) ?_; clear hF; intro a hF
  refine s_done ?_
  refine hK6 _ _ ?_; clear hK6
  refine wp_cond_split (hF.ev rfl) (fun hc0 => ?_) (fun hc0 => ?_)
  · -- cond 0 true
    try simp only [decide_eq_true_eq, decide_eq_false_iff_not, Bool.not_eq_true', Bool.not_eq_false', Int.not_lt, Int.not_le, ne_eq, Decidable.not_not, Bool.or_eq_true, Bool.or_eq_false_iff, Bool.and_eq_true, Bool.and_eq_false_imp] at hc0
    have hk6 : k < 6 := by omega
    have hsm1 := hsm.1
    have hsml := hsm.len
    refine wp_skip ?_
    refine hK5 _ _ ?_; clear hK5
    refine wp_seq_k fun K7 hK7 => ?_
    refine wp_block ?_
    refine wp_seq_k fun K8 hK8 => ?_
    refine wp_seq_k fun K9 hK9 => ?_
    -- region 6
    refine wp_region_lit ?_
    refine s_pu hF rfl rfl rfl (pu_move (hF.ev rfl)) ?_; clear hF; intro a hF
    refine s_pu hF rfl rfl rfl (pu_eql (hF.ev rfl) (hF.ev rfl)) ?_; clear hF; intro a hF
    refine s_pu hF rfl rfl rfl (pu_move (hF.ev rfl)) ?_; clear hF; intro a hF
    refine fr_split hF (t := 36) rfl ?_ ?_
    · clear hF; intro hg36 hF   -- slot 36 true
      try simp only [decide_eq_true_eq, decide_eq_false_iff_not, Bool.not_eq_true', Bool.not_eq_false', Int.not_lt, Int.not_le, ne_eq, Decidable.not_not, Bool.or_eq_true, Bool.or_eq_false_iff, Bool.and_eq_true, Bool.and_eq_false_imp] at hg36
      refine s_no hF rfl rfl rfl ?_; clear hF; intro a hF
      refine s_no hF rfl rfl rfl ?_; clear hF; intro a hF
      refine s_pu hF rfl rfl rfl ((by first | exact pu_pick_t (hF.ev rfl) (hF.ev rfl) | exact pu_pick_f (hF.ev rfl) (hF.ev rfl) | exact pu_pick (hF.ev rfl) (hF.ev rfl) (hF.ev rfl))) ?_; clear hF; intro a hF
      refine s_done ?_
      refine hK9 _ _ ?_; clear hK9
      refine wp_cond_true (hF.ev rfl) ?_
      refine wp_seq_k fun K10 hK10 => ?_
      -- region 7
      refine wp_region_lit ?_
      refine s_news hF rfl rfl rfl (ef_lit (res := [_, _, _]) sl22 ze3 (hF.evp rfl) (by omega) (by omega) rfl (by simp)) hS ?_; clear hF hS; intro b41 w hS a hF
      skip
      replace hS := row_shut (n := 3) (cap := 3) (sz := 1) hS (by omega) (by unfold maxLen; omega) rfl rfl
      refine s_en hF rfl rfl rfl (run_fn fk13 (hF.ev rfl) (hF.evs rfl)) (share2_c hS (zs := [2, 1, 2]) (.of_row 0 rfl (fun k hk => match k, hk with | 0, _ => rfl | 1, _ => rfl | 2, _ => rfl) rfl (fun _ => ⟨_, rfl⟩)) (by omega)) ?_
      clear hS; rintro e w ⟨outs, A, n, c, hg, hol, rfl, hS⟩
      refine ⟨_, rfl, ?_⟩; clear hF; intro a hF
      have ho3 := gives_three hg
      rw [ho3] at hol
      subst ho3
      replace hS := hS.drop 1
      simp only [del] at hS
      refine s_pu hF rfl rfl rfl (pu_move (hF.ev rfl)) ?_; clear hF; intro a hF
      refine s_pu hF rfl rfl rfl (pu_extract (hF.ev rfl) rfl) ?_; clear hF; intro a hF
      refine s_pu hF rfl rfl rfl (pu_extract (hF.ev rfl) rfl) ?_; clear hF; intro a hF
      refine s_pu hF rfl rfl rfl (pu_assign (hF.ev rfl)) ?_; clear hF; intro a hF
      refine s_pu hF rfl rfl rfl (pu_assign (hF.ev rfl)) ?_; clear hF; intro a hF
      refine s_done ?_
      refine hK10 _ _ ?_; clear hK10
      refine wp_seq_k fun K11 hK11 => ?_
      refine wp_seq_k fun K12 hK12 => ?_
      -- region 8
      refine wp_region_lit ?_
      refine s_pu hF rfl rfl rfl (pu_move (hF.ev rfl)) ?_; clear hF; intro a hF
      refine s_pu hF rfl rfl rfl (pu_neq (hF.ev rfl) (hF.ev rfl)) ?_; clear hF; intro a hF
      refine s_done ?_
      refine hK12 _ _ ?_; clear hK12
      refine wp_cond_split (hF.ev rfl) (fun hc2 => ?_) (fun hc2 => ?_)
      · -- cond 2 true
        try simp only [decide_eq_true_eq, decide_eq_false_iff_not, Bool.not_eq_true', Bool.not_eq_false', Int.not_lt, Int.not_le, ne_eq, Decidable.not_not, Bool.or_eq_true, Bool.or_eq_false_iff, Bool.and_eq_true, Bool.and_eq_false_imp] at hc2
        first | exact absurd rfl hc2 | exact absurd trivial hc2 | omega
      · -- cond 2 false
        try simp only [decide_eq_true_eq, decide_eq_false_iff_not, Bool.not_eq_true', Bool.not_eq_false', Int.not_lt, Int.not_le, ne_eq, Decidable.not_not, Bool.or_eq_true, Bool.or_eq_false_iff, Bool.and_eq_true, Bool.and_eq_false_imp] at hc2
        refine wp_skip ?_
        refine hK11 _ _ ?_; clear hK11
        refine wp_seq_k fun K13 hK13 => ?_
        -- region 10
        refine wp_region_lit ?_
        refine s_pu hF rfl rfl rfl (pu_move (hF.ev rfl)) ?_; clear hF; intro a hF
        refine s_pu hF rfl rfl rfl (pu_move (hF.ev rfl)) ?_; clear hF; intro a hF
        refine s_news hF rfl rfl rfl (ef_lit (res := [_, _, _]) sl22 ze3 (hF.evp rfl) (by omega) (by omega) rfl (by simp)) hS ?_; clear hF hS; intro b49 w hS a hF
        replace hS := (row_shut (n := 3) (cap := 3) (sz := 1) hS (by omega) (by unfold maxLen; omega) rfl rfl).sel [2, 1, 0]
        refine s_en hF rfl rfl rfl (run_fn fk14 (hF.ev rfl) (hF.evs rfl)) (takes_c (us := [3, 1, 3]) hS hol (.of_row 0 rfl (fun k hk => match k, hk with | 0, _ => rfl | 1, _ => rfl | 2, _ => rfl) rfl (fun _ => ⟨_, rfl⟩)) (by omega) (by omega) (by omega)) ?_
        clear hS; rintro e w ⟨v, rfl, hS⟩
        refine ⟨_, rfl, ?_⟩; clear hF; intro a hF
        refine s_done ?_
        replace hS := hS.drop 1
        simp only [del] at hS
        have hsm2 := hsm.snoc (v := .slice A n c) (u := v) (l := [3, 1, 3]) (by decide)
        refine hK13 _ _ ?_; clear hK13
        refine wp_exit ?_
        refine then_exit ?_
        refine blk_exit ?_
        refine hK7 _ _ ?_; clear hK7
        -- region 5
        refine wp_region_lit ?_
        refine s_pu hF rfl rfl rfl (pu_move (hF.ev rfl)) ?_; clear hF; intro a hF
        refine s_pu hF rfl rfl rfl ((by first | exact pu_add64 (hF.ev rfl) (hF.ev rfl) (by omega) | exact pu_add (hF.ev rfl) (hF.ev rfl))) ?_; clear hF; intro a hF
        refine s_pu hF rfl rfl rfl (pu_assign (hF.ev rfl)) ?_; clear hF; intro a hF
        refine s_done ?_
        exact ⟨_, by omega, k + 1, _, _, rfl, by omega, hsm2, hF.sub ⟨rfl, rfl, rfl, rfl, rfl, rfl, rfl, trivial⟩, hS⟩
    · clear hF; intro hg36 hF   -- slot 36 false
      try simp only [decide_eq_true_eq, decide_eq_false_iff_not, Bool.not_eq_true', Bool.not_eq_false', Int.not_lt, Int.not_le, ne_eq, Decidable.not_not, Bool.or_eq_true, Bool.or_eq_false_iff, Bool.and_eq_true, Bool.and_eq_false_imp] at hg36
      refine s_pu hF rfl rfl rfl (pu_move (hF.ev rfl)) ?_; clear hF; intro a hF
      refine s_pu hF rfl rfl rfl (pu_eql (hF.ev rfl) (hF.ev rfl)) ?_; clear hF; intro a hF
      refine s_pu hF rfl rfl rfl ((by first | exact pu_pick_t (hF.ev rfl) (hF.ev rfl) | exact pu_pick_f (hF.ev rfl) (hF.ev rfl) | exact pu_pick (hF.ev rfl) (hF.ev rfl) (hF.ev rfl))) ?_; clear hF; intro a hF
      refine s_done ?_
      refine hK9 _ _ ?_; clear hK9
      refine wp_cond_split (hF.ev rfl) (fun hc1 => ?_) (fun hc1 => ?_)
      · -- cond 1 true
        try simp only [decide_eq_true_eq, decide_eq_false_iff_not, Bool.not_eq_true', Bool.not_eq_false', Int.not_lt, Int.not_le, ne_eq, Decidable.not_not, Bool.or_eq_true, Bool.or_eq_false_iff, Bool.and_eq_true, Bool.and_eq_false_imp] at hc1
        refine wp_seq_k fun K10 hK10 => ?_
        -- region 7
        refine wp_region_lit ?_
        refine s_news hF rfl rfl rfl (ef_lit (res := [_, _, _]) sl22 ze3 (hF.evp rfl) (by omega) (by omega) rfl (by simp)) hS ?_; clear hF hS; intro b41 w hS a hF
        skip
        replace hS := row_shut (n := 3) (cap := 3) (sz := 1) hS (by omega) (by unfold maxLen; omega) rfl rfl
        refine s_en hF rfl rfl rfl (run_fn fk13 (hF.ev rfl) (hF.evs rfl)) (share2_c hS (zs := [2, 1, 2]) (.of_row 0 rfl (fun k hk => match k, hk with | 0, _ => rfl | 1, _ => rfl | 2, _ => rfl) rfl (fun _ => ⟨_, rfl⟩)) (by omega)) ?_
        clear hS; rintro e w ⟨outs, A, n, c, hg, hol, rfl, hS⟩
        refine ⟨_, rfl, ?_⟩; clear hF; intro a hF
        have ho3 := gives_three hg
        rw [ho3] at hol
        subst ho3
        replace hS := hS.drop 1
        simp only [del] at hS
        refine s_pu hF rfl rfl rfl (pu_move (hF.ev rfl)) ?_; clear hF; intro a hF
        refine s_pu hF rfl rfl rfl (pu_extract (hF.ev rfl) rfl) ?_; clear hF; intro a hF
        refine s_pu hF rfl rfl rfl (pu_extract (hF.ev rfl) rfl) ?_; clear hF; intro a hF
        refine s_pu hF rfl rfl rfl (pu_assign (hF.ev rfl)) ?_; clear hF; intro a hF
        refine s_pu hF rfl rfl rfl (pu_assign (hF.ev rfl)) ?_; clear hF; intro a hF
        refine s_done ?_
        refine hK10 _ _ ?_; clear hK10
        refine wp_seq_k fun K11 hK11 => ?_
        refine wp_seq_k fun K12 hK12 => ?_
        -- region 8
        refine wp_region_lit ?_
        refine s_pu hF rfl rfl rfl (pu_move (hF.ev rfl)) ?_; clear hF; intro a hF
        refine s_pu hF rfl rfl rfl (pu_neq (hF.ev rfl) (hF.ev rfl)) ?_; clear hF; intro a hF
        refine s_done ?_
        refine hK12 _ _ ?_; clear hK12
        refine wp_cond_split (hF.ev rfl) (fun hc2 => ?_) (fun hc2 => ?_)
        · -- cond 2 true
          try simp only [decide_eq_true_eq, decide_eq_false_iff_not, Bool.not_eq_true', Bool.not_eq_false', Int.not_lt, Int.not_le, ne_eq, Decidable.not_not, Bool.or_eq_true, Bool.or_eq_false_iff, Bool.and_eq_true, Bool.and_eq_false_imp] at hc2
          first | exact absurd rfl hc2 | exact absurd trivial hc2 | omega
        · -- cond 2 false
          try simp only [decide_eq_true_eq, decide_eq_false_iff_not, Bool.not_eq_true', Bool.not_eq_false', Int.not_lt, Int.not_le, ne_eq, Decidable.not_not, Bool.or_eq_true, Bool.or_eq_false_iff, Bool.and_eq_true, Bool.and_eq_false_imp] at hc2
          refine wp_skip ?_
          refine hK11 _ _ ?_; clear hK11
          refine wp_seq_k fun K13 hK13 => ?_
          -- region 10
          refine wp_region_lit ?_
          refine s_pu hF rfl rfl rfl (pu_move (hF.ev rfl)) ?_; clear hF; intro a hF
          refine s_pu hF rfl rfl rfl (pu_move (hF.ev rfl)) ?_; clear hF; intro a hF
          refine s_news hF rfl rfl rfl (ef_lit (res := [_, _, _]) sl22 ze3 (hF.evp rfl) (by omega) (by omega) rfl (by simp)) hS ?_; clear hF hS; intro b49 w hS a hF
          replace hS := (row_shut (n := 3) (cap := 3) (sz := 1) hS (by omega) (by unfold maxLen; omega) rfl rfl).sel [2, 1, 0]
          refine s_en hF rfl rfl rfl (run_fn fk14 (hF.ev rfl) (hF.evs rfl)) (takes_c (us := [3, 1, 3]) hS hol (.of_row 0 rfl (fun k hk => match k, hk with | 0, _ => rfl | 1, _ => rfl | 2, _ => rfl) rfl (fun _ => ⟨_, rfl⟩)) (by omega) (by omega) (by omega)) ?_
          clear hS; rintro e w ⟨v, rfl, hS⟩
          refine ⟨_, rfl, ?_⟩; clear hF; intro a hF
          refine s_done ?_
          replace hS := hS.drop 1
          simp only [del] at hS
          have hsm2 := hsm.snoc (v := .slice A n c) (u := v) (l := [3, 1, 3]) (by decide)
          refine hK13 _ _ ?_; clear hK13
          refine wp_exit ?_
          refine then_exit ?_
          refine blk_exit ?_
          refine hK7 _ _ ?_; clear hK7
          -- region 5
          refine wp_region_lit ?_
          refine s_pu hF rfl rfl rfl (pu_move (hF.ev rfl)) ?_; clear hF; intro a hF
          refine s_pu hF rfl rfl rfl ((by first | exact pu_add64 (hF.ev rfl) (hF.ev rfl) (by omega) | exact pu_add (hF.ev rfl) (hF.ev rfl))) ?_; clear hF; intro a hF
          refine s_pu hF rfl rfl rfl (pu_assign (hF.ev rfl)) ?_; clear hF; intro a hF
          refine s_done ?_
          exact ⟨_, by omega, k + 1, _, _, rfl, by omega, hsm2, hF.sub ⟨rfl, rfl, rfl, rfl, rfl, rfl, rfl, trivial⟩, hS⟩
      · -- cond 1 false
        try simp only [decide_eq_true_eq, decide_eq_false_iff_not, Bool.not_eq_true', Bool.not_eq_false', Int.not_lt, Int.not_le, ne_eq, Decidable.not_not, Bool.or_eq_true, Bool.or_eq_false_iff, Bool.and_eq_true, Bool.and_eq_false_imp] at hc1
        refine wp_skip ?_
        refine hK8 _ _ ?_; clear hK8
        refine wp_seq_k fun K10 hK10 => ?_
        -- region 11
        refine wp_region_lit ?_
        refine s_pu hF rfl rfl rfl (pu_move (hF.ev rfl)) ?_; clear hF; intro a hF
        refine s_pu hF rfl rfl rfl (pu_move (hF.ev rfl)) ?_; clear hF; intro a hF
        refine s_en hF rfl rfl rfl (run_fn fk13 (hF.ev rfl) (hF.evs rfl)) (share2_c hS (lentC_reads 1 rfl) (by omega)) ?_
        clear hS; rintro e w ⟨outs, A, n, c, hg, hol, rfl, hS⟩
        refine ⟨_, rfl, ?_⟩; clear hF; intro a hF
        refine s_pu hF rfl rfl rfl (pu_move (hF.ev rfl)) ?_; clear hF; intro a hF
        refine s_pu hF rfl rfl rfl (pu_extract (hF.ev rfl) rfl) ?_; clear hF; intro a hF
        refine s_pu hF rfl rfl rfl (pu_extract (hF.ev rfl) rfl) ?_; clear hF; intro a hF
        refine s_pu hF rfl rfl rfl (pu_assign (hF.ev rfl)) ?_; clear hF; intro a hF
        refine s_pu hF rfl rfl rfl (pu_assign (hF.ev rfl)) ?_; clear hF; intro a hF
        refine s_done ?_
        refine hK10 _ _ ?_; clear hK10
        refine wp_seq_k fun K11 hK11 => ?_
        -- region 12
        refine wp_region_lit ?_
        refine s_pu hF rfl rfl rfl (pu_move (hF.ev rfl)) ?_; clear hF; intro a hF
        refine s_pu hF rfl rfl rfl (pu_move (hF.ev rfl)) ?_; clear hF; intro a hF
        refine s_en hF rfl rfl rfl (run_fn fk15 (hF.ev rfl) (hF.evs rfl)) (refShare2_c hS (hRW _ 3 rfl) (by omega) hg) ?_
        clear hS; rintro e w ⟨A2, n2, c2, hol2, rfl, hS⟩
        refine ⟨_, rfl, ?_⟩; clear hF; intro a hF
        refine s_pu hF rfl rfl rfl (pu_move (hF.ev rfl)) ?_; clear hF; intro a hF
        refine s_pu hF rfl rfl rfl (pu_extract (hF.ev rfl) rfl) ?_; clear hF; intro a hF
        refine s_pu hF rfl rfl rfl (pu_extract (hF.ev rfl) rfl) ?_; clear hF; intro a hF
        refine s_pu hF rfl rfl rfl (pu_assign (hF.ev rfl)) ?_; clear hF; intro a hF
        refine s_pu hF rfl rfl rfl (pu_assign (hF.ev rfl)) ?_; clear hF; intro a hF
        refine s_done ?_
        refine hK11 _ _ ?_; clear hK11
        refine wp_seq_k fun K12 hK12 => ?_
        refine wp_seq_k fun K13 hK13 => ?_
        -- region 13
        refine wp_region_lit ?_
        refine s_pu hF rfl rfl rfl (pu_move (hF.ev rfl)) ?_; clear hF; intro a hF
        refine s_pu hF rfl rfl rfl (pu_move (hF.ev rfl)) ?_; clear hF; intro a hF
        refine s_pu hF rfl rfl rfl (pu_neq (hF.ev rfl) (hF.ev rfl)) ?_; clear hF; intro a hF
        refine s_done ?_
        refine hK13 _ _ ?_; clear hK13
        refine wp_cond_split (hF.ev rfl) (fun hc3 => ?_) (fun hc3 => ?_)
        · -- cond 3 true
          try simp only [decide_eq_true_eq, decide_eq_false_iff_not, Bool.not_eq_true', Bool.not_eq_false', Int.not_lt, Int.not_le, ne_eq, Decidable.not_not, Bool.or_eq_true, Bool.or_eq_false_iff, Bool.and_eq_true, Bool.and_eq_false_imp] at hc3
          first | exact absurd rfl hc3 | exact absurd trivial hc3 | omega
        · -- cond 3 false
          try simp only [decide_eq_true_eq, decide_eq_false_iff_not, Bool.not_eq_true', Bool.not_eq_false', Int.not_lt, Int.not_le, ne_eq, Decidable.not_not, Bool.or_eq_true, Bool.or_eq_false_iff, Bool.and_eq_true, Bool.and_eq_false_imp] at hc3
          refine wp_skip ?_
          refine hK12 _ _ ?_; clear hK12
          -- region 15
          refine wp_region_lit ?_
          refine s_pu hF rfl rfl rfl (pu_move (hF.ev rfl)) ?_; clear hF; intro a hF
          refine s_pu hF rfl rfl rfl (pu_move (hF.ev rfl)) ?_; clear hF; intro a hF
          refine s_pu hF rfl rfl rfl (pu_move (hF.ev rfl)) ?_; clear hF; intro a hF
          have hsh := hg.short
          replace hS := hS.sel [2, 1, 0]
          refine s_en hF rfl rfl rfl (run_fn fk14 (hF.ev rfl) (hF.evs rfl)) (takes_c (us := outs) hS hol (rd_row2 rfl hol2 (hS.drop 1 |>.drop 0)) (by omega) (by omega) (by omega)) ?_
          clear hS; rintro e w ⟨v, rfl, hS⟩
          refine ⟨_, rfl, ?_⟩; clear hF; intro a hF
          refine s_done ?_
          replace hS := hS.drop 1
          simp only [del] at hS
          have hsm2 := hsm.snoc (v := .slice A n c) (u := v) (l := outs) hsh
          refine blk_normal ?_
          refine hK7 _ _ ?_; clear hK7
          -- region 5
          refine wp_region_lit ?_
          refine s_pu hF rfl rfl rfl (pu_move (hF.ev rfl)) ?_; clear hF; intro a hF
          refine s_pu hF rfl rfl rfl ((by first | exact pu_add64 (hF.ev rfl) (hF.ev rfl) (by omega) | exact pu_add (hF.ev rfl) (hF.ev rfl))) ?_; clear hF; intro a hF
          refine s_pu hF rfl rfl rfl (pu_assign (hF.ev rfl)) ?_; clear hF; intro a hF
          refine s_done ?_
          exact ⟨_, by omega, k + 1, _, _, rfl, by omega, hsm2, hF.sub ⟨rfl, rfl, rfl, rfl, rfl, rfl, rfl, trivial⟩, hS⟩
  · -- cond 0 false
    try simp only [decide_eq_true_eq, decide_eq_false_iff_not, Bool.not_eq_true', Bool.not_eq_false', Int.not_lt, Int.not_le, ne_eq, Decidable.not_not, Bool.or_eq_true, Bool.or_eq_false_iff, Bool.and_eq_true, Bool.and_eq_false_imp] at hc0
    refine wp_exit ?_
    refine then_exit ?_
    refine then_exit ?_
    refine blk_exit ?_
    refine hK3 _ _ ?_; clear hK3
    refine wp_seq_k fun K7 hK7 => ?_
    -- region 16
    refine wp_region_lit ?_
    have hsm1 := hsm.1
    have hsml := hsm.len
    have hk6 : k = 6 := by omega
    subst hk6
    refine s_pu hF rfl rfl rfl (pu_move (hF.ev rfl)) ?_; clear hF; intro a hF
    refine s_pu hF rfl rfl rfl (pu_move (hF.ev rfl)) ?_; clear hF; intro a hF
    refine s_en hF rfl rfl rfl (run_fn fk13 (hF.ev rfl) (hF.evs rfl)) (share2_c hS (lentC_reads 1 rfl) (by omega)) ?_
    clear hS; rintro e w ⟨outs, A, n, c, hg, hol, rfl, hS⟩
    refine ⟨_, rfl, ?_⟩; clear hF; intro a hF
    refine s_pu hF rfl rfl rfl (pu_move (hF.ev rfl)) ?_; clear hF; intro a hF
    refine s_pu hF rfl rfl rfl (pu_extract (hF.ev rfl) rfl) ?_; clear hF; intro a hF
    refine s_pu hF rfl rfl rfl (pu_extract (hF.ev rfl) rfl) ?_; clear hF; intro a hF
    refine s_pu hF rfl rfl rfl (pu_assign (hF.ev rfl)) ?_; clear hF; intro a hF
    refine s_pu hF rfl rfl rfl (pu_assign (hF.ev rfl)) ?_; clear hF; intro a hF
    refine s_done ?_
    refine hK7 _ _ ?_; clear hK7
    refine wp_seq_k fun K8 hK8 => ?_
    -- region 17
    refine wp_region_lit ?_
    refine s_pu hF rfl rfl rfl (pu_move (hF.ev rfl)) ?_; clear hF; intro a hF
    refine s_pu hF rfl rfl rfl (pu_move (hF.ev rfl)) ?_; clear hF; intro a hF
    refine s_en hF rfl rfl rfl (run_fn fk15 (hF.ev rfl) (hF.evs rfl)) (refShare2_c hS (hRW _ 3 rfl) (by omega) hg) ?_
    clear hS; rintro e w ⟨A2, n2, c2, hol2, rfl, hS⟩
    refine ⟨_, rfl, ?_⟩; clear hF; intro a hF
    refine s_pu hF rfl rfl rfl (pu_move (hF.ev rfl)) ?_; clear hF; intro a hF
    refine s_pu hF rfl rfl rfl (pu_extract (hF.ev rfl) rfl) ?_; clear hF; intro a hF
    refine s_pu hF rfl rfl rfl (pu_extract (hF.ev rfl) rfl) ?_; clear hF; intro a hF
    refine s_pu hF rfl rfl rfl (pu_assign (hF.ev rfl)) ?_; clear hF; intro a hF
    refine s_pu hF rfl rfl rfl (pu_assign (hF.ev rfl)) ?_; clear hF; intro a hF
    refine s_done ?_
    refine hK8 _ _ ?_; clear hK8
    refine wp_seq_k fun K9 hK9 => ?_
    -- region 18
    refine wp_region_lit ?_
    refine s_pu hF rfl rfl rfl (pu_move (hF.ev rfl)) ?_; clear hF; intro a hF
    refine s_pu hF rfl rfl rfl (pu_move (hF.ev rfl)) ?_; clear hF; intro a hF
    refine s_pu hF rfl rfl rfl (pu_move (hF.ev rfl)) ?_; clear hF; intro a hF
    have hsh := hg.short
    replace hS := hS.sel [2, 1, 0]
    refine s_en hF rfl rfl rfl (run_fn fk14 (hF.ev rfl) (hF.evs rfl)) (takes_c (us := outs) hS hol (rd_row2 rfl hol2 (hS.drop 1 |>.drop 0)) (by omega) (by omega) (by omega)) ?_
    clear hS; rintro e w ⟨v, rfl, hS⟩
    refine ⟨_, rfl, ?_⟩; clear hF; intro a hF
    refine s_done ?_
    replace hS := hS.drop 1
    simp only [del] at hS
    have hsm2 := hsm.snoc (v := .slice A n c) (u := v) (l := outs) hsh
    refine hK9 _ _ ?_; clear hK9
    refine wp_seq_k fun K10 hK10 => ?_
    -- region 19
    refine wp_region_lit ?_
    refine s_pu hF rfl rfl rfl (pu_move (hF.ev rfl)) ?_; clear hF; intro a hF
    refine s_en hF rfl rfl rfl (run_fn fk16 (hF.ev rfl) (hF.evs rfl)) (settles_c (q := 0) hS hsm2.2.1 hsm2.2.2 rfl (by rw [hsm2.1]; omega) (by omega)) ?_
    clear hS; rintro e w ⟨L7, hL7, rfl, hS⟩
    refine ⟨_, rfl, ?_⟩; clear hF; intro a hF
    refine s_pu hF rfl rfl rfl (pu_assign (hF.ev rfl)) ?_; clear hF; intro a hF
    refine s_done ?_
    refine hK10 _ _ ?_; clear hK10
    refine wp_seq_k fun K11 hK11 => ?_
    -- region 20
    refine wp_region_lit ?_
    refine s_pu hF rfl rfl rfl (pu_move (hF.ev rfl)) ?_; clear hF; intro a hF
    refine s_pu hF rfl rfl rfl (pu_move (hF.ev rfl)) ?_; clear hF; intro a hF
    refine s_en hF rfl rfl rfl (run_fn fk11 (hF.ev rfl) (hF.evs rfl)) (still_c 1 hS rfl (hRW _ 2 rfl) hlen) ?_
    clear hS; rintro e w ⟨rfl, hS⟩
    refine ⟨_, rfl, ?_⟩; clear hF; intro a hF
    refine s_pu hF rfl rfl rfl (pu_assign (hF.ev rfl)) ?_; clear hF; intro a hF
    refine s_done ?_
    refine hK11 _ _ ?_; clear hK11
    refine wp_seq_k fun K12 hK12 => ?_
    refine wp_seq_k fun K13 hK13 => ?_
    -- region 21
    refine wp_region_lit ?_
    refine s_pu hF rfl rfl rfl (pu_move (hF.ev rfl)) ?_; clear hF; intro a hF
    refine s_pu hF rfl rfl rfl (pu_move (hF.ev rfl)) ?_; clear hF; intro a hF
    refine s_pu hF rfl rfl rfl (pu_neq (hF.ev rfl) (hF.ev rfl)) ?_; clear hF; intro a hF
    refine s_pu hF rfl rfl rfl (pu_move (hF.ev rfl)) ?_; clear hF; intro a hF
    refine fr_split hF (t := 94) rfl ?_ ?_
    · clear hF; intro hg94 hF   -- slot 94 true
      try simp only [decide_eq_true_eq, decide_eq_false_iff_not, Bool.not_eq_true', Bool.not_eq_false', Int.not_lt, Int.not_le, ne_eq, Decidable.not_not, Bool.or_eq_true, Bool.or_eq_false_iff, Bool.and_eq_true, Bool.and_eq_false_imp] at hg94
      first | exact absurd rfl hg94 | exact absurd trivial hg94 | omega
    · clear hF; intro hg94 hF   -- slot 94 false
      try simp only [decide_eq_true_eq, decide_eq_false_iff_not, Bool.not_eq_true', Bool.not_eq_false', Int.not_lt, Int.not_le, ne_eq, Decidable.not_not, Bool.or_eq_true, Bool.or_eq_false_iff, Bool.and_eq_true, Bool.and_eq_false_imp] at hg94
      refine s_pu hF rfl rfl rfl (pu_move (hF.ev rfl)) ?_; clear hF; intro a hF
      refine s_pu hF rfl rfl rfl (pu_not (hF.ev rfl)) ?_; clear hF; intro a hF
      refine s_pu hF rfl rfl rfl ((by first | exact pu_pick_t (hF.ev rfl) (hF.ev rfl) | exact pu_pick_f (hF.ev rfl) (hF.ev rfl) | exact pu_pick (hF.ev rfl) (hF.ev rfl) (hF.ev rfl))) ?_; clear hF; intro a hF
      refine s_pu hF rfl rfl rfl (pu_move (hF.ev rfl)) ?_; clear hF; intro a hF
      refine fr_split hF (t := 98) rfl ?_ ?_
      · clear hF; intro hg98 hF   -- slot 98 true
        try simp only [decide_eq_true_eq, decide_eq_false_iff_not, Bool.not_eq_true', Bool.not_eq_false', Int.not_lt, Int.not_le, ne_eq, Decidable.not_not, Bool.or_eq_true, Bool.or_eq_false_iff, Bool.and_eq_true, Bool.and_eq_false_imp] at hg98
        first | exact absurd rfl hg98 | exact absurd trivial hg98 | (simp at hg98; done)
      · clear hF; intro hg98 hF   -- slot 98 false
        try simp only [decide_eq_true_eq, decide_eq_false_iff_not, Bool.not_eq_true', Bool.not_eq_false', Int.not_lt, Int.not_le, ne_eq, Decidable.not_not, Bool.or_eq_true, Bool.or_eq_false_iff, Bool.and_eq_true, Bool.and_eq_false_imp] at hg98
        refine s_pu hF rfl rfl rfl (pu_move (hF.ev rfl)) ?_; clear hF; intro a hF
        refine s_pu hF rfl rfl rfl (pu_not (hF.ev rfl)) ?_; clear hF; intro a hF
        refine s_pu hF rfl rfl rfl ((by first | exact pu_pick_t (hF.ev rfl) (hF.ev rfl) | exact pu_pick_f (hF.ev rfl) (hF.ev rfl) | exact pu_pick (hF.ev rfl) (hF.ev rfl) (hF.ev rfl))) ?_; clear hF; intro a hF
        refine s_done ?_
        refine hK13 _ _ ?_; clear hK13
        refine wp_cond_split (hF.ev rfl) (fun hc4 => ?_) (fun hc4 => ?_)
        · -- cond 4 true
          try simp only [decide_eq_true_eq, decide_eq_false_iff_not, Bool.not_eq_true', Bool.not_eq_false', Int.not_lt, Int.not_le, ne_eq, Decidable.not_not, Bool.or_eq_true, Bool.or_eq_false_iff, Bool.and_eq_true, Bool.and_eq_false_imp] at hc4
          first | exact absurd rfl hc4 | exact absurd trivial hc4 | (simp at hc4; done)
        · -- cond 4 false
          try simp only [decide_eq_true_eq, decide_eq_false_iff_not, Bool.not_eq_true', Bool.not_eq_false', Int.not_lt, Int.not_le, ne_eq, Decidable.not_not, Bool.or_eq_true, Bool.or_eq_false_iff, Bool.and_eq_true, Bool.and_eq_false_imp] at hc4
          refine wp_skip ?_
          refine hK12 _ _ ?_; clear hK12
          refine wp_seq_k fun K14 hK14 => ?_
          refine wp_seq_k fun K15 hK15 => ?_
          -- region 23
          refine wp_region_lit ?_
          refine s_pu hF rfl rfl rfl (pu_move (hF.ev rfl)) ?_; clear hF; intro a hF
          refine s_pu hF rfl rfl rfl (pu_len sl22 (hF.ev rfl)) ?_; clear hF; intro a hF
          refine s_pu hF rfl rfl rfl (pu_gtr (hF.ev rfl) (hF.ev rfl)) ?_; clear hF; intro a hF
          refine s_done ?_
          refine hK15 _ _ ?_; clear hK15
          refine wp_cond_split (hF.ev rfl) (fun hc5 => ?_) (fun hc5 => ?_)
          · -- cond 5 true
            try simp only [decide_eq_true_eq, decide_eq_false_iff_not, Bool.not_eq_true', Bool.not_eq_false', Int.not_lt, Int.not_le, ne_eq, Decidable.not_not, Bool.or_eq_true, Bool.or_eq_false_iff, Bool.and_eq_true, Bool.and_eq_false_imp] at hc5
            -- region 24
            refine wp_region_lit ?_
            refine s_pu hF rfl rfl rfl (pu_move (hF.ev rfl)) ?_; clear hF; intro a hF
            refine s_pu hF rfl rfl rfl (pu_move (hF.ev rfl)) ?_; clear hF; intro a hF
            refine s_pu hF rfl rfl rfl (pu_move (hF.ev rfl)) ?_; clear hF; intro a hF
            refine s_pu hF rfl rfl rfl (pu_len sl22 (hF.ev rfl)) ?_; clear hF; intro a hF
            refine s_en hF rfl rfl rfl (run_fn fk12 (hF.ev rfl) (hF.evs rfl)) (pick_c hS (by omega) hx2.1 hx2.2) ?_
            clear hS; rintro e w ⟨p, hp, rfl, hS⟩
            refine ⟨_, rfl, ?_⟩; clear hF; intro a hF
            refine s_pu hF rfl rfl rfl (pu_move (hF.ev rfl)) ?_; clear hF; intro a hF
            refine s_pu hF rfl rfl rfl ((by first | exact pu_elem sl22 (hF.ev rfl) (hF.ev rfl) (by first | omega | simp) (by first | omega | (simp; done) | (simp; omega)) | exact pu_elemA sl22 (hF.ev rfl) (hF.ev rfl) (by omega) (by omega))) ?_; clear hF; intro a hF
            (first | (refine s_rstore 0 hF rfl (hF.ev rfl) (hF.ev rfl) hS rfl sz3 rfl (by omega) ?_) | (refine s_rstore 1 hF rfl (hF.ev rfl) (hF.ev rfl) hS rfl sz3 rfl (by omega) ?_) | (refine s_rstore 2 hF rfl (hF.ev rfl) (hF.ev rfl) hS rfl sz3 rfl (by omega) ?_) | (refine s_rstore 3 hF rfl (hF.ev rfl) (hF.ev rfl) hS rfl sz3 rfl (by omega) ?_) | (refine s_store (vs := [_]) (cs' := _) 0 hF rfl (hF.ev rfl) (hF.ev rfl) hS rfl rfl sz3 (by first | rfl | (simp only [List.all_cons, List.all_nil, Value.oneCell', Bool.and_true, Bool.true_and]; assumption) | (simp [Value.oneCell', *]; done)) (by first | exact Nat.le_of_ble_eq_true rfl | (simp [Value.cells]; omega)) rfl ?_) | (refine s_store (vs := [_]) (cs' := _) 1 hF rfl (hF.ev rfl) (hF.ev rfl) hS rfl rfl sz3 (by first | rfl | (simp only [List.all_cons, List.all_nil, Value.oneCell', Bool.and_true, Bool.true_and]; assumption) | (simp [Value.oneCell', *]; done)) (by first | exact Nat.le_of_ble_eq_true rfl | (simp [Value.cells]; omega)) rfl ?_) | (refine s_store (vs := [_]) (cs' := _) 2 hF rfl (hF.ev rfl) (hF.ev rfl) hS rfl rfl sz3 (by first | rfl | (simp only [List.all_cons, List.all_nil, Value.oneCell', Bool.and_true, Bool.true_and]; assumption) | (simp [Value.oneCell', *]; done)) (by first | exact Nat.le_of_ble_eq_true rfl | (simp [Value.cells]; omega)) rfl ?_) | (refine s_store (vs := [_]) (cs' := _) 3 hF rfl (hF.ev rfl) (hF.ev rfl) hS rfl rfl sz3 (by first | rfl | (simp only [List.all_cons, List.all_nil, Value.oneCell', Bool.and_true, Bool.true_and]; assumption) | (simp [Value.oneCell', *]; done)) (by first | exact Nat.le_of_ble_eq_true rfl | (simp [Value.cells]; omega)) rfl ?_))
            clear hS; intro w hS; (try simp only [upd, del] at hS)
            refine s_done ?_
            rw [lentL_set2 (by omega)] at hS
            obtain ⟨zt, hzt⟩ : ∃ zt, zt = zs.set p x3 := ⟨_, rfl⟩
            have hzl : zs.length = zt.length := by rw [hzt]; simp
            rw [← hzt, hzl] at hS
            rw [hzl] at hF
            replace hS : Sat W w [bkC b29 [] [] L7, lentC b zt, whole W] := hS
            refine hK14 _ _ ?_; clear hK14
            refine wp_seq_k fun K16 hK16 => ?_
            -- region 25
            refine wp_region_lit ?_
            refine s_pu hF rfl rfl rfl (pu_move (hF.ev rfl)) ?_; clear hF; intro a hF
            refine s_appendR hF rfl rfl sl22 el3 rfl (hF.ev rfl) hS (lentC_reads 1 rfl) (by unfold maxLen; omega) (by omega) ?_; clear hS hF; intro A113 q113 w hS a hF
            refine s_pu hF rfl rfl rfl (pu_assign (hF.ev rfl)) ?_; clear hF; intro a hF
            refine s_done ?_
            refine hK16 _ _ ?_; clear hK16
            refine wp_seq_k fun K17 hK17 => ?_
            -- region 26
            refine wp_region_lit ?_
            refine s_pu hF rfl rfl rfl (pu_move (hF.ev rfl)) ?_; clear hF; intro a hF
            refine s_pu hF rfl rfl rfl (pu_move (hF.ev rfl)) ?_; clear hF; intro a hF
            refine s_en hF rfl rfl rfl (run_fn fk13 (hF.ev rfl) (hF.evs rfl)) (share2_c hS (lentC_reads 2 rfl) (by omega)) ?_
            clear hS; rintro e w ⟨outs3, A3, n3, c3, hg3, hol3, rfl, hS⟩
            refine ⟨_, rfl, ?_⟩; clear hF; intro a hF
            refine s_pu hF rfl rfl rfl (pu_move (hF.ev rfl)) ?_; clear hF; intro a hF
            refine s_pu hF rfl rfl rfl (pu_extract (hF.ev rfl) rfl) ?_; clear hF; intro a hF
            refine s_pu hF rfl rfl rfl (pu_extract (hF.ev rfl) rfl) ?_; clear hF; intro a hF
            refine s_pu hF rfl rfl rfl (pu_assign (hF.ev rfl)) ?_; clear hF; intro a hF
            refine s_pu hF rfl rfl rfl (pu_assign (hF.ev rfl)) ?_; clear hF; intro a hF
            refine s_done ?_
            refine hK17 _ _ ?_; clear hK17
            refine wp_seq_k fun K18 hK18 => ?_
            -- region 27
            refine wp_region_lit ?_
            refine s_pu hF rfl rfl rfl (pu_move (hF.ev rfl)) ?_; clear hF; intro a hF
            refine s_pu hF rfl rfl rfl (pu_move (hF.ev rfl)) ?_; clear hF; intro a hF
            refine s_en hF rfl rfl rfl (run_fn fk15 (hF.ev rfl) (hF.evs rfl)) (refShare2_c hS (rd_frow (i := 1) (zs := zt) hS rfl) (by omega) hg3) ?_
            clear hS; rintro e w ⟨A4, n4, c4, hol4, rfl, hS⟩
            refine ⟨_, rfl, ?_⟩; clear hF; intro a hF
            refine s_pu hF rfl rfl rfl (pu_move (hF.ev rfl)) ?_; clear hF; intro a hF
            refine s_pu hF rfl rfl rfl (pu_extract (hF.ev rfl) rfl) ?_; clear hF; intro a hF
            refine s_pu hF rfl rfl rfl (pu_extract (hF.ev rfl) rfl) ?_; clear hF; intro a hF
            refine s_pu hF rfl rfl rfl (pu_assign (hF.ev rfl)) ?_; clear hF; intro a hF
            refine s_pu hF rfl rfl rfl (pu_assign (hF.ev rfl)) ?_; clear hF; intro a hF
            refine s_done ?_
            refine hK18 _ _ ?_; clear hK18
            refine wp_seq_k fun K19 hK19 => ?_
            -- region 28
            refine wp_region_lit ?_
            refine s_pu hF rfl rfl rfl (pu_move (hF.ev rfl)) ?_; clear hF; intro a hF
            refine s_pu hF rfl rfl rfl (pu_move (hF.ev rfl)) ?_; clear hF; intro a hF
            refine s_pu hF rfl rfl rfl (pu_move (hF.ev rfl)) ?_; clear hF; intro a hF
            have hsh3 := hg3.short
            replace hS := hS.sel [3, 1, 0, 0]
            refine s_en hF rfl rfl rfl (run_fn fk14 (hF.ev rfl) (hF.evs rfl)) (takes_c (us := outs3) hS hol3 (rd_row2 rfl hol4 (hS.drop 1 |>.drop 0)) (by omega) (by simp) (by simp)) ?_
            clear hS; rintro e w ⟨v3, rfl, hS⟩
            refine ⟨_, rfl, ?_⟩; clear hF; intro a hF
            refine s_done ?_
            have hsm3 := (same2.nil).snoc (v := .slice A3 n3 c3) (u := v3) (l := outs3) hsh3
            replace hS := hS.drop 1
            simp only [del] at hS
            refine hK19 _ _ ?_; clear hK19
            refine wp_seq_k fun K20 hK20 => ?_
            -- region 29
            refine wp_region_lit ?_
            refine s_pu hF rfl rfl rfl (pu_move (hF.ev rfl)) ?_; clear hF; intro a hF
            refine s_en hF rfl rfl rfl (run_fn fk16 (hF.ev rfl) (hF.evs rfl)) (settles_c (q := 7) hS hsm3.2.1 hsm3.2.2 (by rw [hL7, hsm2.1]; rfl) (by rw [hsm3.1]; omega) (by omega)) ?_
            clear hS; rintro e w ⟨L8, hL8, rfl, hS⟩
            refine ⟨_, rfl, ?_⟩; clear hF; intro a hF
            refine s_pu hF rfl rfl rfl (pu_assign (hF.ev rfl)) ?_; clear hF; intro a hF
            refine s_done ?_
            refine hK20 _ _ ?_; clear hK20
            refine wp_seq_k fun K21 hK21 => ?_
            -- region 30
            refine wp_region_lit ?_
            refine s_pu hF rfl rfl rfl (pu_move (hF.ev rfl)) ?_; clear hF; intro a hF
            refine s_pu hF rfl rfl rfl (pu_move (hF.ev rfl)) ?_; clear hF; intro a hF
            refine s_en hF rfl rfl rfl (run_fn fk11 (hF.ev rfl) (hF.evs rfl)) (still_c 2 hS rfl (rd_frow (i := 1) (zs := zt) hS rfl) (by omega)) ?_
            clear hS; rintro e w ⟨rfl, hS⟩
            refine ⟨_, rfl, ?_⟩; clear hF; intro a hF
            refine s_pu hF rfl rfl rfl (pu_assign (hF.ev rfl)) ?_; clear hF; intro a hF
            refine s_done ?_
            refine hK21 _ _ ?_; clear hK21
            refine wp_seq_k fun K22 hK22 => ?_
            -- region 31
            refine wp_region_lit ?_
            refine s_pu hF rfl rfl rfl (pu_move (hF.ev rfl)) ?_; clear hF; intro a hF
            refine s_pu hF rfl rfl rfl (pu_move (hF.ev rfl)) ?_; clear hF; intro a hF
            refine s_pu hF rfl rfl rfl (pu_eql (hF.ev rfl) (hF.ev rfl)) ?_; clear hF; intro a hF
            refine s_pu hF rfl rfl rfl (pu_move (hF.ev rfl)) ?_; clear hF; intro a hF
            refine fr_split hF (t := 138) rfl ?_ ?_
            · clear hF; intro hg138 hF   -- slot 138 true
              try simp only [decide_eq_true_eq, decide_eq_false_iff_not, Bool.not_eq_true', Bool.not_eq_false', Int.not_lt, Int.not_le, ne_eq, Decidable.not_not, Bool.or_eq_true, Bool.or_eq_false_iff, Bool.and_eq_true, Bool.and_eq_false_imp] at hg138
              refine s_pu hF rfl rfl rfl (pu_move (hF.ev rfl)) ?_; clear hF; intro a hF
              refine s_pu hF rfl rfl rfl ((by first | exact pu_pick_t (hF.ev rfl) (hF.ev rfl) | exact pu_pick_f (hF.ev rfl) (hF.ev rfl) | exact pu_pick (hF.ev rfl) (hF.ev rfl) (hF.ev rfl))) ?_; clear hF; intro a hF
              refine s_pu hF rfl rfl rfl (pu_move (hF.ev rfl)) ?_; clear hF; intro a hF
              refine fr_split hF (t := 141) rfl ?_ ?_
              · clear hF; intro hg141 hF   -- slot 141 true
                try simp only [decide_eq_true_eq, decide_eq_false_iff_not, Bool.not_eq_true', Bool.not_eq_false', Int.not_lt, Int.not_le, ne_eq, Decidable.not_not, Bool.or_eq_true, Bool.or_eq_false_iff, Bool.and_eq_true, Bool.and_eq_false_imp] at hg141
                refine s_pu hF rfl rfl rfl (pu_move (hF.ev rfl)) ?_; clear hF; intro a hF
                refine s_pu hF rfl rfl rfl ((by first | exact pu_pick_t (hF.ev rfl) (hF.ev rfl) | exact pu_pick_f (hF.ev rfl) (hF.ev rfl) | exact pu_pick (hF.ev rfl) (hF.ev rfl) (hF.ev rfl))) ?_; clear hF; intro a hF
                refine s_pu hF rfl rfl rfl (pu_assign (hF.ev rfl)) ?_; clear hF; intro a hF
                refine s_done ?_
                refine hK22 _ _ ?_; clear hK22
                refine wp_ret ?_
                refine fin1 Try.results4 hF rfl ?_
                exact ⟨rfl, (hS.front 3 rfl).below⟩
              · clear hF; intro hg141 hF   -- slot 141 false
                try simp only [decide_eq_true_eq, decide_eq_false_iff_not, Bool.not_eq_true', Bool.not_eq_false', Int.not_lt, Int.not_le, ne_eq, Decidable.not_not, Bool.or_eq_true, Bool.or_eq_false_iff, Bool.and_eq_true, Bool.and_eq_false_imp] at hg141
                first | exact absurd rfl hg141 | exact absurd trivial hg141 | (simp at hg141; done)
            · clear hF; intro hg138 hF   -- slot 138 false
              try simp only [decide_eq_true_eq, decide_eq_false_iff_not, Bool.not_eq_true', Bool.not_eq_false', Int.not_lt, Int.not_le, ne_eq, Decidable.not_not, Bool.or_eq_true, Bool.or_eq_false_iff, Bool.and_eq_true, Bool.and_eq_false_imp] at hg138
              first | exact absurd rfl hg138 | exact absurd trivial hg138 | omega
          · -- cond 5 false
            try simp only [decide_eq_true_eq, decide_eq_false_iff_not, Bool.not_eq_true', Bool.not_eq_false', Int.not_lt, Int.not_le, ne_eq, Decidable.not_not, Bool.or_eq_true, Bool.or_eq_false_iff, Bool.and_eq_true, Bool.and_eq_false_imp] at hc5
            obtain ⟨zt, hzl, hS⟩ : ∃ zt : List Int, zs.length = zt.length ∧ Sat W w [bkC b29 [] [] L7, lentC b zt, whole W] := ⟨zs, rfl, hS⟩
            rw [hzl] at hF
            refine wp_skip ?_
            refine hK14 _ _ ?_; clear hK14
            refine wp_seq_k fun K16 hK16 => ?_
            -- region 25
            refine wp_region_lit ?_
            refine s_pu hF rfl rfl rfl (pu_move (hF.ev rfl)) ?_; clear hF; intro a hF
            refine s_appendR hF rfl rfl sl22 el3 rfl (hF.ev rfl) hS (lentC_reads 1 rfl) (by unfold maxLen; omega) (by omega) ?_; clear hS hF; intro A113 q113 w hS a hF
            refine s_pu hF rfl rfl rfl (pu_assign (hF.ev rfl)) ?_; clear hF; intro a hF
            refine s_done ?_
            refine hK16 _ _ ?_; clear hK16
            refine wp_seq_k fun K17 hK17 => ?_
            -- region 26
            refine wp_region_lit ?_
            refine s_pu hF rfl rfl rfl (pu_move (hF.ev rfl)) ?_; clear hF; intro a hF
            refine s_pu hF rfl rfl rfl (pu_move (hF.ev rfl)) ?_; clear hF; intro a hF
            refine s_en hF rfl rfl rfl (run_fn fk13 (hF.ev rfl) (hF.evs rfl)) (share2_c hS (lentC_reads 2 rfl) (by omega)) ?_
            clear hS; rintro e w ⟨outs3, A3, n3, c3, hg3, hol3, rfl, hS⟩
            refine ⟨_, rfl, ?_⟩; clear hF; intro a hF
            refine s_pu hF rfl rfl rfl (pu_move (hF.ev rfl)) ?_; clear hF; intro a hF
            refine s_pu hF rfl rfl rfl (pu_extract (hF.ev rfl) rfl) ?_; clear hF; intro a hF
            refine s_pu hF rfl rfl rfl (pu_extract (hF.ev rfl) rfl) ?_; clear hF; intro a hF
            refine s_pu hF rfl rfl rfl (pu_assign (hF.ev rfl)) ?_; clear hF; intro a hF
            refine s_pu hF rfl rfl rfl (pu_assign (hF.ev rfl)) ?_; clear hF; intro a hF
            refine s_done ?_
            refine hK17 _ _ ?_; clear hK17
            refine wp_seq_k fun K18 hK18 => ?_
            -- region 27
            refine wp_region_lit ?_
            refine s_pu hF rfl rfl rfl (pu_move (hF.ev rfl)) ?_; clear hF; intro a hF
            refine s_pu hF rfl rfl rfl (pu_move (hF.ev rfl)) ?_; clear hF; intro a hF
            refine s_en hF rfl rfl rfl (run_fn fk15 (hF.ev rfl) (hF.evs rfl)) (refShare2_c hS (rd_frow (i := 1) (zs := zt) hS rfl) (by omega) hg3) ?_
            clear hS; rintro e w ⟨A4, n4, c4, hol4, rfl, hS⟩
            refine ⟨_, rfl, ?_⟩; clear hF; intro a hF
            refine s_pu hF rfl rfl rfl (pu_move (hF.ev rfl)) ?_; clear hF; intro a hF
            refine s_pu hF rfl rfl rfl (pu_extract (hF.ev rfl) rfl) ?_; clear hF; intro a hF
            refine s_pu hF rfl rfl rfl (pu_extract (hF.ev rfl) rfl) ?_; clear hF; intro a hF
            refine s_pu hF rfl rfl rfl (pu_assign (hF.ev rfl)) ?_; clear hF; intro a hF
            refine s_pu hF rfl rfl rfl (pu_assign (hF.ev rfl)) ?_; clear hF; intro a hF
            refine s_done ?_
            refine hK18 _ _ ?_; clear hK18
            refine wp_seq_k fun K19 hK19 => ?_
            -- region 28
            refine wp_region_lit ?_
            refine s_pu hF rfl rfl rfl (pu_move (hF.ev rfl)) ?_; clear hF; intro a hF
            refine s_pu hF rfl rfl rfl (pu_move (hF.ev rfl)) ?_; clear hF; intro a hF
            refine s_pu hF rfl rfl rfl (pu_move (hF.ev rfl)) ?_; clear hF; intro a hF
            have hsh3 := hg3.short
            replace hS := hS.sel [3, 1, 0, 0]
            refine s_en hF rfl rfl rfl (run_fn fk14 (hF.ev rfl) (hF.evs rfl)) (takes_c (us := outs3) hS hol3 (rd_row2 rfl hol4 (hS.drop 1 |>.drop 0)) (by omega) (by simp) (by simp)) ?_
            clear hS; rintro e w ⟨v3, rfl, hS⟩
            refine ⟨_, rfl, ?_⟩; clear hF; intro a hF
            refine s_done ?_
            have hsm3 := (same2.nil).snoc (v := .slice A3 n3 c3) (u := v3) (l := outs3) hsh3
            replace hS := hS.drop 1
            simp only [del] at hS
            refine hK19 _ _ ?_; clear hK19
            refine wp_seq_k fun K20 hK20 => ?_
            -- region 29
            refine wp_region_lit ?_
            refine s_pu hF rfl rfl rfl (pu_move (hF.ev rfl)) ?_; clear hF; intro a hF
            refine s_en hF rfl rfl rfl (run_fn fk16 (hF.ev rfl) (hF.evs rfl)) (settles_c (q := 7) hS hsm3.2.1 hsm3.2.2 (by rw [hL7, hsm2.1]; rfl) (by rw [hsm3.1]; omega) (by omega)) ?_
            clear hS; rintro e w ⟨L8, hL8, rfl, hS⟩
            refine ⟨_, rfl, ?_⟩; clear hF; intro a hF
            refine s_pu hF rfl rfl rfl (pu_assign (hF.ev rfl)) ?_; clear hF; intro a hF
            refine s_done ?_
            refine hK20 _ _ ?_; clear hK20
            refine wp_seq_k fun K21 hK21 => ?_
            -- region 30
            refine wp_region_lit ?_
            refine s_pu hF rfl rfl rfl (pu_move (hF.ev rfl)) ?_; clear hF; intro a hF
            refine s_pu hF rfl rfl rfl (pu_move (hF.ev rfl)) ?_; clear hF; intro a hF
            refine s_en hF rfl rfl rfl (run_fn fk11 (hF.ev rfl) (hF.evs rfl)) (still_c 2 hS rfl (rd_frow (i := 1) (zs := zt) hS rfl) (by omega)) ?_
            clear hS; rintro e w ⟨rfl, hS⟩
            refine ⟨_, rfl, ?_⟩; clear hF; intro a hF
            refine s_pu hF rfl rfl rfl (pu_assign (hF.ev rfl)) ?_; clear hF; intro a hF
            refine s_done ?_
            refine hK21 _ _ ?_; clear hK21
            refine wp_seq_k fun K22 hK22 => ?_
            -- region 31
            refine wp_region_lit ?_
            refine s_pu hF rfl rfl rfl (pu_move (hF.ev rfl)) ?_; clear hF; intro a hF
            refine s_pu hF rfl rfl rfl (pu_move (hF.ev rfl)) ?_; clear hF; intro a hF
            refine s_pu hF rfl rfl rfl (pu_eql (hF.ev rfl) (hF.ev rfl)) ?_; clear hF; intro a hF
            refine s_pu hF rfl rfl rfl (pu_move (hF.ev rfl)) ?_; clear hF; intro a hF
            refine fr_split hF (t := 138) rfl ?_ ?_
            · clear hF; intro hg138 hF   -- slot 138 true
              try simp only [decide_eq_true_eq, decide_eq_false_iff_not, Bool.not_eq_true', Bool.not_eq_false', Int.not_lt, Int.not_le, ne_eq, Decidable.not_not, Bool.or_eq_true, Bool.or_eq_false_iff, Bool.and_eq_true, Bool.and_eq_false_imp] at hg138
              refine s_pu hF rfl rfl rfl (pu_move (hF.ev rfl)) ?_; clear hF; intro a hF
              refine s_pu hF rfl rfl rfl ((by first | exact pu_pick_t (hF.ev rfl) (hF.ev rfl) | exact pu_pick_f (hF.ev rfl) (hF.ev rfl) | exact pu_pick (hF.ev rfl) (hF.ev rfl) (hF.ev rfl))) ?_; clear hF; intro a hF
              refine s_pu hF rfl rfl rfl (pu_move (hF.ev rfl)) ?_; clear hF; intro a hF
              refine fr_split hF (t := 141) rfl ?_ ?_
              · clear hF; intro hg141 hF   -- slot 141 true
                try simp only [decide_eq_true_eq, decide_eq_false_iff_not, Bool.not_eq_true', Bool.not_eq_false', Int.not_lt, Int.not_le, ne_eq, Decidable.not_not, Bool.or_eq_true, Bool.or_eq_false_iff, Bool.and_eq_true, Bool.and_eq_false_imp] at hg141
                refine s_pu hF rfl rfl rfl (pu_move (hF.ev rfl)) ?_; clear hF; intro a hF
                refine s_pu hF rfl rfl rfl ((by first | exact pu_pick_t (hF.ev rfl) (hF.ev rfl) | exact pu_pick_f (hF.ev rfl) (hF.ev rfl) | exact pu_pick (hF.ev rfl) (hF.ev rfl) (hF.ev rfl))) ?_; clear hF; intro a hF
                refine s_pu hF rfl rfl rfl (pu_assign (hF.ev rfl)) ?_; clear hF; intro a hF
                refine s_done ?_
                refine hK22 _ _ ?_; clear hK22
                refine wp_ret ?_
                refine fin1 Try.results4 hF rfl ?_
                exact ⟨rfl, (hS.front 3 rfl).below⟩
              · clear hF; intro hg141 hF   -- slot 141 false
                try simp only [decide_eq_true_eq, decide_eq_false_iff_not, Bool.not_eq_true', Bool.not_eq_false', Int.not_lt, Int.not_le, ne_eq, Decidable.not_not, Bool.or_eq_true, Bool.or_eq_false_iff, Bool.and_eq_true, Bool.and_eq_false_imp] at hg141
                first | exact absurd rfl hg141 | exact absurd trivial hg141 | (simp at hg141; done)
            · clear hF; intro hg138 hF   -- slot 138 false
              try simp only [decide_eq_true_eq, decide_eq_false_iff_not, Bool.not_eq_true', Bool.not_eq_false', Int.not_lt, Int.not_le, ne_eq, Decidable.not_not, Bool.or_eq_true, Bool.or_eq_false_iff, Bool.and_eq_true, Bool.and_eq_false_imp] at hg138
              first | exact absurd rfl hg138 | exact absurd trivial hg138 | omega
end Go.Proofs.Ytommaijibiipeaa
