import Derived.Test.YtbfdebddoncfhaaPo5
/-! PendingOnce: answers. -/
namespace Go.Proofs.Ytbfdebddoncfhaa
open Go Go.RowKit Go.Proofs.Ytbfdebddoncfhaa.Sk
set_option linter.unusedVariables false
set_option linter.unusedSimpArgs false
set_option maxRecDepth 100000

section
variable {w0 w : World} {F : List Chunk} {b g m : Nat} {to fo now last : Int} {R : List Fate} {LA WA : List Lv} {P : List Ent}
theorem tab_dropL {A B : List Lv} {x : Lv} {PP : List Ent} {next : Nat} : ({ tabS m to fo next (A ++ x :: B) WA P now last with L := A.map Lv.lt ++ (B.map Lv.lt ++ WA.map Lv.wt), P := PP } : Tab) = tabS m to fo next (A ++ B) WA PP now last := by
  unfold tabS
  simp
theorem tab_dropW {A B : List Lv} {x : Lv} {PP : List Ent} {next : Nat} : ({ tabS m to fo next LA (A ++ x :: B) P now last with L := LA.map Lv.lt ++ A.map Lv.wt ++ B.map Lv.wt, P := PP } : Tab) = tabS m to fo next LA (A ++ B) PP now last := by
  unfold tabS
  simp
theorem answers_c {N : Int} (hN : -9223372036854775808 ≤ N ∧ N ≤ 9223372036854775807) (hS : Sat w0 w (wC b g R now WA.length LA.length m to fo :: tabC 1 g (tabS m to fo R.length LA WA P now last) :: F)) (h : WldOk m to fo R LA WA P now last) (hR : R.length ≤ 900) (hn : now ≤ 100000) :
    Calls Try.prog 18 #[.pointer (some ⟨b, 0, none⟩), .int .i64 N] w fun e w' => e = .returned (.bool true) ∧ ∃ R' LA' WA' P', WldOk m to fo R' LA' WA' P' now last ∧ R'.length = R.length ∧
      Sat w0 w' (wC b g R' now WA'.length LA'.length m to fo :: tabC 1 g (tabS m to fo R'.length LA' WA' P' now last) :: F) := by
  obtain ⟨A, c, hc, hS⟩ := w_open hS
  have hwn := h.ok.wn
  have hln := h.ok.ln
  have hn0 := h.ok.n0
  have hto := h.c.to
  have hfo := h.c.fo
  have hmm := h.c.m
  have hpl := h.ok.perm.length_eq
  simp only [List.length_append, List.length_map] at hpl
  refine enter Try.func18 rfl Try.ntmps18 (Nat.le_of_ble_eq_true rfl) fun a hF => ?_
  refine wp_seq_k fun K0 hK0 => ?_
  refine wp_region_lit ?_
  refine s_pu hF rfl rfl rfl (pu_assign (hF.ev rfl)) ?_; clear hF; intro a hF
  refine s_done ?_
  refine hK0 _ _ ?_; clear hK0
  refine wp_seq_k fun K1 hK1 => ?_
  refine wp_seq_k fun K2 hK2 => ?_
  refine wp_region_lit ?_
  refine s_pu hF rfl rfl rfl (pu_move (hF.ev rfl)) ?_; clear hF; intro a hF
  refine s_pu hF rfl rfl rfl ((by exact pu_nil (hF.ev rfl))) ?_; clear hF; intro a hF
  refine s_pu hF rfl rfl rfl ((by exact pu_field fd52_1 (hF.ev rfl))) ?_; clear hF; intro a hF
  refine s_rd hF rfl rfl rfl (by exact rd_load pl50 (hF.ev rfl) (hS.cellL (i := 0) rfl rfl)) ?_; clear hF; intro a hF
  refine s_pu hF rfl rfl rfl (pu_len sl50 (hF.ev rfl)) ?_; clear hF; intro a hF
  refine s_pu hF rfl rfl rfl (pu_eql (hF.ev rfl) (hF.ev rfl)) ?_; clear hF; intro a hF
  refine s_done ?_
  refine hK2 _ _ ?_; clear hK2
  refine wp_cond_split (hF.ev rfl) (fun hc0 => ?_) (fun hc0 => ?_)
  · -- cond 0 true
    try simp only [decide_eq_true_eq, decide_eq_false_iff_not, Bool.not_eq_true', Bool.not_eq_false', Int.not_lt, Int.not_le, ne_eq, Decidable.not_not, Bool.or_eq_true, Bool.or_eq_false_iff, Bool.and_eq_true, Bool.and_eq_false_imp] at hc0
    refine wp_seq_k fun K3 hK3 => ?_
    refine wp_region_lit ?_
    refine s_pu hF rfl rfl rfl (pu_assign (hF.ev rfl)) ?_; clear hF; intro a hF
    refine s_done ?_
    refine hK3 _ _ ?_; clear hK3
    refine wp_ret ?_
    refine then_ret ?_
    refine fin1 Try.results18 hF rfl ?_
    exact ⟨by simp, R, LA, WA, P, h, rfl, w_shut hS⟩
  · -- cond 0 false
    try simp only [decide_eq_true_eq, decide_eq_false_iff_not, Bool.not_eq_true', Bool.not_eq_false', Int.not_lt, Int.not_le, ne_eq, Decidable.not_not, Bool.or_eq_true, Bool.or_eq_false_iff, Bool.and_eq_true, Bool.and_eq_false_imp] at hc0
    refine wp_skip ?_
    refine hK1 _ _ ?_; clear hK1
    refine wp_seq_k fun K3 hK3 => ?_
    refine wp_region_lit ?_
    refine s_pu hF rfl rfl rfl (pu_move (hF.ev rfl)) ?_; clear hF; intro a hF
    refine s_pu hF rfl rfl rfl (pu_move (hF.ev rfl)) ?_; clear hF; intro a hF
    refine s_pu hF rfl rfl rfl ((by exact pu_nil (hF.ev rfl))) ?_; clear hF; intro a hF
    refine s_pu hF rfl rfl rfl ((by exact pu_field fd52_1 (hF.ev rfl))) ?_; clear hF; intro a hF
    refine s_rd hF rfl rfl rfl (by exact rd_load pl50 (hF.ev rfl) (hS.cellL (i := 0) rfl rfl)) ?_; clear hF; intro a hF
    refine s_pu hF rfl rfl rfl (pu_len sl50 (hF.ev rfl)) ?_; clear hF; intro a hF
    refine s_en hF rfl rfl rfl (run_fn fk7 (hF.ev rfl) (hF.evs rfl)) (pick_c hS (by omega) hN.1 hN.2) ?_
    clear hS; rintro e w ⟨p, hp1, hp2, rfl, hS⟩
    refine ⟨_, rfl, ?_⟩; clear hF; intro a hF
    refine s_pu hF rfl rfl rfl (pu_assign (hF.ev rfl)) ?_; clear hF; intro a hF
    refine s_done ?_
    refine hK3 _ _ ?_; clear hK3
    refine wp_seq_k fun K4 hK4 => ?_
    refine wp_region_lit ?_
    have hpR : p < R.length := by omega
    obtain ⟨f, hf⟩ : ∃ f, R[p]? = some f := ⟨R[p], List.getElem?_eq_getElem _⟩
    obtain ⟨gA, rfl⟩ := row_some (i := 1) hS rfl (by omega)
    have hcase : ((∃ fa fl, f = ⟨fa, fl, true⟩) ∧ ∀ x ∈ LA ++ WA, x.i ≠ p) ∨ (∃ A x B, LA = A ++ x :: B ∧ x.i = p) ∨ (∃ A x B, WA = A ++ x :: B ∧ x.i = p) := by
      cases hfo : f.out with
      | true =>
        refine .inl ⟨⟨f.added, f.late, by rw [← hfo]⟩, fun x hx hxi => ?_⟩
        subst hxi
        rcases List.mem_append.1 hx with hx | hx
        · have := h.rel.rl x hx
          rw [hf] at this
          injection this with this
          rw [this] at hfo
          cases hfo
        · have := h.rel.rw x hx
          rw [hf] at this
          injection this with this
          rw [this] at hfo
          cases hfo
      | false =>
        obtain ⟨x, hx, hxi⟩ := h.rel.all p f hf hfo
        rcases List.mem_append.1 hx with hx | hx
        · obtain ⟨A, B, hAB⟩ := List.append_of_mem hx
          exact .inr (.inl ⟨A, x, B, hAB, hxi⟩)
        · obtain ⟨A, B, hAB⟩ := List.append_of_mem hx
          exact .inr (.inr ⟨A, x, B, hAB, hxi⟩)
    refine s_pu hF rfl rfl rfl (pu_move (hF.ev rfl)) ?_; clear hF; intro a hF
    refine s_en hF rfl rfl rfl (run_fn fk10 (hF.ev rfl) (hF.evs rfl)) (request_c (n := p) hS (by omega)) ?_
    clear hS; rintro e w ⟨A1, s1, y1, A2, s2, y2, rfl, hS⟩
    unfold Pnd.value
    refine ⟨_, rfl, ?_⟩; clear hF; intro a hF
    refine s_newp hF rfl rfl rfl (ef_alloc (cs := #[_, _, _, _, _, _, _, _, _, _, _, _]) ze35 rfl) hS ?_; clear hF hS; intro b5 w hS a hF
    ((refine s_store (vs := [_, _, _, _, _, _, _, _, _, _, _, _]) (cs' := #[_, _, _, _, _, _, _, _, _, _, _, _]) 0 hF rfl (hF.ev rfl) (hF.ev rfl) hS rfl rfl sz35 (by rfl) (by exact Nat.le_of_ble_eq_true rfl) rfl ?_))
    clear hS; intro w hS; (try simp only [upd, del] at hS)
    refine s_done ?_
    refine hK4 _ _ ?_; clear hK4
    refine wp_seq_k fun K5 hK5 => ?_
    rcases hcase with ⟨⟨fa, fl, rfl⟩, hno⟩ | ⟨LX, x, LY, rfl, hxi⟩ | ⟨LX, x, LY, rfl, hxi⟩
    · -- no
      replace hS := (hS.drop 1).sel [1, 0]
      simp only [selR, nth, del] at hS
      refine d_start (S := (fun w => Sat w0 w [_, _])) (ds := []) (ord := [(0, .pu), (1, .pu), (2, .pu), (3, .tk), (4, .pu), (5, .tk), (6, .pu), (7, .tk), (8, .fk), (9, .pu), (10, .pu), (11, .pu), (12, .on), (13, .on), (14, .pu)]) mixed ⟨by kernel_rfl, fun _ d _ _ _ h => by cases d <;> exact h⟩ (hS.left (C := [_, _])).drew fun hD => ?_
      replace hS := hS.drew; generalize w.drew = w at hS ⊢
      refine d_pu hD hF rfl rfl rfl rfl rfl (pu_move (hF.ev rfl)) ?_; clear hF; intro a hF
      refine d_pu hD hF rfl rfl rfl rfl rfl ((by exact pu_nil (hF.ev rfl))) ?_; clear hF; intro a hF
      refine d_pu hD hF rfl rfl rfl rfl rfl ((by exact pu_field fd52_0 (hF.ev rfl))) ?_; clear hF; intro a hF
      refine d_rd hD hF rfl rfl rfl rfl rfl (hS.left (C := [_, _])) (fun w hS => (by exact rd_load pl24 (hF.ev rfl) (hS.cellL (i := 0) rfl rfl))) ?_; clear hF; intro a hF
      refine d_pu hD hF rfl rfl rfl rfl rfl ((by exact pu_field fd35_2 (hF.ev rfl))) ?_; clear hF; intro a hF
      refine d_rd hD hF rfl rfl rfl rfl rfl (hS.left (C := [_, _])) (fun w hS => (by exact rd_load pl3 (hF.ev rfl) (hS.cellL (i := 1) rfl rfl))) ?_; clear hF; intro a hF
      refine d_pu hD hF rfl rfl rfl rfl rfl ((by exact pu_field fd35_3 (hF.ev rfl))) ?_; clear hF; intro a hF
      refine d_rd hD hF rfl rfl rfl rfl rfl (hS.left (C := [_, _])) (fun w hS => (by exact rd_load pl3 (hF.ev rfl) (hS.cellL (i := 1) rfl rfl))) ?_; clear hF; intro a hF
      refine d_fork2 (ord1 := [(0, .pu), (1, .pu), (2, .pu), (3, .tk), (4, .pu), (5, .tk), (6, .pu), (7, .tk), (8, .fk), (9, .pu), (10, .pu), (11, .pu), (12, .on), (13, .on), (14, .pu)]) (ord2 := [(0, .pu), (1, .pu), (2, .pu), (3, .tk), (4, .pu), (5, .tk), (6, .pu), (7, .tk), (12, .fk), (8, .on), (9, .pu), (10, .pu), (11, .pu), (13, .on), (14, .pu)]) (j1 := 8) (j2 := 12) rfl rfl rfl (by kernel_rfl) rfl rfl ⟨by kernel_rfl, fun _ d _ _ _ h => by cases d <;> exact h⟩ ⟨by kernel_rfl, fun _ d _ _ _ h => by cases d <;> exact h⟩ (fun hD => ?_) (fun hD => ?_)
      · -- operation 8 first
        first
          | (have hmark := b6
             replace hS := hS.sel [1, 1, 1, 1]
             simp only [selR, nth, del] at hS)
          | skip
        refine f_en hD hF rfl rfl rfl rfl rfl (run_fn fk12 (hF.ev rfl) (hF.evs rfl)) (at_place 3 hS rfl (fun h' => answer_no (T := tabS m to fo R.length LA WA P now last) (to := (p : Int) % 4) (number := p) h' (tab_ways rfl hno))) ?_
        clear hS; rintro e w ⟨rfl, hS⟩
        refine ⟨_, rfl, (by exact hS.tail.left (C := [_, _])), ?_⟩; clear hF; intro a hF
        refine d_pu hD hF rfl rfl rfl rfl rfl (pu_move (hF.ev rfl)) ?_; clear hF; intro a hF
        refine d_pu hD hF rfl rfl rfl rfl rfl (pu_extract (hF.ev rfl) rfl) ?_; clear hF; intro a hF
        refine d_pu hD hF rfl rfl rfl rfl rfl (pu_extract (hF.ev rfl) rfl) ?_; clear hF; intro a hF
        refine d_newp hD hF rfl rfl rfl rfl rfl (ef_alloc (cs := #[_, _, _, _, _, _, _, _, _, _, _, _]) ze35 rfl) hS (fun _ _ h => by exact h.tail.tail.left (C := [_, _])) ?_; clear hF hS; intro b6 w hS a hF
        first
          | (have hm2 := hmark
             replace hS := hS.sel [4]
             simp only [selR, nth, del] at hS)
          | skip
        (((refine d_store (vs := [_, _, _, _, _, _, _, _, _, _, _, _]) (cs' := #[_, _, _, _, _, _, _, _, _, _, _, _]) 0 hD hF rfl rfl rfl (hF.ev rfl) (hF.ev rfl) hS rfl rfl sz35 (by rfl) (by exact Nat.le_of_ble_eq_true rfl) rfl (fun _ h => by simp only [upd, del] at h; exact h.tail.tail.left (C := [_, _])) ?_)))
        clear hS; intro w hS; (try simp only [upd, del] at hS)
        refine d_pu hD hF rfl rfl rfl rfl rfl (pu_assign (hF.ev rfl)) ?_; clear hF; intro a hF
        refine d_done hD rfl ?_; clear hD
        refine hK5 _ _ ?_; clear hK5
        refine wp_seq_k fun K6 hK6 => ?_
        refine wp_region_lit ?_
        replace hS := hS.sel [2, 3, 2, 0]
        simp only [selR, nth, del] at hS
        refine s_pu hF rfl rfl rfl (pu_move (hF.ev rfl)) ?_; clear hF; intro a hF
        refine s_pu hF rfl rfl rfl ((by exact pu_nil (hF.ev rfl))) ?_; clear hF; intro a hF
        refine s_pu hF rfl rfl rfl ((by exact pu_field fd52_1 (hF.ev rfl))) ?_; clear hF; intro a hF
        refine s_rd hF rfl rfl rfl (by exact rd_load pl50 (hF.ev rfl) (hS.cellL (i := 0) rfl rfl)) ?_; clear hF; intro a hF
        refine s_pu hF rfl rfl rfl (pu_move (hF.ev rfl)) ?_; clear hF; intro a hF
        refine s_pu hF rfl rfl rfl ((by exact pu_elem sl50 (hF.ev rfl) (hF.ev rfl) (by omega) (by omega))) ?_; clear hF; intro a hF
        refine s_rd hF rfl rfl rfl (rd_loadN ag58 (hF.ev rfl) rfl (row_load (i := 1) hS rfl (by omega) (fate_at hf))) ?_; clear hF; intro a hF
        refine s_newp hF rfl rfl rfl (ef_alloc (cs := #[_, _, _]) ze58 rfl) hS ?_; clear hF hS; intro b8 w hS a hF
        ((refine s_store (vs := [_, _, _]) (cs' := #[_, _, _]) 0 hF rfl (hF.ev rfl) (hF.ev rfl) hS rfl rfl sz58 (by rfl) (by exact Nat.le_of_ble_eq_true rfl) rfl ?_))
        clear hS; intro w hS; (try simp only [upd, del] at hS)
        refine s_done ?_
        refine hK6 _ _ ?_; clear hK6
        refine wp_seq_k fun K7 hK7 => ?_
        refine wp_block ?_
        refine wp_seq_k fun K8 hK8 => ?_
        refine wp_region_lit ?_
        refine s_pu hF rfl rfl rfl ((by exact pu_field fd58_2 (hF.ev rfl))) ?_; clear hF; intro a hF
        refine s_rd hF rfl rfl rfl (by exact rd_load pl4 (hF.ev rfl) (hS.cellL (i := 0) rfl rfl)) ?_; clear hF; intro a hF
        refine s_pu hF rfl rfl rfl (pu_assign (hF.ev rfl)) ?_; clear hF; intro a hF
        refine s_done ?_
        refine hK8 _ _ ?_; clear hK8
        refine wp_cond_true (hF.ev rfl) ?_
        refine wp_seq_k fun K9 hK9 => ?_
        refine wp_region_lit ?_
        refine s_pu hF rfl rfl rfl (pu_move (hF.ev rfl)) ?_; clear hF; intro a hF
        refine s_pu hF rfl rfl rfl (pu_eql (hF.ev rfl) (hF.ev rfl)) ?_; clear hF; intro a hF
        refine s_pu hF rfl rfl rfl (pu_assign (hF.ev rfl)) ?_; clear hF; intro a hF
        refine s_done ?_
        refine hK9 _ _ ?_; clear hK9
        refine wp_ret ?_
        refine blk_ret ?_
        refine then_ret ?_
        refine fin1 Try.results18 hF rfl ?_
        exact ⟨by simp, R, LA, WA, P, h, rfl, w_shut (((hS.drop 0).drop 2).drop 2)⟩
      · -- operation 12 first
        refine f_newp hD hF rfl rfl rfl rfl rfl (ef_alloc (cs := #[_, _, _, _, _, _, _, _, _, _, _, _]) ze35 rfl) hS (fun _ _ h => by exact h.tail.left (C := [_, _])) ?_; clear hF hS; intro b6 w hS a hF
        first
          | (have hmark := b6
             replace hS := hS.sel [1, 1, 1, 1]
             simp only [selR, nth, del] at hS)
          | skip
        refine d_en hD hF rfl rfl rfl rfl rfl (run_fn fk12 (hF.ev rfl) (hF.evs rfl)) (at_place 3 hS rfl (fun h' => answer_no (T := tabS m to fo R.length LA WA P now last) (to := (p : Int) % 4) (number := p) h' (tab_ways rfl hno))) ?_
        clear hS; rintro e w ⟨rfl, hS⟩
        refine ⟨_, rfl, (by exact hS.tail.left (C := [_, _])), ?_⟩; clear hF; intro a hF
        refine d_pu hD hF rfl rfl rfl rfl rfl (pu_move (hF.ev rfl)) ?_; clear hF; intro a hF
        refine d_pu hD hF rfl rfl rfl rfl rfl (pu_extract (hF.ev rfl) rfl) ?_; clear hF; intro a hF
        refine d_pu hD hF rfl rfl rfl rfl rfl (pu_extract (hF.ev rfl) rfl) ?_; clear hF; intro a hF
        first
          | (have hm2 := hmark
             replace hS := hS.sel [4]
             simp only [selR, nth, del] at hS)
          | skip
        (((refine d_store (vs := [_, _, _, _, _, _, _, _, _, _, _, _]) (cs' := #[_, _, _, _, _, _, _, _, _, _, _, _]) 0 hD hF rfl rfl rfl (hF.ev rfl) (hF.ev rfl) hS rfl rfl sz35 (by rfl) (by exact Nat.le_of_ble_eq_true rfl) rfl (fun _ h => by simp only [upd, del] at h; exact h.tail.tail.left (C := [_, _])) ?_)))
        clear hS; intro w hS; (try simp only [upd, del] at hS)
        refine d_pu hD hF rfl rfl rfl rfl rfl (pu_assign (hF.ev rfl)) ?_; clear hF; intro a hF
        refine d_done hD rfl ?_; clear hD
        refine hK5 _ _ ?_; clear hK5
        refine wp_seq_k fun K6 hK6 => ?_
        refine wp_region_lit ?_
        replace hS := hS.sel [2, 3, 2, 0]
        simp only [selR, nth, del] at hS
        refine s_pu hF rfl rfl rfl (pu_move (hF.ev rfl)) ?_; clear hF; intro a hF
        refine s_pu hF rfl rfl rfl ((by exact pu_nil (hF.ev rfl))) ?_; clear hF; intro a hF
        refine s_pu hF rfl rfl rfl ((by exact pu_field fd52_1 (hF.ev rfl))) ?_; clear hF; intro a hF
        refine s_rd hF rfl rfl rfl (by exact rd_load pl50 (hF.ev rfl) (hS.cellL (i := 0) rfl rfl)) ?_; clear hF; intro a hF
        refine s_pu hF rfl rfl rfl (pu_move (hF.ev rfl)) ?_; clear hF; intro a hF
        refine s_pu hF rfl rfl rfl ((by exact pu_elem sl50 (hF.ev rfl) (hF.ev rfl) (by omega) (by omega))) ?_; clear hF; intro a hF
        refine s_rd hF rfl rfl rfl (rd_loadN ag58 (hF.ev rfl) rfl (row_load (i := 1) hS rfl (by omega) (fate_at hf))) ?_; clear hF; intro a hF
        refine s_newp hF rfl rfl rfl (ef_alloc (cs := #[_, _, _]) ze58 rfl) hS ?_; clear hF hS; intro b8 w hS a hF
        ((refine s_store (vs := [_, _, _]) (cs' := #[_, _, _]) 0 hF rfl (hF.ev rfl) (hF.ev rfl) hS rfl rfl sz58 (by rfl) (by exact Nat.le_of_ble_eq_true rfl) rfl ?_))
        clear hS; intro w hS; (try simp only [upd, del] at hS)
        refine s_done ?_
        refine hK6 _ _ ?_; clear hK6
        refine wp_seq_k fun K7 hK7 => ?_
        refine wp_block ?_
        refine wp_seq_k fun K8 hK8 => ?_
        refine wp_region_lit ?_
        refine s_pu hF rfl rfl rfl ((by exact pu_field fd58_2 (hF.ev rfl))) ?_; clear hF; intro a hF
        refine s_rd hF rfl rfl rfl (by exact rd_load pl4 (hF.ev rfl) (hS.cellL (i := 0) rfl rfl)) ?_; clear hF; intro a hF
        refine s_pu hF rfl rfl rfl (pu_assign (hF.ev rfl)) ?_; clear hF; intro a hF
        refine s_done ?_
        refine hK8 _ _ ?_; clear hK8
        refine wp_cond_true (hF.ev rfl) ?_
        refine wp_seq_k fun K9 hK9 => ?_
        refine wp_region_lit ?_
        refine s_pu hF rfl rfl rfl (pu_move (hF.ev rfl)) ?_; clear hF; intro a hF
        refine s_pu hF rfl rfl rfl (pu_eql (hF.ev rfl) (hF.ev rfl)) ?_; clear hF; intro a hF
        refine s_pu hF rfl rfl rfl (pu_assign (hF.ev rfl)) ?_; clear hF; intro a hF
        refine s_done ?_
        refine hK9 _ _ ?_; clear hK9
        refine wp_ret ?_
        refine blk_ret ?_
        refine then_ret ?_
        refine fin1 Try.results18 hF rfl ?_
        exact ⟨by simp, R, LA, WA, P, h, rfl, w_shut (((hS.drop 0).drop 2).drop 2)⟩
    · -- la
      replace hS := (hS.drop 1).sel [1, 0]
      simp only [selR, nth, del] at hS
      refine d_start (S := (fun w => Sat w0 w [_, _])) (ds := []) (ord := [(0, .pu), (1, .pu), (2, .pu), (3, .tk), (4, .pu), (5, .tk), (6, .pu), (7, .tk), (8, .fk), (9, .pu), (10, .pu), (11, .pu), (12, .on), (13, .on), (14, .pu)]) mixed ⟨by kernel_rfl, fun _ d _ _ _ h => by cases d <;> exact h⟩ (hS.left (C := [_, _])).drew fun hD => ?_
      replace hS := hS.drew; generalize w.drew = w at hS ⊢
      refine d_pu hD hF rfl rfl rfl rfl rfl (pu_move (hF.ev rfl)) ?_; clear hF; intro a hF
      refine d_pu hD hF rfl rfl rfl rfl rfl ((by exact pu_nil (hF.ev rfl))) ?_; clear hF; intro a hF
      refine d_pu hD hF rfl rfl rfl rfl rfl ((by exact pu_field fd52_0 (hF.ev rfl))) ?_; clear hF; intro a hF
      refine d_rd hD hF rfl rfl rfl rfl rfl (hS.left (C := [_, _])) (fun w hS => (by exact rd_load pl24 (hF.ev rfl) (hS.cellL (i := 0) rfl rfl))) ?_; clear hF; intro a hF
      refine d_pu hD hF rfl rfl rfl rfl rfl ((by exact pu_field fd35_2 (hF.ev rfl))) ?_; clear hF; intro a hF
      refine d_rd hD hF rfl rfl rfl rfl rfl (hS.left (C := [_, _])) (fun w hS => (by exact rd_load pl3 (hF.ev rfl) (hS.cellL (i := 1) rfl rfl))) ?_; clear hF; intro a hF
      refine d_pu hD hF rfl rfl rfl rfl rfl ((by exact pu_field fd35_3 (hF.ev rfl))) ?_; clear hF; intro a hF
      refine d_rd hD hF rfl rfl rfl rfl rfl (hS.left (C := [_, _])) (fun w hS => (by exact rd_load pl3 (hF.ev rfl) (hS.cellL (i := 1) rfl rfl))) ?_; clear hF; intro a hF
      refine d_fork2 (ord1 := [(0, .pu), (1, .pu), (2, .pu), (3, .tk), (4, .pu), (5, .tk), (6, .pu), (7, .tk), (8, .fk), (9, .pu), (10, .pu), (11, .pu), (12, .on), (13, .on), (14, .pu)]) (ord2 := [(0, .pu), (1, .pu), (2, .pu), (3, .tk), (4, .pu), (5, .tk), (6, .pu), (7, .tk), (12, .fk), (8, .on), (9, .pu), (10, .pu), (11, .pu), (13, .on), (14, .pu)]) (j1 := 8) (j2 := 12) rfl rfl rfl (by kernel_rfl) rfl rfl ⟨by kernel_rfl, fun _ d _ _ _ h => by cases d <;> exact h⟩ ⟨by kernel_rfl, fun _ d _ _ _ h => by cases d <;> exact h⟩ (fun hD => ?_) (fun hD => ?_)
      · -- operation 8 first
        first
          | (have hmark := b6
             replace hS := hS.sel [1, 1, 1, 1]
             simp only [selR, nth, del] at hS)
          | skip
        refine f_en hD hF rfl rfl rfl rfl rfl (run_fn fk12 (hF.ev rfl) (hF.evs rfl)) (at_place 3 hS rfl (fun h' => answer_c (T := tabS m to fo R.length (LX ++ x :: LY) WA P now last) (to := (p : Int) % 4) (number := p) (A := LX.map Lv.lt) (B := LY.map Lv.lt ++ WA.map Lv.wt) (e := x.lt) (en := x.le to fo) (by simp [tabS]) (by rw [← hxi]; rfl) (h.ok.perm.symm.subset (by simp)) rfl (by have := h.ok.late x (by simp); show 0 ≤ x.a + to + fo; omega) h.ok.rise h' (by simp [tabS] at hwn hln ⊢; omega) (by simp only [tabS]; omega))) ?_
        clear hS; rintro e w ⟨B1, m1, d1, B2, m2, d2, rfl, hS⟩
        rw [tab_dropL] at hS
        rw [if_pos (show x.lt.late = true from rfl)]
        unfold Pnd.value
        refine ⟨_, rfl, (by exact hS.tail.tail.left (C := [_, _])), ?_⟩; clear hF; intro a hF
        refine d_pu hD hF rfl rfl rfl rfl rfl (pu_move (hF.ev rfl)) ?_; clear hF; intro a hF
        refine d_pu hD hF rfl rfl rfl rfl rfl (pu_extract (hF.ev rfl) rfl) ?_; clear hF; intro a hF
        refine d_pu hD hF rfl rfl rfl rfl rfl (pu_extract (hF.ev rfl) rfl) ?_; clear hF; intro a hF
        refine d_newp hD hF rfl rfl rfl rfl rfl (ef_alloc (cs := #[_, _, _, _, _, _, _, _, _, _, _, _]) ze35 rfl) hS (fun _ _ h => by exact h.tail.tail.tail.left (C := [_, _])) ?_; clear hF hS; intro b6 w hS a hF
        first
          | (have hm2 := hmark
             replace hS := hS.sel [5]
             simp only [selR, nth, del] at hS)
          | skip
        (((refine d_store (vs := [_, _, _, _, _, _, _, _, _, _, _, _]) (cs' := #[_, _, _, _, _, _, _, _, _, _, _, _]) 0 hD hF rfl rfl rfl (hF.ev rfl) (hF.ev rfl) hS rfl rfl sz35 (by rfl) (by exact Nat.le_of_ble_eq_true rfl) rfl (fun _ h => by simp only [upd, del] at h; exact h.tail.tail.tail.left (C := [_, _])) ?_)))
        clear hS; intro w hS; (try simp only [upd, del] at hS)
        refine d_pu hD hF rfl rfl rfl rfl rfl (pu_assign (hF.ev rfl)) ?_; clear hF; intro a hF
        refine d_done hD rfl ?_; clear hD
        refine hK5 _ _ ?_; clear hK5
        refine wp_seq_k fun K6 hK6 => ?_
        refine wp_region_lit ?_
        replace hS := hS.sel [3, 4, 3, 0, 1, 0]
        simp only [selR, nth, del] at hS
        have hfx := h.rel.rl x (by simp)
        rw [hxi, hf] at hfx
        injection hfx with hfx
        subst hfx
        have hxl := h.ok.late x (by simp)
        refine s_pu hF rfl rfl rfl (pu_move (hF.ev rfl)) ?_; clear hF; intro a hF
        refine s_pu hF rfl rfl rfl ((by exact pu_nil (hF.ev rfl))) ?_; clear hF; intro a hF
        refine s_pu hF rfl rfl rfl ((by exact pu_field fd52_1 (hF.ev rfl))) ?_; clear hF; intro a hF
        refine s_rd hF rfl rfl rfl (by exact rd_load pl50 (hF.ev rfl) (hS.cellL (i := 0) rfl rfl)) ?_; clear hF; intro a hF
        refine s_pu hF rfl rfl rfl (pu_move (hF.ev rfl)) ?_; clear hF; intro a hF
        refine s_pu hF rfl rfl rfl ((by exact pu_elem sl50 (hF.ev rfl) (hF.ev rfl) (by omega) (by omega))) ?_; clear hF; intro a hF
        refine s_rd hF rfl rfl rfl (rd_loadN ag58 (hF.ev rfl) rfl (row_load (i := 1) hS rfl (by omega) (fate_at hf))) ?_; clear hF; intro a hF
        refine s_newp hF rfl rfl rfl (ef_alloc (cs := #[_, _, _]) ze58 rfl) hS ?_; clear hF hS; intro b8 w hS a hF
        ((refine s_store (vs := [_, _, _]) (cs' := #[_, _, _]) 0 hF rfl (hF.ev rfl) (hF.ev rfl) hS rfl rfl sz58 (by rfl) (by exact Nat.le_of_ble_eq_true rfl) rfl ?_))
        clear hS; intro w hS; (try simp only [upd, del] at hS)
        refine s_done ?_
        refine hK6 _ _ ?_; clear hK6
        refine wp_seq_k fun K7 hK7 => ?_
        refine wp_block ?_
        refine wp_seq_k fun K8 hK8 => ?_
        refine wp_region_lit ?_
        refine s_pu hF rfl rfl rfl ((by exact pu_field fd58_2 (hF.ev rfl))) ?_; clear hF; intro a hF
        refine s_rd hF rfl rfl rfl (by exact rd_load pl4 (hF.ev rfl) (hS.cellL (i := 0) rfl rfl)) ?_; clear hF; intro a hF
        refine s_pu hF rfl rfl rfl (pu_assign (hF.ev rfl)) ?_; clear hF; intro a hF
        refine s_done ?_
        refine hK8 _ _ ?_; clear hK8
        refine wp_cond_false (hF.ev rfl) ?_
        refine wp_seq_k fun K9 hK9 => ?_
        refine wp_region_lit ?_
        refine s_pu hF rfl rfl rfl ((by exact pu_field fd58_1 (hF.ev rfl))) ?_; clear hF; intro a hF
        refine s_rd hF rfl rfl rfl (by exact rd_load pl3 (hF.ev rfl) (hS.cellL (i := 0) rfl rfl)) ?_; clear hF; intro a hF
        refine s_pu hF rfl rfl rfl (pu_gtr (hF.ev rfl) (hF.ev rfl)) ?_; clear hF; intro a hF
        refine s_pu hF rfl rfl rfl (pu_assign (hF.ev rfl)) ?_; clear hF; intro a hF
        refine s_done ?_
        refine hK9 _ _ ?_; clear hK9
        refine wp_cond_split (hF.ev rfl) (fun hc2 => ?_) (fun hc2 => ?_)
        · -- cond 2 true
          try simp only [decide_eq_true_eq, decide_eq_false_iff_not, Bool.not_eq_true', Bool.not_eq_false', Int.not_lt, Int.not_le, ne_eq, Decidable.not_not, Bool.or_eq_true, Bool.or_eq_false_iff, Bool.and_eq_true, Bool.and_eq_false_imp] at hc2
          refine wp_seq_k fun K10 hK10 => ?_
          refine wp_region_lit ?_
          refine s_rd hF rfl rfl rfl (by exact rd_loadB (i := 4) (vs := [_, _, _, _, _, _, _, _, _, _, _, _]) ag35 (hF.ev rfl) hS rfl rfl) ?_; clear hF; intro a hF
          refine s_pu hF rfl rfl rfl (pu_move (hF.ev rfl)) ?_; clear hF; intro a hF
          refine s_en hF rfl rfl rfl (run_fn fk13 (hF.ev rfl) (hF.evs rfl)) (at_place 6 hS rfl (fun h => its_own (n := p) (p := x.lt.p) h (by omega))) ?_
          clear hS; rintro e w ⟨bb, rfl, hbb, hS⟩
          obtain rfl : bb = true := hbb.2 (by rw [← hxi]; rfl)
          replace hS := hS.sel [1, 1, 1, 1, 1, 1]
          simp only [selR, nth, del] at hS
          refine ⟨_, rfl, ?_⟩; clear hF; intro a hF
          refine s_pu hF rfl rfl rfl (pu_assign (hF.ev rfl)) ?_; clear hF; intro a hF
          refine s_done ?_
          refine hK10 _ _ ?_; clear hK10
          refine wp_seq_k fun K11 hK11 => ?_
          refine wp_region_lit ?_
          refine s_pu hF rfl rfl rfl (pu_move (hF.ev rfl)) ?_; clear hF; intro a hF
          refine s_pu hF rfl rfl rfl ((by exact pu_nil (hF.ev rfl))) ?_; clear hF; intro a hF
          refine s_pu hF rfl rfl rfl ((by exact pu_field fd52_1 (hF.ev rfl))) ?_; clear hF; intro a hF
          refine s_rd hF rfl rfl rfl (by exact rd_load pl50 (hF.ev rfl) (hS.cellL (i := 1) rfl rfl)) ?_; clear hF; intro a hF
          refine s_pu hF rfl rfl rfl (pu_move (hF.ev rfl)) ?_; clear hF; intro a hF
          refine s_pu hF rfl rfl rfl ((by exact pu_elem sl50 (hF.ev rfl) (hF.ev rfl) (by omega) (by omega))) ?_; clear hF; intro a hF
          refine s_pu hF rfl rfl rfl ((by exact pu_field fd58_2 (hF.ev rfl))) ?_; clear hF; intro a hF
          refine s_rstoreF 2 (k := p) (f := 2) hF rfl (hF.ev rfl) (hF.ev rfl) hS rfl rfl sz4 rfl (by omega) (by omega) (fate_len R) ?_; clear hS; intro w hS; (try simp only [upd, del] at hS)
          rw [fate_set (f' := ⟨x.a, x.a + to, true⟩) hf (by omega) rfl] at hS
          refine s_done ?_
          refine hK11 _ _ ?_; clear hK11
          refine wp_seq_k fun K12 hK12 => ?_
          refine wp_region_lit ?_
          refine s_pu hF rfl rfl rfl (pu_move (hF.ev rfl)) ?_; clear hF; intro a hF
          refine s_pu hF rfl rfl rfl ((by exact pu_nil (hF.ev rfl))) ?_; clear hF; intro a hF
          refine s_pu hF rfl rfl rfl ((by exact pu_field fd52_4 (hF.ev rfl))) ?_; clear hF; intro a hF
          refine s_rd hF rfl rfl rfl (by exact rd_load pl3 (hF.ev rfl) (hS.cellL (i := 1) rfl rfl)) ?_; clear hF; intro a hF
          refine s_pu hF rfl rfl rfl ((by exact pu_sub64 (hF.ev rfl) (hF.ev rfl) (by omega))) ?_; clear hF; intro a hF
          refine s_pu hF rfl rfl rfl ((by exact pu_nil (hF.ev rfl))) ?_; clear hF; intro a hF
          refine s_pu hF rfl rfl rfl ((by exact pu_field fd52_4 (hF.ev rfl))) ?_; clear hF; intro a hF
          ((refine s_store (vs := [_]) (cs' := #[_, _, _, _, _, _, _, _]) 1 hF rfl (hF.ev rfl) (hF.ev rfl) hS rfl rfl sz3 (by rfl) (by exact Nat.le_of_ble_eq_true rfl) rfl ?_))
          clear hS; intro w hS; (try simp only [upd, del] at hS)
          refine s_done ?_
          refine hK12 _ _ ?_; clear hK12
          refine wp_seq_k fun K13 hK13 => ?_
          refine wp_region_lit ?_
          refine s_pu hF rfl rfl rfl (pu_move (hF.ev rfl)) ?_; clear hF; intro a hF
          refine s_pu hF rfl rfl rfl (pu_move (hF.ev rfl)) ?_; clear hF; intro a hF
          refine s_pu hF rfl rfl rfl (pu_move (hF.ev rfl)) ?_; clear hF; intro a hF
          refine s_pu hF rfl rfl rfl (pu_eql (hF.ev rfl) (hF.ev rfl)) ?_; clear hF; intro a hF
          refine s_pu hF rfl rfl rfl ((by exact pu_pick_t (hF.ev rfl) (hF.ev rfl))) ?_; clear hF; intro a hF
          refine s_pu hF rfl rfl rfl (pu_assign (hF.ev rfl)) ?_; clear hF; intro a hF
          refine s_done ?_
          refine hK13 _ _ ?_; clear hK13
          refine wp_ret ?_
          refine blk_ret ?_
          refine then_ret ?_
          refine fin1 Try.results18 hF rfl ?_
          have e1 : ((LX ++ x :: LY).length : Int) - 1 = ((LX ++ LY).length : Int) := by simp; omega
          have e2 : (R.set p ⟨x.a, x.a + to, true⟩).length = R.length := by simp
          rw [e1, ← e2] at hS
          refine ⟨by simp, R.set p ⟨x.a, x.a + to, true⟩, LX ++ LY, WA, _, ⟨h.c, by rw [e2]; exact h.ok.dropL (x := x), ?_⟩, e2, w_shut (((hS.tail.drop 2).drop 2).drop 3)⟩
          rw [← hxi]
          exact h.rel.goneL h.ok.ids rfl
        · -- cond 2 false
          try simp only [decide_eq_true_eq, decide_eq_false_iff_not, Bool.not_eq_true', Bool.not_eq_false', Int.not_lt, Int.not_le, ne_eq, Decidable.not_not, Bool.or_eq_true, Bool.or_eq_false_iff, Bool.and_eq_true, Bool.and_eq_false_imp] at hc2
          omega
      · -- operation 12 first
        refine f_newp hD hF rfl rfl rfl rfl rfl (ef_alloc (cs := #[_, _, _, _, _, _, _, _, _, _, _, _]) ze35 rfl) hS (fun _ _ h => by exact h.tail.left (C := [_, _])) ?_; clear hF hS; intro b6 w hS a hF
        first
          | (have hmark := b6
             replace hS := hS.sel [1, 1, 1, 1]
             simp only [selR, nth, del] at hS)
          | skip
        refine d_en hD hF rfl rfl rfl rfl rfl (run_fn fk12 (hF.ev rfl) (hF.evs rfl)) (at_place 3 hS rfl (fun h' => answer_c (T := tabS m to fo R.length (LX ++ x :: LY) WA P now last) (to := (p : Int) % 4) (number := p) (A := LX.map Lv.lt) (B := LY.map Lv.lt ++ WA.map Lv.wt) (e := x.lt) (en := x.le to fo) (by simp [tabS]) (by rw [← hxi]; rfl) (h.ok.perm.symm.subset (by simp)) rfl (by have := h.ok.late x (by simp); show 0 ≤ x.a + to + fo; omega) h.ok.rise h' (by simp [tabS] at hwn hln ⊢; omega) (by simp only [tabS]; omega))) ?_
        clear hS; rintro e w ⟨B1, m1, d1, B2, m2, d2, rfl, hS⟩
        rw [tab_dropL] at hS
        rw [if_pos (show x.lt.late = true from rfl)]
        unfold Pnd.value
        refine ⟨_, rfl, (by exact hS.tail.tail.left (C := [_, _])), ?_⟩; clear hF; intro a hF
        refine d_pu hD hF rfl rfl rfl rfl rfl (pu_move (hF.ev rfl)) ?_; clear hF; intro a hF
        refine d_pu hD hF rfl rfl rfl rfl rfl (pu_extract (hF.ev rfl) rfl) ?_; clear hF; intro a hF
        refine d_pu hD hF rfl rfl rfl rfl rfl (pu_extract (hF.ev rfl) rfl) ?_; clear hF; intro a hF
        first
          | (have hm2 := hmark
             replace hS := hS.sel [5]
             simp only [selR, nth, del] at hS)
          | skip
        (((refine d_store (vs := [_, _, _, _, _, _, _, _, _, _, _, _]) (cs' := #[_, _, _, _, _, _, _, _, _, _, _, _]) 0 hD hF rfl rfl rfl (hF.ev rfl) (hF.ev rfl) hS rfl rfl sz35 (by rfl) (by exact Nat.le_of_ble_eq_true rfl) rfl (fun _ h => by simp only [upd, del] at h; exact h.tail.tail.tail.left (C := [_, _])) ?_)))
        clear hS; intro w hS; (try simp only [upd, del] at hS)
        refine d_pu hD hF rfl rfl rfl rfl rfl (pu_assign (hF.ev rfl)) ?_; clear hF; intro a hF
        refine d_done hD rfl ?_; clear hD
        refine hK5 _ _ ?_; clear hK5
        refine wp_seq_k fun K6 hK6 => ?_
        refine wp_region_lit ?_
        replace hS := hS.sel [3, 4, 3, 0, 1, 0]
        simp only [selR, nth, del] at hS
        have hfx := h.rel.rl x (by simp)
        rw [hxi, hf] at hfx
        injection hfx with hfx
        subst hfx
        have hxl := h.ok.late x (by simp)
        refine s_pu hF rfl rfl rfl (pu_move (hF.ev rfl)) ?_; clear hF; intro a hF
        refine s_pu hF rfl rfl rfl ((by exact pu_nil (hF.ev rfl))) ?_; clear hF; intro a hF
        refine s_pu hF rfl rfl rfl ((by exact pu_field fd52_1 (hF.ev rfl))) ?_; clear hF; intro a hF
        refine s_rd hF rfl rfl rfl (by exact rd_load pl50 (hF.ev rfl) (hS.cellL (i := 0) rfl rfl)) ?_; clear hF; intro a hF
        refine s_pu hF rfl rfl rfl (pu_move (hF.ev rfl)) ?_; clear hF; intro a hF
        refine s_pu hF rfl rfl rfl ((by exact pu_elem sl50 (hF.ev rfl) (hF.ev rfl) (by omega) (by omega))) ?_; clear hF; intro a hF
        refine s_rd hF rfl rfl rfl (rd_loadN ag58 (hF.ev rfl) rfl (row_load (i := 1) hS rfl (by omega) (fate_at hf))) ?_; clear hF; intro a hF
        refine s_newp hF rfl rfl rfl (ef_alloc (cs := #[_, _, _]) ze58 rfl) hS ?_; clear hF hS; intro b8 w hS a hF
        ((refine s_store (vs := [_, _, _]) (cs' := #[_, _, _]) 0 hF rfl (hF.ev rfl) (hF.ev rfl) hS rfl rfl sz58 (by rfl) (by exact Nat.le_of_ble_eq_true rfl) rfl ?_))
        clear hS; intro w hS; (try simp only [upd, del] at hS)
        refine s_done ?_
        refine hK6 _ _ ?_; clear hK6
        refine wp_seq_k fun K7 hK7 => ?_
        refine wp_block ?_
        refine wp_seq_k fun K8 hK8 => ?_
        refine wp_region_lit ?_
        refine s_pu hF rfl rfl rfl ((by exact pu_field fd58_2 (hF.ev rfl))) ?_; clear hF; intro a hF
        refine s_rd hF rfl rfl rfl (by exact rd_load pl4 (hF.ev rfl) (hS.cellL (i := 0) rfl rfl)) ?_; clear hF; intro a hF
        refine s_pu hF rfl rfl rfl (pu_assign (hF.ev rfl)) ?_; clear hF; intro a hF
        refine s_done ?_
        refine hK8 _ _ ?_; clear hK8
        refine wp_cond_false (hF.ev rfl) ?_
        refine wp_seq_k fun K9 hK9 => ?_
        refine wp_region_lit ?_
        refine s_pu hF rfl rfl rfl ((by exact pu_field fd58_1 (hF.ev rfl))) ?_; clear hF; intro a hF
        refine s_rd hF rfl rfl rfl (by exact rd_load pl3 (hF.ev rfl) (hS.cellL (i := 0) rfl rfl)) ?_; clear hF; intro a hF
        refine s_pu hF rfl rfl rfl (pu_gtr (hF.ev rfl) (hF.ev rfl)) ?_; clear hF; intro a hF
        refine s_pu hF rfl rfl rfl (pu_assign (hF.ev rfl)) ?_; clear hF; intro a hF
        refine s_done ?_
        refine hK9 _ _ ?_; clear hK9
        refine wp_cond_split (hF.ev rfl) (fun hc2 => ?_) (fun hc2 => ?_)
        · -- cond 2 true
          try simp only [decide_eq_true_eq, decide_eq_false_iff_not, Bool.not_eq_true', Bool.not_eq_false', Int.not_lt, Int.not_le, ne_eq, Decidable.not_not, Bool.or_eq_true, Bool.or_eq_false_iff, Bool.and_eq_true, Bool.and_eq_false_imp] at hc2
          refine wp_seq_k fun K10 hK10 => ?_
          refine wp_region_lit ?_
          refine s_rd hF rfl rfl rfl (by exact rd_loadB (i := 4) (vs := [_, _, _, _, _, _, _, _, _, _, _, _]) ag35 (hF.ev rfl) hS rfl rfl) ?_; clear hF; intro a hF
          refine s_pu hF rfl rfl rfl (pu_move (hF.ev rfl)) ?_; clear hF; intro a hF
          refine s_en hF rfl rfl rfl (run_fn fk13 (hF.ev rfl) (hF.evs rfl)) (at_place 6 hS rfl (fun h => its_own (n := p) (p := x.lt.p) h (by omega))) ?_
          clear hS; rintro e w ⟨bb, rfl, hbb, hS⟩
          obtain rfl : bb = true := hbb.2 (by rw [← hxi]; rfl)
          replace hS := hS.sel [1, 1, 1, 1, 1, 1]
          simp only [selR, nth, del] at hS
          refine ⟨_, rfl, ?_⟩; clear hF; intro a hF
          refine s_pu hF rfl rfl rfl (pu_assign (hF.ev rfl)) ?_; clear hF; intro a hF
          refine s_done ?_
          refine hK10 _ _ ?_; clear hK10
          refine wp_seq_k fun K11 hK11 => ?_
          refine wp_region_lit ?_
          refine s_pu hF rfl rfl rfl (pu_move (hF.ev rfl)) ?_; clear hF; intro a hF
          refine s_pu hF rfl rfl rfl ((by exact pu_nil (hF.ev rfl))) ?_; clear hF; intro a hF
          refine s_pu hF rfl rfl rfl ((by exact pu_field fd52_1 (hF.ev rfl))) ?_; clear hF; intro a hF
          refine s_rd hF rfl rfl rfl (by exact rd_load pl50 (hF.ev rfl) (hS.cellL (i := 1) rfl rfl)) ?_; clear hF; intro a hF
          refine s_pu hF rfl rfl rfl (pu_move (hF.ev rfl)) ?_; clear hF; intro a hF
          refine s_pu hF rfl rfl rfl ((by exact pu_elem sl50 (hF.ev rfl) (hF.ev rfl) (by omega) (by omega))) ?_; clear hF; intro a hF
          refine s_pu hF rfl rfl rfl ((by exact pu_field fd58_2 (hF.ev rfl))) ?_; clear hF; intro a hF
          refine s_rstoreF 2 (k := p) (f := 2) hF rfl (hF.ev rfl) (hF.ev rfl) hS rfl rfl sz4 rfl (by omega) (by omega) (fate_len R) ?_; clear hS; intro w hS; (try simp only [upd, del] at hS)
          rw [fate_set (f' := ⟨x.a, x.a + to, true⟩) hf (by omega) rfl] at hS
          refine s_done ?_
          refine hK11 _ _ ?_; clear hK11
          refine wp_seq_k fun K12 hK12 => ?_
          refine wp_region_lit ?_
          refine s_pu hF rfl rfl rfl (pu_move (hF.ev rfl)) ?_; clear hF; intro a hF
          refine s_pu hF rfl rfl rfl ((by exact pu_nil (hF.ev rfl))) ?_; clear hF; intro a hF
          refine s_pu hF rfl rfl rfl ((by exact pu_field fd52_4 (hF.ev rfl))) ?_; clear hF; intro a hF
          refine s_rd hF rfl rfl rfl (by exact rd_load pl3 (hF.ev rfl) (hS.cellL (i := 1) rfl rfl)) ?_; clear hF; intro a hF
          refine s_pu hF rfl rfl rfl ((by exact pu_sub64 (hF.ev rfl) (hF.ev rfl) (by omega))) ?_; clear hF; intro a hF
          refine s_pu hF rfl rfl rfl ((by exact pu_nil (hF.ev rfl))) ?_; clear hF; intro a hF
          refine s_pu hF rfl rfl rfl ((by exact pu_field fd52_4 (hF.ev rfl))) ?_; clear hF; intro a hF
          ((refine s_store (vs := [_]) (cs' := #[_, _, _, _, _, _, _, _]) 1 hF rfl (hF.ev rfl) (hF.ev rfl) hS rfl rfl sz3 (by rfl) (by exact Nat.le_of_ble_eq_true rfl) rfl ?_))
          clear hS; intro w hS; (try simp only [upd, del] at hS)
          refine s_done ?_
          refine hK12 _ _ ?_; clear hK12
          refine wp_seq_k fun K13 hK13 => ?_
          refine wp_region_lit ?_
          refine s_pu hF rfl rfl rfl (pu_move (hF.ev rfl)) ?_; clear hF; intro a hF
          refine s_pu hF rfl rfl rfl (pu_move (hF.ev rfl)) ?_; clear hF; intro a hF
          refine s_pu hF rfl rfl rfl (pu_move (hF.ev rfl)) ?_; clear hF; intro a hF
          refine s_pu hF rfl rfl rfl (pu_eql (hF.ev rfl) (hF.ev rfl)) ?_; clear hF; intro a hF
          refine s_pu hF rfl rfl rfl ((by exact pu_pick_t (hF.ev rfl) (hF.ev rfl))) ?_; clear hF; intro a hF
          refine s_pu hF rfl rfl rfl (pu_assign (hF.ev rfl)) ?_; clear hF; intro a hF
          refine s_done ?_
          refine hK13 _ _ ?_; clear hK13
          refine wp_ret ?_
          refine blk_ret ?_
          refine then_ret ?_
          refine fin1 Try.results18 hF rfl ?_
          have e1 : ((LX ++ x :: LY).length : Int) - 1 = ((LX ++ LY).length : Int) := by simp; omega
          have e2 : (R.set p ⟨x.a, x.a + to, true⟩).length = R.length := by simp
          rw [e1, ← e2] at hS
          refine ⟨by simp, R.set p ⟨x.a, x.a + to, true⟩, LX ++ LY, WA, _, ⟨h.c, by rw [e2]; exact h.ok.dropL (x := x), ?_⟩, e2, w_shut (((hS.tail.drop 2).drop 2).drop 3)⟩
          rw [← hxi]
          exact h.rel.goneL h.ok.ids rfl
        · -- cond 2 false
          try simp only [decide_eq_true_eq, decide_eq_false_iff_not, Bool.not_eq_true', Bool.not_eq_false', Int.not_lt, Int.not_le, ne_eq, Decidable.not_not, Bool.or_eq_true, Bool.or_eq_false_iff, Bool.and_eq_true, Bool.and_eq_false_imp] at hc2
          omega
    · -- wa
      replace hS := (hS.drop 1).sel [1, 0]
      simp only [selR, nth, del] at hS
      refine d_start (S := (fun w => Sat w0 w [_, _])) (ds := []) (ord := [(0, .pu), (1, .pu), (2, .pu), (3, .tk), (4, .pu), (5, .tk), (6, .pu), (7, .tk), (8, .fk), (9, .pu), (10, .pu), (11, .pu), (12, .on), (13, .on), (14, .pu)]) mixed ⟨by kernel_rfl, fun _ d _ _ _ h => by cases d <;> exact h⟩ (hS.left (C := [_, _])).drew fun hD => ?_
      replace hS := hS.drew; generalize w.drew = w at hS ⊢
      refine d_pu hD hF rfl rfl rfl rfl rfl (pu_move (hF.ev rfl)) ?_; clear hF; intro a hF
      refine d_pu hD hF rfl rfl rfl rfl rfl ((by exact pu_nil (hF.ev rfl))) ?_; clear hF; intro a hF
      refine d_pu hD hF rfl rfl rfl rfl rfl ((by exact pu_field fd52_0 (hF.ev rfl))) ?_; clear hF; intro a hF
      refine d_rd hD hF rfl rfl rfl rfl rfl (hS.left (C := [_, _])) (fun w hS => (by exact rd_load pl24 (hF.ev rfl) (hS.cellL (i := 0) rfl rfl))) ?_; clear hF; intro a hF
      refine d_pu hD hF rfl rfl rfl rfl rfl ((by exact pu_field fd35_2 (hF.ev rfl))) ?_; clear hF; intro a hF
      refine d_rd hD hF rfl rfl rfl rfl rfl (hS.left (C := [_, _])) (fun w hS => (by exact rd_load pl3 (hF.ev rfl) (hS.cellL (i := 1) rfl rfl))) ?_; clear hF; intro a hF
      refine d_pu hD hF rfl rfl rfl rfl rfl ((by exact pu_field fd35_3 (hF.ev rfl))) ?_; clear hF; intro a hF
      refine d_rd hD hF rfl rfl rfl rfl rfl (hS.left (C := [_, _])) (fun w hS => (by exact rd_load pl3 (hF.ev rfl) (hS.cellL (i := 1) rfl rfl))) ?_; clear hF; intro a hF
      refine d_fork2 (ord1 := [(0, .pu), (1, .pu), (2, .pu), (3, .tk), (4, .pu), (5, .tk), (6, .pu), (7, .tk), (8, .fk), (9, .pu), (10, .pu), (11, .pu), (12, .on), (13, .on), (14, .pu)]) (ord2 := [(0, .pu), (1, .pu), (2, .pu), (3, .tk), (4, .pu), (5, .tk), (6, .pu), (7, .tk), (12, .fk), (8, .on), (9, .pu), (10, .pu), (11, .pu), (13, .on), (14, .pu)]) (j1 := 8) (j2 := 12) rfl rfl rfl (by kernel_rfl) rfl rfl ⟨by kernel_rfl, fun _ d _ _ _ h => by cases d <;> exact h⟩ ⟨by kernel_rfl, fun _ d _ _ _ h => by cases d <;> exact h⟩ (fun hD => ?_) (fun hD => ?_)
      · -- operation 8 first
        first
          | (have hmark := b6
             replace hS := hS.sel [1, 1, 1, 1]
             simp only [selR, nth, del] at hS)
          | skip
        refine f_en hD hF rfl rfl rfl rfl rfl (run_fn fk12 (hF.ev rfl) (hF.evs rfl)) (at_place 3 hS rfl (fun h' => answer_c (T := tabS m to fo R.length LA (LX ++ x :: LY) P now last) (to := (p : Int) % 4) (number := p) (A := LA.map Lv.lt ++ LX.map Lv.wt) (B := LY.map Lv.wt) (e := x.wt) (en := x.we to) (by simp [tabS]) (by rw [← hxi]; rfl) (h.ok.perm.symm.subset (by simp)) rfl (by have := h.ok.wait x (by simp); show 0 ≤ x.a + to; omega) h.ok.rise h' (by simp [tabS] at hwn hln ⊢; omega) (by simp only [tabS]; omega))) ?_
        clear hS; rintro e w ⟨B1, m1, d1, B2, m2, d2, rfl, hS⟩
        rw [tab_dropW] at hS
        rw [if_neg (show ¬ x.wt.late = true by simp [Lv.wt])]
        unfold Pnd.value
        refine ⟨_, rfl, (by exact hS.tail.tail.left (C := [_, _])), ?_⟩; clear hF; intro a hF
        refine d_pu hD hF rfl rfl rfl rfl rfl (pu_move (hF.ev rfl)) ?_; clear hF; intro a hF
        refine d_pu hD hF rfl rfl rfl rfl rfl (pu_extract (hF.ev rfl) rfl) ?_; clear hF; intro a hF
        refine d_pu hD hF rfl rfl rfl rfl rfl (pu_extract (hF.ev rfl) rfl) ?_; clear hF; intro a hF
        refine d_newp hD hF rfl rfl rfl rfl rfl (ef_alloc (cs := #[_, _, _, _, _, _, _, _, _, _, _, _]) ze35 rfl) hS (fun _ _ h => by exact h.tail.tail.tail.left (C := [_, _])) ?_; clear hF hS; intro b6 w hS a hF
        first
          | (have hm2 := hmark
             replace hS := hS.sel [5]
             simp only [selR, nth, del] at hS)
          | skip
        (((refine d_store (vs := [_, _, _, _, _, _, _, _, _, _, _, _]) (cs' := #[_, _, _, _, _, _, _, _, _, _, _, _]) 0 hD hF rfl rfl rfl (hF.ev rfl) (hF.ev rfl) hS rfl rfl sz35 (by rfl) (by exact Nat.le_of_ble_eq_true rfl) rfl (fun _ h => by simp only [upd, del] at h; exact h.tail.tail.tail.left (C := [_, _])) ?_)))
        clear hS; intro w hS; (try simp only [upd, del] at hS)
        refine d_pu hD hF rfl rfl rfl rfl rfl (pu_assign (hF.ev rfl)) ?_; clear hF; intro a hF
        refine d_done hD rfl ?_; clear hD
        refine hK5 _ _ ?_; clear hK5
        refine wp_seq_k fun K6 hK6 => ?_
        refine wp_region_lit ?_
        replace hS := hS.sel [3, 4, 3, 0, 1, 0]
        simp only [selR, nth, del] at hS
        have hfx := h.rel.rw x (by simp)
        rw [hxi, hf] at hfx
        injection hfx with hfx
        subst hfx
        refine s_pu hF rfl rfl rfl (pu_move (hF.ev rfl)) ?_; clear hF; intro a hF
        refine s_pu hF rfl rfl rfl ((by exact pu_nil (hF.ev rfl))) ?_; clear hF; intro a hF
        refine s_pu hF rfl rfl rfl ((by exact pu_field fd52_1 (hF.ev rfl))) ?_; clear hF; intro a hF
        refine s_rd hF rfl rfl rfl (by exact rd_load pl50 (hF.ev rfl) (hS.cellL (i := 0) rfl rfl)) ?_; clear hF; intro a hF
        refine s_pu hF rfl rfl rfl (pu_move (hF.ev rfl)) ?_; clear hF; intro a hF
        refine s_pu hF rfl rfl rfl ((by exact pu_elem sl50 (hF.ev rfl) (hF.ev rfl) (by omega) (by omega))) ?_; clear hF; intro a hF
        refine s_rd hF rfl rfl rfl (rd_loadN ag58 (hF.ev rfl) rfl (row_load (i := 1) hS rfl (by omega) (fate_at hf))) ?_; clear hF; intro a hF
        refine s_newp hF rfl rfl rfl (ef_alloc (cs := #[_, _, _]) ze58 rfl) hS ?_; clear hF hS; intro b8 w hS a hF
        ((refine s_store (vs := [_, _, _]) (cs' := #[_, _, _]) 0 hF rfl (hF.ev rfl) (hF.ev rfl) hS rfl rfl sz58 (by rfl) (by exact Nat.le_of_ble_eq_true rfl) rfl ?_))
        clear hS; intro w hS; (try simp only [upd, del] at hS)
        refine s_done ?_
        refine hK6 _ _ ?_; clear hK6
        refine wp_seq_k fun K7 hK7 => ?_
        refine wp_block ?_
        refine wp_seq_k fun K8 hK8 => ?_
        refine wp_region_lit ?_
        refine s_pu hF rfl rfl rfl ((by exact pu_field fd58_2 (hF.ev rfl))) ?_; clear hF; intro a hF
        refine s_rd hF rfl rfl rfl (by exact rd_load pl4 (hF.ev rfl) (hS.cellL (i := 0) rfl rfl)) ?_; clear hF; intro a hF
        refine s_pu hF rfl rfl rfl (pu_assign (hF.ev rfl)) ?_; clear hF; intro a hF
        refine s_done ?_
        refine hK8 _ _ ?_; clear hK8
        refine wp_cond_false (hF.ev rfl) ?_
        refine wp_seq_k fun K9 hK9 => ?_
        refine wp_region_lit ?_
        refine s_pu hF rfl rfl rfl ((by exact pu_field fd58_1 (hF.ev rfl))) ?_; clear hF; intro a hF
        refine s_rd hF rfl rfl rfl (by exact rd_load pl3 (hF.ev rfl) (hS.cellL (i := 0) rfl rfl)) ?_; clear hF; intro a hF
        refine s_pu hF rfl rfl rfl (pu_gtr (hF.ev rfl) (hF.ev rfl)) ?_; clear hF; intro a hF
        refine s_pu hF rfl rfl rfl (pu_assign (hF.ev rfl)) ?_; clear hF; intro a hF
        refine s_done ?_
        refine hK9 _ _ ?_; clear hK9
        refine wp_cond_split (hF.ev rfl) (fun hc2 => ?_) (fun hc2 => ?_)
        · -- cond 2 true
          try simp only [decide_eq_true_eq, decide_eq_false_iff_not, Bool.not_eq_true', Bool.not_eq_false', Int.not_lt, Int.not_le, ne_eq, Decidable.not_not, Bool.or_eq_true, Bool.or_eq_false_iff, Bool.and_eq_true, Bool.and_eq_false_imp] at hc2
          simp at hc2
        · -- cond 2 false
          try simp only [decide_eq_true_eq, decide_eq_false_iff_not, Bool.not_eq_true', Bool.not_eq_false', Int.not_lt, Int.not_le, ne_eq, Decidable.not_not, Bool.or_eq_true, Bool.or_eq_false_iff, Bool.and_eq_true, Bool.and_eq_false_imp] at hc2
          refine wp_skip ?_
          refine blk_normal ?_
          refine hK7 _ _ ?_; clear hK7
          refine wp_seq_k fun K10 hK10 => ?_
          refine wp_region_lit ?_
          refine s_rd hF rfl rfl rfl (by exact rd_loadB (i := 4) (vs := [_, _, _, _, _, _, _, _, _, _, _, _]) ag35 (hF.ev rfl) hS rfl rfl) ?_; clear hF; intro a hF
          refine s_pu hF rfl rfl rfl (pu_move (hF.ev rfl)) ?_; clear hF; intro a hF
          refine s_en hF rfl rfl rfl (run_fn fk13 (hF.ev rfl) (hF.evs rfl)) (at_place 6 hS rfl (fun h => its_own (n := p) (p := x.wt.p) h (by omega))) ?_
          clear hS; rintro e w ⟨bb, rfl, hbb, hS⟩
          obtain rfl : bb = true := hbb.2 (by rw [← hxi]; rfl)
          replace hS := hS.sel [1, 1, 1, 1, 1, 1]
          simp only [selR, nth, del] at hS
          refine ⟨_, rfl, ?_⟩; clear hF; intro a hF
          refine s_pu hF rfl rfl rfl (pu_assign (hF.ev rfl)) ?_; clear hF; intro a hF
          refine s_done ?_
          refine hK10 _ _ ?_; clear hK10
          refine wp_seq_k fun K11 hK11 => ?_
          refine wp_region_lit ?_
          refine s_pu hF rfl rfl rfl (pu_move (hF.ev rfl)) ?_; clear hF; intro a hF
          refine s_pu hF rfl rfl rfl ((by exact pu_nil (hF.ev rfl))) ?_; clear hF; intro a hF
          refine s_pu hF rfl rfl rfl ((by exact pu_field fd52_1 (hF.ev rfl))) ?_; clear hF; intro a hF
          refine s_rd hF rfl rfl rfl (by exact rd_load pl50 (hF.ev rfl) (hS.cellL (i := 1) rfl rfl)) ?_; clear hF; intro a hF
          refine s_pu hF rfl rfl rfl (pu_move (hF.ev rfl)) ?_; clear hF; intro a hF
          refine s_pu hF rfl rfl rfl ((by exact pu_elem sl50 (hF.ev rfl) (hF.ev rfl) (by omega) (by omega))) ?_; clear hF; intro a hF
          refine s_pu hF rfl rfl rfl ((by exact pu_field fd58_2 (hF.ev rfl))) ?_; clear hF; intro a hF
          refine s_rstoreF 2 (k := p) (f := 2) hF rfl (hF.ev rfl) (hF.ev rfl) hS rfl rfl sz4 rfl (by omega) (by omega) (fate_len R) ?_; clear hS; intro w hS; (try simp only [upd, del] at hS)
          rw [fate_set (f' := ⟨x.a, 0, true⟩) hf (by omega) rfl] at hS
          refine s_done ?_
          refine hK11 _ _ ?_; clear hK11
          refine wp_seq_k fun K12 hK12 => ?_
          refine wp_region_lit ?_
          refine s_pu hF rfl rfl rfl (pu_move (hF.ev rfl)) ?_; clear hF; intro a hF
          refine s_pu hF rfl rfl rfl ((by exact pu_nil (hF.ev rfl))) ?_; clear hF; intro a hF
          refine s_pu hF rfl rfl rfl ((by exact pu_field fd52_3 (hF.ev rfl))) ?_; clear hF; intro a hF
          refine s_rd hF rfl rfl rfl (by exact rd_load pl3 (hF.ev rfl) (hS.cellL (i := 1) rfl rfl)) ?_; clear hF; intro a hF
          refine s_pu hF rfl rfl rfl ((by exact pu_sub64 (hF.ev rfl) (hF.ev rfl) (by omega))) ?_; clear hF; intro a hF
          refine s_pu hF rfl rfl rfl ((by exact pu_nil (hF.ev rfl))) ?_; clear hF; intro a hF
          refine s_pu hF rfl rfl rfl ((by exact pu_field fd52_3 (hF.ev rfl))) ?_; clear hF; intro a hF
          ((refine s_store (vs := [_]) (cs' := #[_, _, _, _, _, _, _, _]) 1 hF rfl (hF.ev rfl) (hF.ev rfl) hS rfl rfl sz3 (by rfl) (by exact Nat.le_of_ble_eq_true rfl) rfl ?_))
          clear hS; intro w hS; (try simp only [upd, del] at hS)
          refine s_done ?_
          refine hK12 _ _ ?_; clear hK12
          refine wp_seq_k fun K13 hK13 => ?_
          replace hS := hS.sel [1, 2]
          simp only [selR, nth, del] at hS
          refine d_start (S := (fun w => Sat w0 w [_, _])) (ds := [12]) (ord := [(0, .pu), (1, .pu), (2, .pu), (3, .pu), (4, .pu), (5, .pu), (6, .pu), (7, .pu), (8, .pu), (9, .tk), (10, .pu), (11, .tk), (12, .ls), (13, .pu), (14, .pu), (15, .pu)]) mixed ⟨by kernel_rfl, fun _ d _ _ _ h => by cases d <;> exact h⟩ (hS.left (C := [_, _])).drew fun hD => ?_
          replace hS := hS.drew; generalize w.drew = w at hS ⊢
          refine d_pu hD hF rfl rfl rfl rfl rfl (pu_move (hF.ev rfl)) ?_; clear hF; intro a hF
          refine d_pu hD hF rfl rfl rfl rfl rfl (pu_move (hF.ev rfl)) ?_; clear hF; intro a hF
          refine d_pu hD hF rfl rfl rfl rfl rfl (pu_move (hF.ev rfl)) ?_; clear hF; intro a hF
          refine d_pu hD hF rfl rfl rfl rfl rfl (pu_eql (hF.ev rfl) (hF.ev rfl)) ?_; clear hF; intro a hF
          refine d_pu hD hF rfl rfl rfl rfl rfl ((by exact pu_pick_t (hF.ev rfl) (hF.ev rfl))) ?_; clear hF; intro a hF
          refine d_pu hD hF rfl rfl rfl rfl rfl (pu_move (hF.ev rfl)) ?_; clear hF; intro a hF
          refine d_pu hD hF rfl rfl rfl rfl rfl (pu_move (hF.ev rfl)) ?_; clear hF; intro a hF
          refine d_pu hD hF rfl rfl rfl rfl rfl ((by exact pu_nil (hF.ev rfl))) ?_; clear hF; intro a hF
          refine d_pu hD hF rfl rfl rfl rfl rfl ((by exact pu_field fd52_0 (hF.ev rfl))) ?_; clear hF; intro a hF
          refine d_rd hD hF rfl rfl rfl rfl rfl (hS.left (C := [_, _])) (fun w hS => (by exact rd_load pl24 (hF.ev rfl) (hS.cellL (i := 0) rfl rfl))) ?_; clear hF; intro a hF
          refine d_pu hD hF rfl rfl rfl rfl rfl ((by exact pu_field fd35_0 (hF.ev rfl))) ?_; clear hF; intro a hF
          refine d_rd hD hF rfl rfl rfl rfl rfl (hS.left (C := [_, _])) (fun w hS => (by exact rd_loadB (i := 1) (vs := [_, _, _, _, _]) ag30 (hF.ev rfl) hS rfl rfl)) ?_; clear hF; intro a hF
          refine l_en hD hF rfl rfl rfl rfl rfl (run_fn fk15 (hF.ev rfl) (hF.evs rfl)) (at_place 5 hS rfl (fun h => has_c (q := (req p).key) h)) ?_
          clear hS; rintro e w ⟨rfl, hS⟩
          refine ⟨_, rfl, ?_⟩; clear hF; intro a hF
          refine d_pu hD hF rfl rfl rfl rfl rfl (pu_not (hF.ev rfl)) ?_; clear hF; intro a hF
          refine d_pu hD hF rfl rfl rfl rfl rfl ((by exact pu_pick_t (hF.ev rfl) (hF.ev rfl))) ?_; clear hF; intro a hF
          refine d_pu hD hF rfl rfl rfl rfl rfl (pu_assign (hF.ev rfl)) ?_; clear hF; intro a hF
          refine d_done hD rfl ?_; clear hD
          refine hK13 _ _ ?_; clear hK13
          refine wp_ret ?_
          refine fin1 Try.results18 hF rfl ?_
          have e1 : ((LX ++ x :: LY).length : Int) - 1 = ((LX ++ LY).length : Int) := by simp; omega
          have e2 : (R.set p ⟨x.a, 0, true⟩).length = R.length := by simp
          rw [e1, ← e2] at hS
          have hnk : mGet (keysL (tabS m to fo R.length LA (LX ++ LY) (List.filter (fun y => !decide (y.timer = x.t)) P) now last).L) (req p).key = none := tab_keys (fun y hy hyp => by
            have hids := h.ok.ids
            rw [List.map_append, List.pairwise_append] at hids
            have h2 := hids.2.1
            rw [List.map_append, List.map_cons, List.pairwise_append, List.pairwise_cons] at h2
            rcases List.mem_append.1 hy with hy | hy
            · have := h2.2.2 y.i (List.mem_map_of_mem hy) x.i (by simp); omega
            · have := h2.2.1.1 y.i (List.mem_map_of_mem hy); omega)
          have e9 : ∀ b : Option Int, b = none → Ending.returned (.bool !b.isSome) = .returned (.bool true) := fun b hb => by rw [hb]; rfl
          simp only [del] at hS
          refine ⟨e9 _ hnk, R.set p ⟨x.a, 0, true⟩, LA, LX ++ LY, _, ⟨h.c, by rw [e2]; exact h.ok.dropW (x := x), ?_⟩, e2, w_shut (((((hS.sel [1, 3]).drop 3).drop 3).drop 3).drop 3)⟩
          rw [← hxi]
          exact h.rel.goneW h.ok.ids rfl
      · -- operation 12 first
        refine f_newp hD hF rfl rfl rfl rfl rfl (ef_alloc (cs := #[_, _, _, _, _, _, _, _, _, _, _, _]) ze35 rfl) hS (fun _ _ h => by exact h.tail.left (C := [_, _])) ?_; clear hF hS; intro b6 w hS a hF
        first
          | (have hmark := b6
             replace hS := hS.sel [1, 1, 1, 1]
             simp only [selR, nth, del] at hS)
          | skip
        refine d_en hD hF rfl rfl rfl rfl rfl (run_fn fk12 (hF.ev rfl) (hF.evs rfl)) (at_place 3 hS rfl (fun h' => answer_c (T := tabS m to fo R.length LA (LX ++ x :: LY) P now last) (to := (p : Int) % 4) (number := p) (A := LA.map Lv.lt ++ LX.map Lv.wt) (B := LY.map Lv.wt) (e := x.wt) (en := x.we to) (by simp [tabS]) (by rw [← hxi]; rfl) (h.ok.perm.symm.subset (by simp)) rfl (by have := h.ok.wait x (by simp); show 0 ≤ x.a + to; omega) h.ok.rise h' (by simp [tabS] at hwn hln ⊢; omega) (by simp only [tabS]; omega))) ?_
        clear hS; rintro e w ⟨B1, m1, d1, B2, m2, d2, rfl, hS⟩
        rw [tab_dropW] at hS
        rw [if_neg (show ¬ x.wt.late = true by simp [Lv.wt])]
        unfold Pnd.value
        refine ⟨_, rfl, (by exact hS.tail.tail.left (C := [_, _])), ?_⟩; clear hF; intro a hF
        refine d_pu hD hF rfl rfl rfl rfl rfl (pu_move (hF.ev rfl)) ?_; clear hF; intro a hF
        refine d_pu hD hF rfl rfl rfl rfl rfl (pu_extract (hF.ev rfl) rfl) ?_; clear hF; intro a hF
        refine d_pu hD hF rfl rfl rfl rfl rfl (pu_extract (hF.ev rfl) rfl) ?_; clear hF; intro a hF
        first
          | (have hm2 := hmark
             replace hS := hS.sel [5]
             simp only [selR, nth, del] at hS)
          | skip
        (((refine d_store (vs := [_, _, _, _, _, _, _, _, _, _, _, _]) (cs' := #[_, _, _, _, _, _, _, _, _, _, _, _]) 0 hD hF rfl rfl rfl (hF.ev rfl) (hF.ev rfl) hS rfl rfl sz35 (by rfl) (by exact Nat.le_of_ble_eq_true rfl) rfl (fun _ h => by simp only [upd, del] at h; exact h.tail.tail.tail.left (C := [_, _])) ?_)))
        clear hS; intro w hS; (try simp only [upd, del] at hS)
        refine d_pu hD hF rfl rfl rfl rfl rfl (pu_assign (hF.ev rfl)) ?_; clear hF; intro a hF
        refine d_done hD rfl ?_; clear hD
        refine hK5 _ _ ?_; clear hK5
        refine wp_seq_k fun K6 hK6 => ?_
        refine wp_region_lit ?_
        replace hS := hS.sel [3, 4, 3, 0, 1, 0]
        simp only [selR, nth, del] at hS
        have hfx := h.rel.rw x (by simp)
        rw [hxi, hf] at hfx
        injection hfx with hfx
        subst hfx
        refine s_pu hF rfl rfl rfl (pu_move (hF.ev rfl)) ?_; clear hF; intro a hF
        refine s_pu hF rfl rfl rfl ((by exact pu_nil (hF.ev rfl))) ?_; clear hF; intro a hF
        refine s_pu hF rfl rfl rfl ((by exact pu_field fd52_1 (hF.ev rfl))) ?_; clear hF; intro a hF
        refine s_rd hF rfl rfl rfl (by exact rd_load pl50 (hF.ev rfl) (hS.cellL (i := 0) rfl rfl)) ?_; clear hF; intro a hF
        refine s_pu hF rfl rfl rfl (pu_move (hF.ev rfl)) ?_; clear hF; intro a hF
        refine s_pu hF rfl rfl rfl ((by exact pu_elem sl50 (hF.ev rfl) (hF.ev rfl) (by omega) (by omega))) ?_; clear hF; intro a hF
        refine s_rd hF rfl rfl rfl (rd_loadN ag58 (hF.ev rfl) rfl (row_load (i := 1) hS rfl (by omega) (fate_at hf))) ?_; clear hF; intro a hF
        refine s_newp hF rfl rfl rfl (ef_alloc (cs := #[_, _, _]) ze58 rfl) hS ?_; clear hF hS; intro b8 w hS a hF
        ((refine s_store (vs := [_, _, _]) (cs' := #[_, _, _]) 0 hF rfl (hF.ev rfl) (hF.ev rfl) hS rfl rfl sz58 (by rfl) (by exact Nat.le_of_ble_eq_true rfl) rfl ?_))
        clear hS; intro w hS; (try simp only [upd, del] at hS)
        refine s_done ?_
        refine hK6 _ _ ?_; clear hK6
        refine wp_seq_k fun K7 hK7 => ?_
        refine wp_block ?_
        refine wp_seq_k fun K8 hK8 => ?_
        refine wp_region_lit ?_
        refine s_pu hF rfl rfl rfl ((by exact pu_field fd58_2 (hF.ev rfl))) ?_; clear hF; intro a hF
        refine s_rd hF rfl rfl rfl (by exact rd_load pl4 (hF.ev rfl) (hS.cellL (i := 0) rfl rfl)) ?_; clear hF; intro a hF
        refine s_pu hF rfl rfl rfl (pu_assign (hF.ev rfl)) ?_; clear hF; intro a hF
        refine s_done ?_
        refine hK8 _ _ ?_; clear hK8
        refine wp_cond_false (hF.ev rfl) ?_
        refine wp_seq_k fun K9 hK9 => ?_
        refine wp_region_lit ?_
        refine s_pu hF rfl rfl rfl ((by exact pu_field fd58_1 (hF.ev rfl))) ?_; clear hF; intro a hF
        refine s_rd hF rfl rfl rfl (by exact rd_load pl3 (hF.ev rfl) (hS.cellL (i := 0) rfl rfl)) ?_; clear hF; intro a hF
        refine s_pu hF rfl rfl rfl (pu_gtr (hF.ev rfl) (hF.ev rfl)) ?_; clear hF; intro a hF
        refine s_pu hF rfl rfl rfl (pu_assign (hF.ev rfl)) ?_; clear hF; intro a hF
        refine s_done ?_
        refine hK9 _ _ ?_; clear hK9
        refine wp_cond_split (hF.ev rfl) (fun hc2 => ?_) (fun hc2 => ?_)
        · -- cond 2 true
          try simp only [decide_eq_true_eq, decide_eq_false_iff_not, Bool.not_eq_true', Bool.not_eq_false', Int.not_lt, Int.not_le, ne_eq, Decidable.not_not, Bool.or_eq_true, Bool.or_eq_false_iff, Bool.and_eq_true, Bool.and_eq_false_imp] at hc2
          simp at hc2
        · -- cond 2 false
          try simp only [decide_eq_true_eq, decide_eq_false_iff_not, Bool.not_eq_true', Bool.not_eq_false', Int.not_lt, Int.not_le, ne_eq, Decidable.not_not, Bool.or_eq_true, Bool.or_eq_false_iff, Bool.and_eq_true, Bool.and_eq_false_imp] at hc2
          refine wp_skip ?_
          refine blk_normal ?_
          refine hK7 _ _ ?_; clear hK7
          refine wp_seq_k fun K10 hK10 => ?_
          refine wp_region_lit ?_
          refine s_rd hF rfl rfl rfl (by exact rd_loadB (i := 4) (vs := [_, _, _, _, _, _, _, _, _, _, _, _]) ag35 (hF.ev rfl) hS rfl rfl) ?_; clear hF; intro a hF
          refine s_pu hF rfl rfl rfl (pu_move (hF.ev rfl)) ?_; clear hF; intro a hF
          refine s_en hF rfl rfl rfl (run_fn fk13 (hF.ev rfl) (hF.evs rfl)) (at_place 6 hS rfl (fun h => its_own (n := p) (p := x.wt.p) h (by omega))) ?_
          clear hS; rintro e w ⟨bb, rfl, hbb, hS⟩
          obtain rfl : bb = true := hbb.2 (by rw [← hxi]; rfl)
          replace hS := hS.sel [1, 1, 1, 1, 1, 1]
          simp only [selR, nth, del] at hS
          refine ⟨_, rfl, ?_⟩; clear hF; intro a hF
          refine s_pu hF rfl rfl rfl (pu_assign (hF.ev rfl)) ?_; clear hF; intro a hF
          refine s_done ?_
          refine hK10 _ _ ?_; clear hK10
          refine wp_seq_k fun K11 hK11 => ?_
          refine wp_region_lit ?_
          refine s_pu hF rfl rfl rfl (pu_move (hF.ev rfl)) ?_; clear hF; intro a hF
          refine s_pu hF rfl rfl rfl ((by exact pu_nil (hF.ev rfl))) ?_; clear hF; intro a hF
          refine s_pu hF rfl rfl rfl ((by exact pu_field fd52_1 (hF.ev rfl))) ?_; clear hF; intro a hF
          refine s_rd hF rfl rfl rfl (by exact rd_load pl50 (hF.ev rfl) (hS.cellL (i := 1) rfl rfl)) ?_; clear hF; intro a hF
          refine s_pu hF rfl rfl rfl (pu_move (hF.ev rfl)) ?_; clear hF; intro a hF
          refine s_pu hF rfl rfl rfl ((by exact pu_elem sl50 (hF.ev rfl) (hF.ev rfl) (by omega) (by omega))) ?_; clear hF; intro a hF
          refine s_pu hF rfl rfl rfl ((by exact pu_field fd58_2 (hF.ev rfl))) ?_; clear hF; intro a hF
          refine s_rstoreF 2 (k := p) (f := 2) hF rfl (hF.ev rfl) (hF.ev rfl) hS rfl rfl sz4 rfl (by omega) (by omega) (fate_len R) ?_; clear hS; intro w hS; (try simp only [upd, del] at hS)
          rw [fate_set (f' := ⟨x.a, 0, true⟩) hf (by omega) rfl] at hS
          refine s_done ?_
          refine hK11 _ _ ?_; clear hK11
          refine wp_seq_k fun K12 hK12 => ?_
          refine wp_region_lit ?_
          refine s_pu hF rfl rfl rfl (pu_move (hF.ev rfl)) ?_; clear hF; intro a hF
          refine s_pu hF rfl rfl rfl ((by exact pu_nil (hF.ev rfl))) ?_; clear hF; intro a hF
          refine s_pu hF rfl rfl rfl ((by exact pu_field fd52_3 (hF.ev rfl))) ?_; clear hF; intro a hF
          refine s_rd hF rfl rfl rfl (by exact rd_load pl3 (hF.ev rfl) (hS.cellL (i := 1) rfl rfl)) ?_; clear hF; intro a hF
          refine s_pu hF rfl rfl rfl ((by exact pu_sub64 (hF.ev rfl) (hF.ev rfl) (by omega))) ?_; clear hF; intro a hF
          refine s_pu hF rfl rfl rfl ((by exact pu_nil (hF.ev rfl))) ?_; clear hF; intro a hF
          refine s_pu hF rfl rfl rfl ((by exact pu_field fd52_3 (hF.ev rfl))) ?_; clear hF; intro a hF
          ((refine s_store (vs := [_]) (cs' := #[_, _, _, _, _, _, _, _]) 1 hF rfl (hF.ev rfl) (hF.ev rfl) hS rfl rfl sz3 (by rfl) (by exact Nat.le_of_ble_eq_true rfl) rfl ?_))
          clear hS; intro w hS; (try simp only [upd, del] at hS)
          refine s_done ?_
          refine hK12 _ _ ?_; clear hK12
          refine wp_seq_k fun K13 hK13 => ?_
          replace hS := hS.sel [1, 2]
          simp only [selR, nth, del] at hS
          refine d_start (S := (fun w => Sat w0 w [_, _])) (ds := [12]) (ord := [(0, .pu), (1, .pu), (2, .pu), (3, .pu), (4, .pu), (5, .pu), (6, .pu), (7, .pu), (8, .pu), (9, .tk), (10, .pu), (11, .tk), (12, .ls), (13, .pu), (14, .pu), (15, .pu)]) mixed ⟨by kernel_rfl, fun _ d _ _ _ h => by cases d <;> exact h⟩ (hS.left (C := [_, _])).drew fun hD => ?_
          replace hS := hS.drew; generalize w.drew = w at hS ⊢
          refine d_pu hD hF rfl rfl rfl rfl rfl (pu_move (hF.ev rfl)) ?_; clear hF; intro a hF
          refine d_pu hD hF rfl rfl rfl rfl rfl (pu_move (hF.ev rfl)) ?_; clear hF; intro a hF
          refine d_pu hD hF rfl rfl rfl rfl rfl (pu_move (hF.ev rfl)) ?_; clear hF; intro a hF
          refine d_pu hD hF rfl rfl rfl rfl rfl (pu_eql (hF.ev rfl) (hF.ev rfl)) ?_; clear hF; intro a hF
          refine d_pu hD hF rfl rfl rfl rfl rfl ((by exact pu_pick_t (hF.ev rfl) (hF.ev rfl))) ?_; clear hF; intro a hF
          refine d_pu hD hF rfl rfl rfl rfl rfl (pu_move (hF.ev rfl)) ?_; clear hF; intro a hF
          refine d_pu hD hF rfl rfl rfl rfl rfl (pu_move (hF.ev rfl)) ?_; clear hF; intro a hF
          refine d_pu hD hF rfl rfl rfl rfl rfl ((by exact pu_nil (hF.ev rfl))) ?_; clear hF; intro a hF
          refine d_pu hD hF rfl rfl rfl rfl rfl ((by exact pu_field fd52_0 (hF.ev rfl))) ?_; clear hF; intro a hF
          refine d_rd hD hF rfl rfl rfl rfl rfl (hS.left (C := [_, _])) (fun w hS => (by exact rd_load pl24 (hF.ev rfl) (hS.cellL (i := 0) rfl rfl))) ?_; clear hF; intro a hF
          refine d_pu hD hF rfl rfl rfl rfl rfl ((by exact pu_field fd35_0 (hF.ev rfl))) ?_; clear hF; intro a hF
          refine d_rd hD hF rfl rfl rfl rfl rfl (hS.left (C := [_, _])) (fun w hS => (by exact rd_loadB (i := 1) (vs := [_, _, _, _, _]) ag30 (hF.ev rfl) hS rfl rfl)) ?_; clear hF; intro a hF
          refine l_en hD hF rfl rfl rfl rfl rfl (run_fn fk15 (hF.ev rfl) (hF.evs rfl)) (at_place 5 hS rfl (fun h => has_c (q := (req p).key) h)) ?_
          clear hS; rintro e w ⟨rfl, hS⟩
          refine ⟨_, rfl, ?_⟩; clear hF; intro a hF
          refine d_pu hD hF rfl rfl rfl rfl rfl (pu_not (hF.ev rfl)) ?_; clear hF; intro a hF
          refine d_pu hD hF rfl rfl rfl rfl rfl ((by exact pu_pick_t (hF.ev rfl) (hF.ev rfl))) ?_; clear hF; intro a hF
          refine d_pu hD hF rfl rfl rfl rfl rfl (pu_assign (hF.ev rfl)) ?_; clear hF; intro a hF
          refine d_done hD rfl ?_; clear hD
          refine hK13 _ _ ?_; clear hK13
          refine wp_ret ?_
          refine fin1 Try.results18 hF rfl ?_
          have e1 : ((LX ++ x :: LY).length : Int) - 1 = ((LX ++ LY).length : Int) := by simp; omega
          have e2 : (R.set p ⟨x.a, 0, true⟩).length = R.length := by simp
          rw [e1, ← e2] at hS
          have hnk : mGet (keysL (tabS m to fo R.length LA (LX ++ LY) (List.filter (fun y => !decide (y.timer = x.t)) P) now last).L) (req p).key = none := tab_keys (fun y hy hyp => by
            have hids := h.ok.ids
            rw [List.map_append, List.pairwise_append] at hids
            have h2 := hids.2.1
            rw [List.map_append, List.map_cons, List.pairwise_append, List.pairwise_cons] at h2
            rcases List.mem_append.1 hy with hy | hy
            · have := h2.2.2 y.i (List.mem_map_of_mem hy) x.i (by simp); omega
            · have := h2.2.1.1 y.i (List.mem_map_of_mem hy); omega)
          have e9 : ∀ b : Option Int, b = none → Ending.returned (.bool !b.isSome) = .returned (.bool true) := fun b hb => by rw [hb]; rfl
          simp only [del] at hS
          refine ⟨e9 _ hnk, R.set p ⟨x.a, 0, true⟩, LA, LX ++ LY, _, ⟨h.c, by rw [e2]; exact h.ok.dropW (x := x), ?_⟩, e2, w_shut (((((hS.sel [1, 3]).drop 3).drop 3).drop 3).drop 3)⟩
          rw [← hxi]
          exact h.rel.goneW h.ok.ids rfl
end
end Go.Proofs.Ytbfdebddoncfhaa
