import Derived.Test.YtbfdebddoncfhaaPo4
/-! PendingOnce: adds. -/
namespace Go.Proofs.Ytbfdebddoncfhaa
open Go Go.RowKit Go.Proofs.Ytbfdebddoncfhaa.Sk
set_option linter.unusedVariables false
set_option linter.unusedSimpArgs false
set_option maxRecDepth 100000

section
variable {w0 w : World} {F : List Chunk} {b g m : Nat} {to fo now last : Int} {R : List Fate} {LA WA : List Lv} {P : List Ent}
theorem adds_c (hS : Sat w0 w (wC b g R now WA.length LA.length m to fo :: tabC 1 g (tabS m to fo R.length LA WA P now last) :: F)) (h : WldOk m to fo R LA WA P now last) (hR : R.length ≤ 900) (hn : now ≤ 100000) :
    Calls Try.prog 17 #[.pointer (some ⟨b, 0, none⟩)] w fun e w' => e = .returned (.bool true) ∧ ∃ R' WA' P' last', WldOk m to fo R' LA WA' P' now last' ∧ R'.length ≤ R.length + 1 ∧
      Sat w0 w' (wC b g R' now WA'.length LA.length m to fo :: tabC 1 g (tabS m to fo R'.length LA WA' P' now last') :: F) := by
  obtain ⟨A, c, hc, hS⟩ := w_open hS
  have hnx := h.ok.nx
  have hk : mGet (keysL (tabS m to fo R.length LA WA P now last).L) (req R.length).key = none := tab_keys fun x hx => by have := hnx x (by simp [hx]); omega
  have hm : mGet (waysL (tabS m to fo R.length LA WA P now last).L) (req R.length).way = none := tab_ways rfl fun x hx => by have := hnx x hx; omega
  have hwl : (waitsL (tabS m to fo R.length LA WA P now last).L).length = WA.length := by rw [tab_waits]; simp
  have hn2 : ∀ e ∈ (tabS m to fo R.length LA WA P now last).L, e.n ≠ (tabS m to fo R.length LA WA P now last).next := by
    intro e he
    have : ∃ x ∈ LA ++ WA, e.n = x.i := by
      rcases List.mem_append.1 he with he | he
      · obtain ⟨x, hx, rfl⟩ := List.mem_map.1 he
        exact ⟨x, by simp [hx], rfl⟩
      · obtain ⟨x, hx, rfl⟩ := List.mem_map.1 he
        exact ⟨x, by simp [hx], rfl⟩
    obtain ⟨x, hx, hex⟩ := this
    have := hnx x hx
    show e.n ≠ (R.length : Int)
    omega
  have hwn := h.ok.wn
  have hln := h.ok.ln
  have hn0 := h.ok.n0
  have hl0 := h.ok.l0
  have hl1 := h.ok.l1
  have hto := h.c.to
  have hmm := h.c.m
  have hpl := h.ok.perm.length_eq
  simp only [List.length_append, List.length_map] at hpl
  refine enter Try.func17 rfl Try.ntmps17 (Nat.le_of_ble_eq_true rfl) fun a hF => ?_
  refine wp_seq_k fun K0 hK0 => ?_
  refine wp_region_lit ?_
  refine s_pu hF rfl rfl rfl (pu_assign (hF.ev rfl)) ?_; clear hF; intro a hF
  refine s_done ?_
  refine hK0 _ _ ?_; clear hK0
  refine wp_seq_k fun K1 hK1 => ?_
  refine wp_region_lit ?_
  refine s_pu hF rfl rfl rfl (pu_move (hF.ev rfl)) ?_; clear hF; intro a hF
  refine s_pu hF rfl rfl rfl ((by exact pu_nil (hF.ev rfl))) ?_; clear hF; intro a hF
  refine s_pu hF rfl rfl rfl ((by exact pu_field fd52_1 (hF.ev rfl))) ?_; clear hF; intro a hF
  refine s_rd hF rfl rfl rfl (by exact rd_load pl50 (hF.ev rfl) (hS.cellL (i := 0) rfl rfl)) ?_; clear hF; intro a hF
  refine s_pu hF rfl rfl rfl (pu_len sl50 (hF.ev rfl)) ?_; clear hF; intro a hF
  refine s_pu hF rfl rfl rfl (pu_assign (hF.ev rfl)) ?_; clear hF; intro a hF
  refine s_done ?_
  refine hK1 _ _ ?_; clear hK1
  refine wp_seq_k fun K2 hK2 => ?_
  rcases Nat.lt_or_ge WA.length m with hw | hw
  · -- ok
    obtain ⟨had, hok⟩ := h.ok.add h.c hw
    refine d_start (S := (fun w => Sat w0 w [_])) (ds := [6]) (ord := [(0, .pu), (1, .pu), (2, .pu), (3, .tk), (4, .pu), (5, .on), (6, .ls), (7, .pu)]) mixed ⟨by kernel_rfl, fun _ d _ _ _ h => by cases d <;> exact h⟩ (hS.left (C := [_])).drew fun hD => ?_
    replace hS := hS.drew; generalize w.drew = w at hS ⊢
    refine d_pu hD hF rfl rfl rfl rfl rfl (pu_move (hF.ev rfl)) ?_; clear hF; intro a hF
    refine d_pu hD hF rfl rfl rfl rfl rfl ((by exact pu_nil (hF.ev rfl))) ?_; clear hF; intro a hF
    refine d_pu hD hF rfl rfl rfl rfl rfl ((by exact pu_field fd52_0 (hF.ev rfl))) ?_; clear hF; intro a hF
    refine d_rd hD hF rfl rfl rfl rfl rfl (hS.left (C := [_])) (fun w hS => (by exact rd_load pl24 (hF.ev rfl) (hS.cellL (i := 0) rfl rfl))) ?_; clear hF; intro a hF
    refine d_pu hD hF rfl rfl rfl rfl rfl (pu_move (hF.ev rfl)) ?_; clear hF; intro a hF
    refine d_en hD hF rfl rfl rfl rfl rfl (run_fn fk10 (hF.ev rfl) (hF.evs rfl)) (request_c (n := R.length) hS (by omega)) ?_
    clear hS; rintro e w ⟨A1, s1, y1, A2, s2, y2, rfl, hS⟩
    refine ⟨_, rfl, hS.tail.left (C := [_]), ?_⟩; clear hF; intro a hF
    refine l_en hD hF rfl rfl rfl rfl rfl (run_fn fk9 (hF.ev rfl) (hF.evs rfl)) (add_own (T := tabS m to fo R.length LA WA P now last) (hS.sel [0, 2]) hk hm (by rw [hwl]; simp only [tabS]; omega) hn2 h.ok.rise hto.1 (by simp only [tabS]; omega) hn0 (by simp only [tabS]; omega) hl0 (by simp only [tabS]; omega) (by simp only [tabS]; omega) (by simp only [tabS]; omega) (by simp only [tabS, List.length_append, List.length_map]; omega) (by simp only [tabS]; omega)) ?_
    clear hS; rintro e w ⟨rfl, hS⟩
    refine ⟨_, rfl, ?_⟩; clear hF; intro a hF
    refine d_pu hD hF rfl rfl rfl rfl rfl (pu_assign (hF.ev rfl)) ?_; clear hF; intro a hF
    refine d_done hD rfl ?_; clear hD
    rw [had] at hS
    simp only [selR, nth, del] at hS
    refine hK2 _ _ ?_; clear hK2
    refine wp_seq_k fun K3 hK3 => ?_
    refine wp_seq_k fun K4 hK4 => ?_
    refine d_start (S := (fun w => Sat w0 w _)) (ds := []) (ord := [(0, .pu), (1, .pu), (2, .pu), (3, .tk), (4, .pu), (5, .pu), (6, .pu), (7, .tk), (8, .pu)]) mixed ⟨by kernel_rfl, fun _ d _ _ _ h => by cases d <;> exact h⟩ hS.drew fun hD => ?_
    replace hS := hS.drew; generalize w.drew = w at hS ⊢
    refine d_pu hD hF rfl rfl rfl rfl rfl (pu_move (hF.ev rfl)) ?_; clear hF; intro a hF
    refine d_pu hD hF rfl rfl rfl rfl rfl ((by exact pu_nil (hF.ev rfl))) ?_; clear hF; intro a hF
    refine d_pu hD hF rfl rfl rfl rfl rfl ((by exact pu_field fd52_3 (hF.ev rfl))) ?_; clear hF; intro a hF
    refine d_rd hD hF rfl rfl rfl rfl rfl hS (fun w hS => (by exact rd_load pl3 (hF.ev rfl) (hS.cellL (i := 1) rfl rfl))) ?_; clear hF; intro a hF
    refine d_pu hD hF rfl rfl rfl rfl rfl (pu_move (hF.ev rfl)) ?_; clear hF; intro a hF
    refine d_pu hD hF rfl rfl rfl rfl rfl ((by exact pu_nil (hF.ev rfl))) ?_; clear hF; intro a hF
    refine d_pu hD hF rfl rfl rfl rfl rfl ((by exact pu_field fd52_5 (hF.ev rfl))) ?_; clear hF; intro a hF
    refine d_rd hD hF rfl rfl rfl rfl rfl hS (fun w hS => (by exact rd_load pl3 (hF.ev rfl) (hS.cellL (i := 1) rfl rfl))) ?_; clear hF; intro a hF
    refine d_pu hD hF rfl rfl rfl rfl rfl (pu_eql (hF.ev rfl) (hF.ev rfl)) ?_; clear hF; intro a hF
    refine d_done hD rfl ?_; clear hD
    refine hK4 _ _ ?_; clear hK4
    refine wp_cond_split (hF.ev rfl) (fun hc0 => ?_) (fun hc0 => ?_)
    · -- cond 0 true
      try simp only [decide_eq_true_eq, decide_eq_false_iff_not, Bool.not_eq_true', Bool.not_eq_false', Int.not_lt, Int.not_le, ne_eq, Decidable.not_not, Bool.or_eq_true, Bool.or_eq_false_iff, Bool.and_eq_true, Bool.and_eq_false_imp] at hc0
      omega
    · -- cond 0 false
      try simp only [decide_eq_true_eq, decide_eq_false_iff_not, Bool.not_eq_true', Bool.not_eq_false', Int.not_lt, Int.not_le, ne_eq, Decidable.not_not, Bool.or_eq_true, Bool.or_eq_false_iff, Bool.and_eq_true, Bool.and_eq_false_imp] at hc0
      refine wp_skip ?_
      refine hK3 _ _ ?_; clear hK3
      refine wp_seq_k fun K5 hK5 => ?_
      refine wp_seq_k fun K6 hK6 => ?_
      refine wp_region_lit ?_
      refine s_pu hF rfl rfl rfl (pu_move (hF.ev rfl)) ?_; clear hF; intro a hF
      refine s_pu hF rfl rfl rfl (pu_neq (hF.ev rfl) (hF.ev rfl)) ?_; clear hF; intro a hF
      refine s_done ?_
      refine hK6 _ _ ?_; clear hK6
      refine wp_cond_split (hF.ev rfl) (fun hc1 => ?_) (fun hc1 => ?_)
      · -- cond 1 true
        try simp only [decide_eq_true_eq, decide_eq_false_iff_not, Bool.not_eq_true', Bool.not_eq_false', Int.not_lt, Int.not_le, ne_eq, Decidable.not_not, Bool.or_eq_true, Bool.or_eq_false_iff, Bool.and_eq_true, Bool.and_eq_false_imp] at hc1
        simp at hc1
      · -- cond 1 false
        try simp only [decide_eq_true_eq, decide_eq_false_iff_not, Bool.not_eq_true', Bool.not_eq_false', Int.not_lt, Int.not_le, ne_eq, Decidable.not_not, Bool.or_eq_true, Bool.or_eq_false_iff, Bool.and_eq_true, Bool.and_eq_false_imp] at hc1
        refine wp_skip ?_
        refine hK5 _ _ ?_; clear hK5
        refine wp_seq_k fun K7 hK7 => ?_
        replace hS := hS.sel [1, 1]
        simp only [selR, nth, del] at hS
        refine d_start (S := (fun w => Sat w0 w [_])) (ds := [14]) (ord := [(0, .pu), (1, .pu), (2, .pu), (3, .pu), (4, .tk), (5, .pu), (6, .pu), (7, .pu), (8, .tk), (9, .pu), (10, .on), (11, .on), (12, .pu), (13, .pu), (14, .ls)]) mixed ⟨by kernel_rfl, fun _ d _ _ _ h => by cases d <;> exact h⟩ (hS.left (C := [_])).drew fun hD => ?_
        replace hS := hS.drew; generalize w.drew = w at hS ⊢
        refine d_pu hD hF rfl rfl rfl rfl rfl (pu_move (hF.ev rfl)) ?_; clear hF; intro a hF
        refine d_pu hD hF rfl rfl rfl rfl rfl (pu_move (hF.ev rfl)) ?_; clear hF; intro a hF
        refine d_pu hD hF rfl rfl rfl rfl rfl ((by exact pu_nil (hF.ev rfl))) ?_; clear hF; intro a hF
        refine d_pu hD hF rfl rfl rfl rfl rfl ((by exact pu_field fd52_1 (hF.ev rfl))) ?_; clear hF; intro a hF
        refine d_rd hD hF rfl rfl rfl rfl rfl (hS.left (C := [_])) (fun w hS => (by exact rd_load pl50 (hF.ev rfl) (hS.cellL (i := 0) rfl rfl))) ?_; clear hF; intro a hF
        refine d_pu hD hF rfl rfl rfl rfl rfl (pu_move (hF.ev rfl)) ?_; clear hF; intro a hF
        refine d_pu hD hF rfl rfl rfl rfl rfl ((by exact pu_nil (hF.ev rfl))) ?_; clear hF; intro a hF
        refine d_pu hD hF rfl rfl rfl rfl rfl ((by exact pu_field fd52_2 (hF.ev rfl))) ?_; clear hF; intro a hF
        refine d_rd hD hF rfl rfl rfl rfl rfl (hS.left (C := [_])) (fun w hS => (by exact rd_load pl3 (hF.ev rfl) (hS.cellL (i := 0) rfl rfl))) ?_; clear hF; intro a hF
        refine d_pu hD hF rfl rfl rfl rfl rfl ((pu_build st58 (hF.evp rfl) rfl rfl : Pu _ _ _ (.agg #[_, _, _]))) ?_; clear hF; intro a hF
        refine d_news hD hF rfl rfl rfl rfl rfl (ef_lit1 (cs := [_, _, _]) sl50 ze58 rfl (hF.ev rfl) (by rfl) rfl (by omega) (by omega)) hS (fun _ _ h => h.tail.left (C := [_])) ?_; clear hF hS; intro b41 w hS a hF
        (((refine d_append 2 0 hD hF rfl rfl rfl rfl sl50 el58 (hF.ev rfl) (hF.ev rfl) hS rfl rfl rfl (by rfl) (by unfold maxLen; omega) (by omega) (fun _ _ h => h.tail.tail.left (C := [_])) ?_))); (clear hS hF; intro A42 q42 w hS a hF; (try simp only [upd, del] at hS))
        refine d_pu hD hF rfl rfl rfl rfl rfl ((by exact pu_nil (hF.ev rfl))) ?_; clear hF; intro a hF
        refine d_pu hD hF rfl rfl rfl rfl rfl ((by exact pu_field fd52_1 (hF.ev rfl))) ?_; clear hF; intro a hF
        ((refine l_store (vs := [_]) (cs' := #[_, _, _, _, _, _, _, _]) 2 hD hF rfl rfl rfl (hF.ev rfl) (hF.ev rfl) hS rfl rfl sz50 (by rfl) (by exact Nat.le_of_ble_eq_true rfl) rfl ?_))
        clear hS; intro w hS; (try simp only [upd, del] at hS)
        refine d_done hD rfl ?_; clear hD
        refine hK7 _ _ ?_; clear hK7
        refine wp_seq_k fun K8 hK8 => ?_
        refine wp_region_lit ?_
        refine s_pu hF rfl rfl rfl (pu_move (hF.ev rfl)) ?_; clear hF; intro a hF
        refine s_pu hF rfl rfl rfl ((by exact pu_nil (hF.ev rfl))) ?_; clear hF; intro a hF
        refine s_pu hF rfl rfl rfl ((by exact pu_field fd52_3 (hF.ev rfl))) ?_; clear hF; intro a hF
        refine s_rd hF rfl rfl rfl (by exact rd_load pl3 (hF.ev rfl) (hS.cellL (i := 2) rfl rfl)) ?_; clear hF; intro a hF
        refine s_pu hF rfl rfl rfl ((by exact pu_add64 (hF.ev rfl) (hF.ev rfl) (by omega))) ?_; clear hF; intro a hF
        refine s_pu hF rfl rfl rfl ((by exact pu_nil (hF.ev rfl))) ?_; clear hF; intro a hF
        refine s_pu hF rfl rfl rfl ((by exact pu_field fd52_3 (hF.ev rfl))) ?_; clear hF; intro a hF
        ((refine s_store (vs := [_]) (cs' := #[_, _, _, _, _, _, _, _]) 2 hF rfl (hF.ev rfl) (hF.ev rfl) hS rfl rfl sz3 (by rfl) (by exact Nat.le_of_ble_eq_true rfl) rfl ?_))
        clear hS; intro w hS; (try simp only [upd, del] at hS)
        refine s_done ?_
        refine hK8 _ _ ?_; clear hK8
        refine wp_seq_k fun K9 hK9 => ?_
        replace hS := (hS.drop 1).sel [1]
        simp only [selR, nth, del] at hS
        rw [show fateCells R ++ [.int .i64 now, .int .i64 0, .bool false] = fateCells (R ++ [⟨now, 0, false⟩]) from (fate_snoc R ⟨now, 0, false⟩).symm] at hS
        obtain ⟨WB, hWB⟩ : ∃ WB, WB = WA ++ [(⟨R.length, now, last + 1⟩ : Lv)] := ⟨_, rfl⟩
        obtain ⟨PB, hPB⟩ : ∃ PB, PB = P ++ [Lv.we to ⟨R.length, now, last + 1⟩] := ⟨_, rfl⟩
        rw [← hWB, ← hPB] at hS hok
        have hkey : (mGet (keysL (tabS m to fo (R.length + 1) LA WB PB now (last + 1)).L) (req R.length).key).isSome = true := tab_key (x := ⟨R.length, now, last + 1⟩) (by rw [hWB]; simp)
        refine d_start (S := (fun w => Sat w0 w [_])) (ds := [6]) (ord := [(0, .pu), (1, .pu), (2, .pu), (3, .tk), (4, .pu), (5, .on), (6, .ls), (7, .pu)]) mixed ⟨by kernel_rfl, fun _ d _ _ _ h => by cases d <;> exact h⟩ (hS.left (C := [_])).drew fun hD => ?_
        replace hS := hS.drew; generalize w.drew = w at hS ⊢
        refine d_pu hD hF rfl rfl rfl rfl rfl (pu_move (hF.ev rfl)) ?_; clear hF; intro a hF
        refine d_pu hD hF rfl rfl rfl rfl rfl ((by exact pu_nil (hF.ev rfl))) ?_; clear hF; intro a hF
        refine d_pu hD hF rfl rfl rfl rfl rfl ((by exact pu_field fd52_0 (hF.ev rfl))) ?_; clear hF; intro a hF
        refine d_rd hD hF rfl rfl rfl rfl rfl (hS.left (C := [_])) (fun w hS => (by exact rd_load pl24 (hF.ev rfl) (hS.cellL (i := 0) rfl rfl))) ?_; clear hF; intro a hF
        refine d_pu hD hF rfl rfl rfl rfl rfl (pu_move (hF.ev rfl)) ?_; clear hF; intro a hF
        refine d_en hD hF rfl rfl rfl rfl rfl (run_fn fk10 (hF.ev rfl) (hF.evs rfl)) (request_c (n := R.length) hS (by omega)) ?_
        clear hS; rintro e w ⟨A3, s3, y3, A4, s4, y4, rfl, hS⟩
        refine ⟨_, rfl, hS.tail.left (C := [_]), ?_⟩; clear hF; intro a hF
        refine l_en hD hF rfl rfl rfl rfl rfl (run_fn fk9 (hF.ev rfl) (hF.evs rfl)) (at_place 3 hS rfl (fun h => add_twice (T := tabS m to fo (R.length + 1) LA WB PB now (last + 1)) h (.inl hkey))) ?_
        clear hS; rintro e w ⟨rfl, hS⟩
        refine ⟨_, rfl, ?_⟩; clear hF; intro a hF
        refine d_pu hD hF rfl rfl rfl rfl rfl (pu_assign (hF.ev rfl)) ?_; clear hF; intro a hF
        refine d_done hD rfl ?_; clear hD
        refine hK9 _ _ ?_; clear hK9
        refine wp_seq_k fun K10 hK10 => ?_
        replace hS := (hS.drop 1).sel [1, 1]
        simp only [selR, nth, del] at hS
        refine d_start (S := (fun w => Sat w0 w [_])) (ds := [10]) (ord := [(0, .pu), (1, .pu), (2, .pu), (3, .pu), (4, .pu), (5, .pu), (6, .tk), (7, .pu), (8, .on), (9, .pu), (10, .ls), (11, .pu), (12, .pu)]) mixed ⟨by kernel_rfl, fun _ d _ _ _ h => by cases d <;> exact h⟩ (hS.left (C := [_])).drew fun hD => ?_
        replace hS := hS.drew; generalize w.drew = w at hS ⊢
        refine d_pu hD hF rfl rfl rfl rfl rfl (pu_move (hF.ev rfl)) ?_; clear hF; intro a hF
        refine d_pu hD hF rfl rfl rfl rfl rfl (pu_eql (hF.ev rfl) (hF.ev rfl)) ?_; clear hF; intro a hF
        refine d_pu hD hF rfl rfl rfl rfl rfl (pu_move (hF.ev rfl)) ?_; clear hF; intro a hF
        refine d_pu hD hF rfl rfl rfl rfl rfl (pu_move (hF.ev rfl)) ?_; clear hF; intro a hF
        refine d_pu hD hF rfl rfl rfl rfl rfl ((by exact pu_nil (hF.ev rfl))) ?_; clear hF; intro a hF
        refine d_pu hD hF rfl rfl rfl rfl rfl ((by exact pu_field fd52_0 (hF.ev rfl))) ?_; clear hF; intro a hF
        refine d_rd hD hF rfl rfl rfl rfl rfl (hS.left (C := [_])) (fun w hS => (by exact rd_load pl24 (hF.ev rfl) (hS.cellL (i := 0) rfl rfl))) ?_; clear hF; intro a hF
        refine d_pu hD hF rfl rfl rfl rfl rfl (pu_move (hF.ev rfl)) ?_; clear hF; intro a hF
        refine d_en hD hF rfl rfl rfl rfl rfl (run_fn fk10 (hF.ev rfl) (hF.evs rfl)) (request_c (n := R.length) hS (by omega)) ?_
        clear hS; rintro e w ⟨A5, s5, y5, A6, s6, y6, rfl, hS⟩
        unfold Pnd.value
        refine ⟨_, rfl, hS.tail.left (C := [_]), ?_⟩; clear hF; intro a hF
        refine d_pu hD hF rfl rfl rfl rfl rfl (pu_fagg fv35_0 (hF.ev rfl) rfl) ?_; clear hF; intro a hF
        refine l_en hD hF rfl rfl rfl rfl rfl (run_fn fk15 (hF.ev rfl) (hF.evs rfl)) (at_place 3 hS rfl (fun h => has_c (T := tabS m to fo (R.length + 1) LA WB PB now (last + 1)) (q := (req R.length).key) h)) ?_
        clear hS; rintro e w ⟨rfl, hS⟩
        refine ⟨_, rfl, ?_⟩; clear hF; intro a hF
        refine d_pu hD hF rfl rfl rfl rfl rfl ((by exact pu_pick_t (hF.ev rfl) (hF.ev rfl))) ?_; clear hF; intro a hF
        refine d_pu hD hF rfl rfl rfl rfl rfl (pu_assign (hF.ev rfl)) ?_; clear hF; intro a hF
        refine d_done hD rfl ?_; clear hD
        refine hK10 _ _ ?_; clear hK10
        refine wp_ret ?_
        refine fin1 Try.results17 hF rfl ?_
        refine ⟨by rw [hkey], R ++ [⟨now, 0, false⟩], WB, PB, last + 1, ⟨h.c, by simpa using hok, by rw [hWB]; exact h.rel.add⟩, by simp, ?_⟩
        have e1 : ((WB.length : Nat) : Int) = (WA.length : Int) + 1 := by rw [hWB]; simp
        have e2 : (R ++ [(⟨now, 0, false⟩ : Fate)]).length = R.length + 1 := by simp
        replace hS := (hS.drop 1).sel [1, 1]
        simp only [selR, nth, del] at hS
        rw [← e2, ← e1] at hS
        exact w_shut hS
  · -- fu
    refine d_start (S := (fun w => Sat w0 w [_])) (ds := [6]) (ord := [(0, .pu), (1, .pu), (2, .pu), (3, .tk), (4, .pu), (5, .on), (6, .ls), (7, .pu)]) mixed ⟨by kernel_rfl, fun _ d _ _ _ h => by cases d <;> exact h⟩ (hS.left (C := [_])).drew fun hD => ?_
    replace hS := hS.drew; generalize w.drew = w at hS ⊢
    refine d_pu hD hF rfl rfl rfl rfl rfl (pu_move (hF.ev rfl)) ?_; clear hF; intro a hF
    refine d_pu hD hF rfl rfl rfl rfl rfl ((by exact pu_nil (hF.ev rfl))) ?_; clear hF; intro a hF
    refine d_pu hD hF rfl rfl rfl rfl rfl ((by exact pu_field fd52_0 (hF.ev rfl))) ?_; clear hF; intro a hF
    refine d_rd hD hF rfl rfl rfl rfl rfl (hS.left (C := [_])) (fun w hS => (by exact rd_load pl24 (hF.ev rfl) (hS.cellL (i := 0) rfl rfl))) ?_; clear hF; intro a hF
    refine d_pu hD hF rfl rfl rfl rfl rfl (pu_move (hF.ev rfl)) ?_; clear hF; intro a hF
    refine d_en hD hF rfl rfl rfl rfl rfl (run_fn fk10 (hF.ev rfl) (hF.evs rfl)) (request_c (n := R.length) hS (by omega)) ?_
    clear hS; rintro e w ⟨A1, s1, y1, A2, s2, y2, rfl, hS⟩
    refine ⟨_, rfl, hS.tail.left (C := [_]), ?_⟩; clear hF; intro a hF
    refine l_en hD hF rfl rfl rfl rfl rfl (run_fn fk9 (hF.ev rfl) (hF.evs rfl)) (at_place 3 hS rfl (fun h => add_full (T := tabS m to fo R.length LA WA P now last) (v1 := 0) (v2 := 0) h hk hm (by rw [hwl]; simp only [tabS]; omega))) ?_
    clear hS; rintro e w ⟨rfl, hS⟩
    refine ⟨_, rfl, ?_⟩; clear hF; intro a hF
    refine d_pu hD hF rfl rfl rfl rfl rfl (pu_assign (hF.ev rfl)) ?_; clear hF; intro a hF
    refine d_done hD rfl ?_; clear hD
    refine hK2 _ _ ?_; clear hK2
    refine wp_seq_k fun K3 hK3 => ?_
    refine wp_seq_k fun K4 hK4 => ?_
    refine d_start (S := (fun w => Sat w0 w _)) (ds := []) (ord := [(0, .pu), (1, .pu), (2, .pu), (3, .tk), (4, .pu), (5, .pu), (6, .pu), (7, .tk), (8, .pu)]) mixed ⟨by kernel_rfl, fun _ d _ _ _ h => by cases d <;> exact h⟩ hS.drew fun hD => ?_
    replace hS := hS.drew; generalize w.drew = w at hS ⊢
    refine d_pu hD hF rfl rfl rfl rfl rfl (pu_move (hF.ev rfl)) ?_; clear hF; intro a hF
    refine d_pu hD hF rfl rfl rfl rfl rfl ((by exact pu_nil (hF.ev rfl))) ?_; clear hF; intro a hF
    refine d_pu hD hF rfl rfl rfl rfl rfl ((by exact pu_field fd52_3 (hF.ev rfl))) ?_; clear hF; intro a hF
    refine d_rd hD hF rfl rfl rfl rfl rfl hS (fun w hS => (by exact rd_load pl3 (hF.ev rfl) (hS.cellL (i := 2) rfl rfl))) ?_; clear hF; intro a hF
    refine d_pu hD hF rfl rfl rfl rfl rfl (pu_move (hF.ev rfl)) ?_; clear hF; intro a hF
    refine d_pu hD hF rfl rfl rfl rfl rfl ((by exact pu_nil (hF.ev rfl))) ?_; clear hF; intro a hF
    refine d_pu hD hF rfl rfl rfl rfl rfl ((by exact pu_field fd52_5 (hF.ev rfl))) ?_; clear hF; intro a hF
    refine d_rd hD hF rfl rfl rfl rfl rfl hS (fun w hS => (by exact rd_load pl3 (hF.ev rfl) (hS.cellL (i := 2) rfl rfl))) ?_; clear hF; intro a hF
    refine d_pu hD hF rfl rfl rfl rfl rfl (pu_eql (hF.ev rfl) (hF.ev rfl)) ?_; clear hF; intro a hF
    refine d_done hD rfl ?_; clear hD
    refine hK4 _ _ ?_; clear hK4
    refine wp_cond_split (hF.ev rfl) (fun hc0 => ?_) (fun hc0 => ?_)
    · -- cond 0 true
      try simp only [decide_eq_true_eq, decide_eq_false_iff_not, Bool.not_eq_true', Bool.not_eq_false', Int.not_lt, Int.not_le, ne_eq, Decidable.not_not, Bool.or_eq_true, Bool.or_eq_false_iff, Bool.and_eq_true, Bool.and_eq_false_imp] at hc0
      refine wp_seq_k fun K5 hK5 => ?_
      refine wp_region_lit ?_
      refine s_pu hF rfl rfl rfl (pu_move (hF.ev rfl)) ?_; clear hF; intro a hF
      refine s_pu hF rfl rfl rfl (pu_eql (hF.ev rfl) (hF.ev rfl)) ?_; clear hF; intro a hF
      refine s_pu hF rfl rfl rfl (pu_assign (hF.ev rfl)) ?_; clear hF; intro a hF
      refine s_done ?_
      refine hK5 _ _ ?_; clear hK5
      refine wp_ret ?_
      refine then_ret ?_
      refine fin1 Try.results17 hF rfl ?_
      exact ⟨by simp, R, WA, P, last, h, by omega, w_shut ((hS.drop 1).sel [1, 1])⟩
    · -- cond 0 false
      try simp only [decide_eq_true_eq, decide_eq_false_iff_not, Bool.not_eq_true', Bool.not_eq_false', Int.not_lt, Int.not_le, ne_eq, Decidable.not_not, Bool.or_eq_true, Bool.or_eq_false_iff, Bool.and_eq_true, Bool.and_eq_false_imp] at hc0
      omega
end
end Go.Proofs.Ytbfdebddoncfhaa
