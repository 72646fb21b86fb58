import Derived.Test.YtbpkfifiigpdcaaWs7
import Derived.Test.YtbpkfifiigpdcaaSk31
/-! The book of lists that came out. -/
namespace Go.Proofs.Ytbpkfifiigpdcaa
open Go Go.RowKit Go.Proofs.Ytbpkfifiigpdcaa.Sk
set_option linter.unusedVariables false
set_option linter.unusedSimpArgs false
set_option maxRecDepth 100000

theorem ints_len {zs : List Int} : (ints zs).length = zs.length := by unfold ints; simp
theorem ints_at {zs : List Int} {i : Nat} (h : i < zs.length) : (ints zs)[i]? = some (.int .i64 (zs.getD i 0)) := by
  unfold ints
  simp [List.getD_eq_getElem?_getD, h]
def lst (v : Value) (zs : List Int) : Lst := ⟨v, zs.length, ints zs⟩
/-- The book at b: the lists fs, and what they said, ws. -/
def bkC (b : Nat) (fs ws : List Lst) : Chunk := exC fun vf => exC fun vw => star [.obj b (.cells #[vf, vw] 47), rowC 22 1 vf fs.length (fs.map Lst.v), rowC 22 1 vw ws.length (ws.map Lst.v), LR 3 1 fs, LR 3 1 ws]
theorem bk_open {w0 w : World} {C : List Chunk} {b : Nat} {fs ws : List Lst} (h : Sat w0 w (bkC b fs ws :: C)) : ∃ Af cf Aw cw,
    Sat w0 w (.obj b (.cells #[.slice Af fs.length cf, .slice Aw ws.length cw] 47) :: rowC 22 1 (.slice Af fs.length cf) fs.length (fs.map Lst.v) :: rowC 22 1 (.slice Aw ws.length cw) ws.length (ws.map Lst.v) :: LR 3 1 fs :: LR 3 1 ws :: C) := by
  obtain ⟨vf, h⟩ := sat_ex.1 h
  obtain ⟨vw, h⟩ := sat_ex.1 h
  replace h := sat_star.1 h
  obtain ⟨Af, cf, rfl, _⟩ := row_val (h.front 1 rfl)
  obtain ⟨Aw, cw, rfl, _⟩ := row_val (h.front 2 rfl)
  exact ⟨Af, cf, Aw, cw, h⟩
theorem bk_shut {w0 w : World} {C : List Chunk} {b : Nat} {fs ws : List Lst} {vf vw : Value}
    (h : Sat w0 w (.obj b (.cells #[vf, vw] 47) :: rowC 22 1 vf fs.length (fs.map Lst.v) :: rowC 22 1 vw ws.length (ws.map Lst.v) :: LR 3 1 fs :: LR 3 1 ws :: C)) : Sat w0 w (bkC b fs ws :: C) :=
  sat_ex.2 ⟨vf, sat_ex.2 ⟨vw, sat_star.2 h⟩⟩
theorem same_c {w0 w : World} {C : List Chunk} {A B : Option Addr} {n c d : Nat} {zs : List Int} (hS : Sat w0 w C) (h1 : Reads w0 C A n zs) (h2 : Reads w0 C B n zs) (hn : n ≤ 140737488355328) :
    Calls Try.prog 30 #[.slice A n c, .slice B n d] w fun e w' => e = .returned (.bool true) ∧ Sat w0 w' C := by
  refine enter Try.func30 rfl Try.ntmps30 (Nat.le_of_ble_eq_true rfl) fun a hF => ?_
  refine wp_seq_k fun K0 hK0 => ?_
  refine wp_region_lit ?_
  refine s_pu hF rfl rfl rfl (pu_assign (hF.ev rfl)) ?_; clear hF; intro a hF
  refine s_done ?_
  refine hK0 _ _ ?_; clear hK0
  refine wp_seq_k fun K1 hK1 => ?_
  refine wp_seq_k fun K2 hK2 => ?_
  refine wp_region_lit ?_
  refine s_pu hF rfl rfl rfl (pu_move (hF.ev rfl)) ?_; clear hF; intro a hF
  refine s_pu hF rfl rfl rfl (pu_len sl22 (hF.ev rfl)) ?_; clear hF; intro a hF
  refine s_pu hF rfl rfl rfl (pu_move (hF.ev rfl)) ?_; clear hF; intro a hF
  refine s_pu hF rfl rfl rfl (pu_len sl22 (hF.ev rfl)) ?_; clear hF; intro a hF
  refine s_pu hF rfl rfl rfl (pu_neq (hF.ev rfl) (hF.ev rfl)) ?_; clear hF; intro a hF
  refine s_done ?_
  refine hK2 _ _ ?_; clear hK2
  refine wp_cond_split (hF.ev rfl) (fun hc0 => ?_) (fun hc0 => ?_)
  · -- cond 0 true
    try simp only [decide_eq_true_eq, decide_eq_false_iff_not, Bool.not_eq_true', Bool.not_eq_false', Int.not_lt, Int.not_le, ne_eq, Decidable.not_not, Bool.or_eq_true, Bool.or_eq_false_iff, Bool.and_eq_true, Bool.and_eq_false_imp] at hc0
    exact absurd trivial hc0
  · -- cond 0 false
    try simp only [decide_eq_true_eq, decide_eq_false_iff_not, Bool.not_eq_true', Bool.not_eq_false', Int.not_lt, Int.not_le, ne_eq, Decidable.not_not, Bool.or_eq_true, Bool.or_eq_false_iff, Bool.and_eq_true, Bool.and_eq_false_imp] at hc0
    refine wp_skip ?_
    refine hK1 _ _ ?_; clear hK1
    refine wp_seq_k fun K3 hK3 => ?_
    refine wp_seq_k fun K4 hK4 => ?_
    refine wp_region_lit ?_
    refine s_pu hF rfl rfl rfl (pu_assign (hF.ev rfl)) ?_; clear hF; intro a hF
    refine s_done ?_
    refine hK4 _ _ ?_; clear hK4
    refine wp_block ?_
    refine wp_ind (fun j a w => ∃ (i : Nat), j = n - i ∧ i ≤ n ∧ Fr a 26 [(0, .slice A n c), (1, .slice B n d), (5, .int .i64 i)] ∧ Sat w0 w C) n
      ⟨0, by omega, by omega, hF.sub ⟨rfl, rfl, rfl, trivial⟩, hS⟩ ?_
    clear hS hF
    rintro j a w ⟨i, rfl, hi, hF, hS⟩
    refine wp_seq_k fun K5 hK5 => ?_
    refine wp_seq_k fun K6 hK6 => ?_
    refine wp_region_lit ?_
    refine s_pu hF rfl rfl rfl (pu_move (hF.ev rfl)) ?_; clear hF; intro a hF
    refine s_pu hF rfl rfl rfl (pu_move (hF.ev rfl)) ?_; clear hF; intro a hF
    refine s_pu hF rfl rfl rfl (pu_len sl22 (hF.ev rfl)) ?_; clear hF; intro a hF
    refine s_pu hF rfl rfl rfl (pu_lss (hF.ev rfl) (hF.ev rfl)) ?_; clear hF; intro a hF
    refine s_done ?_
    refine hK6 _ _ ?_; clear hK6
    refine wp_cond_split (hF.ev rfl) (fun hc1 => ?_) (fun hc1 => ?_)
    · -- cond 1 true
      try simp only [decide_eq_true_eq, decide_eq_false_iff_not, Bool.not_eq_true', Bool.not_eq_false', Int.not_lt, Int.not_le, ne_eq, Decidable.not_not, Bool.or_eq_true, Bool.or_eq_false_iff, Bool.and_eq_true, Bool.and_eq_false_imp] at hc1
      have hin : i < n := by omega
      obtain ⟨x, rfl, hv⟩ := h1.at_ i hin
      obtain ⟨y, rfl, hu⟩ := h2.at_ i hin
      refine wp_skip ?_
      refine hK5 _ _ ?_; clear hK5
      refine wp_seq_k fun K7 hK7 => ?_
      refine wp_block ?_
      refine wp_seq_k fun K8 hK8 => ?_
      refine d_start (S := (fun w => Sat w0 w _)) (ds := []) (ord := [(0, .pu), (1, .pu), (2, .pu), (3, .tk), (4, .pu), (5, .pu), (6, .pu), (7, .tk), (8, .pu)]) mixed ⟨by kernel_rfl, fun _ d _ _ _ h => by cases d <;> exact h⟩ hS.drew fun hD => ?_
      replace hS := hS.drew; generalize w.drew = w at hS ⊢
      refine d_pu hD hF rfl rfl rfl rfl rfl (pu_move (hF.ev rfl)) ?_; clear hF; intro a hF
      refine d_pu hD hF rfl rfl rfl rfl rfl (pu_move (hF.ev rfl)) ?_; clear hF; intro a hF
      refine d_pu hD hF rfl rfl rfl rfl rfl ((by exact pu_elemA sl22 (hF.ev rfl) (hF.ev rfl) (by omega) (by omega))) ?_; clear hF; intro a hF
      refine d_rd hD hF rfl rfl rfl rfl rfl hS (fun w hS => rd_load pl3 (hF.ev rfl) (hv w hS)) ?_; clear hF; intro a hF
      refine d_pu hD hF rfl rfl rfl rfl rfl (pu_move (hF.ev rfl)) ?_; clear hF; intro a hF
      refine d_pu hD hF rfl rfl rfl rfl rfl (pu_move (hF.ev rfl)) ?_; clear hF; intro a hF
      refine d_pu hD hF rfl rfl rfl rfl rfl ((by exact pu_elemA sl22 (hF.ev rfl) (hF.ev rfl) (by omega) (by omega))) ?_; clear hF; intro a hF
      refine d_rd hD hF rfl rfl rfl rfl rfl hS (fun w hS => rd_load pl3 (hF.ev rfl) (hu w hS)) ?_; clear hF; intro a hF
      refine d_pu hD hF rfl rfl rfl rfl rfl (pu_neq (hF.ev rfl) (hF.ev rfl)) ?_; clear hF; intro a hF
      refine d_done hD rfl ?_; clear hD
      refine hK8 _ _ ?_; clear hK8
      refine wp_cond_split (hF.ev rfl) (fun hc2 => ?_) (fun hc2 => ?_)
      · -- cond 2 true
        try simp only [decide_eq_true_eq, decide_eq_false_iff_not, Bool.not_eq_true', Bool.not_eq_false', Int.not_lt, Int.not_le, ne_eq, Decidable.not_not, Bool.or_eq_true, Bool.or_eq_false_iff, Bool.and_eq_true, Bool.and_eq_false_imp] at hc2
        exact absurd trivial hc2
      · -- cond 2 false
        try simp only [decide_eq_true_eq, decide_eq_false_iff_not, Bool.not_eq_true', Bool.not_eq_false', Int.not_lt, Int.not_le, ne_eq, Decidable.not_not, Bool.or_eq_true, Bool.or_eq_false_iff, Bool.and_eq_true, Bool.and_eq_false_imp] at hc2
        refine wp_skip ?_
        refine blk_normal ?_
        refine hK7 _ _ ?_; clear hK7
        refine wp_region_lit ?_
        refine s_pu hF rfl rfl rfl (pu_move (hF.ev rfl)) ?_; clear hF; intro a hF
        refine s_pu hF rfl rfl rfl ((by exact pu_add64 (hF.ev rfl) (hF.ev rfl) (by omega))) ?_; clear hF; intro a hF
        refine s_pu hF rfl rfl rfl (pu_assign (hF.ev rfl)) ?_; clear hF; intro a hF
        refine s_done ?_
        exact ⟨_, by omega, i + 1, rfl, by omega, hF.sub ⟨rfl, rfl, rfl, trivial⟩, hS⟩
    · -- cond 1 false
      try simp only [decide_eq_true_eq, decide_eq_false_iff_not, Bool.not_eq_true', Bool.not_eq_false', Int.not_lt, Int.not_le, ne_eq, Decidable.not_not, Bool.or_eq_true, Bool.or_eq_false_iff, Bool.and_eq_true, Bool.and_eq_false_imp] at hc1
      refine wp_exit ?_
      refine then_exit ?_
      refine then_exit ?_
      refine blk_exit ?_
      refine hK3 _ _ ?_; clear hK3
      refine wp_seq_k fun K7 hK7 => ?_
      refine wp_region_lit ?_
      refine s_pu hF rfl rfl rfl (pu_assign (hF.ev rfl)) ?_; clear hF; intro a hF
      refine s_done ?_
      refine hK7 _ _ ?_; clear hK7
      refine wp_ret ?_
      refine fin1 Try.results30 hF rfl ?_
      exact ⟨rfl, hS⟩
theorem rd_lst {i : Nat} {w0 w : World} {F : List Chunk} {A : Option Addr} {c : Nat} {zs : List Int} (hS : Sat w0 w F) (hi : nth F i = some (rowC 3 1 (.slice A zs.length c) zs.length (ints zs))) : Reads w0 F A zs.length zs :=
  .of_row i hi (fun k hk => ints_at hk) rfl (fun h => row_some (i := i) hS hi (by omega))
theorem reads_up {w0 : World} {C D : List Chunk} {a : Option Addr} {n : Nat} {zs : List Int} (h : Reads w0 C a n zs) (hs : ∀ w, Sat w0 w D → Sat w0 w C) : Reads w0 D a n zs :=
  ⟨h.long, fun i hi => by obtain ⟨x, e, hv⟩ := h.at_ i hi; exact ⟨x, e, fun w hw => hv w (hs w hw)⟩⟩
theorem rd_LR {i j : Nat} {w0 w : World} {F : List Chunk} {fs : List Lst} {A : Option Addr} {c : Nat} {zs : List Int} (hS : Sat w0 w F) (hi : nth F i = some (LR 3 1 fs)) (hj : fs[j]? = some (lst (.slice A zs.length c) zs)) : Reads w0 F A zs.length zs := by
  have h := lr_out (hS.front i hi) hj
  have hr := rd_lst (i := 0) (zs := zs) h rfl
  exact reads_up hr fun w h => lr_out (h.front i hi) hj
theorem takes_c {w0 w : World} {C : List Chunk} {b : Nat} {fs ws : List Lst} {A B : Option Addr} {c d : Nat} {zs : List Int} (hS : Sat w0 w (bkC b fs ws :: lRow 3 1 (lst (.slice A zs.length c) zs) :: lRow 3 1 (lst (.slice B zs.length d) zs) :: C)) (hm : zs.length ≤ 140737488355328)
    (hf : (fs.length + 1) * 24 ≤ 140737488355328) (hw : (ws.length + 1) * 24 ≤ 140737488355328) :
    Calls Try.prog 42 #[.pointer (some ⟨b, 0, none⟩), .slice A zs.length c, .slice B zs.length d] w fun e w' => e = .returned (.bool true) ∧ Sat w0 w' (bkC b (fs ++ [lst (.slice A zs.length c) zs]) (ws ++ [lst (.slice B zs.length d) zs]) :: C) := by
  obtain ⟨Af, cf, Aw, cw, hS⟩ := bk_open hS
  unfold lRow lst at hS
  simp only at hS
  refine enter Try.func42 rfl Try.ntmps42 (Nat.le_of_ble_eq_true rfl) fun a hF => ?_
  refine wp_seq_k fun K0 hK0 => ?_
  refine wp_region_lit ?_
  refine s_pu hF rfl rfl rfl (pu_assign (hF.ev rfl)) ?_; clear hF; intro a hF
  refine s_done ?_
  refine hK0 _ _ ?_; clear hK0
  refine wp_seq_k fun K1 hK1 => ?_
  refine wp_region_lit ?_
  refine s_pu hF rfl rfl rfl (pu_move (hF.ev rfl)) ?_; clear hF; intro a hF
  refine s_pu hF rfl rfl rfl (pu_move (hF.ev rfl)) ?_; clear hF; intro a hF
  refine s_pu hF rfl rfl rfl ((by exact pu_nil (hF.ev rfl))) ?_; clear hF; intro a hF
  refine s_pu hF rfl rfl rfl ((by exact pu_field fd47_0 (hF.ev rfl))) ?_; clear hF; intro a hF
  refine s_rd hF rfl rfl rfl (by exact rd_load pl45 (hF.ev rfl) (hS.cellL (i := 0) rfl rfl)) ?_; clear hF; intro a hF
  refine s_pu hF rfl rfl rfl (pu_move (hF.ev rfl)) ?_; clear hF; intro a hF
  refine s_news hF rfl rfl rfl (ef_lit1 (cs := [_]) sl45 ze22 rfl (hF.ev rfl) (by rfl) rfl (by omega) (by omega)) hS ?_; clear hF hS; intro b13 w hS a hF
  (((refine s_append 2 0 hF rfl rfl sl45 el22 (hF.ev rfl) (hF.ev rfl) hS rfl rfl rfl (by rfl) (by unfold maxLen; omega) (by omega) ?_))); (clear hS hF; intro A14 q14 w hS a hF; (try simp only [upd, del] at hS))
  refine s_pu hF rfl rfl rfl ((by exact pu_nil (hF.ev rfl))) ?_; clear hF; intro a hF
  refine s_pu hF rfl rfl rfl ((by exact pu_field fd47_0 (hF.ev rfl))) ?_; clear hF; intro a hF
  ((refine s_store (vs := [_]) (cs' := #[_, _]) 2 hF rfl (hF.ev rfl) (hF.ev rfl) hS rfl rfl sz45 (by rfl) (by exact Nat.le_of_ble_eq_true rfl) rfl ?_))
  clear hS; intro w hS; (try simp only [upd, del] at hS)
  refine s_done ?_
  refine hK1 _ _ ?_; clear hK1
  refine wp_seq_k fun K2 hK2 => ?_
  refine wp_region_lit ?_
  refine s_pu hF rfl rfl rfl (pu_move (hF.ev rfl)) ?_; clear hF; intro a hF
  refine s_pu hF rfl rfl rfl (pu_move (hF.ev rfl)) ?_; clear hF; intro a hF
  refine s_pu hF rfl rfl rfl ((by exact pu_nil (hF.ev rfl))) ?_; clear hF; intro a hF
  refine s_pu hF rfl rfl rfl ((by exact pu_field fd47_1 (hF.ev rfl))) ?_; clear hF; intro a hF
  refine s_rd hF rfl rfl rfl (by exact rd_load pl45 (hF.ev rfl) (hS.cellL (i := 2) rfl rfl)) ?_; clear hF; intro a hF
  refine s_pu hF rfl rfl rfl (pu_move (hF.ev rfl)) ?_; clear hF; intro a hF
  refine s_news hF rfl rfl rfl (ef_lit1 (cs := [_]) sl45 ze22 rfl (hF.ev rfl) (by rfl) rfl (by omega) (by omega)) hS ?_; clear hF hS; intro b23 w hS a hF
  (((refine s_append 4 0 hF rfl rfl sl45 el22 (hF.ev rfl) (hF.ev rfl) hS rfl rfl rfl (by rfl) (by unfold maxLen; omega) (by omega) ?_))); (clear hS hF; intro A24 q24 w hS a hF; (try simp only [upd, del] at hS))
  refine s_pu hF rfl rfl rfl ((by exact pu_nil (hF.ev rfl))) ?_; clear hF; intro a hF
  refine s_pu hF rfl rfl rfl ((by exact pu_field fd47_1 (hF.ev rfl))) ?_; clear hF; intro a hF
  ((refine s_store (vs := [_]) (cs' := #[_, _]) 4 hF rfl (hF.ev rfl) (hF.ev rfl) hS rfl rfl sz45 (by rfl) (by exact Nat.le_of_ble_eq_true rfl) rfl ?_))
  clear hS; intro w hS; (try simp only [upd, del] at hS)
  refine s_done ?_
  refine hK2 _ _ ?_; clear hK2
  refine wp_seq_k fun K3 hK3 => ?_
  refine wp_region_lit ?_
  refine s_pu hF rfl rfl rfl (pu_move (hF.ev rfl)) ?_; clear hF; intro a hF
  refine s_pu hF rfl rfl rfl (pu_move (hF.ev rfl)) ?_; clear hF; intro a hF
  replace hS := ((hS.drop 3).drop 1).sel [5, 5]
  simp only [selR, nth, del] at hS
  refine s_en hF rfl rfl rfl (run_fn fk30 (hF.ev rfl) (hF.evs rfl)) (same_c hS (rd_lst (i := 0) hS rfl) (rd_lst (i := 1) hS rfl) (by omega)) ?_
  clear hS; rintro e w ⟨rfl, hS⟩
  refine ⟨_, rfl, ?_⟩; clear hF; intro a hF
  refine s_pu hF rfl rfl rfl (pu_assign (hF.ev rfl)) ?_; clear hF; intro a hF
  refine s_done ?_
  refine hK3 _ _ ?_; clear hK3
  refine wp_ret ?_
  refine fin1 Try.results42 hF rfl ?_
  have h1 := lr_snoc (p := ⟨.slice A zs.length c, zs.length, ints zs⟩) (hS.sel [0, 4])
  have h2 := lr_snoc (p := ⟨.slice B zs.length d, zs.length, ints zs⟩) (h1.sel [1, 4])
  refine ⟨rfl, bk_shut (vf := .slice A14 (fs.length + 1) q14) (vw := .slice A24 (ws.length + 1) q24) ?_⟩
  rw [List.map_append, List.map_append, List.length_append, List.length_append]
  exact h2.sel [4, 3, 2, 1, 0]
end Go.Proofs.Ytbpkfifiigpdcaa
