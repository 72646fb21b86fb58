import Derived.Test.YtbfdebddoncfhaaWh3
/-! The wheel: Cancel, New. -/
namespace Go.Proofs.Ytbfdebddoncfhaa
open Go Go.RowKit Go.Proofs.Ytbfdebddoncfhaa.Sk
set_option linter.unusedVariables false
set_option linter.unusedSimpArgs false
set_option maxRecDepth 100000

theorem meant_ct_i (w0 : World) (b : Nat) (t : Int) : Meant w0 50 #[.pointer (some ⟨b, 0, none⟩)] (.obj b (.cells #[.int .i64 t] 3 (0, 0))) (fun e => decide (e.timer = t)) where
  fn := fk50
  run := by
    intro w C e hS
    show Calls Try.prog 50 #[.agg #[.int .i64 e.timer, .int .i64 e.at_, e.v], .pointer (some ⟨b, 0, none⟩)] w _
    refine enter Try.func50 rfl Try.ntmps50 (Nat.le_of_ble_eq_true rfl) fun a hF => ?_
    refine wp_seq_k fun K0 hK0 => ?_
    refine wp_region_lit ?_
    refine s_newp hF rfl rfl rfl (ef_box (cs := #[_, _, _]) (hF.ev rfl) rfl) hS ?_; clear hF hS; intro b2 w hS a hF
    refine s_pu hF rfl rfl rfl (pu_assign (hF.ev rfl)) ?_; clear hF; intro a hF
    refine s_done ?_
    refine hK0 _ _ ?_; clear hK0
    refine wp_seq_k fun K1 hK1 => ?_
    refine wp_region_lit ?_
    refine s_pu hF rfl rfl rfl ((by exact pu_field fd126_0 (hF.ev rfl))) ?_; clear hF; intro a hF
    refine s_rd hF rfl rfl rfl (by exact rd_load pl3 (hF.ev rfl) (hS.cellL (i := 0) rfl rfl)) ?_; clear hF; intro a hF
    refine s_rd hF rfl rfl rfl (by exact rd_load pl3 (hF.ev rfl) (hS.cellL (i := 1) rfl rfl)) ?_; clear hF; intro a hF
    refine s_pu hF rfl rfl rfl (pu_eql (hF.ev rfl) (hF.ev rfl)) ?_; clear hF; intro a hF
    refine s_pu hF rfl rfl rfl (pu_assign (hF.ev rfl)) ?_; clear hF; intro a hF
    refine s_done ?_
    refine hK1 _ _ ?_; clear hK1
    refine wp_ret ?_
    refine fin1 Try.results50 hF rfl ?_
    exact ⟨rfl, hS.tail⟩
theorem meant_tk_i (w0 : World) (b : Nat) (t : Int) : Meant w0 52 #[.pointer (some ⟨b, 0, none⟩)] (.obj b (.cells #[.int .i64 t] 3 (0, 0))) (fun e => decide (e.at_ = t)) where
  fn := fk52
  run := by
    intro w C e hS
    show Calls Try.prog 52 #[.agg #[.int .i64 e.timer, .int .i64 e.at_, e.v], .pointer (some ⟨b, 0, none⟩)] w _
    refine enter Try.func52 rfl Try.ntmps52 (Nat.le_of_ble_eq_true rfl) fun a hF => ?_
    refine wp_seq_k fun K0 hK0 => ?_
    refine wp_region_lit ?_
    refine s_newp hF rfl rfl rfl (ef_box (cs := #[_, _, _]) (hF.ev rfl) rfl) hS ?_; clear hF hS; intro b2 w hS a hF
    refine s_pu hF rfl rfl rfl (pu_assign (hF.ev rfl)) ?_; clear hF; intro a hF
    refine s_done ?_
    refine hK0 _ _ ?_; clear hK0
    refine wp_seq_k fun K1 hK1 => ?_
    refine wp_region_lit ?_
    refine s_pu hF rfl rfl rfl ((by exact pu_field fd126_1 (hF.ev rfl))) ?_; clear hF; intro a hF
    refine s_rd hF rfl rfl rfl (by exact rd_load pl3 (hF.ev rfl) (hS.cellL (i := 0) rfl rfl)) ?_; clear hF; intro a hF
    refine s_rd hF rfl rfl rfl (by exact rd_load pl3 (hF.ev rfl) (hS.cellL (i := 1) rfl rfl)) ?_; clear hF; intro a hF
    refine s_pu hF rfl rfl rfl (pu_eql (hF.ev rfl) (hF.ev rfl)) ?_; clear hF; intro a hF
    refine s_pu hF rfl rfl rfl (pu_assign (hF.ev rfl)) ?_; clear hF; intro a hF
    refine s_done ?_
    refine hK1 _ _ ?_; clear hK1
    refine wp_ret ?_
    refine fin1 Try.results52 hF rfl ?_
    exact ⟨rfl, hS.tail⟩

theorem cancel_no_i {w0 w : World} {g : Nat} {W : Whl} {F : List Chunk} {t : Int} (hS : Sat w0 w (wheelC 123 124 126 g W :: F)) (hm : mGet W.ticks t = none) :
    Calls Try.prog 33 #[.pointer (some ⟨g, 0, none⟩), .int .i64 t] w fun e w' => e = .returned (.tuple #[(.int .i64 0), .int .i64 170]) ∧ Sat w0 w' (wheelC 123 124 126 g W :: F) := by
  rw [wheel_open] at hS; obtain ⟨s, m, hs, hl, hS⟩ := hS
  refine enter Try.func33 rfl Try.ntmps33 (Nat.le_of_ble_eq_true rfl) fun a hF => ?_
  refine wp_seq_k fun K0 hK0 => ?_
  refine wp_region_lit ?_
  refine s_newp hF rfl rfl rfl (ef_box (cs := #[_]) (hF.ev rfl) rfl) hS ?_; clear hF hS; intro b3 w hS a hF
  refine s_pu hF rfl rfl rfl (pu_assign (hF.ev rfl)) ?_; clear hF; intro a hF
  refine s_pu hF rfl rfl rfl (pu_assign (hF.ev rfl)) ?_; clear hF; intro a hF
  refine s_done ?_
  refine hK0 _ _ ?_; clear hK0
  refine wp_seq_k fun K1 hK1 => ?_
  refine d_start (S := (fun w => Sat w0 w _)) (ds := []) (ord := [(0, .pu), (1, .pu), (2, .pu), (3, .tk), (4, .tk), (5, .tk), (6, .pu), (7, .pu), (8, .pu), (9, .pu), (10, .pu)]) mixed ⟨by kernel_rfl, fun _ d _ _ _ h => by cases d <;> exact h⟩ hS.drew fun hD => ?_
  replace hS := hS.drew; generalize w.drew = w at hS ⊢
  refine d_pu hD hF rfl rfl rfl rfl rfl (pu_move (hF.ev rfl)) ?_; clear hF; intro a hF
  refine d_pu hD hF rfl rfl rfl rfl rfl ((by exact pu_nil (hF.ev rfl))) ?_; clear hF; intro a hF
  refine d_pu hD hF rfl rfl rfl rfl rfl ((by exact pu_field fd123_1 (hF.ev rfl))) ?_; clear hF; intro a hF
  refine d_rd hD hF rfl rfl rfl rfl rfl hS (fun w hS => (by exact rd_load pl121 (hF.ev rfl) (hS.cellL (i := 1) rfl rfl))) ?_; clear hF; intro a hF
  refine d_rd hD hF rfl rfl rfl rfl rfl hS (fun w hS => (by exact rd_load pl3 (hF.ev rfl) (hS.cellL (i := 0) rfl rfl))) ?_; clear hF; intro a hF
  refine d_rd hD hF rfl rfl rfl rfl rfl hS (fun w hS => (by exact rd_look_n 2 (int_keys Try.underlying3) Try.underlying121 ze3 (hF.ev rfl) (hF.ev rfl) hS rfl (by assumption))) ?_; clear hF; intro a hF
  refine d_pu hD hF rfl rfl rfl rfl rfl (pu_move (hF.ev rfl)) ?_; clear hF; intro a hF
  refine d_pu hD hF rfl rfl rfl rfl rfl (pu_extract (hF.ev rfl) rfl) ?_; clear hF; intro a hF
  refine d_pu hD hF rfl rfl rfl rfl rfl (pu_extract (hF.ev rfl) rfl) ?_; clear hF; intro a hF
  refine d_pu hD hF rfl rfl rfl rfl rfl (pu_assign (hF.ev rfl)) ?_; clear hF; intro a hF
  refine d_pu hD hF rfl rfl rfl rfl rfl (pu_assign (hF.ev rfl)) ?_; clear hF; intro a hF
  refine d_done hD rfl ?_; clear hD
  refine hK1 _ _ ?_; clear hK1
  refine wp_seq_k fun K2 hK2 => ?_
  refine wp_seq_k fun K3 hK3 => ?_
  refine wp_region_lit ?_
  refine s_pu hF rfl rfl rfl (pu_move (hF.ev rfl)) ?_; clear hF; intro a hF
  refine s_pu hF rfl rfl rfl (pu_not (hF.ev rfl)) ?_; clear hF; intro a hF
  refine s_done ?_
  refine hK3 _ _ ?_; clear hK3
  refine wp_cond_true (hF.ev rfl) ?_
  refine wp_seq_k fun K4 hK4 => ?_
  refine wp_region_lit ?_
  refine s_pu hF rfl rfl rfl (pu_assign (hF.ev rfl)) ?_; clear hF; intro a hF
  refine s_done ?_
  refine hK4 _ _ ?_; clear hK4
  refine wp_seq_k fun K5 hK5 => ?_
  refine wp_region_lit ?_
  refine s_pu hF rfl rfl rfl (pu_move (hF.ev rfl)) ?_; clear hF; intro a hF
  refine s_pu hF rfl rfl rfl (pu_assign (hF.ev rfl)) ?_; clear hF; intro a hF
  refine s_pu hF rfl rfl rfl (pu_assign (hF.ev rfl)) ?_; clear hF; intro a hF
  refine s_done ?_
  refine hK5 _ _ ?_; clear hK5
  refine wp_ret ?_
  refine then_ret ?_
  refine fin2 Try.results33 hF rfl rfl ?_
  exact ⟨rfl, wheel_open.2 ⟨s, m, hs, hl, hS.tail⟩⟩
theorem cancel_i {w0 w : World} {g : Nat} {W : Whl} {F : List Chunk} {t q : Int} {en : Ent} {r : List Ent} (hS : Sat w0 w (wheelC 123 124 126 g W :: F)) (hm : mGet W.ticks t = some q) (hq : 0 ≤ q) (h1 : 1 ≤ W.slots.length)
    (hroom : ∀ l ∈ W.slots, (l.length + 1) * 24 ≤ 140737488355328) (hl0 : (W.slots.getD (W.slotOf q) []).filter (fun e => decide (e.timer = t)) = en :: r) :
    Calls Try.prog 33 #[.pointer (some ⟨g, 0, none⟩), .int .i64 t] w fun e w' => e = .returned (.tuple #[en.v, .int .i64 0]) ∧ Sat w0 w' (wheelC 123 124 126 g (W.part (W.slotOf q) (fun e => decide (e.timer = t))) :: F) := by
  rw [wheel_open] at hS; obtain ⟨s, m, hs, hl, hS⟩ := hS
  have e0 := Int.emod_nonneg q (show (W.slots.length : Int) ≠ 0 by omega)
  have e1 := Int.emod_lt_of_pos q (show (0 : Int) < W.slots.length by omega)
  have hki : q % (W.slots.length : Int) = (W.slotOf q : Int) := by unfold Whl.slotOf; omega
  have hk : W.slotOf q < W.slots.length := by unfold Whl.slotOf; omega
  have hev := en.one
  refine enter Try.func33 rfl Try.ntmps33 (Nat.le_of_ble_eq_true rfl) fun a hF => ?_
  refine wp_seq_k fun K0 hK0 => ?_
  refine wp_region_lit ?_
  refine s_newp hF rfl rfl rfl (ef_box (cs := #[_]) (hF.ev rfl) rfl) hS ?_; clear hF hS; intro b3 w hS a hF
  refine s_pu hF rfl rfl rfl (pu_assign (hF.ev rfl)) ?_; clear hF; intro a hF
  refine s_pu hF rfl rfl rfl (pu_assign (hF.ev rfl)) ?_; clear hF; intro a hF
  refine s_done ?_
  refine hK0 _ _ ?_; clear hK0
  refine wp_seq_k fun K1 hK1 => ?_
  refine d_start (S := (fun w => Sat w0 w _)) (ds := []) (ord := [(0, .pu), (1, .pu), (2, .pu), (3, .tk), (4, .tk), (5, .tk), (6, .pu), (7, .pu), (8, .pu), (9, .pu), (10, .pu)]) mixed ⟨by kernel_rfl, fun _ d _ _ _ h => by cases d <;> exact h⟩ hS.drew fun hD => ?_
  replace hS := hS.drew; generalize w.drew = w at hS ⊢
  refine d_pu hD hF rfl rfl rfl rfl rfl (pu_move (hF.ev rfl)) ?_; clear hF; intro a hF
  refine d_pu hD hF rfl rfl rfl rfl rfl ((by exact pu_nil (hF.ev rfl))) ?_; clear hF; intro a hF
  refine d_pu hD hF rfl rfl rfl rfl rfl ((by exact pu_field fd123_1 (hF.ev rfl))) ?_; clear hF; intro a hF
  refine d_rd hD hF rfl rfl rfl rfl rfl hS (fun w hS => (by exact rd_load pl121 (hF.ev rfl) (hS.cellL (i := 1) rfl rfl))) ?_; clear hF; intro a hF
  refine d_rd hD hF rfl rfl rfl rfl rfl hS (fun w hS => (by exact rd_load pl3 (hF.ev rfl) (hS.cellL (i := 0) rfl rfl))) ?_; clear hF; intro a hF
  refine d_rd hD hF rfl rfl rfl rfl rfl hS (fun w hS => (by exact rd_look_s 2 (int_keys Try.underlying3) Try.underlying121 ze3 (hF.ev rfl) (hF.ev rfl) hS rfl (by assumption))) ?_; clear hF; intro a hF
  refine d_pu hD hF rfl rfl rfl rfl rfl (pu_move (hF.ev rfl)) ?_; clear hF; intro a hF
  refine d_pu hD hF rfl rfl rfl rfl rfl (pu_extract (hF.ev rfl) rfl) ?_; clear hF; intro a hF
  refine d_pu hD hF rfl rfl rfl rfl rfl (pu_extract (hF.ev rfl) rfl) ?_; clear hF; intro a hF
  refine d_pu hD hF rfl rfl rfl rfl rfl (pu_assign (hF.ev rfl)) ?_; clear hF; intro a hF
  refine d_pu hD hF rfl rfl rfl rfl rfl (pu_assign (hF.ev rfl)) ?_; clear hF; intro a hF
  refine d_done hD rfl ?_; clear hD
  refine hK1 _ _ ?_; clear hK1
  refine wp_seq_k fun K2 hK2 => ?_
  refine wp_seq_k fun K3 hK3 => ?_
  refine wp_region_lit ?_
  refine s_pu hF rfl rfl rfl (pu_move (hF.ev rfl)) ?_; clear hF; intro a hF
  refine s_pu hF rfl rfl rfl (pu_not (hF.ev rfl)) ?_; clear hF; intro a hF
  refine s_done ?_
  refine hK3 _ _ ?_; clear hK3
  refine wp_cond_false (hF.ev rfl) ?_
  refine wp_skip ?_
  refine hK2 _ _ ?_; clear hK2
  refine wp_seq_k fun K4 hK4 => ?_
  refine wp_region_lit ?_
  refine s_pu hF rfl rfl rfl (pu_move (hF.ev rfl)) ?_; clear hF; intro a hF
  refine s_pu hF rfl rfl rfl (pu_move (hF.ev rfl)) ?_; clear hF; intro a hF
  refine s_pu hF rfl rfl rfl (pu_move (hF.ev rfl)) ?_; clear hF; intro a hF
  refine s_pu hF rfl rfl rfl ((by exact pu_nil (hF.ev rfl))) ?_; clear hF; intro a hF
  refine s_pu hF rfl rfl rfl ((by exact pu_field fd123_0 (hF.ev rfl))) ?_; clear hF; intro a hF
  refine s_rd hF rfl rfl rfl (by exact rd_load pl120 (hF.ev rfl) (hS.cellL (i := 1) rfl rfl)) ?_; clear hF; intro a hF
  refine s_pu hF rfl rfl rfl (pu_len sl120 (hF.ev rfl)) ?_; clear hF; intro a hF
  refine s_pu hF rfl rfl rfl (pu_rem64 (hF.ev rfl) (hF.ev rfl) (by omega)) ?_; clear hF; intro a hF
  refine s_pu hF rfl rfl rfl (pu_func (hF.evs rfl)) ?_; clear hF; intro a hF
  refine s_en hF rfl rfl rfl (run_fn fk49 (hF.ev rfl) (hF.evs rfl)) (part_i (F := .obj b3 (.cells #[.int .i64 t] 3 (0, 0)) :: F) ((wheel_open.2 ⟨s, m, hs, hl, hS.perm (List.perm_middle (l₁ := _ :: _ :: _ :: rowsC 126 hs W.slots)).symm⟩)) hk hroom hki (meant_ct_i w0 b3 t) (by simp)) ?_
  clear hS; rintro e w ⟨A, c, rfl, hS⟩
  rw [hl0] at hS ⊢
  obtain ⟨gh, ch, hAe, _, _⟩ := row_cell hS (by simp)
  injection hAe with hAe _ hce
  subst hAe
  have hrow := row_load (i := 0) (k := 0) (cs := en.cells) hS rfl (by simp) (entCells_at (k := 0) (e := en) rfl)
  have hc2 : w.cell? ⟨gh, 0 + (0 : Int).toNat * 3 + 2, none⟩ = some en.v := hrow 2 en.v rfl
  refine ⟨_, rfl, ?_⟩; clear hF; intro a hF
  refine s_pu hF rfl rfl rfl (pu_assign (hF.ev rfl)) ?_; clear hF; intro a hF
  refine s_done ?_
  refine hK4 _ _ ?_; clear hK4
  refine wp_seq_k fun K5 hK5 => ?_
  refine wp_region_lit ?_
  refine s_pu hF rfl rfl rfl (pu_move (hF.ev rfl)) ?_; clear hF; intro a hF
  refine s_pu hF rfl rfl rfl (pu_elem sl124 (hF.ev rfl) (hF.ev rfl) (by omega) (by simp)) ?_; clear hF; intro a hF
  refine s_pu hF rfl rfl rfl ((by exact pu_field fd126_2 (hF.ev rfl))) ?_; clear hF; intro a hF
  refine s_rd hF rfl rfl rfl (by exact rd_load pl3 (hF.ev rfl) (by assumption)) ?_; clear hF; intro a hF
  refine s_pu hF rfl rfl rfl (pu_assign (hF.ev rfl)) ?_; clear hF; intro a hF
  refine s_pu hF rfl rfl rfl (pu_assign (hF.ev rfl)) ?_; clear hF; intro a hF
  refine s_done ?_
  refine hK5 _ _ ?_; clear hK5
  refine wp_ret ?_
  refine fin2 Try.results33 hF rfl rfl ?_
  exact ⟨rfl, (hS.tail).perm (List.Perm.swap _ _ _) |>.tail⟩
end Go.Proofs.Ytbfdebddoncfhaa
