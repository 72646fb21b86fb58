import Derived.Test.YtbfdebddoncfhaaMs1
/-! Messages: Copy, part two. -/
namespace Go.Proofs.Ytbfdebddoncfhaa
open Go Go.RowKit Go.Proofs.Ytbfdebddoncfhaa.Sk
set_option linter.unusedVariables false
set_option linter.unusedSimpArgs false
set_option maxRecDepth 100000

theorem those_c (k : Nat) {w0 w W : World} {D : Nat → Prop} {C : List Chunk} {mti : ByteArray} {h : Value} {ts : List Tr} (hR : RdN W D k h ts) (hK : Keeps w0 C W D) (hS : Sat w0 w C) :
    Calls Try.prog 65 #[.agg #[.string mti, h], .func (.func 66) #[] #[]] w fun e w' => ∃ h', e = .returned (.agg #[.string mti, h']) ∧ Sat w0 w' (nodesC 133 k 104 h' ts :: C) := by
  obtain ⟨A, c, rfl, hb⟩ := hR.slice
  refine enter Try.func65 rfl Try.ntmps65 (Nat.le_of_ble_eq_true rfl) fun a hF => ?_
  refine wp_seq_k fun K0 hK0 => ?_
  refine wp_region_lit ?_
  refine s_newp hF rfl rfl rfl (ef_box (cs := #[_, _]) (hF.ev rfl) rfl) hS ?_; clear hF hS; intro b2 w hS a hF
  refine s_newp hF rfl rfl rfl (ef_alloc (cs := #[_, _]) ze33 rfl) hS ?_; clear hF hS; intro b4 w hS a hF
  refine s_done ?_
  refine hK0 _ _ ?_; clear hK0
  refine wp_seq_k fun K1 hK1 => ?_
  refine wp_region_lit ?_
  refine s_pu hF rfl rfl rfl ((by exact pu_field fd33_0 (hF.ev rfl))) ?_; clear hF; intro a hF
  refine s_rd hF rfl rfl rfl (by exact rd_load pl9 (hF.ev rfl) (hS.cellL (i := 1) rfl rfl)) ?_; clear hF; intro a hF
  refine s_pu hF rfl rfl rfl ((pu_build st33 (hF.evp rfl) rfl rfl : Pu _ _ _ (.agg #[_, _]))) ?_; clear hF; intro a hF
  refine s_newp hF rfl rfl rfl (ef_alloc (cs := #[_, _]) ze33 rfl) hS ?_; clear hF hS; intro b5 w hS a hF
  ((refine s_store (vs := [_, _]) (cs' := #[_, _]) 0 hF rfl (hF.ev rfl) (hF.ev rfl) hS rfl rfl sz33 (by rfl) (by exact Nat.le_of_ble_eq_true rfl) rfl ?_))
  clear hS; intro w hS; (try simp only [upd, del] at hS)
  refine s_done ?_
  refine hK1 _ _ ?_; clear hK1
  refine wp_seq_k fun K2 hK2 => ?_
  refine wp_seq_k fun K3 hK3 => ?_
  refine wp_region_lit ?_
  refine s_pu hF rfl rfl rfl ((by exact pu_field fd33_1 (hF.ev rfl))) ?_; clear hF; intro a hF
  refine s_rd hF rfl rfl rfl (by exact rd_load pl31 (hF.ev rfl) (hS.cellL (i := 2) rfl rfl)) ?_; clear hF; intro a hF
  refine s_pu hF rfl rfl rfl (pu_len sl31 (hF.ev rfl)) ?_; clear hF; intro a hF
  refine s_pu hF rfl rfl rfl (pu_move (hF.ev rfl)) ?_; clear hF; intro a hF
  refine s_done ?_
  refine hK3 _ _ ?_; clear hK3
  refine wp_block ?_
  replace hS := (row_nil (E := 104) (sz := 3) hS).sel [1, 1]
  replace hS := hS.drop 3
  refine wp_ind (fun j a w => ∃ (i : Nat) (o : Option Addr) (d : Nat) (hs : List Value), j = ts.length - i ∧ i ≤ ts.length ∧ hs.length = i ∧ (i = 0 → o = none ∧ d = 0) ∧
    Fr a 31 [(1, .func (.func 66) #[] #[]), (4, .pointer (some ⟨b4, 0, none⟩)), (5, .pointer (some ⟨b5, 0, none⟩)), (12, .slice A ts.length c), (13, .int .i64 ts.length), (14, .int .i64 i)] ∧
    Sat w0 w (.obj b5 (.cells #[.string mti, .slice o i d] 33 (0, 0)) :: .obj b4 (.cells #[.string .empty, .slice none 0 0] 33 (0, 0)) :: rowC 104 3 (.slice o i d) i (cells3 (ts.take i) hs) :: (kidsC 133 (k - 1) hs (ts.take i) ++ C))) ts.length
    ⟨0, none, 0, [], by omega, by omega, rfl, fun _ => ⟨rfl, rfl⟩, hF.sub ⟨rfl, rfl, rfl, rfl, rfl, rfl, trivial⟩, hS⟩ ?_
  clear hS hF
  rintro j a w ⟨i, o, d, hs, rfl, hi, hhs, h0, hF, hS⟩
  refine wp_seq_k fun K4 hK4 => ?_
  refine wp_region_lit ?_
  refine s_pu hF rfl rfl rfl (pu_lss (hF.ev rfl) (hF.ev rfl)) ?_; clear hF; intro a hF
  refine s_done ?_
  refine hK4 _ _ ?_; clear hK4
  refine wp_seq_k fun K5 hK5 => ?_
  refine wp_cond_split (hF.ev rfl) (fun hc0 => ?_) (fun hc0 => ?_)
  · -- cond 0 true
    try simp only [decide_eq_true_eq, decide_eq_false_iff_not, Bool.not_eq_true', Bool.not_eq_false', Int.not_lt, Int.not_le, ne_eq, Decidable.not_not, Bool.or_eq_true, Bool.or_eq_false_iff, Bool.and_eq_true, Bool.and_eq_false_imp] at hc0
    have hil : i < ts.length := by omega
    obtain ⟨t, ht⟩ : ∃ t, ts[i]? = some t := ⟨ts[i], List.getElem?_eq_getElem _⟩
    obtain ⟨x, hk, k', rfl, rfl, hD, hc, hRk⟩ := hR.at ht
    obtain ⟨kA, kc, rfl, _⟩ := hRk.slice
    have hc' : ∀ j v, [Value.int .i64 t.tag, .string t.val, .slice kA t.kids.length kc][j]? = some v → w.cell? ((x.add ((i : Int).toNat * 3)).add j) = some v := fun j v hj => by
      rw [add_add, Int.toNat_natCast]
      exact hK.cell hS.tail.tail.tail.right hD (hc j v hj)
    refine wp_skip ?_
    refine hK5 _ _ ?_; clear hK5
    refine wp_seq_k fun K6 hK6 => ?_
    refine wp_block ?_
    refine wp_seq_k fun K7 hK7 => ?_
    refine wp_region_lit ?_
    refine s_pu hF rfl rfl rfl ((by exact pu_elemA sl31 (hF.ev rfl) (hF.ev rfl) (by omega) (by omega))) ?_; clear hF; intro a hF
    refine s_rd hF rfl rfl rfl (rd_loadA ag104 (hF.ev rfl) rfl hc') ?_; clear hF; intro a hF
    refine s_newp hF rfl rfl rfl (ef_alloc (cs := #[_, _, _]) ze104 rfl) hS ?_; clear hF hS; intro b7 w hS a hF
    ((refine s_store (vs := [_, _, _]) (cs' := #[_, _, _]) 0 hF rfl (hF.ev rfl) (hF.ev rfl) hS rfl rfl sz104 (by rfl) (by exact Nat.le_of_ble_eq_true rfl) rfl ?_))
    clear hS; intro w hS; (try simp only [upd, del] at hS)
    refine s_done ?_
    refine hK7 _ _ ?_; clear hK7
    refine wp_seq_k fun K8 hK8 => ?_
    refine wp_region_lit ?_
    refine s_pu hF rfl rfl rfl (pu_move (hF.ev rfl)) ?_; clear hF; intro a hF
    refine s_pu hF rfl rfl rfl ((by exact pu_field fd104_0 (hF.ev rfl))) ?_; clear hF; intro a hF
    refine s_rd hF rfl rfl rfl (by exact rd_load pl3 (hF.ev rfl) (hS.cellL (i := 0) rfl rfl)) ?_; clear hF; intro a hF
    refine s_en hF rfl rfl rfl (run_fn fk66 (hF.ev rfl) (hF.evs rfl)) (all_c hS) ?_
    clear hS; rintro e w ⟨rfl, hS⟩
    refine ⟨_, rfl, ?_⟩; clear hF; intro a hF
    refine s_done ?_
    refine hK8 _ _ ?_; clear hK8
    refine wp_cond_true (hF.ev rfl) ?_
    refine d_start (S := (fun w => Sat w0 w [_, _])) (ds := [7]) (ord := [(0, .pu), (1, .tk), (2, .tk), (3, .on), (4, .on), (5, .on), (6, .pu), (7, .ls)]) mixed ⟨by kernel_rfl, fun _ d _ _ _ h => by cases d <;> exact h⟩ (hS.left (C := [_, _])).drew fun hD => ?_
    replace hS := hS.drew; generalize w.drew = w at hS ⊢
    refine d_pu hD hF rfl rfl rfl rfl rfl ((by exact pu_field fd33_1 (hF.ev rfl))) ?_; clear hF; intro a hF
    refine d_rd hD hF rfl rfl rfl rfl rfl (by exact hS.left (C := [_, _])) (fun w hS => (by exact rd_load pl31 (hF.ev rfl) (hS.cellL (i := 1) rfl rfl))) ?_; clear hF; intro a hF
    refine d_rd hD hF rfl rfl rfl rfl rfl (by exact hS.left (C := [_, _])) (fun w hS => (by exact rd_loadB (i := 0) (vs := [_, _, _]) ag104 (hF.ev rfl) hS rfl rfl)) ?_; clear hF; intro a hF
    refine d_en hD hF rfl rfl rfl rfl rfl (run_fn fk75 (hF.ev rfl) (hF.evs rfl)) (field_c k' hRk (hK.sub (fun w h => h.tail.tail.tail.tail.right)) hS) ?_
    clear hS; rintro e w ⟨h', rfl, hS⟩
    obtain ⟨A', c', rfl⟩ := nodes_val hS
    refine ⟨_, rfl, hS.tail.left (C := [_, _]), ?_⟩; clear hF; intro a hF
    refine d_news hD hF rfl rfl rfl rfl rfl (ef_lit1 (cs := [_, _, _]) sl31 ze104 rfl (hF.ev rfl) (by rfl) rfl (by omega) (by omega)) hS (fun _ _ h => by exact h.tail.tail.left (C := [_, _])) ?_; clear hF hS; intro b26 w hS a hF
    (((refine d_append 5 0 hD hF rfl rfl rfl rfl sl31 el104 (hF.ev rfl) (hF.ev rfl) hS rfl rfl rfl (by rfl) (by unfold maxLen; omega) (by omega) (fun _ _ h => by exact h.tail.tail.tail.left (C := [_, _])) ?_))); (clear hS hF; intro A27 q27 w hS a hF; (try simp only [upd, del] at hS))
    refine d_pu hD hF rfl rfl rfl rfl rfl ((by exact pu_field fd33_1 (hF.ev rfl))) ?_; clear hF; intro a hF
    ((refine l_store (vs := [_]) (cs' := #[_, _]) 4 hD hF rfl rfl rfl (hF.ev rfl) (hF.ev rfl) hS rfl rfl sz31 (by rfl) (by exact Nat.le_of_ble_eq_true rfl) rfl ?_))
    clear hS; intro w hS; (try simp only [upd, del] at hS)
    refine d_done hD rfl ?_; clear hD
    refine blk_normal ?_
    refine hK6 _ _ ?_; clear hK6
    refine wp_region_lit ?_
    refine s_pu hF rfl rfl rfl ((by exact pu_add64 (hF.ev rfl) (hF.ev rfl) (by omega))) ?_; clear hF; intro a hF
    refine s_pu hF rfl rfl rfl (pu_move (hF.ev rfl)) ?_; clear hF; intro a hF
    refine s_done ?_
    refine ⟨_, by omega, i + 1, A27, q27, hs ++ [.slice A' t.kids.length c'], rfl, by omega, by simp [hhs], by omega, hF.sub ⟨rfl, rfl, rfl, rfl, rfl, rfl, trivial⟩, ?_⟩
    have e1 : ts.take (i + 1) = ts.take i ++ [t] := by rw [List.take_add_one, ht]; rfl
    have hl : hs.length = (ts.take i).length := by simp; omega
    rw [e1, cells3_snoc t _ hl, Nat.add_sub_cancel, kids_snoc hl, List.append_assoc]
    replace hS := ((hS.sel [4, 4]).drop 3).drop 4
    exact hS.perm ((((List.perm_middle).symm.cons _).cons _).cons _)
  · -- cond 0 false
    try simp only [decide_eq_true_eq, decide_eq_false_iff_not, Bool.not_eq_true', Bool.not_eq_false', Int.not_lt, Int.not_le, ne_eq, Decidable.not_not, Bool.or_eq_true, Bool.or_eq_false_iff, Bool.and_eq_true, Bool.and_eq_false_imp] at hc0
    refine wp_exit ?_
    refine then_exit ?_
    refine then_exit ?_
    refine blk_exit ?_
    refine hK2 _ _ ?_; clear hK2
    refine wp_seq_k fun K6 hK6 => ?_
    refine wp_region_lit ?_
    refine s_rd hF rfl rfl rfl (by exact rd_loadB (i := 0) (vs := [_, _]) ag33 (hF.ev rfl) hS rfl rfl) ?_; clear hF; intro a hF
    ((refine s_store (vs := [_, _]) (cs' := #[_, _]) 1 hF rfl (hF.ev rfl) (hF.ev rfl) hS rfl rfl sz33 (by rfl) (by exact Nat.le_of_ble_eq_true rfl) rfl ?_))
    clear hS; intro w hS; (try simp only [upd, del] at hS)
    refine s_done ?_
    refine hK6 _ _ ?_; clear hK6
    refine wp_ret ?_
    refine finc1 Try.results65 hF rfl (by exact holds_block (i := 1) ag33 hS rfl rfl) ?_
    have hil : i = ts.length := by omega
    subst hil
    rw [List.take_length] at hS
    refine ⟨_, rfl, ?_⟩
    replace hS := hS.tail.tail
    cases k with
    | zero =>
      obtain ⟨rfl, _⟩ := hR
      obtain ⟨rfl, rfl⟩ := h0 rfl
      have : hs = [] := List.length_eq_zero_iff.1 hhs
      subst this
      exact nodes_none.2 hS.tail
    | succ k => exact nodes_open.2 ⟨hs, ⟨hhs, hb⟩, hS⟩
theorem copy_c (k : Nat) {w0 w W : World} {D : Nat → Prop} {C : List Chunk} {mti : ByteArray} {h : Value} {ts : List Tr} (hR : RdN W D k h ts) (hK : Keeps w0 C W D) (hS : Sat w0 w C) :
    Calls Try.prog 48 #[.agg #[.string mti, h]] w fun e w' => ∃ h', e = .returned (.agg #[.string mti, h']) ∧ Sat w0 w' (nodesC 133 k 104 h' ts :: C) := by
  obtain ⟨A, c, rfl, hb⟩ := hR.slice
  refine enter Try.func48 rfl Try.ntmps48 (Nat.le_of_ble_eq_true rfl) fun a hF => ?_
  refine wp_seq_k fun K0 hK0 => ?_
  refine wp_region_lit ?_
  refine s_newp hF rfl rfl rfl (ef_box (cs := #[_, _]) (hF.ev rfl) rfl) hS ?_; clear hF hS; intro b1 w hS a hF
  refine s_newp hF rfl rfl rfl (ef_alloc (cs := #[_, _]) ze33 rfl) hS ?_; clear hF hS; intro b2 w hS a hF
  refine s_done ?_
  refine hK0 _ _ ?_; clear hK0
  refine wp_seq_k fun K1 hK1 => ?_
  refine wp_region_lit ?_
  refine s_rd hF rfl rfl rfl (by exact rd_loadB (i := 1) (vs := [_, _]) ag33 (hF.ev rfl) hS rfl rfl) ?_; clear hF; intro a hF
  refine s_en hF rfl rfl rfl (run_fn fk65 (hF.ev rfl) (hF.evs rfl)) (those_c k hR (hK.sub (fun w h => h.tail.tail)) hS) ?_
  clear hS; rintro e w ⟨h', rfl, hS⟩
  obtain ⟨A', c', rfl⟩ := nodes_val hS
  refine ⟨_, rfl, ?_⟩; clear hF; intro a hF
  ((refine s_store (vs := [_, _]) (cs' := #[_, _]) 1 hF rfl (hF.ev rfl) (hF.ev rfl) hS rfl rfl sz33 (by rfl) (by exact Nat.le_of_ble_eq_true rfl) rfl ?_))
  clear hS; intro w hS; (try simp only [upd, del] at hS)
  refine s_done ?_
  refine hK1 _ _ ?_; clear hK1
  refine wp_ret ?_
  refine finc1 Try.results48 hF rfl (by exact holds_block (i := 1) ag33 hS rfl rfl) ?_
  exact ⟨_, rfl, (hS.drop 1).drop 1⟩
end Go.Proofs.Ytbfdebddoncfhaa
