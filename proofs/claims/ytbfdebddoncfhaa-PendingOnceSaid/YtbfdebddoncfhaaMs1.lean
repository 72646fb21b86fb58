import Derived.Test.YtbfdebddoncfhaaFc
/-! Messages: Copy. -/
namespace Go.Proofs.Ytbfdebddoncfhaa
open Go Go.RowKit Go.Proofs.Ytbfdebddoncfhaa.Sk
set_option linter.unusedVariables false
set_option linter.unusedSimpArgs false
set_option maxRecDepth 100000

/-- What nodes does, down to depth k. -/
def NodesOk (k : Nat) : Prop := ∀ {w0 w W : World} {D : Nat → Prop} {C : List Chunk} {h : Value} {ts : List Tr}, RdN W D k h ts → Keeps w0 C W D → Sat w0 w C →
  Calls Try.prog 79 #[h] w fun e w' => ∃ h', e = .returned h' ∧ Sat w0 w' (nodesC 133 k 133 h' ts :: C)
theorem nodes_step (k : Nat) (ih : ∀ k', k = k' + 1 → NodesOk k') : NodesOk k := by
  intro w0 w W D C h ts hR hK hS
  obtain ⟨A, c, rfl, hb⟩ := hR.slice
  refine enter Try.func79 rfl Try.ntmps79 (Nat.le_of_ble_eq_true rfl) fun a hF => ?_
  refine wp_seq_k fun K0 hK0 => ?_
  refine wp_region_lit ?_
  refine s_pu hF rfl rfl rfl (pu_assign (hF.ev rfl)) ?_; clear hF; intro a hF
  refine s_done ?_
  refine hK0 _ _ ?_; clear hK0
  refine wp_seq_k fun K1 hK1 => ?_
  refine wp_region_lit ?_
  refine s_pu hF rfl rfl rfl (pu_assign (hF.ev rfl)) ?_; clear hF; intro a hF
  refine s_done ?_
  refine hK1 _ _ ?_; clear hK1
  refine wp_seq_k fun K2 hK2 => ?_
  refine wp_seq_k fun K3 hK3 => ?_
  refine wp_region_lit ?_
  refine s_pu hF rfl rfl rfl (pu_move (hF.ev rfl)) ?_; clear hF; intro a hF
  refine s_pu hF rfl rfl rfl (pu_len sl102 (hF.ev rfl)) ?_; clear hF; intro a hF
  refine s_pu hF rfl rfl rfl (pu_move (hF.ev rfl)) ?_; clear hF; intro a hF
  refine s_done ?_
  refine hK3 _ _ ?_; clear hK3
  refine wp_block ?_
  replace hS := row_nil (E := 133) (sz := 3) hS
  refine wp_ind (fun j a w => ∃ (i : Nat) (o : Option Addr) (d : Nat) (hs : List Value), j = ts.length - i ∧ i ≤ ts.length ∧ hs.length = i ∧ (i = 0 → o = none ∧ d = 0) ∧
    Fr a 22 [(3, .slice o i d), (6, .slice A ts.length c), (7, .int .i64 ts.length), (8, .int .i64 i)] ∧
    Sat w0 w (rowC 133 3 (.slice o i d) i (cells3 (ts.take i) hs) :: (kidsC 133 (k - 1) hs (ts.take i) ++ C))) ts.length
    ⟨0, none, 0, [], by omega, by omega, rfl, fun _ => ⟨rfl, rfl⟩, hF.sub ⟨rfl, rfl, rfl, rfl, trivial⟩, hS⟩ ?_
  clear hS hF
  rintro j a w ⟨i, o, d, hs, rfl, hi, hhs, h0, hF, hS⟩
  refine wp_seq_k fun K4 hK4 => ?_
  refine wp_region_lit ?_
  refine s_pu hF rfl rfl rfl (pu_lss (hF.ev rfl) (hF.ev rfl)) ?_; clear hF; intro a hF
  refine s_done ?_
  refine hK4 _ _ ?_; clear hK4
  refine wp_seq_k fun K5 hK5 => ?_
  refine wp_cond_split (hF.ev rfl) (fun hc0 => ?_) (fun hc0 => ?_)
  · -- cond 0 true
    try simp only [decide_eq_true_eq, decide_eq_false_iff_not, Bool.not_eq_true', Bool.not_eq_false', Int.not_lt, Int.not_le, ne_eq, Decidable.not_not, Bool.or_eq_true, Bool.or_eq_false_iff, Bool.and_eq_true, Bool.and_eq_false_imp] at hc0
    have hil : i < ts.length := by omega
    obtain ⟨t, ht⟩ : ∃ t, ts[i]? = some t := ⟨ts[i], List.getElem?_eq_getElem _⟩
    obtain ⟨x, hk, k', rfl, rfl, hD, hc, hRk⟩ := hR.at ht
    obtain ⟨kA, kc, rfl, _⟩ := hRk.slice
    have hc' : ∀ j v, [Value.int .i64 t.tag, .string t.val, .slice kA t.kids.length kc][j]? = some v → w.cell? ((x.add ((i : Int).toNat * 3)).add j) = some v := fun j v hj => by
      rw [add_add, Int.toNat_natCast]
      exact hK.cell hS.tail.right hD (hc j v hj)
    refine wp_skip ?_
    refine hK5 _ _ ?_; clear hK5
    refine wp_seq_k fun K6 hK6 => ?_
    refine wp_block ?_
    refine wp_seq_k fun K7 hK7 => ?_
    refine wp_region_lit ?_
    refine s_pu hF rfl rfl rfl ((by exact pu_elemA sl102 (hF.ev rfl) (hF.ev rfl) (by omega) (by omega))) ?_; clear hF; intro a hF
    refine s_rd hF rfl rfl rfl (rd_loadA ag133 (hF.ev rfl) rfl hc') ?_; clear hF; intro a hF
    refine s_newp hF rfl rfl rfl (ef_alloc (cs := #[_, _, _]) ze133 rfl) hS ?_; clear hF hS; intro b5 w hS a hF
    ((refine s_store (vs := [_, _, _]) (cs' := #[_, _, _]) 0 hF rfl (hF.ev rfl) (hF.ev rfl) hS rfl rfl sz133 (by rfl) (by exact Nat.le_of_ble_eq_true rfl) rfl ?_))
    clear hS; intro w hS; (try simp only [upd, del] at hS)
    refine s_done ?_
    refine hK7 _ _ ?_; clear hK7
    refine wp_seq_k fun K8 hK8 => ?_
    refine wp_region_lit ?_
    refine s_pu hF rfl rfl rfl ((by exact pu_field fd133_2 (hF.ev rfl))) ?_; clear hF; intro a hF
    refine s_rd hF rfl rfl rfl (by exact rd_load pl102 (hF.ev rfl) (hS.cellL (i := 0) rfl rfl)) ?_; clear hF; intro a hF
    refine s_en hF rfl rfl rfl (run_fn fk79 (hF.ev rfl) (hF.evs rfl)) (ih k' rfl hRk (hK.sub (fun w h => h.tail.tail.right)) hS) ?_
    clear hS; rintro e w ⟨h', rfl, hS⟩
    obtain ⟨A', c', rfl⟩ := nodes_val hS
    refine ⟨_, rfl, ?_⟩; clear hF; intro a hF
    refine s_pu hF rfl rfl rfl ((by exact pu_field fd133_2 (hF.ev rfl))) ?_; clear hF; intro a hF
    ((refine s_store (vs := [_]) (cs' := #[_, _, _]) 1 hF rfl (hF.ev rfl) (hF.ev rfl) hS rfl rfl sz102 (by rfl) (by exact Nat.le_of_ble_eq_true rfl) rfl ?_))
    clear hS; intro w hS; (try simp only [upd, del] at hS)
    refine s_done ?_
    refine hK8 _ _ ?_; clear hK8
    refine wp_region_lit ?_
    refine s_pu hF rfl rfl rfl (pu_move (hF.ev rfl)) ?_; clear hF; intro a hF
    refine s_rd hF rfl rfl rfl (by exact rd_loadB (i := 1) (vs := [_, _, _]) ag133 (hF.ev rfl) hS rfl rfl) ?_; clear hF; intro a hF
    refine s_news hF rfl rfl rfl (ef_lit1 (cs := [_, _, _]) sl102 ze133 rfl (hF.ev rfl) (by rfl) rfl (by omega) (by omega)) hS ?_; clear hF hS; intro b18 w hS a hF
    (((refine s_append 3 0 hF rfl rfl sl102 el133 (hF.ev rfl) (hF.ev rfl) hS rfl rfl rfl (by rfl) (by unfold maxLen; omega) (by omega) ?_))); (clear hS hF; intro A19 q19 w hS a hF; (try simp only [upd, del] at hS))
    refine s_pu hF rfl rfl rfl (pu_assign (hF.ev rfl)) ?_; clear hF; intro a hF
    refine s_done ?_
    refine blk_normal ?_
    refine hK6 _ _ ?_; clear hK6
    refine wp_region_lit ?_
    refine s_pu hF rfl rfl rfl ((by exact pu_add64 (hF.ev rfl) (hF.ev rfl) (by omega))) ?_; clear hF; intro a hF
    refine s_pu hF rfl rfl rfl (pu_move (hF.ev rfl)) ?_; clear hF; intro a hF
    refine s_done ?_
    refine ⟨_, by omega, i + 1, _, _, hs ++ [.slice A' t.kids.length c'], rfl, by omega, by simp [hhs], by omega, hF.sub ⟨rfl, rfl, rfl, rfl, trivial⟩, ?_⟩
    have e1 : ts.take (i + 1) = ts.take i ++ [t] := by rw [List.take_add_one, ht]; rfl
    have hl : hs.length = (ts.take i).length := by simp; omega
    rw [e1, cells3_snoc t _ hl, Nat.add_sub_cancel, kids_snoc hl, List.append_assoc]
    replace hS := (hS.drop 1).drop 2
    exact hS.perm ((List.perm_middle).symm.cons _)
  · -- cond 0 false
    try simp only [decide_eq_true_eq, decide_eq_false_iff_not, Bool.not_eq_true', Bool.not_eq_false', Int.not_lt, Int.not_le, ne_eq, Decidable.not_not, Bool.or_eq_true, Bool.or_eq_false_iff, Bool.and_eq_true, Bool.and_eq_false_imp] at hc0
    refine wp_exit ?_
    refine then_exit ?_
    refine then_exit ?_
    refine blk_exit ?_
    refine hK2 _ _ ?_; clear hK2
    refine wp_seq_k fun K6 hK6 => ?_
    refine wp_region_lit ?_
    refine s_pu hF rfl rfl rfl (pu_move (hF.ev rfl)) ?_; clear hF; intro a hF
    refine s_pu hF rfl rfl rfl (pu_assign (hF.ev rfl)) ?_; clear hF; intro a hF
    refine s_done ?_
    refine hK6 _ _ ?_; clear hK6
    refine wp_ret ?_
    refine fin1 Try.results79 hF rfl ?_
    have hil : i = ts.length := by omega
    subst hil
    rw [List.take_length] at hS
    refine ⟨_, rfl, ?_⟩
    cases k with
    | zero =>
      obtain ⟨rfl, _⟩ := hR
      obtain ⟨rfl, rfl⟩ := h0 rfl
      have : hs = [] := List.length_eq_zero_iff.1 hhs
      subst this
      exact nodes_none.2 hS.tail
    | succ k => exact nodes_open.2 ⟨hs, ⟨hhs, hb⟩, hS⟩
theorem nodes_c : ∀ k, NodesOk k
  | 0 => nodes_step 0 (fun k' h => by cases h)
  | k + 1 => nodes_step (k + 1) (fun k' h => by cases h; exact nodes_c k)
theorem field_c (k : Nat) {w0 w W : World} {D : Nat → Prop} {C : List Chunk} {n : Int} {v : ByteArray} {h : Value} {ts : List Tr} (hR : RdN W D k h ts) (hK : Keeps w0 C W D) (hS : Sat w0 w C) :
    Calls Try.prog 75 #[.agg #[.int .i64 n, .string v, h]] w fun e w' => ∃ h', e = .returned (.agg #[.int .i64 n, .string v, h']) ∧ Sat w0 w' (nodesC 133 k 133 h' ts :: C) := by
  obtain ⟨A, c, rfl, hb⟩ := hR.slice
  refine enter Try.func75 rfl Try.ntmps75 (Nat.le_of_ble_eq_true rfl) fun a hF => ?_
  refine wp_seq_k fun K0 hK0 => ?_
  refine wp_region_lit ?_
  refine s_newp hF rfl rfl rfl (ef_box (cs := #[_, _, _]) (hF.ev rfl) rfl) hS ?_; clear hF hS; intro b1 w hS a hF
  refine s_newp hF rfl rfl rfl (ef_alloc (cs := #[_, _, _]) ze104 rfl) hS ?_; clear hF hS; intro b2 w hS a hF
  refine s_done ?_
  refine hK0 _ _ ?_; clear hK0
  refine wp_seq_k fun K1 hK1 => ?_
  refine wp_region_lit ?_
  refine s_pu hF rfl rfl rfl ((by exact pu_field fd104_2 (hF.ev rfl))) ?_; clear hF; intro a hF
  refine s_rd hF rfl rfl rfl (by exact rd_load pl102 (hF.ev rfl) (hS.cellL (i := 1) rfl rfl)) ?_; clear hF; intro a hF
  refine s_en hF rfl rfl rfl (run_fn fk79 (hF.ev rfl) (hF.evs rfl)) (nodes_c k hR (hK.sub (fun w h => h.tail.tail)) hS) ?_
  clear hS; rintro e w ⟨h', rfl, hS⟩
  obtain ⟨A', c', rfl⟩ := nodes_val hS
  refine ⟨_, rfl, ?_⟩; clear hF; intro a hF
  refine s_pu hF rfl rfl rfl ((by exact pu_field fd104_2 (hF.ev rfl))) ?_; clear hF; intro a hF
  ((refine s_store (vs := [_]) (cs' := #[_, _, _]) 2 hF rfl (hF.ev rfl) (hF.ev rfl) hS rfl rfl sz102 (by rfl) (by exact Nat.le_of_ble_eq_true rfl) rfl ?_))
  clear hS; intro w hS; (try simp only [upd, del] at hS)
  refine s_done ?_
  refine hK1 _ _ ?_; clear hK1
  refine wp_seq_k fun K2 hK2 => ?_
  refine wp_region_lit ?_
  refine s_rd hF rfl rfl rfl (by exact rd_loadB (i := 2) (vs := [_, _, _]) ag104 (hF.ev rfl) hS rfl rfl) ?_; clear hF; intro a hF
  ((refine s_store (vs := [_, _, _]) (cs' := #[_, _, _]) 1 hF rfl (hF.ev rfl) (hF.ev rfl) hS rfl rfl sz104 (by rfl) (by exact Nat.le_of_ble_eq_true rfl) rfl ?_))
  clear hS; intro w hS; (try simp only [upd, del] at hS)
  refine s_done ?_
  refine hK2 _ _ ?_; clear hK2
  refine wp_ret ?_
  refine finc1 Try.results75 hF rfl (by exact holds_block (i := 1) ag104 hS rfl rfl) ?_
  exact ⟨_, rfl, (hS.drop 1).drop 1⟩
theorem all_c {w0 w : World} {C : List Chunk} {n : Int} (hS : Sat w0 w C) : Calls Try.prog 66 #[.int .i64 n] w fun e w' => e = .returned (.bool true) ∧ Sat w0 w' C := by
  refine enter Try.func66 rfl Try.ntmps66 (Nat.le_of_ble_eq_true rfl) fun a hF => ?_
  refine wp_seq_k fun K0 hK0 => ?_
  refine wp_region_lit ?_
  refine s_pu hF rfl rfl rfl (pu_assign (hF.ev rfl)) ?_; clear hF; intro a hF
  refine s_done ?_
  refine hK0 _ _ ?_; clear hK0
  refine wp_seq_k fun K1 hK1 => ?_
  refine wp_region_lit ?_
  refine s_pu hF rfl rfl rfl (pu_assign (hF.ev rfl)) ?_; clear hF; intro a hF
  refine s_done ?_
  refine hK1 _ _ ?_; clear hK1
  refine wp_ret ?_
  refine fin1 Try.results66 hF rfl ?_
  exact ⟨rfl, hS⟩
end Go.Proofs.Ytbfdebddoncfhaa
