import Derived.Test.YtbfdebddoncfhaaPd17
import Derived.Test.YtbfdebddoncfhaaSk21
/-! PendingTwice: the walk. -/
namespace Go.Proofs.Ytbfdebddoncfhaa
open Go Go.RowKit Go.Proofs.Ytbfdebddoncfhaa.Sk
set_option linter.unusedVariables false
set_option linter.unusedSimpArgs false
set_option maxRecDepth 100000

def tq (q : PKey) (to number : Int) : Pnd := ⟨q, 0, to, number, .empty, [], .empty, []⟩
theorem rd_nil {W : World} {D : Nat → Prop} : RdN W D 0 (.slice none 0 0) [] := ⟨rfl, _, _, rfl⟩
theorem add_nil {w0 w : World} {F : List Chunk} {g : Nat} {T : Tab} {q : PKey} {to number : Int} (hS : Sat w0 w (tabC 0 g T :: F))
    (hk : mGet (keysL T.L) q = none) (hm : mGet (waysL T.L) (to, number) = none) (hfull : (waitsL T.L).length < T.most) (hnx : ∀ e ∈ T.L, e.n ≠ T.next) (hR : Rising T.P T.last) (ht0 : 1 ≤ T.timeout) (ht1 : T.timeout ≤ 100000)
    (hn0 : 0 ≤ T.now) (hn1 : T.now ≤ 4611686018427387904) (hl0 : 0 ≤ T.last) (hl1 : T.last ≤ 4611686018427387904) (hx0 : 0 ≤ T.next) (hx1 : T.next ≤ 4611686018427387904) (hroom : (T.L.length + 1) * 8 ≤ 140737488355328) (hroomP : (T.P.length + 1) * 24 ≤ 140737488355328) :
    Calls Try.prog 9 #[.pointer (some ⟨g, 0, none⟩), (tq q to number).value (.slice none 0 0, .slice none 0 0)] w fun e w' => e = .returned (.int .i64 0) ∧ Sat w0 w' (tabC 0 g (T.add (tq q to number)) :: F) :=
  add_c 0 (p := tq q to number) (W := w) (D := fun _ => False) rd_nil rd_nil (fun _ _ _ h => h.elim) hS hk hm hfull hnx hR ht0 ht1 hn0 hn1 hl0 hl1 hx0 hx1 hroom hroomP
structure FinT (m n : Int) (p2 : Pnd) (T : Tab) : Prop where
  ex : ∃ t lt a now last, T = ⟨3, m, n, 2, [⟨1, p2, t, lt⟩], [en t a 1], now, last⟩ ∧ 1 ≤ t ∧ t ≤ last ∧ last ≤ 4 ∧ 0 ≤ now ∧ now ≤ 1000

theorem pendingTwice_walk (W : World) (x0 : Int) (hx0 : (Lit.int .i64 x0).wf = true) (x1 : Int) (hx1 : (Lit.int .i64 x1).wf = true) (K : PKey) (to : Int) (hx3 : (Lit.int .i64 to).wf = true) (nb : Int) (hx4 : (Lit.int .i64 nb).wf = true) (O : PKey) :
    Calls Try.prog 4 #[.int .i64 x0, .int .i64 x1, K.val, .int .i64 to, .int .i64 nb, O.val] W fun e w' => e = .returned (.bool true) ∧ Below W.heap.size W w' := by
  have hx0 := wf64 hx0
  have hx1 := wf64 hx1
  have hS0 := sat_whole W
  obtain ⟨w, hw⟩ : ∃ w, w = W := ⟨_, rfl⟩
  have hS : Sat W w [whole W] := by rw [hw]; exact hS0
  rw [show Calls Try.prog 4 #[.int .i64 x0, .int .i64 x1, K.val, .int .i64 to, .int .i64 nb, O.val] W = Calls Try.prog 4 #[.int .i64 x0, .int .i64 x1, K.val, .int .i64 to, .int .i64 nb, O.val] w by rw [hw]]
  clear hw hS0
  have hxt : xorI to 1 ≠ to := xor_ne
  unfold PKey.val PKey.sc
  simp only [List.map_cons, List.map_nil, Sc.val]
  refine enter Try.func4 rfl Try.ntmps4 (Nat.le_of_ble_eq_true rfl) fun a hF => ?_
  refine wp_seq_k fun K0 hK0 => ?_
  -- region 0
  refine wp_region_lit ?_
  refine s_newp hF rfl rfl rfl (ef_box (cs := #[_, _, _, _, _]) (hF.ev rfl) rfl) hS ?_; clear hF hS; intro b8 w hS a hF
  refine s_newp hF rfl rfl rfl (ef_box (cs := #[_, _, _, _, _]) (hF.ev rfl) rfl) hS ?_; clear hF hS; intro b11 w hS a hF
  refine s_pu hF rfl rfl rfl (pu_assign (hF.ev rfl)) ?_; clear hF; intro a hF
  refine s_done ?_
  refine hK0 _ _ ?_; clear hK0
  refine wp_seq_k fun K1 hK1 => ?_
  -- region 1
  refine wp_region_lit ?_
  refine s_pu hF rfl rfl rfl (pu_move (hF.ev rfl)) ?_; clear hF; intro a hF
  refine s_en hF rfl rfl rfl (run_fn fk7 (hF.ev rfl) (hF.evs rfl)) (pick_c hS (by omega) hx0.1 hx0.2) ?_
  clear hS; rintro e w ⟨pm, _, hpm, rfl, hS⟩
  refine ⟨_, rfl, ?_⟩; clear hF; intro a hF
  refine s_pu hF rfl rfl rfl ((by first | exact pu_add64 (hF.ev rfl) (hF.ev rfl) (by omega) | exact pu_add (hF.ev rfl) (hF.ev rfl))) ?_; clear hF; intro a hF
  refine s_pu hF rfl rfl rfl (pu_assign (hF.ev rfl)) ?_; clear hF; intro a hF
  refine s_done ?_
  refine hK1 _ _ ?_; clear hK1
  refine wp_seq_k fun K2 hK2 => ?_
  -- region 2
  refine wp_region_lit ?_
  refine s_pu hF rfl rfl rfl (pu_move (hF.ev rfl)) ?_; clear hF; intro a hF
  refine s_en hF rfl rfl rfl (run_fn fk7 (hF.ev rfl) (hF.evs rfl)) (pick_c hS (by omega) hx1.1 hx1.2) ?_
  clear hS; rintro e w ⟨pn, _, hpn, rfl, hS⟩
  refine ⟨_, rfl, ?_⟩; clear hF; intro a hF
  refine s_pu hF rfl rfl rfl ((by first | exact pu_add64 (hF.ev rfl) (hF.ev rfl) (by omega) | exact pu_add (hF.ev rfl) (hF.ev rfl))) ?_; clear hF; intro a hF
  refine s_pu hF rfl rfl rfl (pu_assign (hF.ev rfl)) ?_; clear hF; intro a hF
  refine s_done ?_
  refine hK2 _ _ ?_; clear hK2
  refine wp_seq_k fun K3 hK3 => ?_
  -- region 3
  refine wp_region_lit ?_
  obtain ⟨m, hm⟩ : ∃ m : Nat, (m : Int) = 1 + (pm : Int) := ⟨pm + 1, by omega⟩
  obtain ⟨n, hn⟩ : ∃ n : Nat, (n : Int) = 1 + (pn : Int) := ⟨pn + 1, by omega⟩
  rw [← hm, ← hn] at hF
  have hmm : 1 ≤ (m : Int) ∧ (m : Int) ≤ 40 := by omega
  have hnn : 1 ≤ (n : Int) ∧ (n : Int) ≤ 40 := by omega
  refine s_pu hF rfl rfl rfl (pu_move (hF.ev rfl)) ?_; clear hF; intro a hF
  refine s_pu hF rfl rfl rfl (pu_move (hF.ev rfl)) ?_; clear hF; intro a hF
  refine s_en hF rfl rfl rfl (run_fn fk8 (hF.ev rfl) (hF.evs rfl)) (new_c (k := 0) hS (by unfold newOk; omega)) ?_
  clear hS; rintro e w ⟨g, rfl, hS⟩
  refine ⟨_, rfl, ?_⟩; clear hF; intro a hF
  refine s_pu hF rfl rfl rfl (pu_move (hF.ev rfl)) ?_; clear hF; intro a hF
  refine s_pu hF rfl rfl rfl (pu_extract (hF.ev rfl) rfl) ?_; clear hF; intro a hF
  refine s_pu hF rfl rfl rfl (pu_extract (hF.ev rfl) rfl) ?_; clear hF; intro a hF
  refine s_pu hF rfl rfl rfl (pu_assign (hF.ev rfl)) ?_; clear hF; intro a hF
  refine s_pu hF rfl rfl rfl (pu_assign (hF.ev rfl)) ?_; clear hF; intro a hF
  refine s_done ?_
  refine hK3 _ _ ?_; clear hK3
  refine wp_seq_k fun K4 hK4 => ?_
  refine wp_seq_k fun K5 hK5 => ?_
  -- region 4
  refine wp_region_lit ?_
  refine s_pu hF rfl rfl rfl (pu_move (hF.ev rfl)) ?_; clear hF; intro a hF
  refine s_pu hF rfl rfl rfl (pu_neq (hF.ev rfl) (hF.ev rfl)) ?_; clear hF; intro a hF
  refine s_pu hF rfl rfl rfl (pu_move (hF.ev rfl)) ?_; clear hF; intro a hF
  refine s_pu hF rfl rfl rfl (pu_move (hF.ev rfl)) ?_; clear hF; intro a hF
  refine s_pu hF rfl rfl rfl (pu_peq Try.underlying24 (hF.ev rfl) (hF.ev rfl)) ?_; clear hF; intro a hF
  refine s_pu hF rfl rfl rfl ((by first | exact pu_pick_t (hF.ev rfl) (hF.ev rfl) | exact pu_pick_f (hF.ev rfl) (hF.ev rfl) | exact pu_pick (hF.ev rfl) (hF.ev rfl) (hF.ev rfl))) ?_; clear hF; intro a hF
  refine s_done ?_
  refine hK5 _ _ ?_; clear hK5
  refine wp_cond_false (hF.ev rfl) ?_
  refine wp_skip ?_
  refine hK4 _ _ ?_; clear hK4
  refine wp_seq_k fun K6 hK6 => ?_
  -- region 6
  refine wp_region_lit ?_
  refine s_rd hF rfl rfl rfl (by first | exact rd_loadB (i := 0) (vs := [_, _, _, _, _]) ag30 (hF.ev rfl) hS rfl rfl | exact rd_loadB (i := 1) (vs := [_, _, _, _, _]) ag30 (hF.ev rfl) hS rfl rfl | exact rd_loadB (i := 2) (vs := [_, _, _, _, _]) ag30 (hF.ev rfl) hS rfl rfl | exact rd_loadB (i := 3) (vs := [_, _, _, _, _]) ag30 (hF.ev rfl) hS rfl rfl | exact rd_loadB (i := 4) (vs := [_, _, _, _, _]) ag30 (hF.ev rfl) hS rfl rfl) ?_; clear hF; intro a hF
  refine s_pu hF rfl rfl rfl (pu_move (hF.ev rfl)) ?_; clear hF; intro a hF
  refine s_pu hF rfl rfl rfl (pu_move (hF.ev rfl)) ?_; clear hF; intro a hF
  refine s_pu hF rfl rfl rfl ((pu_build st35 (hF.evp rfl) rfl rfl : Pu _ _ _ (.agg #[_, _, _, _, _, _, _, _, _, _, _, _]))) ?_; clear hF; intro a hF
  refine s_newp hF rfl rfl rfl (ef_alloc (cs := #[_, _, _, _, _, _, _, _, _, _, _, _]) ze35 rfl) hS ?_; clear hF hS; intro b17 w hS a hF
  (first | (refine s_store (vs := [_, _, _, _, _, _, _, _, _, _, _, _]) (cs' := #[_, _, _, _, _, _, _, _, _, _, _, _]) 0 hF rfl (hF.ev rfl) (hF.ev rfl) hS rfl rfl sz35 (by first | rfl | (simp only [List.all_cons, List.all_nil, Value.oneCell', Bool.and_true, Bool.true_and]; assumption) | (simp [Value.oneCell', *]; done)) (by first | exact Nat.le_of_ble_eq_true rfl | (simp [Value.cells]; omega)) rfl ?_) | (refine s_store (vs := [_, _, _, _, _, _, _, _, _, _, _, _]) (cs' := #[_, _, _, _, _, _, _, _, _, _, _, _]) 1 hF rfl (hF.ev rfl) (hF.ev rfl) hS rfl rfl sz35 (by first | rfl | (simp only [List.all_cons, List.all_nil, Value.oneCell', Bool.and_true, Bool.true_and]; assumption) | (simp [Value.oneCell', *]; done)) (by first | exact Nat.le_of_ble_eq_true rfl | (simp [Value.cells]; omega)) rfl ?_) | (refine s_store (vs := [_, _, _, _, _, _, _, _, _, _, _, _]) (cs' := #[_, _, _, _, _, _, _, _, _, _, _, _]) 2 hF rfl (hF.ev rfl) (hF.ev rfl) hS rfl rfl sz35 (by first | rfl | (simp only [List.all_cons, List.all_nil, Value.oneCell', Bool.and_true, Bool.true_and]; assumption) | (simp [Value.oneCell', *]; done)) (by first | exact Nat.le_of_ble_eq_true rfl | (simp [Value.cells]; omega)) rfl ?_) | (refine s_store (vs := [_, _, _, _, _, _, _, _, _, _, _, _]) (cs' := #[_, _, _, _, _, _, _, _, _, _, _, _]) 3 hF rfl (hF.ev rfl) (hF.ev rfl) hS rfl rfl sz35 (by first | rfl | (simp only [List.all_cons, List.all_nil, Value.oneCell', Bool.and_true, Bool.true_and]; assumption) | (simp [Value.oneCell', *]; done)) (by first | exact Nat.le_of_ble_eq_true rfl | (simp [Value.cells]; omega)) rfl ?_) | (refine s_store (vs := [_, _, _, _, _, _, _, _, _, _, _, _]) (cs' := #[_, _, _, _, _, _, _, _, _, _, _, _]) 4 hF rfl (hF.ev rfl) (hF.ev rfl) hS rfl rfl sz35 (by first | rfl | (simp only [List.all_cons, List.all_nil, Value.oneCell', Bool.and_true, Bool.true_and]; assumption) | (simp [Value.oneCell', *]; done)) (by first | exact Nat.le_of_ble_eq_true rfl | (simp [Value.cells]; omega)) rfl ?_) | (refine s_store (vs := [_, _, _, _, _, _, _, _, _, _, _, _]) (cs' := _) 0 hF rfl (hF.ev rfl) (hF.ev rfl) hS rfl rfl sz35 (by first | rfl | (simp only [List.all_cons, List.all_nil, Value.oneCell', Bool.and_true, Bool.true_and]; assumption) | (simp [Value.oneCell', *]; done)) (by first | exact Nat.le_of_ble_eq_true rfl | (simp [Value.cells]; omega)) rfl ?_) | (refine s_store (vs := [_, _, _, _, _, _, _, _, _, _, _, _]) (cs' := _) 1 hF rfl (hF.ev rfl) (hF.ev rfl) hS rfl rfl sz35 (by first | rfl | (simp only [List.all_cons, List.all_nil, Value.oneCell', Bool.and_true, Bool.true_and]; assumption) | (simp [Value.oneCell', *]; done)) (by first | exact Nat.le_of_ble_eq_true rfl | (simp [Value.cells]; omega)) rfl ?_) | (refine s_store (vs := [_, _, _, _, _, _, _, _, _, _, _, _]) (cs' := _) 2 hF rfl (hF.ev rfl) (hF.ev rfl) hS rfl rfl sz35 (by first | rfl | (simp only [List.all_cons, List.all_nil, Value.oneCell', Bool.and_true, Bool.true_and]; assumption) | (simp [Value.oneCell', *]; done)) (by first | exact Nat.le_of_ble_eq_true rfl | (simp [Value.cells]; omega)) rfl ?_) | (refine s_store (vs := [_, _, _, _, _, _, _, _, _, _, _, _]) (cs' := _) 3 hF rfl (hF.ev rfl) (hF.ev rfl) hS rfl rfl sz35 (by first | rfl | (simp only [List.all_cons, List.all_nil, Value.oneCell', Bool.and_true, Bool.true_and]; assumption) | (simp [Value.oneCell', *]; done)) (by first | exact Nat.le_of_ble_eq_true rfl | (simp [Value.cells]; omega)) rfl ?_) | (refine s_store (vs := [_, _, _, _, _, _, _, _, _, _, _, _]) (cs' := _) 4 hF rfl (hF.ev rfl) (hF.ev rfl) hS rfl rfl sz35 (by first | rfl | (simp only [List.all_cons, List.all_nil, Value.oneCell', Bool.and_true, Bool.true_and]; assumption) | (simp [Value.oneCell', *]; done)) (by first | exact Nat.le_of_ble_eq_true rfl | (simp [Value.cells]; omega)) rfl ?_))
  clear hS; intro w hS; (try simp only [upd, del] at hS)
  refine s_done ?_
  refine hK6 _ _ ?_; clear hK6
  refine wp_seq_j (fun a w => ∃ (o : PKey), o ≠ K ∧ Fr a 190 [(3, .int .i64 to), (4, .int .i64 nb), (8, .pointer (some ⟨b8, 0, none⟩)), (11, .pointer (some ⟨b11, 0, none⟩)), (13, .int .i64 m), (14, .int .i64 n), (15, .pointer (some ⟨g, 0, none⟩)), (17, .pointer (some ⟨b17, 0, none⟩))] ∧
    Sat W w [.obj b17 (.cells #[.int .i64 K.link, .int .i64 K.cls, .string K.num, .string K.stamp, .string K.term, .int .i64 0, .int .i64 to, .int .i64 nb, .string .empty, .slice none 0 0, .string .empty, .slice none 0 0] 35 (0, 0)), tabC 0 g (.start 3 m n),
      .obj b11 (.cells #[.int .i64 o.link, .int .i64 o.cls, .string o.num, .string o.stamp, .string o.term] 30 (0, 0)), .obj b8 (.cells #[.int .i64 K.link, .int .i64 K.cls, .string K.num, .string K.stamp, .string K.term] 30 (0, 0)), whole W]) ?_ ?_
  · -- up to the join s8
    refine wp_seq_k fun K8 hK8 => ?_
    -- region 7
    refine wp_region_lit ?_
    refine s_rd hF rfl rfl rfl (by first | exact rd_loadB (i := 0) (vs := [_, _, _, _, _]) ag30 (hF.ev rfl) hS rfl rfl | exact rd_loadB (i := 1) (vs := [_, _, _, _, _]) ag30 (hF.ev rfl) hS rfl rfl | exact rd_loadB (i := 2) (vs := [_, _, _, _, _]) ag30 (hF.ev rfl) hS rfl rfl | exact rd_loadB (i := 3) (vs := [_, _, _, _, _]) ag30 (hF.ev rfl) hS rfl rfl | exact rd_loadB (i := 4) (vs := [_, _, _, _, _]) ag30 (hF.ev rfl) hS rfl rfl) ?_; clear hF; intro a hF
    refine s_rd hF rfl rfl rfl (by first | exact rd_loadB (i := 0) (vs := [_, _, _, _, _]) ag30 (hF.ev rfl) hS rfl rfl | exact rd_loadB (i := 1) (vs := [_, _, _, _, _]) ag30 (hF.ev rfl) hS rfl rfl | exact rd_loadB (i := 2) (vs := [_, _, _, _, _]) ag30 (hF.ev rfl) hS rfl rfl | exact rd_loadB (i := 3) (vs := [_, _, _, _, _]) ag30 (hF.ev rfl) hS rfl rfl | exact rd_loadB (i := 4) (vs := [_, _, _, _, _]) ag30 (hF.ev rfl) hS rfl rfl) ?_; clear hF; intro a hF
    refine s_pu hF rfl rfl rfl (pu_aeq (by kernel_rfl) (hF.ev rfl) (hF.ev rfl) (key_eq O K)) ?_; clear hF; intro a hF
    refine s_done ?_
    refine hK8 _ _ ?_; clear hK8
    refine wp_cond_split (hF.ev rfl) (fun hc1 => ?_) (fun hc1 => ?_)
    · -- cond 1 true
      try simp only [decide_eq_true_eq, decide_eq_false_iff_not, Bool.not_eq_true', Bool.not_eq_false', Int.not_lt, Int.not_le, ne_eq, Decidable.not_not, Bool.or_eq_true, Bool.or_eq_false_iff, Bool.and_eq_true, Bool.and_eq_false_imp] at hc1
      -- region 8
      refine wp_region_lit ?_
      refine s_pu hF rfl rfl rfl ((by first | exact pu_field fd30_0 (hF.ev rfl) | exact pu_fieldA fd30_0 (hF.ev rfl))) ?_; clear hF; intro a hF
      refine s_rd hF rfl rfl rfl (by first | exact rd_load pl3 (hF.ev rfl) (by assumption) | exact rd_load pl3 (hF.ev rfl) (hS.cellL (i := 0) rfl rfl) | exact rd_load pl3 (hF.ev rfl) (hS.cellL (i := 1) rfl rfl) | exact rd_load pl3 (hF.ev rfl) (hS.cellL (i := 2) rfl rfl) | exact rd_load pl3 (hF.ev rfl) (hS.cellL (i := 3) rfl rfl) | exact rd_load pl3 (hF.ev rfl) (hS.cellL (i := 4) rfl rfl) | exact rd_load pl3 (hF.ev rfl) (hS.cell (i := 0) rfl (by assumption)) | exact rd_load pl3 (hF.ev rfl) (hS.cell (i := 1) rfl (by assumption)) | exact rd_load pl3 (hF.ev rfl) (hS.cell (i := 2) rfl (by assumption)) | exact rd_load pl3 (hF.ev rfl) (hS.cell (i := 3) rfl (by assumption)) | exact rd_load pl3 (hF.ev rfl) (hS.cell (i := 4) rfl (by assumption)) | exact rd_load pl3 (hF.ev rfl) (row_at (i := 0) hS rfl (by first | assumption | rfl)) | exact rd_load pl3 (hF.ev rfl) (row_at0 (i := 0) hS rfl (by first | assumption | rfl)) | exact rd_load pl3 (hF.ev rfl) (row_at (i := 1) hS rfl (by first | assumption | rfl)) | exact rd_load pl3 (hF.ev rfl) (row_at0 (i := 1) hS rfl (by first | assumption | rfl)) | exact rd_load pl3 (hF.ev rfl) (row_at (i := 2) hS rfl (by first | assumption | rfl)) | exact rd_load pl3 (hF.ev rfl) (row_at0 (i := 2) hS rfl (by first | assumption | rfl)) | exact rd_load pl3 (hF.ev rfl) (row_at (i := 3) hS rfl (by first | assumption | rfl)) | exact rd_load pl3 (hF.ev rfl) (row_at0 (i := 3) hS rfl (by first | assumption | rfl)) | exact rd_load pl3 (hF.ev rfl) (row_at (i := 4) hS rfl (by first | assumption | rfl)) | exact rd_load pl3 (hF.ev rfl) (row_at0 (i := 4) hS rfl (by first | assumption | rfl))) ?_; clear hF; intro a hF
      refine s_pu hF rfl rfl rfl (pu_xor (hF.ev rfl) (hF.ev rfl)) ?_; clear hF; intro a hF
      refine s_pu hF rfl rfl rfl ((by first | exact pu_field fd30_0 (hF.ev rfl) | exact pu_fieldA fd30_0 (hF.ev rfl))) ?_; clear hF; intro a hF
      (first | (refine s_rstore 0 hF rfl (hF.ev rfl) (hF.ev rfl) hS rfl sz3 rfl (by omega) ?_) | (refine s_rstore 1 hF rfl (hF.ev rfl) (hF.ev rfl) hS rfl sz3 rfl (by omega) ?_) | (refine s_rstore 2 hF rfl (hF.ev rfl) (hF.ev rfl) hS rfl sz3 rfl (by omega) ?_) | (refine s_rstore 3 hF rfl (hF.ev rfl) (hF.ev rfl) hS rfl sz3 rfl (by omega) ?_) | (refine s_rstore 4 hF rfl (hF.ev rfl) (hF.ev rfl) hS rfl sz3 rfl (by omega) ?_) | (refine s_store (vs := [_]) (cs' := #[_, _, _, _, _]) 0 hF rfl (hF.ev rfl) (hF.ev rfl) hS rfl rfl sz3 (by first | rfl | (simp only [List.all_cons, List.all_nil, Value.oneCell', Bool.and_true, Bool.true_and]; assumption) | (simp [Value.oneCell', *]; done)) (by first | exact Nat.le_of_ble_eq_true rfl | (simp [Value.cells]; omega)) rfl ?_) | (refine s_store (vs := [_]) (cs' := #[_, _, _, _, _]) 1 hF rfl (hF.ev rfl) (hF.ev rfl) hS rfl rfl sz3 (by first | rfl | (simp only [List.all_cons, List.all_nil, Value.oneCell', Bool.and_true, Bool.true_and]; assumption) | (simp [Value.oneCell', *]; done)) (by first | exact Nat.le_of_ble_eq_true rfl | (simp [Value.cells]; omega)) rfl ?_) | (refine s_store (vs := [_]) (cs' := #[_, _, _, _, _]) 2 hF rfl (hF.ev rfl) (hF.ev rfl) hS rfl rfl sz3 (by first | rfl | (simp only [List.all_cons, List.all_nil, Value.oneCell', Bool.and_true, Bool.true_and]; assumption) | (simp [Value.oneCell', *]; done)) (by first | exact Nat.le_of_ble_eq_true rfl | (simp [Value.cells]; omega)) rfl ?_) | (refine s_store (vs := [_]) (cs' := #[_, _, _, _, _]) 3 hF rfl (hF.ev rfl) (hF.ev rfl) hS rfl rfl sz3 (by first | rfl | (simp only [List.all_cons, List.all_nil, Value.oneCell', Bool.and_true, Bool.true_and]; assumption) | (simp [Value.oneCell', *]; done)) (by first | exact Nat.le_of_ble_eq_true rfl | (simp [Value.cells]; omega)) rfl ?_) | (refine s_store (vs := [_]) (cs' := #[_, _, _, _, _]) 4 hF rfl (hF.ev rfl) (hF.ev rfl) hS rfl rfl sz3 (by first | rfl | (simp only [List.all_cons, List.all_nil, Value.oneCell', Bool.and_true, Bool.true_and]; assumption) | (simp [Value.oneCell', *]; done)) (by first | exact Nat.le_of_ble_eq_true rfl | (simp [Value.cells]; omega)) rfl ?_) | (refine s_store (vs := [_]) (cs' := _) 0 hF rfl (hF.ev rfl) (hF.ev rfl) hS rfl rfl sz3 (by first | rfl | (simp only [List.all_cons, List.all_nil, Value.oneCell', Bool.and_true, Bool.true_and]; assumption) | (simp [Value.oneCell', *]; done)) (by first | exact Nat.le_of_ble_eq_true rfl | (simp [Value.cells]; omega)) rfl ?_) | (refine s_store (vs := [_]) (cs' := _) 1 hF rfl (hF.ev rfl) (hF.ev rfl) hS rfl rfl sz3 (by first | rfl | (simp only [List.all_cons, List.all_nil, Value.oneCell', Bool.and_true, Bool.true_and]; assumption) | (simp [Value.oneCell', *]; done)) (by first | exact Nat.le_of_ble_eq_true rfl | (simp [Value.cells]; omega)) rfl ?_) | (refine s_store (vs := [_]) (cs' := _) 2 hF rfl (hF.ev rfl) (hF.ev rfl) hS rfl rfl sz3 (by first | rfl | (simp only [List.all_cons, List.all_nil, Value.oneCell', Bool.and_true, Bool.true_and]; assumption) | (simp [Value.oneCell', *]; done)) (by first | exact Nat.le_of_ble_eq_true rfl | (simp [Value.cells]; omega)) rfl ?_) | (refine s_store (vs := [_]) (cs' := _) 3 hF rfl (hF.ev rfl) (hF.ev rfl) hS rfl rfl sz3 (by first | rfl | (simp only [List.all_cons, List.all_nil, Value.oneCell', Bool.and_true, Bool.true_and]; assumption) | (simp [Value.oneCell', *]; done)) (by first | exact Nat.le_of_ble_eq_true rfl | (simp [Value.cells]; omega)) rfl ?_) | (refine s_store (vs := [_]) (cs' := _) 4 hF rfl (hF.ev rfl) (hF.ev rfl) hS rfl rfl sz3 (by first | rfl | (simp only [List.all_cons, List.all_nil, Value.oneCell', Bool.and_true, Bool.true_and]; assumption) | (simp [Value.oneCell', *]; done)) (by first | exact Nat.le_of_ble_eq_true rfl | (simp [Value.cells]; omega)) rfl ?_))
      clear hS; intro w hS; (try simp only [upd, del] at hS)
      refine s_done ?_
      first
        | exact ⟨O, hc1, hF.sub ⟨rfl, rfl, rfl, rfl, rfl, rfl, rfl, rfl, trivial⟩, hS⟩
        | exact ⟨{ O with link := xorI O.link 1 }, (fun h => by rw [← hc1] at h; exact xor_ne (congrArg PKey.link h)), hF.sub ⟨rfl, rfl, rfl, rfl, rfl, rfl, rfl, rfl, trivial⟩, hS⟩
    · -- cond 1 false
      try simp only [decide_eq_true_eq, decide_eq_false_iff_not, Bool.not_eq_true', Bool.not_eq_false', Int.not_lt, Int.not_le, ne_eq, Decidable.not_not, Bool.or_eq_true, Bool.or_eq_false_iff, Bool.and_eq_true, Bool.and_eq_false_imp] at hc1
      refine wp_skip ?_
      first
        | exact ⟨O, hc1, hF.sub ⟨rfl, rfl, rfl, rfl, rfl, rfl, rfl, rfl, trivial⟩, hS⟩
        | exact ⟨{ O with link := xorI O.link 1 }, (fun h => by rw [← hc1] at h; exact xor_ne (congrArg PKey.link h)), hF.sub ⟨rfl, rfl, rfl, rfl, rfl, rfl, rfl, rfl, trivial⟩, hS⟩
  · -- behind the join s8
    clear hS hF
    rintro a w ⟨o, hoK, hF, hS⟩
    have hKo : K ≠ o := fun h => hoK h.symm
    refine wp_seq_k fun K7 hK7 => ?_
    -- region 9
    refine wp_region_lit ?_
    refine s_pu hF rfl rfl rfl (pu_move (hF.ev rfl)) ?_; clear hF; intro a hF
    refine s_rd hF rfl rfl rfl (by first | exact rd_loadB (i := 0) (vs := [_, _, _, _, _, _, _, _, _, _, _, _]) ag35 (hF.ev rfl) hS rfl rfl | exact rd_loadB (i := 1) (vs := [_, _, _, _, _, _, _, _, _, _, _, _]) ag35 (hF.ev rfl) hS rfl rfl | exact rd_loadB (i := 2) (vs := [_, _, _, _, _, _, _, _, _, _, _, _]) ag35 (hF.ev rfl) hS rfl rfl | exact rd_loadB (i := 3) (vs := [_, _, _, _, _, _, _, _, _, _, _, _]) ag35 (hF.ev rfl) hS rfl rfl | exact rd_loadB (i := 4) (vs := [_, _, _, _, _, _, _, _, _, _, _, _]) ag35 (hF.ev rfl) hS rfl rfl) ?_; clear hF; intro a hF
    refine s_en hF rfl rfl rfl (run_fn fk9 (hF.ev rfl) (hF.evs rfl)) (at_place 1 hS rfl (fun h => add_nil (q := K) (to := to) (number := nb) h rfl rfl (by simp [Tab.start, waitsL]) (by simp [Tab.start]) (by simp [Rising, Tab.start]) (by simp [Tab.start]; omega) (by simp [Tab.start]; omega) (by simp [Tab.start]) (by simp [Tab.start]) (by simp [Tab.start]) (by simp [Tab.start]) (by simp [Tab.start]) (by simp [Tab.start]) (by simp [Tab.start]) (by simp [Tab.start]))) ?_
    clear hS; rintro e w ⟨rfl, hS⟩
    simp only [del] at hS
    rw [show (Tab.start 3 m n).add (tq K to nb) = ⟨3, m, n, 1, [⟨0, tq K to nb, 1, false⟩], [en 1 m 0], 0, 1⟩ by simp [Tab.start, Tab.add, en]] at hS
    refine ⟨_, rfl, ?_⟩; clear hF; intro a hF
    refine s_pu hF rfl rfl rfl (pu_assign (hF.ev rfl)) ?_; clear hF; intro a hF
    refine s_done ?_
    refine hK7 _ _ ?_; clear hK7
    refine wp_seq_k fun K8 hK8 => ?_
    -- region 10
    refine wp_region_lit ?_
    refine s_pu hF rfl rfl rfl (pu_move (hF.ev rfl)) ?_; clear hF; intro a hF
    refine s_rd hF rfl rfl rfl (by first | exact rd_loadB (i := 0) (vs := [_, _, _, _, _]) ag30 (hF.ev rfl) hS rfl rfl | exact rd_loadB (i := 1) (vs := [_, _, _, _, _]) ag30 (hF.ev rfl) hS rfl rfl | exact rd_loadB (i := 2) (vs := [_, _, _, _, _]) ag30 (hF.ev rfl) hS rfl rfl | exact rd_loadB (i := 3) (vs := [_, _, _, _, _]) ag30 (hF.ev rfl) hS rfl rfl | exact rd_loadB (i := 4) (vs := [_, _, _, _, _]) ag30 (hF.ev rfl) hS rfl rfl) ?_; clear hF; intro a hF
    refine s_pu hF rfl rfl rfl (pu_move (hF.ev rfl)) ?_; clear hF; intro a hF
    refine s_pu hF rfl rfl rfl (pu_xor (hF.ev rfl) (hF.ev rfl)) ?_; clear hF; intro a hF
    refine s_pu hF rfl rfl rfl (pu_move (hF.ev rfl)) ?_; clear hF; intro a hF
    refine s_pu hF rfl rfl rfl ((pu_build st35 (hF.evp rfl) rfl rfl : Pu _ _ _ (.agg #[_, _, _, _, _, _, _, _, _, _, _, _]))) ?_; clear hF; intro a hF
    refine s_en hF rfl rfl rfl (run_fn fk9 (hF.ev rfl) (hF.evs rfl)) (add_twice (p := tq K (xorI to 1) nb) hS (.inl (by simp [keysL, mGet, tq]))) ?_
    clear hS; rintro e w ⟨rfl, hS⟩
    refine ⟨_, rfl, ?_⟩; clear hF; intro a hF
    refine s_pu hF rfl rfl rfl (pu_assign (hF.ev rfl)) ?_; clear hF; intro a hF
    refine s_done ?_
    refine hK8 _ _ ?_; clear hK8
    refine wp_seq_k fun K9 hK9 => ?_
    -- region 11
    refine wp_region_lit ?_
    refine s_pu hF rfl rfl rfl (pu_move (hF.ev rfl)) ?_; clear hF; intro a hF
    refine s_rd hF rfl rfl rfl (by first | exact rd_loadB (i := 0) (vs := [_, _, _, _, _]) ag30 (hF.ev rfl) hS rfl rfl | exact rd_loadB (i := 1) (vs := [_, _, _, _, _]) ag30 (hF.ev rfl) hS rfl rfl | exact rd_loadB (i := 2) (vs := [_, _, _, _, _]) ag30 (hF.ev rfl) hS rfl rfl | exact rd_loadB (i := 3) (vs := [_, _, _, _, _]) ag30 (hF.ev rfl) hS rfl rfl | exact rd_loadB (i := 4) (vs := [_, _, _, _, _]) ag30 (hF.ev rfl) hS rfl rfl) ?_; clear hF; intro a hF
    refine s_pu hF rfl rfl rfl (pu_move (hF.ev rfl)) ?_; clear hF; intro a hF
    refine s_pu hF rfl rfl rfl (pu_move (hF.ev rfl)) ?_; clear hF; intro a hF
    refine s_pu hF rfl rfl rfl ((pu_build st35 (hF.evp rfl) rfl rfl : Pu _ _ _ (.agg #[_, _, _, _, _, _, _, _, _, _, _, _]))) ?_; clear hF; intro a hF
    refine s_en hF rfl rfl rfl (run_fn fk9 (hF.ev rfl) (hF.evs rfl)) (add_twice (p := tq o to nb) hS (.inr (by simp [waysL, mGet, Ety.way, Pnd.way, tq]))) ?_
    clear hS; rintro e w ⟨rfl, hS⟩
    refine ⟨_, rfl, ?_⟩; clear hF; intro a hF
    refine s_pu hF rfl rfl rfl (pu_assign (hF.ev rfl)) ?_; clear hF; intro a hF
    refine s_done ?_
    refine hK9 _ _ ?_; clear hK9
    refine wp_seq_k fun K10 hK10 => ?_
    refine wp_seq_k fun K11 hK11 => ?_
    -- region 12
    refine wp_region_lit ?_
    refine s_pu hF rfl rfl rfl (pu_move (hF.ev rfl)) ?_; clear hF; intro a hF
    refine s_pu hF rfl rfl rfl (pu_neq (hF.ev rfl) (hF.ev rfl)) ?_; clear hF; intro a hF
    refine s_pu hF rfl rfl rfl (pu_move (hF.ev rfl)) ?_; clear hF; intro a hF
    refine s_pu hF rfl rfl rfl (pu_move (hF.ev rfl)) ?_; clear hF; intro a hF
    refine s_pu hF rfl rfl rfl (pu_neq (hF.ev rfl) (hF.ev rfl)) ?_; clear hF; intro a hF
    refine s_pu hF rfl rfl rfl ((by first | exact pu_pick_t (hF.ev rfl) (hF.ev rfl) | exact pu_pick_f (hF.ev rfl) (hF.ev rfl) | exact pu_pick (hF.ev rfl) (hF.ev rfl) (hF.ev rfl))) ?_; clear hF; intro a hF
    refine s_pu hF rfl rfl rfl (pu_move (hF.ev rfl)) ?_; clear hF; intro a hF
    refine s_pu hF rfl rfl rfl (pu_move (hF.ev rfl)) ?_; clear hF; intro a hF
    refine s_pu hF rfl rfl rfl (pu_neq (hF.ev rfl) (hF.ev rfl)) ?_; clear hF; intro a hF
    refine s_pu hF rfl rfl rfl ((by first | exact pu_pick_t (hF.ev rfl) (hF.ev rfl) | exact pu_pick_f (hF.ev rfl) (hF.ev rfl) | exact pu_pick (hF.ev rfl) (hF.ev rfl) (hF.ev rfl))) ?_; clear hF; intro a hF
    refine s_pu hF rfl rfl rfl (pu_move (hF.ev rfl)) ?_; clear hF; intro a hF
    refine s_pu hF rfl rfl rfl (pu_move (hF.ev rfl)) ?_; clear hF; intro a hF
    refine s_rd hF rfl rfl rfl (by first | exact rd_loadB (i := 0) (vs := [_, _, _, _, _]) ag30 (hF.ev rfl) hS rfl rfl | exact rd_loadB (i := 1) (vs := [_, _, _, _, _]) ag30 (hF.ev rfl) hS rfl rfl | exact rd_loadB (i := 2) (vs := [_, _, _, _, _]) ag30 (hF.ev rfl) hS rfl rfl | exact rd_loadB (i := 3) (vs := [_, _, _, _, _]) ag30 (hF.ev rfl) hS rfl rfl | exact rd_loadB (i := 4) (vs := [_, _, _, _, _]) ag30 (hF.ev rfl) hS rfl rfl) ?_; clear hF; intro a hF
    refine s_en hF rfl rfl rfl (run_fn fk15 (hF.ev rfl) (hF.evs rfl)) (has_c (q := K) hS) ?_
    clear hS; rintro e w ⟨rfl, hS⟩
    rw [show (mGet (keysL [(⟨0, tq K to nb, 1, false⟩ : Ety)]) K).isSome = true by simp [keysL, mGet, tq]]
    refine ⟨_, rfl, ?_⟩; clear hF; intro a hF
    refine s_pu hF rfl rfl rfl (pu_not (hF.ev rfl)) ?_; clear hF; intro a hF
    refine s_pu hF rfl rfl rfl ((by first | exact pu_pick_t (hF.ev rfl) (hF.ev rfl) | exact pu_pick_f (hF.ev rfl) (hF.ev rfl) | exact pu_pick (hF.ev rfl) (hF.ev rfl) (hF.ev rfl))) ?_; clear hF; intro a hF
    refine s_pu hF rfl rfl rfl (pu_move (hF.ev rfl)) ?_; clear hF; intro a hF
    refine s_pu hF rfl rfl rfl (pu_move (hF.ev rfl)) ?_; clear hF; intro a hF
    refine s_rd hF rfl rfl rfl (by first | exact rd_loadB (i := 0) (vs := [_, _, _, _, _]) ag30 (hF.ev rfl) hS rfl rfl | exact rd_loadB (i := 1) (vs := [_, _, _, _, _]) ag30 (hF.ev rfl) hS rfl rfl | exact rd_loadB (i := 2) (vs := [_, _, _, _, _]) ag30 (hF.ev rfl) hS rfl rfl | exact rd_loadB (i := 3) (vs := [_, _, _, _, _]) ag30 (hF.ev rfl) hS rfl rfl | exact rd_loadB (i := 4) (vs := [_, _, _, _, _]) ag30 (hF.ev rfl) hS rfl rfl) ?_; clear hF; intro a hF
    refine s_en hF rfl rfl rfl (run_fn fk15 (hF.ev rfl) (hF.evs rfl)) (has_c (q := o) hS) ?_
    clear hS; rintro e w ⟨rfl, hS⟩
    rw [show (mGet (keysL [(⟨0, tq K to nb, 1, false⟩ : Ety)]) o).isSome = false by simp [keysL, mGet, tq, hKo]]
    refine ⟨_, rfl, ?_⟩; clear hF; intro a hF
    refine s_pu hF rfl rfl rfl ((by first | exact pu_pick_t (hF.ev rfl) (hF.ev rfl) | exact pu_pick_f (hF.ev rfl) (hF.ev rfl) | exact pu_pick (hF.ev rfl) (hF.ev rfl) (hF.ev rfl))) ?_; clear hF; intro a hF
    refine s_done ?_
    refine hK11 _ _ ?_; clear hK11
    refine wp_cond_false (hF.ev rfl) ?_
    refine wp_skip ?_
    refine hK10 _ _ ?_; clear hK10
    refine wp_seq_k fun K12 hK12 => ?_
    refine wp_seq_k fun K13 hK13 => ?_
    -- region 14
    refine wp_region_lit ?_
    refine s_pu hF rfl rfl rfl (pu_assign (hF.ev rfl)) ?_; clear hF; intro a hF
    refine s_done ?_
    refine hK13 _ _ ?_; clear hK13
    refine wp_block ?_
    replace hS := hS.drop 1
    simp only [del] at hS
    refine wp_ind (fun j a w => ∃ (i : Nat) (T : Tab), j = m + 1 - i ∧ 1 ≤ i ∧ i ≤ m + 1 ∧ (i ≤ m → T = ⟨3, m, n, 1, [⟨0, tq K to nb, 1, false⟩], [en 1 m 0], (i : Int) - 1, 1⟩) ∧ (i = m + 1 → T = ⟨3, m, n, 1, [⟨0, tq K to nb, 2, true⟩], [en 2 ((m : Int) + n) 0], m, 2⟩) ∧
      Fr a 190 [(3, .int .i64 to), (4, .int .i64 nb), (8, .pointer (some ⟨b8, 0, none⟩)), (11, .pointer (some ⟨b11, 0, none⟩)), (13, .int .i64 m), (14, .int .i64 n), (15, .pointer (some ⟨g, 0, none⟩)), (21, .int .i64 i)] ∧ Sat W w [tabC 0 g T, .obj b11 (.cells #[.int .i64 o.link, .int .i64 o.cls, .string o.num, .string o.stamp, .string o.term] 30 (0, 0)), .obj b8 (.cells #[.int .i64 K.link, .int .i64 K.cls, .string K.num, .string K.stamp, .string K.term] 30 (0, 0)), whole W]) m
      ⟨1, _, by omega, by omega, by omega, fun _ => rfl, fun h => by omega, hF.sub ⟨rfl, rfl, rfl, rfl, rfl, rfl, rfl, rfl, trivial⟩, hS⟩ ?_
    clear hS hF
    rintro j a w ⟨i, T, rfl, hi1, him, hTa, hTb, hF, hS⟩
    refine wp_seq_k fun K14 hK14 => ?_
    refine wp_seq_k fun K15 hK15 => ?_
    -- region 15
    refine wp_region_lit ?_
    refine s_pu hF rfl rfl rfl (pu_move (hF.ev rfl)) ?_; clear hF; intro a hF
    refine s_pu hF rfl rfl rfl (pu_move (hF.ev rfl)) ?_; clear hF; intro a hF
    refine s_pu hF rfl rfl rfl (pu_leq (hF.ev rfl) (hF.ev rfl)) ?_; clear hF; intro a hF
    refine s_done ?_
    refine hK15 _ _ ?_; clear hK15
    refine wp_cond_split (hF.ev rfl) (fun hc3 => ?_) (fun hc3 => ?_)
    · -- cond 3 true
      try simp only [decide_eq_true_eq, decide_eq_false_iff_not, Bool.not_eq_true', Bool.not_eq_false', Int.not_lt, Int.not_le, ne_eq, Decidable.not_not, Bool.or_eq_true, Bool.or_eq_false_iff, Bool.and_eq_true, Bool.and_eq_false_imp] at hc3
      have hil : i ≤ m := by omega
      have hT := hTa hil
      subst hT
      clear hTa hTb
      refine wp_skip ?_
      refine hK14 _ _ ?_; clear hK14
      refine wp_seq_k fun K16 hK16 => ?_
      refine wp_block ?_
      refine wp_seq_k fun K17 hK17 => ?_
      -- region 17
      rcases Nat.lt_or_ge i m with hlt | hge
      rotate_left
      · -- last
        -- region 17
        refine wp_region_lit ?_
        refine s_pu hF rfl rfl rfl (pu_move (hF.ev rfl)) ?_; clear hF; intro a hF
        refine s_en hF rfl rfl rfl (run_fn fk16 (hF.ev rfl) (hF.evs rfl)) (tick_k hS (tk_b (p := tq K to nb) (now := (i : Int) - 1) hmm hnn (by omega) (by omega)) (by simp [Rising, en]) (by simp; omega) (by simp; omega) (by simp) (by simp) (by simp)) ?_
        clear hS; rintro e w ⟨_, _, _, _, rfl, hS⟩
        replace hS := hS.tail.tail
        refine ⟨_, rfl, ?_⟩; clear hF; intro a hF
        refine s_pu hF rfl rfl rfl (pu_move (hF.ev rfl)) ?_; clear hF; intro a hF
        refine s_pu hF rfl rfl rfl (pu_extract (hF.ev rfl) rfl) ?_; clear hF; intro a hF
        refine s_pu hF rfl rfl rfl (pu_extract (hF.ev rfl) rfl) ?_; clear hF; intro a hF
        refine s_pu hF rfl rfl rfl (pu_assign (hF.ev rfl)) ?_; clear hF; intro a hF
        refine s_pu hF rfl rfl rfl (pu_assign (hF.ev rfl)) ?_; clear hF; intro a hF
        refine s_done ?_
        refine hK17 _ _ ?_; clear hK17
        refine wp_seq_k fun K18 hK18 => ?_
        -- region 18
        refine wp_region_lit ?_
        refine s_pu hF rfl rfl rfl (pu_move (hF.ev rfl)) ?_; clear hF; intro a hF
        refine s_pu hF rfl rfl rfl (pu_len sl41 (hF.ev rfl)) ?_; clear hF; intro a hF
        refine s_pu hF rfl rfl rfl (pu_neq (hF.ev rfl) (hF.ev rfl)) ?_; clear hF; intro a hF
        refine s_pu hF rfl rfl rfl (pu_move (hF.ev rfl)) ?_; clear hF; intro a hF
        refine fr_split hF (t := 106) rfl ?_ ?_
        · clear hF; intro hg106 hF   -- slot 106 true
          try simp only [decide_eq_true_eq, decide_eq_false_iff_not, Bool.not_eq_true', Bool.not_eq_false', Int.not_lt, Int.not_le, ne_eq, Decidable.not_not, Bool.or_eq_true, Bool.or_eq_false_iff, Bool.and_eq_true, Bool.and_eq_false_imp] at hg106
          exfalso
          simp at hg106
        · clear hF; intro hg106 hF   -- slot 106 false
          try simp only [decide_eq_true_eq, decide_eq_false_iff_not, Bool.not_eq_true', Bool.not_eq_false', Int.not_lt, Int.not_le, ne_eq, Decidable.not_not, Bool.or_eq_true, Bool.or_eq_false_iff, Bool.and_eq_true, Bool.and_eq_false_imp] at hg106
          refine s_pu hF rfl rfl rfl (pu_move (hF.ev rfl)) ?_; clear hF; intro a hF
          refine s_pu hF rfl rfl rfl (pu_len sl41 (hF.ev rfl)) ?_; clear hF; intro a hF
          refine s_pu hF rfl rfl rfl (pu_eql (hF.ev rfl) (hF.ev rfl)) ?_; clear hF; intro a hF
          refine s_pu hF rfl rfl rfl (pu_move (hF.ev rfl)) ?_; clear hF; intro a hF
          refine s_pu hF rfl rfl rfl (pu_move (hF.ev rfl)) ?_; clear hF; intro a hF
          refine s_pu hF rfl rfl rfl (pu_eql (hF.ev rfl) (hF.ev rfl)) ?_; clear hF; intro a hF
          refine s_pu hF rfl rfl rfl (pu_bne Try.underlying4 (hF.ev rfl) (hF.ev rfl)) ?_; clear hF; intro a hF
          refine s_pu hF rfl rfl rfl ((by first | exact pu_pick_t (hF.ev rfl) (hF.ev rfl) | exact pu_pick_f (hF.ev rfl) (hF.ev rfl) | exact pu_pick (hF.ev rfl) (hF.ev rfl) (hF.ev rfl))) ?_; clear hF; intro a hF
          refine s_pu hF rfl rfl rfl (pu_move (hF.ev rfl)) ?_; clear hF; intro a hF
          refine fr_split hF (t := 115) rfl ?_ ?_
          · clear hF; intro hg115 hF   -- slot 115 true
            try simp only [decide_eq_true_eq, decide_eq_false_iff_not, Bool.not_eq_true', Bool.not_eq_false', Int.not_lt, Int.not_le, ne_eq, Decidable.not_not, Bool.or_eq_true, Bool.or_eq_false_iff, Bool.and_eq_true, Bool.and_eq_false_imp] at hg115
            exfalso
            have him2 : i = m := by omega
            subst him2
            simp at hg115
          · clear hF; intro hg115 hF   -- slot 115 false
            try simp only [decide_eq_true_eq, decide_eq_false_iff_not, Bool.not_eq_true', Bool.not_eq_false', Int.not_lt, Int.not_le, ne_eq, Decidable.not_not, Bool.or_eq_true, Bool.or_eq_false_iff, Bool.and_eq_true, Bool.and_eq_false_imp] at hg115
            refine s_pu hF rfl rfl rfl (pu_move (hF.ev rfl)) ?_; clear hF; intro a hF
            refine s_pu hF rfl rfl rfl (pu_len sl41 (hF.ev rfl)) ?_; clear hF; intro a hF
            refine s_pu hF rfl rfl rfl (pu_gtr (hF.ev rfl) (hF.ev rfl)) ?_; clear hF; intro a hF
            refine s_pu hF rfl rfl rfl ((by first | exact pu_pick_t (hF.ev rfl) (hF.ev rfl) | exact pu_pick_f (hF.ev rfl) (hF.ev rfl) | exact pu_pick (hF.ev rfl) (hF.ev rfl) (hF.ev rfl))) ?_; clear hF; intro a hF
            refine s_done ?_
            refine hK18 _ _ ?_; clear hK18
            refine wp_cond_split (hF.ev rfl) (fun hc4 => ?_) (fun hc4 => ?_)
            · -- cond 4 true
              try simp only [decide_eq_true_eq, decide_eq_false_iff_not, Bool.not_eq_true', Bool.not_eq_false', Int.not_lt, Int.not_le, ne_eq, Decidable.not_not, Bool.or_eq_true, Bool.or_eq_false_iff, Bool.and_eq_true, Bool.and_eq_false_imp] at hc4
              exfalso
              simp at hc4
            · -- cond 4 false
              try simp only [decide_eq_true_eq, decide_eq_false_iff_not, Bool.not_eq_true', Bool.not_eq_false', Int.not_lt, Int.not_le, ne_eq, Decidable.not_not, Bool.or_eq_true, Bool.or_eq_false_iff, Bool.and_eq_true, Bool.and_eq_false_imp] at hc4
              refine wp_skip ?_
              refine blk_normal ?_
              refine hK16 _ _ ?_; clear hK16
              -- region 16
              refine wp_region_lit ?_
              refine s_pu hF rfl rfl rfl (pu_move (hF.ev rfl)) ?_; clear hF; intro a hF
              refine s_pu hF rfl rfl rfl ((by first | exact pu_add64 (hF.ev rfl) (hF.ev rfl) (by omega) | exact pu_add (hF.ev rfl) (hF.ev rfl))) ?_; clear hF; intro a hF
              refine s_pu hF rfl rfl rfl (pu_assign (hF.ev rfl)) ?_; clear hF; intro a hF
              refine s_done ?_
              refine ⟨_, by omega, i + 1, _, rfl, by omega, by omega, fun h => by omega, fun h => ?_, hF.sub ⟨rfl, rfl, rfl, rfl, rfl, rfl, rfl, rfl, trivial⟩, hS⟩
              have him2 : (i : Int) = m := by omega
              simp [him2]
      · -- more
        -- region 17
        refine wp_region_lit ?_
        refine s_pu hF rfl rfl rfl (pu_move (hF.ev rfl)) ?_; clear hF; intro a hF
        refine s_en hF rfl rfl rfl (run_fn fk16 (hF.ev rfl) (hF.evs rfl)) (tick_k hS (tk_none (T := ⟨3, m, n, 1, [⟨0, tq K to nb, 1, false⟩], [en 1 m 0], (i : Int) - 1, 1⟩) (by simp [en]; omega)) (by simp [Rising, en]) (by simp; omega) (by simp; omega) (by simp) (by simp) (by simp)) ?_
        clear hS; rintro e w ⟨_, _, _, _, rfl, hS⟩
        replace hS := hS.tail.tail
        refine ⟨_, rfl, ?_⟩; clear hF; intro a hF
        refine s_pu hF rfl rfl rfl (pu_move (hF.ev rfl)) ?_; clear hF; intro a hF
        refine s_pu hF rfl rfl rfl (pu_extract (hF.ev rfl) rfl) ?_; clear hF; intro a hF
        refine s_pu hF rfl rfl rfl (pu_extract (hF.ev rfl) rfl) ?_; clear hF; intro a hF
        refine s_pu hF rfl rfl rfl (pu_assign (hF.ev rfl)) ?_; clear hF; intro a hF
        refine s_pu hF rfl rfl rfl (pu_assign (hF.ev rfl)) ?_; clear hF; intro a hF
        refine s_done ?_
        refine hK17 _ _ ?_; clear hK17
        refine wp_seq_k fun K18 hK18 => ?_
        -- region 18
        refine wp_region_lit ?_
        refine s_pu hF rfl rfl rfl (pu_move (hF.ev rfl)) ?_; clear hF; intro a hF
        refine s_pu hF rfl rfl rfl (pu_len sl41 (hF.ev rfl)) ?_; clear hF; intro a hF
        refine s_pu hF rfl rfl rfl (pu_neq (hF.ev rfl) (hF.ev rfl)) ?_; clear hF; intro a hF
        refine s_pu hF rfl rfl rfl (pu_move (hF.ev rfl)) ?_; clear hF; intro a hF
        refine fr_split hF (t := 106) rfl ?_ ?_
        · clear hF; intro hg106 hF   -- slot 106 true
          try simp only [decide_eq_true_eq, decide_eq_false_iff_not, Bool.not_eq_true', Bool.not_eq_false', Int.not_lt, Int.not_le, ne_eq, Decidable.not_not, Bool.or_eq_true, Bool.or_eq_false_iff, Bool.and_eq_true, Bool.and_eq_false_imp] at hg106
          exfalso
          simp at hg106
        · clear hF; intro hg106 hF   -- slot 106 false
          try simp only [decide_eq_true_eq, decide_eq_false_iff_not, Bool.not_eq_true', Bool.not_eq_false', Int.not_lt, Int.not_le, ne_eq, Decidable.not_not, Bool.or_eq_true, Bool.or_eq_false_iff, Bool.and_eq_true, Bool.and_eq_false_imp] at hg106
          refine s_pu hF rfl rfl rfl (pu_move (hF.ev rfl)) ?_; clear hF; intro a hF
          refine s_pu hF rfl rfl rfl (pu_len sl41 (hF.ev rfl)) ?_; clear hF; intro a hF
          refine s_pu hF rfl rfl rfl (pu_eql (hF.ev rfl) (hF.ev rfl)) ?_; clear hF; intro a hF
          refine s_pu hF rfl rfl rfl (pu_move (hF.ev rfl)) ?_; clear hF; intro a hF
          refine s_pu hF rfl rfl rfl (pu_move (hF.ev rfl)) ?_; clear hF; intro a hF
          refine s_pu hF rfl rfl rfl (pu_eql (hF.ev rfl) (hF.ev rfl)) ?_; clear hF; intro a hF
          refine s_pu hF rfl rfl rfl (pu_bne Try.underlying4 (hF.ev rfl) (hF.ev rfl)) ?_; clear hF; intro a hF
          refine s_pu hF rfl rfl rfl ((by first | exact pu_pick_t (hF.ev rfl) (hF.ev rfl) | exact pu_pick_f (hF.ev rfl) (hF.ev rfl) | exact pu_pick (hF.ev rfl) (hF.ev rfl) (hF.ev rfl))) ?_; clear hF; intro a hF
          refine s_pu hF rfl rfl rfl (pu_move (hF.ev rfl)) ?_; clear hF; intro a hF
          refine fr_split hF (t := 115) rfl ?_ ?_
          · clear hF; intro hg115 hF   -- slot 115 true
            try simp only [decide_eq_true_eq, decide_eq_false_iff_not, Bool.not_eq_true', Bool.not_eq_false', Int.not_lt, Int.not_le, ne_eq, Decidable.not_not, Bool.or_eq_true, Bool.or_eq_false_iff, Bool.and_eq_true, Bool.and_eq_false_imp] at hg115
            exfalso
            have him2 : ¬ ((i : Int) = m) := by omega
            simp [him2] at hg115
          · clear hF; intro hg115 hF   -- slot 115 false
            try simp only [decide_eq_true_eq, decide_eq_false_iff_not, Bool.not_eq_true', Bool.not_eq_false', Int.not_lt, Int.not_le, ne_eq, Decidable.not_not, Bool.or_eq_true, Bool.or_eq_false_iff, Bool.and_eq_true, Bool.and_eq_false_imp] at hg115
            refine s_pu hF rfl rfl rfl (pu_move (hF.ev rfl)) ?_; clear hF; intro a hF
            refine s_pu hF rfl rfl rfl (pu_len sl41 (hF.ev rfl)) ?_; clear hF; intro a hF
            refine s_pu hF rfl rfl rfl (pu_gtr (hF.ev rfl) (hF.ev rfl)) ?_; clear hF; intro a hF
            refine s_pu hF rfl rfl rfl ((by first | exact pu_pick_t (hF.ev rfl) (hF.ev rfl) | exact pu_pick_f (hF.ev rfl) (hF.ev rfl) | exact pu_pick (hF.ev rfl) (hF.ev rfl) (hF.ev rfl))) ?_; clear hF; intro a hF
            refine s_done ?_
            refine hK18 _ _ ?_; clear hK18
            refine wp_cond_split (hF.ev rfl) (fun hc4 => ?_) (fun hc4 => ?_)
            · -- cond 4 true
              try simp only [decide_eq_true_eq, decide_eq_false_iff_not, Bool.not_eq_true', Bool.not_eq_false', Int.not_lt, Int.not_le, ne_eq, Decidable.not_not, Bool.or_eq_true, Bool.or_eq_false_iff, Bool.and_eq_true, Bool.and_eq_false_imp] at hc4
              exfalso
              simp at hc4
            · -- cond 4 false
              try simp only [decide_eq_true_eq, decide_eq_false_iff_not, Bool.not_eq_true', Bool.not_eq_false', Int.not_lt, Int.not_le, ne_eq, Decidable.not_not, Bool.or_eq_true, Bool.or_eq_false_iff, Bool.and_eq_true, Bool.and_eq_false_imp] at hc4
              refine wp_skip ?_
              refine blk_normal ?_
              refine hK16 _ _ ?_; clear hK16
              -- region 16
              refine wp_region_lit ?_
              refine s_pu hF rfl rfl rfl (pu_move (hF.ev rfl)) ?_; clear hF; intro a hF
              refine s_pu hF rfl rfl rfl ((by first | exact pu_add64 (hF.ev rfl) (hF.ev rfl) (by omega) | exact pu_add (hF.ev rfl) (hF.ev rfl))) ?_; clear hF; intro a hF
              refine s_pu hF rfl rfl rfl (pu_assign (hF.ev rfl)) ?_; clear hF; intro a hF
              refine s_done ?_
              refine ⟨_, by omega, i + 1, _, rfl, by omega, by omega, fun h => ?_, fun h => by omega, hF.sub ⟨rfl, rfl, rfl, rfl, rfl, rfl, rfl, rfl, trivial⟩, hS⟩
              simp
    · -- cond 3 false
      try simp only [decide_eq_true_eq, decide_eq_false_iff_not, Bool.not_eq_true', Bool.not_eq_false', Int.not_lt, Int.not_le, ne_eq, Decidable.not_not, Bool.or_eq_true, Bool.or_eq_false_iff, Bool.and_eq_true, Bool.and_eq_false_imp] at hc3
      have hT := hTb (by omega)
      subst hT
      clear hTa hTb
      refine wp_exit ?_
      refine then_exit ?_
      refine then_exit ?_
      refine blk_exit ?_
      refine hK12 _ _ ?_; clear hK12
      refine wp_seq_k fun K16 hK16 => ?_
      -- region 20
      refine wp_region_lit ?_
      refine s_pu hF rfl rfl rfl (pu_move (hF.ev rfl)) ?_; clear hF; intro a hF
      refine s_rd hF rfl rfl rfl (by first | exact rd_loadB (i := 0) (vs := [_, _, _, _, _]) ag30 (hF.ev rfl) hS rfl rfl | exact rd_loadB (i := 1) (vs := [_, _, _, _, _]) ag30 (hF.ev rfl) hS rfl rfl | exact rd_loadB (i := 2) (vs := [_, _, _, _, _]) ag30 (hF.ev rfl) hS rfl rfl | exact rd_loadB (i := 3) (vs := [_, _, _, _, _]) ag30 (hF.ev rfl) hS rfl rfl | exact rd_loadB (i := 4) (vs := [_, _, _, _, _]) ag30 (hF.ev rfl) hS rfl rfl) ?_; clear hF; intro a hF
      refine s_pu hF rfl rfl rfl (pu_move (hF.ev rfl)) ?_; clear hF; intro a hF
      refine s_pu hF rfl rfl rfl (pu_move (hF.ev rfl)) ?_; clear hF; intro a hF
      refine s_pu hF rfl rfl rfl ((pu_build st35 (hF.evp rfl) rfl rfl : Pu _ _ _ (.agg #[_, _, _, _, _, _, _, _, _, _, _, _]))) ?_; clear hF; intro a hF
      refine s_en hF rfl rfl rfl (run_fn fk9 (hF.ev rfl) (hF.evs rfl)) (add_twice (p := tq o to nb) hS (.inr (by simp [waysL, mGet, Ety.way, Pnd.way, tq]))) ?_
      clear hS; rintro e w ⟨rfl, hS⟩
      refine ⟨_, rfl, ?_⟩; clear hF; intro a hF
      refine s_pu hF rfl rfl rfl (pu_assign (hF.ev rfl)) ?_; clear hF; intro a hF
      refine s_done ?_
      refine hK16 _ _ ?_; clear hK16
      refine wp_seq_k fun K17 hK17 => ?_
      -- region 21
      refine wp_region_lit ?_
      refine s_pu hF rfl rfl rfl (pu_move (hF.ev rfl)) ?_; clear hF; intro a hF
      refine s_rd hF rfl rfl rfl (by first | exact rd_loadB (i := 0) (vs := [_, _, _, _, _]) ag30 (hF.ev rfl) hS rfl rfl | exact rd_loadB (i := 1) (vs := [_, _, _, _, _]) ag30 (hF.ev rfl) hS rfl rfl | exact rd_loadB (i := 2) (vs := [_, _, _, _, _]) ag30 (hF.ev rfl) hS rfl rfl | exact rd_loadB (i := 3) (vs := [_, _, _, _, _]) ag30 (hF.ev rfl) hS rfl rfl | exact rd_loadB (i := 4) (vs := [_, _, _, _, _]) ag30 (hF.ev rfl) hS rfl rfl) ?_; clear hF; intro a hF
      refine s_pu hF rfl rfl rfl (pu_move (hF.ev rfl)) ?_; clear hF; intro a hF
      refine s_pu hF rfl rfl rfl (pu_xor (hF.ev rfl) (hF.ev rfl)) ?_; clear hF; intro a hF
      refine s_pu hF rfl rfl rfl (pu_move (hF.ev rfl)) ?_; clear hF; intro a hF
      refine s_pu hF rfl rfl rfl ((pu_build st35 (hF.evp rfl) rfl rfl : Pu _ _ _ (.agg #[_, _, _, _, _, _, _, _, _, _, _, _]))) ?_; clear hF; intro a hF
      refine s_en hF rfl rfl rfl (run_fn fk9 (hF.ev rfl) (hF.evs rfl)) (add_nil (q := K) (to := xorI to 1) (number := nb) hS (by simp [keysL, mGet]) (by simp [waysL, mGet, Ety.way, tq, hxt.symm]) (by simp [waitsL]) (by simp) (by simp [Rising, en]) (by simp; omega) (by simp; omega) (by simp) (by simp; omega) (by simp) (by simp) (by simp) (by simp) (by simp) (by simp)) ?_
      clear hS; rintro e w ⟨rfl, hS⟩
      rw [show (⟨3, m, n, 1, [⟨0, tq K to nb, 2, true⟩], [en 2 ((m : Int) + n) 0], m, 2⟩ : Tab).add (tq K (xorI to 1) nb) = ⟨3, m, n, 2, [⟨0, tq K to nb, 2, true⟩, ⟨1, tq K (xorI to 1) nb, 3, false⟩], [en 2 ((m : Int) + n) 0, en 3 ((m : Int) + m) 1], m, 3⟩ by simp [Tab.add, en]] at hS
      refine ⟨_, rfl, ?_⟩; clear hF; intro a hF
      refine s_pu hF rfl rfl rfl (pu_assign (hF.ev rfl)) ?_; clear hF; intro a hF
      refine s_done ?_
      refine hK17 _ _ ?_; clear hK17
      refine wp_seq_k fun K18 hK18 => ?_
      refine wp_seq_k fun K19 hK19 => ?_
      -- region 22
      refine wp_region_lit ?_
      refine s_pu hF rfl rfl rfl (pu_move (hF.ev rfl)) ?_; clear hF; intro a hF
      refine s_pu hF rfl rfl rfl (pu_neq (hF.ev rfl) (hF.ev rfl)) ?_; clear hF; intro a hF
      refine s_pu hF rfl rfl rfl (pu_move (hF.ev rfl)) ?_; clear hF; intro a hF
      refine s_pu hF rfl rfl rfl (pu_move (hF.ev rfl)) ?_; clear hF; intro a hF
      refine s_pu hF rfl rfl rfl (pu_neq (hF.ev rfl) (hF.ev rfl)) ?_; clear hF; intro a hF
      refine s_pu hF rfl rfl rfl ((by first | exact pu_pick_t (hF.ev rfl) (hF.ev rfl) | exact pu_pick_f (hF.ev rfl) (hF.ev rfl) | exact pu_pick (hF.ev rfl) (hF.ev rfl) (hF.ev rfl))) ?_; clear hF; intro a hF
      refine s_pu hF rfl rfl rfl (pu_move (hF.ev rfl)) ?_; clear hF; intro a hF
      refine s_pu hF rfl rfl rfl (pu_move (hF.ev rfl)) ?_; clear hF; intro a hF
      refine s_rd hF rfl rfl rfl (by first | exact rd_loadB (i := 0) (vs := [_, _, _, _, _]) ag30 (hF.ev rfl) hS rfl rfl | exact rd_loadB (i := 1) (vs := [_, _, _, _, _]) ag30 (hF.ev rfl) hS rfl rfl | exact rd_loadB (i := 2) (vs := [_, _, _, _, _]) ag30 (hF.ev rfl) hS rfl rfl | exact rd_loadB (i := 3) (vs := [_, _, _, _, _]) ag30 (hF.ev rfl) hS rfl rfl | exact rd_loadB (i := 4) (vs := [_, _, _, _, _]) ag30 (hF.ev rfl) hS rfl rfl) ?_; clear hF; intro a hF
      refine s_en hF rfl rfl rfl (run_fn fk15 (hF.ev rfl) (hF.evs rfl)) (has_c (q := o) hS) ?_
      clear hS; rintro e w ⟨rfl, hS⟩
      rw [show (mGet (keysL [(⟨0, tq K to nb, 2, true⟩ : Ety), ⟨1, tq K (xorI to 1) nb, 3, false⟩]) o).isSome = false by simp [keysL, mGet, tq, hKo]]
      refine ⟨_, rfl, ?_⟩; clear hF; intro a hF
      refine s_pu hF rfl rfl rfl ((by first | exact pu_pick_t (hF.ev rfl) (hF.ev rfl) | exact pu_pick_f (hF.ev rfl) (hF.ev rfl) | exact pu_pick (hF.ev rfl) (hF.ev rfl) (hF.ev rfl))) ?_; clear hF; intro a hF
      refine s_done ?_
      refine hK19 _ _ ?_; clear hK19
      refine wp_cond_false (hF.ev rfl) ?_
      refine wp_skip ?_
      refine hK18 _ _ ?_; clear hK18
      refine wp_seq_k fun K20 hK20 => ?_
      refine wp_seq_k fun K21 hK21 => ?_
      -- region 24
      refine wp_region_lit ?_
      refine s_pu hF rfl rfl rfl (pu_assign (hF.ev rfl)) ?_; clear hF; intro a hF
      refine s_done ?_
      refine hK21 _ _ ?_; clear hK21
      refine wp_block ?_
      refine wp_ind (fun j a w => ∃ (i : Nat) (T : Tab), j = n + 1 - i ∧ 1 ≤ i ∧ i ≤ n + 1 ∧ (i ≤ n → i ≤ m → T = ⟨3, m, n, 2, [⟨0, tq K to nb, 2, true⟩, ⟨1, tq K (xorI to 1) nb, 3, false⟩], [en 2 ((m : Int) + n) 0, en 3 ((m : Int) + m) 1], (m : Int) + (i : Int) - 1, 3⟩) ∧ (i ≤ n → m < i → T = ⟨3, m, n, 2, [⟨0, tq K to nb, 2, true⟩, ⟨1, tq K (xorI to 1) nb, 4, true⟩], [en 2 ((m : Int) + n) 0, en 4 ((m : Int) + m + n) 1], (m : Int) + (i : Int) - 1, 4⟩) ∧ (i = n + 1 → FinT m n (tq K (xorI to 1) nb) T) ∧
        Fr a 190 [(3, .int .i64 to), (4, .int .i64 nb), (8, .pointer (some ⟨b8, 0, none⟩)), (11, .pointer (some ⟨b11, 0, none⟩)), (13, .int .i64 m), (14, .int .i64 n), (15, .pointer (some ⟨g, 0, none⟩)), (24, .int .i64 i)] ∧ Sat W w [tabC 0 g T, .obj b11 (.cells #[.int .i64 o.link, .int .i64 o.cls, .string o.num, .string o.stamp, .string o.term] 30 (0, 0)), .obj b8 (.cells #[.int .i64 K.link, .int .i64 K.cls, .string K.num, .string K.stamp, .string K.term] 30 (0, 0)), whole W]) n
        ⟨1, _, by omega, by omega, by omega, fun _ _ => by simp, fun _ h => by omega, fun h => by omega, hF.sub ⟨rfl, rfl, rfl, rfl, rfl, rfl, rfl, rfl, trivial⟩, hS⟩ ?_
      clear hS hF
      rintro j a w ⟨i, T, rfl, hi1, hin, hTa, hTb, hTf, hF, hS⟩
      refine wp_seq_k fun K22 hK22 => ?_
      refine wp_seq_k fun K23 hK23 => ?_
      -- region 25
      refine wp_region_lit ?_
      refine s_pu hF rfl rfl rfl (pu_move (hF.ev rfl)) ?_; clear hF; intro a hF
      refine s_pu hF rfl rfl rfl (pu_move (hF.ev rfl)) ?_; clear hF; intro a hF
      refine s_pu hF rfl rfl rfl (pu_leq (hF.ev rfl) (hF.ev rfl)) ?_; clear hF; intro a hF
      refine s_done ?_
      refine hK23 _ _ ?_; clear hK23
      refine wp_cond_split (hF.ev rfl) (fun hc6 => ?_) (fun hc6 => ?_)
      · -- cond 6 true
        try simp only [decide_eq_true_eq, decide_eq_false_iff_not, Bool.not_eq_true', Bool.not_eq_false', Int.not_lt, Int.not_le, ne_eq, Decidable.not_not, Bool.or_eq_true, Bool.or_eq_false_iff, Bool.and_eq_true, Bool.and_eq_false_imp] at hc6
        have hil : i ≤ n := by omega
        refine wp_skip ?_
        refine hK22 _ _ ?_; clear hK22
        refine wp_seq_k fun K24 hK24 => ?_
        refine wp_block ?_
        refine wp_seq_k fun K25 hK25 => ?_
        -- region 27
        rcases (by omega : (i < n ∧ i < m) ∨ (i < n ∧ i = m) ∨ (i < n ∧ m < i) ∨ (i = n ∧ i < m) ∨ (i = n ∧ i = m) ∨ (i = n ∧ m < i)) with ⟨hlt, h1⟩ | ⟨hlt, h1⟩ | ⟨hlt, h1⟩ | ⟨hlt, h1⟩ | ⟨hlt, h1⟩ | ⟨hlt, h1⟩
        · -- la
          first
            | (have hT := hTa hil (by omega); subst hT)
            | (have hT := hTb hil (by omega); subst hT)
          clear hTa hTb hTf
          -- region 27
          refine wp_region_lit ?_
          refine s_pu hF rfl rfl rfl (pu_move (hF.ev rfl)) ?_; clear hF; intro a hF
          refine s_en hF rfl rfl rfl (run_fn fk16 (hF.ev rfl) (hF.evs rfl)) (tick_k hS (tk_none (by simp [en]; omega)) (by simp [Rising, en]) (by simp; omega) (by simp; omega) (by simp) (by simp) (by simp)) ?_
          clear hS; rintro e w ⟨_, _, _, _, rfl, hS⟩
          replace hS := hS.tail.tail
          refine ⟨_, rfl, ?_⟩; clear hF; intro a hF
          refine s_pu hF rfl rfl rfl (pu_move (hF.ev rfl)) ?_; clear hF; intro a hF
          refine s_pu hF rfl rfl rfl (pu_extract (hF.ev rfl) rfl) ?_; clear hF; intro a hF
          refine s_pu hF rfl rfl rfl (pu_extract (hF.ev rfl) rfl) ?_; clear hF; intro a hF
          refine s_pu hF rfl rfl rfl (pu_assign (hF.ev rfl)) ?_; clear hF; intro a hF
          refine s_pu hF rfl rfl rfl (pu_assign (hF.ev rfl)) ?_; clear hF; intro a hF
          refine s_done ?_
          refine hK25 _ _ ?_; clear hK25
          refine wp_seq_k fun K26 hK26 => ?_
          -- region 28
          refine wp_region_lit ?_
          refine s_pu hF rfl rfl rfl (pu_move (hF.ev rfl)) ?_; clear hF; intro a hF
          refine s_pu hF rfl rfl rfl (pu_move (hF.ev rfl)) ?_; clear hF; intro a hF
          refine s_pu hF rfl rfl rfl (pu_lss (hF.ev rfl) (hF.ev rfl)) ?_; clear hF; intro a hF
          refine s_pu hF rfl rfl rfl (pu_move (hF.ev rfl)) ?_; clear hF; intro a hF
          refine fr_split hF (t := 157) rfl ?_ ?_
          · clear hF; intro hg157 hF   -- slot 157 true
            try simp only [decide_eq_true_eq, decide_eq_false_iff_not, Bool.not_eq_true', Bool.not_eq_false', Int.not_lt, Int.not_le, ne_eq, Decidable.not_not, Bool.or_eq_true, Bool.or_eq_false_iff, Bool.and_eq_true, Bool.and_eq_false_imp] at hg157
            refine s_pu hF rfl rfl rfl (pu_move (hF.ev rfl)) ?_; clear hF; intro a hF
            refine s_pu hF rfl rfl rfl (pu_move (hF.ev rfl)) ?_; clear hF; intro a hF
            refine s_pu hF rfl rfl rfl (pu_lss (hF.ev rfl) (hF.ev rfl)) ?_; clear hF; intro a hF
            refine s_pu hF rfl rfl rfl ((by first | exact pu_pick_t (hF.ev rfl) (hF.ev rfl) | exact pu_pick_f (hF.ev rfl) (hF.ev rfl) | exact pu_pick (hF.ev rfl) (hF.ev rfl) (hF.ev rfl))) ?_; clear hF; intro a hF
            refine s_pu hF rfl rfl rfl (pu_move (hF.ev rfl)) ?_; clear hF; intro a hF
            refine fr_split hF (t := 162) rfl ?_ ?_
            · clear hF; intro hg162 hF   -- slot 162 true
              try simp only [decide_eq_true_eq, decide_eq_false_iff_not, Bool.not_eq_true', Bool.not_eq_false', Int.not_lt, Int.not_le, ne_eq, Decidable.not_not, Bool.or_eq_true, Bool.or_eq_false_iff, Bool.and_eq_true, Bool.and_eq_false_imp] at hg162
              refine s_pu hF rfl rfl rfl (pu_move (hF.ev rfl)) ?_; clear hF; intro a hF
              refine s_pu hF rfl rfl rfl (pu_len sl41 (hF.ev rfl)) ?_; clear hF; intro a hF
              refine s_pu hF rfl rfl rfl (pu_neq (hF.ev rfl) (hF.ev rfl)) ?_; clear hF; intro a hF
              refine s_pu hF rfl rfl rfl ((by first | exact pu_pick_t (hF.ev rfl) (hF.ev rfl) | exact pu_pick_f (hF.ev rfl) (hF.ev rfl) | exact pu_pick (hF.ev rfl) (hF.ev rfl) (hF.ev rfl))) ?_; clear hF; intro a hF
              refine s_pu hF rfl rfl rfl (pu_move (hF.ev rfl)) ?_; clear hF; intro a hF
              refine fr_split hF (t := 167) rfl ?_ ?_
              · clear hF; intro hg167 hF   -- slot 167 true
                try simp only [decide_eq_true_eq, decide_eq_false_iff_not, Bool.not_eq_true', Bool.not_eq_false', Int.not_lt, Int.not_le, ne_eq, Decidable.not_not, Bool.or_eq_true, Bool.or_eq_false_iff, Bool.and_eq_true, Bool.and_eq_false_imp] at hg167
                exfalso
                simp at hg167
              · clear hF; intro hg167 hF   -- slot 167 false
                try simp only [decide_eq_true_eq, decide_eq_false_iff_not, Bool.not_eq_true', Bool.not_eq_false', Int.not_lt, Int.not_le, ne_eq, Decidable.not_not, Bool.or_eq_true, Bool.or_eq_false_iff, Bool.and_eq_true, Bool.and_eq_false_imp] at hg167
                refine s_pu hF rfl rfl rfl (pu_move (hF.ev rfl)) ?_; clear hF; intro a hF
                refine s_pu hF rfl rfl rfl (pu_move (hF.ev rfl)) ?_; clear hF; intro a hF
                refine s_pu hF rfl rfl rfl (pu_eql (hF.ev rfl) (hF.ev rfl)) ?_; clear hF; intro a hF
                refine s_pu hF rfl rfl rfl (pu_move (hF.ev rfl)) ?_; clear hF; intro a hF
                refine fr_split hF (t := 171) rfl ?_ ?_
                · clear hF; intro hg171 hF   -- slot 171 true
                  try simp only [decide_eq_true_eq, decide_eq_false_iff_not, Bool.not_eq_true', Bool.not_eq_false', Int.not_lt, Int.not_le, ne_eq, Decidable.not_not, Bool.or_eq_true, Bool.or_eq_false_iff, Bool.and_eq_true, Bool.and_eq_false_imp] at hg171
                  exfalso
                  omega
                · clear hF; intro hg171 hF   -- slot 171 false
                  try simp only [decide_eq_true_eq, decide_eq_false_iff_not, Bool.not_eq_true', Bool.not_eq_false', Int.not_lt, Int.not_le, ne_eq, Decidable.not_not, Bool.or_eq_true, Bool.or_eq_false_iff, Bool.and_eq_true, Bool.and_eq_false_imp] at hg171
                  refine s_no hF rfl rfl rfl ?_; clear hF; intro a hF
                  refine s_no hF rfl rfl rfl ?_; clear hF; intro a hF
                  refine s_no hF rfl rfl rfl ?_; clear hF; intro a hF
                  refine s_pu hF rfl rfl rfl ((by first | exact pu_pick_t (hF.ev rfl) (hF.ev rfl) | exact pu_pick_f (hF.ev rfl) (hF.ev rfl) | exact pu_pick (hF.ev rfl) (hF.ev rfl) (hF.ev rfl))) ?_; clear hF; intro a hF
                  refine s_pu hF rfl rfl rfl ((by first | exact pu_pick_t (hF.ev rfl) (hF.ev rfl) | exact pu_pick_f (hF.ev rfl) (hF.ev rfl) | exact pu_pick (hF.ev rfl) (hF.ev rfl) (hF.ev rfl))) ?_; clear hF; intro a hF
                  refine s_done ?_
                  refine hK26 _ _ ?_; clear hK26
                  refine wp_cond_false (hF.ev rfl) ?_
                  refine wp_skip ?_
                  refine blk_normal ?_
                  refine hK24 _ _ ?_; clear hK24
                  -- region 26
                  refine wp_region_lit ?_
                  refine s_pu hF rfl rfl rfl (pu_move (hF.ev rfl)) ?_; clear hF; intro a hF
                  refine s_pu hF rfl rfl rfl ((by first | exact pu_add64 (hF.ev rfl) (hF.ev rfl) (by omega) | exact pu_add (hF.ev rfl) (hF.ev rfl))) ?_; clear hF; intro a hF
                  refine s_pu hF rfl rfl rfl (pu_assign (hF.ev rfl)) ?_; clear hF; intro a hF
                  refine s_done ?_
                  exact ⟨_, by omega, i + 1, _, rfl, by omega, by omega, fun _ _ => by simp; omega, fun _ h => by omega, fun h => by omega, hF.sub ⟨rfl, rfl, rfl, rfl, rfl, rfl, rfl, rfl, trivial⟩, hS⟩
            · clear hF; intro hg162 hF   -- slot 162 false
              try simp only [decide_eq_true_eq, decide_eq_false_iff_not, Bool.not_eq_true', Bool.not_eq_false', Int.not_lt, Int.not_le, ne_eq, Decidable.not_not, Bool.or_eq_true, Bool.or_eq_false_iff, Bool.and_eq_true, Bool.and_eq_false_imp] at hg162
              exfalso
              omega
          · clear hF; intro hg157 hF   -- slot 157 false
            try simp only [decide_eq_true_eq, decide_eq_false_iff_not, Bool.not_eq_true', Bool.not_eq_false', Int.not_lt, Int.not_le, ne_eq, Decidable.not_not, Bool.or_eq_true, Bool.or_eq_false_iff, Bool.and_eq_true, Bool.and_eq_false_imp] at hg157
            exfalso
            omega
        · -- lb
          first
            | (have hT := hTa hil (by omega); subst hT)
            | (have hT := hTb hil (by omega); subst hT)
          clear hTa hTb hTf
          -- region 27
          refine wp_region_lit ?_
          refine s_pu hF rfl rfl rfl (pu_move (hF.ev rfl)) ?_; clear hF; intro a hF
          refine s_en hF rfl rfl rfl (run_fn fk16 (hF.ev rfl) (hF.evs rfl)) (tick_k hS (tk_c2 (now := (m : Int) + (i : Int) - 1) hmm hnn (by omega) (by omega) (by omega) (by omega)) (by simp [Rising, en]) (by simp; omega) (by simp; omega) (by simp) (by simp) (by simp)) ?_
          clear hS; rintro e w ⟨_, _, _, _, rfl, hS⟩
          replace hS := hS.tail.tail
          refine ⟨_, rfl, ?_⟩; clear hF; intro a hF
          refine s_pu hF rfl rfl rfl (pu_move (hF.ev rfl)) ?_; clear hF; intro a hF
          refine s_pu hF rfl rfl rfl (pu_extract (hF.ev rfl) rfl) ?_; clear hF; intro a hF
          refine s_pu hF rfl rfl rfl (pu_extract (hF.ev rfl) rfl) ?_; clear hF; intro a hF
          refine s_pu hF rfl rfl rfl (pu_assign (hF.ev rfl)) ?_; clear hF; intro a hF
          refine s_pu hF rfl rfl rfl (pu_assign (hF.ev rfl)) ?_; clear hF; intro a hF
          refine s_done ?_
          refine hK25 _ _ ?_; clear hK25
          refine wp_seq_k fun K26 hK26 => ?_
          -- region 28
          refine wp_region_lit ?_
          refine s_pu hF rfl rfl rfl (pu_move (hF.ev rfl)) ?_; clear hF; intro a hF
          refine s_pu hF rfl rfl rfl (pu_move (hF.ev rfl)) ?_; clear hF; intro a hF
          refine s_pu hF rfl rfl rfl (pu_lss (hF.ev rfl) (hF.ev rfl)) ?_; clear hF; intro a hF
          refine s_pu hF rfl rfl rfl (pu_move (hF.ev rfl)) ?_; clear hF; intro a hF
          refine fr_split hF (t := 157) rfl ?_ ?_
          · clear hF; intro hg157 hF   -- slot 157 true
            try simp only [decide_eq_true_eq, decide_eq_false_iff_not, Bool.not_eq_true', Bool.not_eq_false', Int.not_lt, Int.not_le, ne_eq, Decidable.not_not, Bool.or_eq_true, Bool.or_eq_false_iff, Bool.and_eq_true, Bool.and_eq_false_imp] at hg157
            refine s_pu hF rfl rfl rfl (pu_move (hF.ev rfl)) ?_; clear hF; intro a hF
            refine s_pu hF rfl rfl rfl (pu_move (hF.ev rfl)) ?_; clear hF; intro a hF
            refine s_pu hF rfl rfl rfl (pu_lss (hF.ev rfl) (hF.ev rfl)) ?_; clear hF; intro a hF
            refine s_pu hF rfl rfl rfl ((by first | exact pu_pick_t (hF.ev rfl) (hF.ev rfl) | exact pu_pick_f (hF.ev rfl) (hF.ev rfl) | exact pu_pick (hF.ev rfl) (hF.ev rfl) (hF.ev rfl))) ?_; clear hF; intro a hF
            refine s_pu hF rfl rfl rfl (pu_move (hF.ev rfl)) ?_; clear hF; intro a hF
            refine fr_split hF (t := 162) rfl ?_ ?_
            · clear hF; intro hg162 hF   -- slot 162 true
              try simp only [decide_eq_true_eq, decide_eq_false_iff_not, Bool.not_eq_true', Bool.not_eq_false', Int.not_lt, Int.not_le, ne_eq, Decidable.not_not, Bool.or_eq_true, Bool.or_eq_false_iff, Bool.and_eq_true, Bool.and_eq_false_imp] at hg162
              exfalso
              omega
            · clear hF; intro hg162 hF   -- slot 162 false
              try simp only [decide_eq_true_eq, decide_eq_false_iff_not, Bool.not_eq_true', Bool.not_eq_false', Int.not_lt, Int.not_le, ne_eq, Decidable.not_not, Bool.or_eq_true, Bool.or_eq_false_iff, Bool.and_eq_true, Bool.and_eq_false_imp] at hg162
              refine s_no hF rfl rfl rfl ?_; clear hF; intro a hF
              refine s_no hF rfl rfl rfl ?_; clear hF; intro a hF
              refine s_no hF rfl rfl rfl ?_; clear hF; intro a hF
              refine s_pu hF rfl rfl rfl ((by first | exact pu_pick_t (hF.ev rfl) (hF.ev rfl) | exact pu_pick_f (hF.ev rfl) (hF.ev rfl) | exact pu_pick (hF.ev rfl) (hF.ev rfl) (hF.ev rfl))) ?_; clear hF; intro a hF
              refine s_pu hF rfl rfl rfl (pu_move (hF.ev rfl)) ?_; clear hF; intro a hF
              refine s_pu hF rfl rfl rfl (pu_move (hF.ev rfl)) ?_; clear hF; intro a hF
              refine s_pu hF rfl rfl rfl (pu_move (hF.ev rfl)) ?_; clear hF; intro a hF
              refine s_pu hF rfl rfl rfl (pu_eql (hF.ev rfl) (hF.ev rfl)) ?_; clear hF; intro a hF
              refine s_pu hF rfl rfl rfl (pu_move (hF.ev rfl)) ?_; clear hF; intro a hF
              refine fr_split hF (t := 171) rfl ?_ ?_
              · clear hF; intro hg171 hF   -- slot 171 true
                try simp only [decide_eq_true_eq, decide_eq_false_iff_not, Bool.not_eq_true', Bool.not_eq_false', Int.not_lt, Int.not_le, ne_eq, Decidable.not_not, Bool.or_eq_true, Bool.or_eq_false_iff, Bool.and_eq_true, Bool.and_eq_false_imp] at hg171
                exfalso
                omega
              · clear hF; intro hg171 hF   -- slot 171 false
                try simp only [decide_eq_true_eq, decide_eq_false_iff_not, Bool.not_eq_true', Bool.not_eq_false', Int.not_lt, Int.not_le, ne_eq, Decidable.not_not, Bool.or_eq_true, Bool.or_eq_false_iff, Bool.and_eq_true, Bool.and_eq_false_imp] at hg171
                refine s_no hF rfl rfl rfl ?_; clear hF; intro a hF
                refine s_no hF rfl rfl rfl ?_; clear hF; intro a hF
                refine s_no hF rfl rfl rfl ?_; clear hF; intro a hF
                refine s_pu hF rfl rfl rfl ((by first | exact pu_pick_t (hF.ev rfl) (hF.ev rfl) | exact pu_pick_f (hF.ev rfl) (hF.ev rfl) | exact pu_pick (hF.ev rfl) (hF.ev rfl) (hF.ev rfl))) ?_; clear hF; intro a hF
                refine s_pu hF rfl rfl rfl ((by first | exact pu_pick_t (hF.ev rfl) (hF.ev rfl) | exact pu_pick_f (hF.ev rfl) (hF.ev rfl) | exact pu_pick (hF.ev rfl) (hF.ev rfl) (hF.ev rfl))) ?_; clear hF; intro a hF
                refine s_done ?_
                refine hK26 _ _ ?_; clear hK26
                refine wp_cond_false (hF.ev rfl) ?_
                refine wp_skip ?_
                refine blk_normal ?_
                refine hK24 _ _ ?_; clear hK24
                -- region 26
                refine wp_region_lit ?_
                refine s_pu hF rfl rfl rfl (pu_move (hF.ev rfl)) ?_; clear hF; intro a hF
                refine s_pu hF rfl rfl rfl ((by first | exact pu_add64 (hF.ev rfl) (hF.ev rfl) (by omega) | exact pu_add (hF.ev rfl) (hF.ev rfl))) ?_; clear hF; intro a hF
                refine s_pu hF rfl rfl rfl (pu_assign (hF.ev rfl)) ?_; clear hF; intro a hF
                refine s_done ?_
                exact ⟨_, by omega, i + 1, _, rfl, by omega, by omega, fun _ h => by omega, fun _ _ => by subst h1; simp [en]; omega, fun h => by omega, hF.sub ⟨rfl, rfl, rfl, rfl, rfl, rfl, rfl, rfl, trivial⟩, hS⟩
          · clear hF; intro hg157 hF   -- slot 157 false
            try simp only [decide_eq_true_eq, decide_eq_false_iff_not, Bool.not_eq_true', Bool.not_eq_false', Int.not_lt, Int.not_le, ne_eq, Decidable.not_not, Bool.or_eq_true, Bool.or_eq_false_iff, Bool.and_eq_true, Bool.and_eq_false_imp] at hg157
            exfalso
            omega
        · -- lc
          first
            | (have hT := hTa hil (by omega); subst hT)
            | (have hT := hTb hil (by omega); subst hT)
          clear hTa hTb hTf
          -- region 27
          refine wp_region_lit ?_
          refine s_pu hF rfl rfl rfl (pu_move (hF.ev rfl)) ?_; clear hF; intro a hF
          refine s_en hF rfl rfl rfl (run_fn fk16 (hF.ev rfl) (hF.evs rfl)) (tick_k hS (tk_none (by simp [en]; omega)) (by simp [Rising, en]) (by simp; omega) (by simp; omega) (by simp) (by simp) (by simp)) ?_
          clear hS; rintro e w ⟨_, _, _, _, rfl, hS⟩
          replace hS := hS.tail.tail
          refine ⟨_, rfl, ?_⟩; clear hF; intro a hF
          refine s_pu hF rfl rfl rfl (pu_move (hF.ev rfl)) ?_; clear hF; intro a hF
          refine s_pu hF rfl rfl rfl (pu_extract (hF.ev rfl) rfl) ?_; clear hF; intro a hF
          refine s_pu hF rfl rfl rfl (pu_extract (hF.ev rfl) rfl) ?_; clear hF; intro a hF
          refine s_pu hF rfl rfl rfl (pu_assign (hF.ev rfl)) ?_; clear hF; intro a hF
          refine s_pu hF rfl rfl rfl (pu_assign (hF.ev rfl)) ?_; clear hF; intro a hF
          refine s_done ?_
          refine hK25 _ _ ?_; clear hK25
          refine wp_seq_k fun K26 hK26 => ?_
          -- region 28
          refine wp_region_lit ?_
          refine s_pu hF rfl rfl rfl (pu_move (hF.ev rfl)) ?_; clear hF; intro a hF
          refine s_pu hF rfl rfl rfl (pu_move (hF.ev rfl)) ?_; clear hF; intro a hF
          refine s_pu hF rfl rfl rfl (pu_lss (hF.ev rfl) (hF.ev rfl)) ?_; clear hF; intro a hF
          refine s_pu hF rfl rfl rfl (pu_move (hF.ev rfl)) ?_; clear hF; intro a hF
          refine fr_split hF (t := 157) rfl ?_ ?_
          · clear hF; intro hg157 hF   -- slot 157 true
            try simp only [decide_eq_true_eq, decide_eq_false_iff_not, Bool.not_eq_true', Bool.not_eq_false', Int.not_lt, Int.not_le, ne_eq, Decidable.not_not, Bool.or_eq_true, Bool.or_eq_false_iff, Bool.and_eq_true, Bool.and_eq_false_imp] at hg157
            refine s_pu hF rfl rfl rfl (pu_move (hF.ev rfl)) ?_; clear hF; intro a hF
            refine s_pu hF rfl rfl rfl (pu_move (hF.ev rfl)) ?_; clear hF; intro a hF
            refine s_pu hF rfl rfl rfl (pu_lss (hF.ev rfl) (hF.ev rfl)) ?_; clear hF; intro a hF
            refine s_pu hF rfl rfl rfl ((by first | exact pu_pick_t (hF.ev rfl) (hF.ev rfl) | exact pu_pick_f (hF.ev rfl) (hF.ev rfl) | exact pu_pick (hF.ev rfl) (hF.ev rfl) (hF.ev rfl))) ?_; clear hF; intro a hF
            refine s_pu hF rfl rfl rfl (pu_move (hF.ev rfl)) ?_; clear hF; intro a hF
            refine fr_split hF (t := 162) rfl ?_ ?_
            · clear hF; intro hg162 hF   -- slot 162 true
              try simp only [decide_eq_true_eq, decide_eq_false_iff_not, Bool.not_eq_true', Bool.not_eq_false', Int.not_lt, Int.not_le, ne_eq, Decidable.not_not, Bool.or_eq_true, Bool.or_eq_false_iff, Bool.and_eq_true, Bool.and_eq_false_imp] at hg162
              exfalso
              omega
            · clear hF; intro hg162 hF   -- slot 162 false
              try simp only [decide_eq_true_eq, decide_eq_false_iff_not, Bool.not_eq_true', Bool.not_eq_false', Int.not_lt, Int.not_le, ne_eq, Decidable.not_not, Bool.or_eq_true, Bool.or_eq_false_iff, Bool.and_eq_true, Bool.and_eq_false_imp] at hg162
              refine s_no hF rfl rfl rfl ?_; clear hF; intro a hF
              refine s_no hF rfl rfl rfl ?_; clear hF; intro a hF
              refine s_no hF rfl rfl rfl ?_; clear hF; intro a hF
              refine s_pu hF rfl rfl rfl ((by first | exact pu_pick_t (hF.ev rfl) (hF.ev rfl) | exact pu_pick_f (hF.ev rfl) (hF.ev rfl) | exact pu_pick (hF.ev rfl) (hF.ev rfl) (hF.ev rfl))) ?_; clear hF; intro a hF
              refine s_pu hF rfl rfl rfl (pu_move (hF.ev rfl)) ?_; clear hF; intro a hF
              refine s_pu hF rfl rfl rfl (pu_move (hF.ev rfl)) ?_; clear hF; intro a hF
              refine s_pu hF rfl rfl rfl (pu_move (hF.ev rfl)) ?_; clear hF; intro a hF
              refine s_pu hF rfl rfl rfl (pu_eql (hF.ev rfl) (hF.ev rfl)) ?_; clear hF; intro a hF
              refine s_pu hF rfl rfl rfl (pu_move (hF.ev rfl)) ?_; clear hF; intro a hF
              refine fr_split hF (t := 171) rfl ?_ ?_
              · clear hF; intro hg171 hF   -- slot 171 true
                try simp only [decide_eq_true_eq, decide_eq_false_iff_not, Bool.not_eq_true', Bool.not_eq_false', Int.not_lt, Int.not_le, ne_eq, Decidable.not_not, Bool.or_eq_true, Bool.or_eq_false_iff, Bool.and_eq_true, Bool.and_eq_false_imp] at hg171
                exfalso
                omega
              · clear hF; intro hg171 hF   -- slot 171 false
                try simp only [decide_eq_true_eq, decide_eq_false_iff_not, Bool.not_eq_true', Bool.not_eq_false', Int.not_lt, Int.not_le, ne_eq, Decidable.not_not, Bool.or_eq_true, Bool.or_eq_false_iff, Bool.and_eq_true, Bool.and_eq_false_imp] at hg171
                refine s_no hF rfl rfl rfl ?_; clear hF; intro a hF
                refine s_no hF rfl rfl rfl ?_; clear hF; intro a hF
                refine s_no hF rfl rfl rfl ?_; clear hF; intro a hF
                refine s_pu hF rfl rfl rfl ((by first | exact pu_pick_t (hF.ev rfl) (hF.ev rfl) | exact pu_pick_f (hF.ev rfl) (hF.ev rfl) | exact pu_pick (hF.ev rfl) (hF.ev rfl) (hF.ev rfl))) ?_; clear hF; intro a hF
                refine s_pu hF rfl rfl rfl ((by first | exact pu_pick_t (hF.ev rfl) (hF.ev rfl) | exact pu_pick_f (hF.ev rfl) (hF.ev rfl) | exact pu_pick (hF.ev rfl) (hF.ev rfl) (hF.ev rfl))) ?_; clear hF; intro a hF
                refine s_done ?_
                refine hK26 _ _ ?_; clear hK26
                refine wp_cond_false (hF.ev rfl) ?_
                refine wp_skip ?_
                refine blk_normal ?_
                refine hK24 _ _ ?_; clear hK24
                -- region 26
                refine wp_region_lit ?_
                refine s_pu hF rfl rfl rfl (pu_move (hF.ev rfl)) ?_; clear hF; intro a hF
                refine s_pu hF rfl rfl rfl ((by first | exact pu_add64 (hF.ev rfl) (hF.ev rfl) (by omega) | exact pu_add (hF.ev rfl) (hF.ev rfl))) ?_; clear hF; intro a hF
                refine s_pu hF rfl rfl rfl (pu_assign (hF.ev rfl)) ?_; clear hF; intro a hF
                refine s_done ?_
                exact ⟨_, by omega, i + 1, _, rfl, by omega, by omega, fun _ h => by omega, fun _ _ => by simp; omega, fun h => by omega, hF.sub ⟨rfl, rfl, rfl, rfl, rfl, rfl, rfl, rfl, trivial⟩, hS⟩
          · clear hF; intro hg157 hF   -- slot 157 false
            try simp only [decide_eq_true_eq, decide_eq_false_iff_not, Bool.not_eq_true', Bool.not_eq_false', Int.not_lt, Int.not_le, ne_eq, Decidable.not_not, Bool.or_eq_true, Bool.or_eq_false_iff, Bool.and_eq_true, Bool.and_eq_false_imp] at hg157
            exfalso
            omega
        · -- ld
          first
            | (have hT := hTa hil (by omega); subst hT)
            | (have hT := hTb hil (by omega); subst hT)
          clear hTa hTb hTf
          -- region 27
          refine wp_region_lit ?_
          refine s_pu hF rfl rfl rfl (pu_move (hF.ev rfl)) ?_; clear hF; intro a hF
          refine s_en hF rfl rfl rfl (run_fn fk16 (hF.ev rfl) (hF.evs rfl)) (tick_k hS (tk_c4 (now := (m : Int) + (i : Int) - 1) hmm hnn (by omega) (by omega) (by omega)) (by simp [Rising, en]) (by simp; omega) (by simp; omega) (by simp) (by simp) (by simp)) ?_
          clear hS; rintro e w ⟨_, _, _, _, rfl, hS⟩
          replace hS := hS.tail.tail
          refine ⟨_, rfl, ?_⟩; clear hF; intro a hF
          refine s_pu hF rfl rfl rfl (pu_move (hF.ev rfl)) ?_; clear hF; intro a hF
          refine s_pu hF rfl rfl rfl (pu_extract (hF.ev rfl) rfl) ?_; clear hF; intro a hF
          refine s_pu hF rfl rfl rfl (pu_extract (hF.ev rfl) rfl) ?_; clear hF; intro a hF
          refine s_pu hF rfl rfl rfl (pu_assign (hF.ev rfl)) ?_; clear hF; intro a hF
          refine s_pu hF rfl rfl rfl (pu_assign (hF.ev rfl)) ?_; clear hF; intro a hF
          refine s_done ?_
          refine hK25 _ _ ?_; clear hK25
          refine wp_seq_k fun K26 hK26 => ?_
          -- region 28
          refine wp_region_lit ?_
          refine s_pu hF rfl rfl rfl (pu_move (hF.ev rfl)) ?_; clear hF; intro a hF
          refine s_pu hF rfl rfl rfl (pu_move (hF.ev rfl)) ?_; clear hF; intro a hF
          refine s_pu hF rfl rfl rfl (pu_lss (hF.ev rfl) (hF.ev rfl)) ?_; clear hF; intro a hF
          refine s_pu hF rfl rfl rfl (pu_move (hF.ev rfl)) ?_; clear hF; intro a hF
          refine fr_split hF (t := 157) rfl ?_ ?_
          · clear hF; intro hg157 hF   -- slot 157 true
            try simp only [decide_eq_true_eq, decide_eq_false_iff_not, Bool.not_eq_true', Bool.not_eq_false', Int.not_lt, Int.not_le, ne_eq, Decidable.not_not, Bool.or_eq_true, Bool.or_eq_false_iff, Bool.and_eq_true, Bool.and_eq_false_imp] at hg157
            exfalso
            omega
          · clear hF; intro hg157 hF   -- slot 157 false
            try simp only [decide_eq_true_eq, decide_eq_false_iff_not, Bool.not_eq_true', Bool.not_eq_false', Int.not_lt, Int.not_le, ne_eq, Decidable.not_not, Bool.or_eq_true, Bool.or_eq_false_iff, Bool.and_eq_true, Bool.and_eq_false_imp] at hg157
            refine s_no hF rfl rfl rfl ?_; clear hF; intro a hF
            refine s_no hF rfl rfl rfl ?_; clear hF; intro a hF
            refine s_no hF rfl rfl rfl ?_; clear hF; intro a hF
            refine s_pu hF rfl rfl rfl ((by first | exact pu_pick_t (hF.ev rfl) (hF.ev rfl) | exact pu_pick_f (hF.ev rfl) (hF.ev rfl) | exact pu_pick (hF.ev rfl) (hF.ev rfl) (hF.ev rfl))) ?_; clear hF; intro a hF
            refine s_pu hF rfl rfl rfl (pu_move (hF.ev rfl)) ?_; clear hF; intro a hF
            refine s_no hF rfl rfl rfl ?_; clear hF; intro a hF
            refine s_no hF rfl rfl rfl ?_; clear hF; intro a hF
            refine s_no hF rfl rfl rfl ?_; clear hF; intro a hF
            refine s_pu hF rfl rfl rfl ((by first | exact pu_pick_t (hF.ev rfl) (hF.ev rfl) | exact pu_pick_f (hF.ev rfl) (hF.ev rfl) | exact pu_pick (hF.ev rfl) (hF.ev rfl) (hF.ev rfl))) ?_; clear hF; intro a hF
            refine s_pu hF rfl rfl rfl (pu_move (hF.ev rfl)) ?_; clear hF; intro a hF
            refine s_pu hF rfl rfl rfl (pu_move (hF.ev rfl)) ?_; clear hF; intro a hF
            refine s_pu hF rfl rfl rfl (pu_move (hF.ev rfl)) ?_; clear hF; intro a hF
            refine s_pu hF rfl rfl rfl (pu_eql (hF.ev rfl) (hF.ev rfl)) ?_; clear hF; intro a hF
            refine s_pu hF rfl rfl rfl (pu_move (hF.ev rfl)) ?_; clear hF; intro a hF
            refine fr_split hF (t := 171) rfl ?_ ?_
            · clear hF; intro hg171 hF   -- slot 171 true
              try simp only [decide_eq_true_eq, decide_eq_false_iff_not, Bool.not_eq_true', Bool.not_eq_false', Int.not_lt, Int.not_le, ne_eq, Decidable.not_not, Bool.or_eq_true, Bool.or_eq_false_iff, Bool.and_eq_true, Bool.and_eq_false_imp] at hg171
              refine s_pu hF rfl rfl rfl (pu_move (hF.ev rfl)) ?_; clear hF; intro a hF
              refine s_pu hF rfl rfl rfl (pu_len sl41 (hF.ev rfl)) ?_; clear hF; intro a hF
              refine s_pu hF rfl rfl rfl (pu_eql (hF.ev rfl) (hF.ev rfl)) ?_; clear hF; intro a hF
              refine s_pu hF rfl rfl rfl ((by first | exact pu_pick_t (hF.ev rfl) (hF.ev rfl) | exact pu_pick_f (hF.ev rfl) (hF.ev rfl) | exact pu_pick (hF.ev rfl) (hF.ev rfl) (hF.ev rfl))) ?_; clear hF; intro a hF
              refine s_pu hF rfl rfl rfl ((by first | exact pu_pick_t (hF.ev rfl) (hF.ev rfl) | exact pu_pick_f (hF.ev rfl) (hF.ev rfl) | exact pu_pick (hF.ev rfl) (hF.ev rfl) (hF.ev rfl))) ?_; clear hF; intro a hF
              refine s_done ?_
              refine hK26 _ _ ?_; clear hK26
              refine wp_cond_split (hF.ev rfl) (fun hc7 => ?_) (fun hc7 => ?_)
              · -- cond 7 true
                try simp only [decide_eq_true_eq, decide_eq_false_iff_not, Bool.not_eq_true', Bool.not_eq_false', Int.not_lt, Int.not_le, ne_eq, Decidable.not_not, Bool.or_eq_true, Bool.or_eq_false_iff, Bool.and_eq_true, Bool.and_eq_false_imp] at hc7
                exfalso
                simp at hc7
              · -- cond 7 false
                try simp only [decide_eq_true_eq, decide_eq_false_iff_not, Bool.not_eq_true', Bool.not_eq_false', Int.not_lt, Int.not_le, ne_eq, Decidable.not_not, Bool.or_eq_true, Bool.or_eq_false_iff, Bool.and_eq_true, Bool.and_eq_false_imp] at hc7
                refine wp_skip ?_
                refine blk_normal ?_
                refine hK24 _ _ ?_; clear hK24
                -- region 26
                refine wp_region_lit ?_
                refine s_pu hF rfl rfl rfl (pu_move (hF.ev rfl)) ?_; clear hF; intro a hF
                refine s_pu hF rfl rfl rfl ((by first | exact pu_add64 (hF.ev rfl) (hF.ev rfl) (by omega) | exact pu_add (hF.ev rfl) (hF.ev rfl))) ?_; clear hF; intro a hF
                refine s_pu hF rfl rfl rfl (pu_assign (hF.ev rfl)) ?_; clear hF; intro a hF
                refine s_done ?_
                exact ⟨_, by omega, i + 1, _, rfl, by omega, by omega, fun h _ => by omega, fun h _ => by omega, fun _ => ⟨⟨3, false, _, _, 3, rfl, by omega, by omega, by omega, by omega, by omega⟩⟩, hF.sub ⟨rfl, rfl, rfl, rfl, rfl, rfl, rfl, rfl, trivial⟩, hS⟩
            · clear hF; intro hg171 hF   -- slot 171 false
              try simp only [decide_eq_true_eq, decide_eq_false_iff_not, Bool.not_eq_true', Bool.not_eq_false', Int.not_lt, Int.not_le, ne_eq, Decidable.not_not, Bool.or_eq_true, Bool.or_eq_false_iff, Bool.and_eq_true, Bool.and_eq_false_imp] at hg171
              exfalso
              omega
        · -- le
          first
            | (have hT := hTa hil (by omega); subst hT)
            | (have hT := hTb hil (by omega); subst hT)
          clear hTa hTb hTf
          -- region 27
          refine wp_region_lit ?_
          refine s_pu hF rfl rfl rfl (pu_move (hF.ev rfl)) ?_; clear hF; intro a hF
          refine s_en hF rfl rfl rfl (run_fn fk16 (hF.ev rfl) (hF.evs rfl)) (tick_k hS (tk_c5 (now := (m : Int) + (i : Int) - 1) hmm hnn (by omega) (by omega) (by omega)) (by simp [Rising, en]) (by simp; omega) (by simp; omega) (by simp) (by simp) (by simp)) ?_
          clear hS; rintro e w ⟨_, _, _, _, rfl, hS⟩
          replace hS := hS.tail.tail
          refine ⟨_, rfl, ?_⟩; clear hF; intro a hF
          refine s_pu hF rfl rfl rfl (pu_move (hF.ev rfl)) ?_; clear hF; intro a hF
          refine s_pu hF rfl rfl rfl (pu_extract (hF.ev rfl) rfl) ?_; clear hF; intro a hF
          refine s_pu hF rfl rfl rfl (pu_extract (hF.ev rfl) rfl) ?_; clear hF; intro a hF
          refine s_pu hF rfl rfl rfl (pu_assign (hF.ev rfl)) ?_; clear hF; intro a hF
          refine s_pu hF rfl rfl rfl (pu_assign (hF.ev rfl)) ?_; clear hF; intro a hF
          refine s_done ?_
          refine hK25 _ _ ?_; clear hK25
          refine wp_seq_k fun K26 hK26 => ?_
          -- region 28
          refine wp_region_lit ?_
          refine s_pu hF rfl rfl rfl (pu_move (hF.ev rfl)) ?_; clear hF; intro a hF
          refine s_pu hF rfl rfl rfl (pu_move (hF.ev rfl)) ?_; clear hF; intro a hF
          refine s_pu hF rfl rfl rfl (pu_lss (hF.ev rfl) (hF.ev rfl)) ?_; clear hF; intro a hF
          refine s_pu hF rfl rfl rfl (pu_move (hF.ev rfl)) ?_; clear hF; intro a hF
          refine fr_split hF (t := 157) rfl ?_ ?_
          · clear hF; intro hg157 hF   -- slot 157 true
            try simp only [decide_eq_true_eq, decide_eq_false_iff_not, Bool.not_eq_true', Bool.not_eq_false', Int.not_lt, Int.not_le, ne_eq, Decidable.not_not, Bool.or_eq_true, Bool.or_eq_false_iff, Bool.and_eq_true, Bool.and_eq_false_imp] at hg157
            exfalso
            omega
          · clear hF; intro hg157 hF   -- slot 157 false
            try simp only [decide_eq_true_eq, decide_eq_false_iff_not, Bool.not_eq_true', Bool.not_eq_false', Int.not_lt, Int.not_le, ne_eq, Decidable.not_not, Bool.or_eq_true, Bool.or_eq_false_iff, Bool.and_eq_true, Bool.and_eq_false_imp] at hg157
            refine s_no hF rfl rfl rfl ?_; clear hF; intro a hF
            refine s_no hF rfl rfl rfl ?_; clear hF; intro a hF
            refine s_no hF rfl rfl rfl ?_; clear hF; intro a hF
            refine s_pu hF rfl rfl rfl ((by first | exact pu_pick_t (hF.ev rfl) (hF.ev rfl) | exact pu_pick_f (hF.ev rfl) (hF.ev rfl) | exact pu_pick (hF.ev rfl) (hF.ev rfl) (hF.ev rfl))) ?_; clear hF; intro a hF
            refine s_pu hF rfl rfl rfl (pu_move (hF.ev rfl)) ?_; clear hF; intro a hF
            refine s_no hF rfl rfl rfl ?_; clear hF; intro a hF
            refine s_no hF rfl rfl rfl ?_; clear hF; intro a hF
            refine s_no hF rfl rfl rfl ?_; clear hF; intro a hF
            refine s_pu hF rfl rfl rfl ((by first | exact pu_pick_t (hF.ev rfl) (hF.ev rfl) | exact pu_pick_f (hF.ev rfl) (hF.ev rfl) | exact pu_pick (hF.ev rfl) (hF.ev rfl) (hF.ev rfl))) ?_; clear hF; intro a hF
            refine s_pu hF rfl rfl rfl (pu_move (hF.ev rfl)) ?_; clear hF; intro a hF
            refine s_pu hF rfl rfl rfl (pu_move (hF.ev rfl)) ?_; clear hF; intro a hF
            refine s_pu hF rfl rfl rfl (pu_move (hF.ev rfl)) ?_; clear hF; intro a hF
            refine s_pu hF rfl rfl rfl (pu_eql (hF.ev rfl) (hF.ev rfl)) ?_; clear hF; intro a hF
            refine s_pu hF rfl rfl rfl (pu_move (hF.ev rfl)) ?_; clear hF; intro a hF
            refine fr_split hF (t := 171) rfl ?_ ?_
            · clear hF; intro hg171 hF   -- slot 171 true
              try simp only [decide_eq_true_eq, decide_eq_false_iff_not, Bool.not_eq_true', Bool.not_eq_false', Int.not_lt, Int.not_le, ne_eq, Decidable.not_not, Bool.or_eq_true, Bool.or_eq_false_iff, Bool.and_eq_true, Bool.and_eq_false_imp] at hg171
              refine s_pu hF rfl rfl rfl (pu_move (hF.ev rfl)) ?_; clear hF; intro a hF
              refine s_pu hF rfl rfl rfl (pu_len sl41 (hF.ev rfl)) ?_; clear hF; intro a hF
              refine s_pu hF rfl rfl rfl (pu_eql (hF.ev rfl) (hF.ev rfl)) ?_; clear hF; intro a hF
              refine s_pu hF rfl rfl rfl ((by first | exact pu_pick_t (hF.ev rfl) (hF.ev rfl) | exact pu_pick_f (hF.ev rfl) (hF.ev rfl) | exact pu_pick (hF.ev rfl) (hF.ev rfl) (hF.ev rfl))) ?_; clear hF; intro a hF
              refine s_pu hF rfl rfl rfl ((by first | exact pu_pick_t (hF.ev rfl) (hF.ev rfl) | exact pu_pick_f (hF.ev rfl) (hF.ev rfl) | exact pu_pick (hF.ev rfl) (hF.ev rfl) (hF.ev rfl))) ?_; clear hF; intro a hF
              refine s_done ?_
              refine hK26 _ _ ?_; clear hK26
              refine wp_cond_split (hF.ev rfl) (fun hc7 => ?_) (fun hc7 => ?_)
              · -- cond 7 true
                try simp only [decide_eq_true_eq, decide_eq_false_iff_not, Bool.not_eq_true', Bool.not_eq_false', Int.not_lt, Int.not_le, ne_eq, Decidable.not_not, Bool.or_eq_true, Bool.or_eq_false_iff, Bool.and_eq_true, Bool.and_eq_false_imp] at hc7
                exfalso
                simp at hc7
              · -- cond 7 false
                try simp only [decide_eq_true_eq, decide_eq_false_iff_not, Bool.not_eq_true', Bool.not_eq_false', Int.not_lt, Int.not_le, ne_eq, Decidable.not_not, Bool.or_eq_true, Bool.or_eq_false_iff, Bool.and_eq_true, Bool.and_eq_false_imp] at hc7
                refine wp_skip ?_
                refine blk_normal ?_
                refine hK24 _ _ ?_; clear hK24
                -- region 26
                refine wp_region_lit ?_
                refine s_pu hF rfl rfl rfl (pu_move (hF.ev rfl)) ?_; clear hF; intro a hF
                refine s_pu hF rfl rfl rfl ((by first | exact pu_add64 (hF.ev rfl) (hF.ev rfl) (by omega) | exact pu_add (hF.ev rfl) (hF.ev rfl))) ?_; clear hF; intro a hF
                refine s_pu hF rfl rfl rfl (pu_assign (hF.ev rfl)) ?_; clear hF; intro a hF
                refine s_done ?_
                exact ⟨_, by omega, i + 1, _, rfl, by omega, by omega, fun h _ => by omega, fun h _ => by omega, fun _ => ⟨⟨4, true, _, _, 4, rfl, by omega, by omega, by omega, by omega, by omega⟩⟩, hF.sub ⟨rfl, rfl, rfl, rfl, rfl, rfl, rfl, rfl, trivial⟩, hS⟩
            · clear hF; intro hg171 hF   -- slot 171 false
              try simp only [decide_eq_true_eq, decide_eq_false_iff_not, Bool.not_eq_true', Bool.not_eq_false', Int.not_lt, Int.not_le, ne_eq, Decidable.not_not, Bool.or_eq_true, Bool.or_eq_false_iff, Bool.and_eq_true, Bool.and_eq_false_imp] at hg171
              exfalso
              omega
        · -- lf
          first
            | (have hT := hTa hil (by omega); subst hT)
            | (have hT := hTb hil (by omega); subst hT)
          clear hTa hTb hTf
          -- region 27
          refine wp_region_lit ?_
          refine s_pu hF rfl rfl rfl (pu_move (hF.ev rfl)) ?_; clear hF; intro a hF
          refine s_en hF rfl rfl rfl (run_fn fk16 (hF.ev rfl) (hF.evs rfl)) (tick_k hS (tk_c6 (now := (m : Int) + (i : Int) - 1) hmm hnn (by omega) (by omega) (by omega)) (by simp [Rising, en]) (by simp; omega) (by simp; omega) (by simp) (by simp) (by simp)) ?_
          clear hS; rintro e w ⟨_, _, _, _, rfl, hS⟩
          replace hS := hS.tail.tail
          refine ⟨_, rfl, ?_⟩; clear hF; intro a hF
          refine s_pu hF rfl rfl rfl (pu_move (hF.ev rfl)) ?_; clear hF; intro a hF
          refine s_pu hF rfl rfl rfl (pu_extract (hF.ev rfl) rfl) ?_; clear hF; intro a hF
          refine s_pu hF rfl rfl rfl (pu_extract (hF.ev rfl) rfl) ?_; clear hF; intro a hF
          refine s_pu hF rfl rfl rfl (pu_assign (hF.ev rfl)) ?_; clear hF; intro a hF
          refine s_pu hF rfl rfl rfl (pu_assign (hF.ev rfl)) ?_; clear hF; intro a hF
          refine s_done ?_
          refine hK25 _ _ ?_; clear hK25
          refine wp_seq_k fun K26 hK26 => ?_
          -- region 28
          refine wp_region_lit ?_
          refine s_pu hF rfl rfl rfl (pu_move (hF.ev rfl)) ?_; clear hF; intro a hF
          refine s_pu hF rfl rfl rfl (pu_move (hF.ev rfl)) ?_; clear hF; intro a hF
          refine s_pu hF rfl rfl rfl (pu_lss (hF.ev rfl) (hF.ev rfl)) ?_; clear hF; intro a hF
          refine s_pu hF rfl rfl rfl (pu_move (hF.ev rfl)) ?_; clear hF; intro a hF
          refine fr_split hF (t := 157) rfl ?_ ?_
          · clear hF; intro hg157 hF   -- slot 157 true
            try simp only [decide_eq_true_eq, decide_eq_false_iff_not, Bool.not_eq_true', Bool.not_eq_false', Int.not_lt, Int.not_le, ne_eq, Decidable.not_not, Bool.or_eq_true, Bool.or_eq_false_iff, Bool.and_eq_true, Bool.and_eq_false_imp] at hg157
            exfalso
            omega
          · clear hF; intro hg157 hF   -- slot 157 false
            try simp only [decide_eq_true_eq, decide_eq_false_iff_not, Bool.not_eq_true', Bool.not_eq_false', Int.not_lt, Int.not_le, ne_eq, Decidable.not_not, Bool.or_eq_true, Bool.or_eq_false_iff, Bool.and_eq_true, Bool.and_eq_false_imp] at hg157
            refine s_no hF rfl rfl rfl ?_; clear hF; intro a hF
            refine s_no hF rfl rfl rfl ?_; clear hF; intro a hF
            refine s_no hF rfl rfl rfl ?_; clear hF; intro a hF
            refine s_pu hF rfl rfl rfl ((by first | exact pu_pick_t (hF.ev rfl) (hF.ev rfl) | exact pu_pick_f (hF.ev rfl) (hF.ev rfl) | exact pu_pick (hF.ev rfl) (hF.ev rfl) (hF.ev rfl))) ?_; clear hF; intro a hF
            refine s_pu hF rfl rfl rfl (pu_move (hF.ev rfl)) ?_; clear hF; intro a hF
            refine s_no hF rfl rfl rfl ?_; clear hF; intro a hF
            refine s_no hF rfl rfl rfl ?_; clear hF; intro a hF
            refine s_no hF rfl rfl rfl ?_; clear hF; intro a hF
            refine s_pu hF rfl rfl rfl ((by first | exact pu_pick_t (hF.ev rfl) (hF.ev rfl) | exact pu_pick_f (hF.ev rfl) (hF.ev rfl) | exact pu_pick (hF.ev rfl) (hF.ev rfl) (hF.ev rfl))) ?_; clear hF; intro a hF
            refine s_pu hF rfl rfl rfl (pu_move (hF.ev rfl)) ?_; clear hF; intro a hF
            refine s_pu hF rfl rfl rfl (pu_move (hF.ev rfl)) ?_; clear hF; intro a hF
            refine s_pu hF rfl rfl rfl (pu_move (hF.ev rfl)) ?_; clear hF; intro a hF
            refine s_pu hF rfl rfl rfl (pu_eql (hF.ev rfl) (hF.ev rfl)) ?_; clear hF; intro a hF
            refine s_pu hF rfl rfl rfl (pu_move (hF.ev rfl)) ?_; clear hF; intro a hF
            refine fr_split hF (t := 171) rfl ?_ ?_
            · clear hF; intro hg171 hF   -- slot 171 true
              try simp only [decide_eq_true_eq, decide_eq_false_iff_not, Bool.not_eq_true', Bool.not_eq_false', Int.not_lt, Int.not_le, ne_eq, Decidable.not_not, Bool.or_eq_true, Bool.or_eq_false_iff, Bool.and_eq_true, Bool.and_eq_false_imp] at hg171
              refine s_pu hF rfl rfl rfl (pu_move (hF.ev rfl)) ?_; clear hF; intro a hF
              refine s_pu hF rfl rfl rfl (pu_len sl41 (hF.ev rfl)) ?_; clear hF; intro a hF
              refine s_pu hF rfl rfl rfl (pu_eql (hF.ev rfl) (hF.ev rfl)) ?_; clear hF; intro a hF
              refine s_pu hF rfl rfl rfl ((by first | exact pu_pick_t (hF.ev rfl) (hF.ev rfl) | exact pu_pick_f (hF.ev rfl) (hF.ev rfl) | exact pu_pick (hF.ev rfl) (hF.ev rfl) (hF.ev rfl))) ?_; clear hF; intro a hF
              refine s_pu hF rfl rfl rfl ((by first | exact pu_pick_t (hF.ev rfl) (hF.ev rfl) | exact pu_pick_f (hF.ev rfl) (hF.ev rfl) | exact pu_pick (hF.ev rfl) (hF.ev rfl) (hF.ev rfl))) ?_; clear hF; intro a hF
              refine s_done ?_
              refine hK26 _ _ ?_; clear hK26
              refine wp_cond_split (hF.ev rfl) (fun hc7 => ?_) (fun hc7 => ?_)
              · -- cond 7 true
                try simp only [decide_eq_true_eq, decide_eq_false_iff_not, Bool.not_eq_true', Bool.not_eq_false', Int.not_lt, Int.not_le, ne_eq, Decidable.not_not, Bool.or_eq_true, Bool.or_eq_false_iff, Bool.and_eq_true, Bool.and_eq_false_imp] at hc7
                exfalso
                simp at hc7
              · -- cond 7 false
                try simp only [decide_eq_true_eq, decide_eq_false_iff_not, Bool.not_eq_true', Bool.not_eq_false', Int.not_lt, Int.not_le, ne_eq, Decidable.not_not, Bool.or_eq_true, Bool.or_eq_false_iff, Bool.and_eq_true, Bool.and_eq_false_imp] at hc7
                refine wp_skip ?_
                refine blk_normal ?_
                refine hK24 _ _ ?_; clear hK24
                -- region 26
                refine wp_region_lit ?_
                refine s_pu hF rfl rfl rfl (pu_move (hF.ev rfl)) ?_; clear hF; intro a hF
                refine s_pu hF rfl rfl rfl ((by first | exact pu_add64 (hF.ev rfl) (hF.ev rfl) (by omega) | exact pu_add (hF.ev rfl) (hF.ev rfl))) ?_; clear hF; intro a hF
                refine s_pu hF rfl rfl rfl (pu_assign (hF.ev rfl)) ?_; clear hF; intro a hF
                refine s_done ?_
                exact ⟨_, by omega, i + 1, _, rfl, by omega, by omega, fun h _ => by omega, fun h _ => by omega, fun _ => ⟨⟨4, true, _, _, 4, rfl, by omega, by omega, by omega, by omega, by omega⟩⟩, hF.sub ⟨rfl, rfl, rfl, rfl, rfl, rfl, rfl, rfl, trivial⟩, hS⟩
            · clear hF; intro hg171 hF   -- slot 171 false
              try simp only [decide_eq_true_eq, decide_eq_false_iff_not, Bool.not_eq_true', Bool.not_eq_false', Int.not_lt, Int.not_le, ne_eq, Decidable.not_not, Bool.or_eq_true, Bool.or_eq_false_iff, Bool.and_eq_true, Bool.and_eq_false_imp] at hg171
              exfalso
              omega
      · -- cond 6 false
        try simp only [decide_eq_true_eq, decide_eq_false_iff_not, Bool.not_eq_true', Bool.not_eq_false', Int.not_lt, Int.not_le, ne_eq, Decidable.not_not, Bool.or_eq_true, Bool.or_eq_false_iff, Bool.and_eq_true, Bool.and_eq_false_imp] at hc6
        obtain ⟨t, lt, ta, tn, tl, rfl, f1, f2, f3, f4, f5⟩ := (hTf (by omega)).ex
        clear hTa hTb hTf
        refine wp_exit ?_
        refine then_exit ?_
        refine then_exit ?_
        refine blk_exit ?_
        refine hK20 _ _ ?_; clear hK20
        refine wp_seq_k fun K24 hK24 => ?_
        -- region 30
        refine wp_region_lit ?_
        refine s_pu hF rfl rfl rfl (pu_move (hF.ev rfl)) ?_; clear hF; intro a hF
        refine s_rd hF rfl rfl rfl (by first | exact rd_loadB (i := 0) (vs := [_, _, _, _, _]) ag30 (hF.ev rfl) hS rfl rfl | exact rd_loadB (i := 1) (vs := [_, _, _, _, _]) ag30 (hF.ev rfl) hS rfl rfl | exact rd_loadB (i := 2) (vs := [_, _, _, _, _]) ag30 (hF.ev rfl) hS rfl rfl | exact rd_loadB (i := 3) (vs := [_, _, _, _, _]) ag30 (hF.ev rfl) hS rfl rfl | exact rd_loadB (i := 4) (vs := [_, _, _, _, _]) ag30 (hF.ev rfl) hS rfl rfl) ?_; clear hF; intro a hF
        refine s_pu hF rfl rfl rfl (pu_move (hF.ev rfl)) ?_; clear hF; intro a hF
        refine s_pu hF rfl rfl rfl (pu_move (hF.ev rfl)) ?_; clear hF; intro a hF
        refine s_pu hF rfl rfl rfl ((pu_build st35 (hF.evp rfl) rfl rfl : Pu _ _ _ (.agg #[_, _, _, _, _, _, _, _, _, _, _, _]))) ?_; clear hF; intro a hF
        refine s_en hF rfl rfl rfl (run_fn fk9 (hF.ev rfl) (hF.evs rfl)) (add_nil (q := o) (to := to) (number := nb) hS (by cases lt <;> simp [keysL, mGet, tq, hKo]) (by simp [waysL, mGet, Ety.way, tq, hxt]) (by cases lt <;> simp [waitsL]) (by simp) (by simp [Rising, en]; omega) (by simp; omega) (by simp; omega) (by simp; omega) (by simp; omega) (by simp; omega) (by simp; omega) (by simp) (by simp) (by simp) (by simp)) ?_
        clear hS; rintro e w ⟨rfl, hS⟩
        refine ⟨_, rfl, ?_⟩; clear hF; intro a hF
        refine s_pu hF rfl rfl rfl (pu_assign (hF.ev rfl)) ?_; clear hF; intro a hF
        refine s_done ?_
        refine hK24 _ _ ?_; clear hK24
        refine wp_seq_k fun K25 hK25 => ?_
        -- region 31
        refine wp_region_lit ?_
        refine s_pu hF rfl rfl rfl (pu_move (hF.ev rfl)) ?_; clear hF; intro a hF
        refine s_pu hF rfl rfl rfl (pu_eql (hF.ev rfl) (hF.ev rfl)) ?_; clear hF; intro a hF
        refine s_pu hF rfl rfl rfl (pu_move (hF.ev rfl)) ?_; clear hF; intro a hF
        refine s_pu hF rfl rfl rfl (pu_move (hF.ev rfl)) ?_; clear hF; intro a hF
        refine s_rd hF rfl rfl rfl (by first | exact rd_loadB (i := 0) (vs := [_, _, _, _, _]) ag30 (hF.ev rfl) hS rfl rfl | exact rd_loadB (i := 1) (vs := [_, _, _, _, _]) ag30 (hF.ev rfl) hS rfl rfl | exact rd_loadB (i := 2) (vs := [_, _, _, _, _]) ag30 (hF.ev rfl) hS rfl rfl | exact rd_loadB (i := 3) (vs := [_, _, _, _, _]) ag30 (hF.ev rfl) hS rfl rfl | exact rd_loadB (i := 4) (vs := [_, _, _, _, _]) ag30 (hF.ev rfl) hS rfl rfl) ?_; clear hF; intro a hF
        refine s_en hF rfl rfl rfl (run_fn fk15 (hF.ev rfl) (hF.evs rfl)) (has_c (q := o) hS) ?_
        clear hS; rintro e w ⟨rfl, hS⟩
        rw [show (mGet (keysL ((⟨3, m, n, 2, [⟨1, tq K (xorI to 1) nb, t, lt⟩], [en t ta 1], tn, tl⟩ : Tab).add (tq o to nb)).L) o).isSome = true by cases lt <;> simp [Tab.add, keysL, mGet, tq, hKo]]
        refine ⟨_, rfl, ?_⟩; clear hF; intro a hF
        refine s_pu hF rfl rfl rfl ((by first | exact pu_pick_t (hF.ev rfl) (hF.ev rfl) | exact pu_pick_f (hF.ev rfl) (hF.ev rfl) | exact pu_pick (hF.ev rfl) (hF.ev rfl) (hF.ev rfl))) ?_; clear hF; intro a hF
        refine s_pu hF rfl rfl rfl (pu_assign (hF.ev rfl)) ?_; clear hF; intro a hF
        refine s_done ?_
        refine hK25 _ _ ?_; clear hK25
        refine wp_ret ?_
        refine fin1 Try.results4 hF rfl ?_
        exact ⟨rfl, (hS.front 3 rfl).below⟩
end Go.Proofs.Ytbfdebddoncfhaa
