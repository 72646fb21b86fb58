import Derived.Test.YtbfdebddoncfhaaPd7
/-! Pending: Add, where all goes well. -/
namespace Go.Proofs.Ytbfdebddoncfhaa
open Go Go.RowKit Go.Proofs.Ytbfdebddoncfhaa.Sk
set_option linter.unusedVariables false
set_option linter.unusedSimpArgs false
set_option maxRecDepth 100000


theorem add_c (k : Nat) {w0 w W : World} {D : Nat → Prop} {F : List Chunk} {g : Nat} {T : Tab} {p : Pnd} {h : Value × Value} (hR1 : RdN W D k h.1 p.f1) (hR2 : RdN W D k h.2 p.f2) (hK : Keeps w0 F W D) (hS : Sat w0 w (tabC k g T :: F))
    (hk : mGet (keysL T.L) p.key = none) (hm : mGet (waysL T.L) p.way = none) (hfull : (waitsL T.L).length < T.most) (hnx : ∀ e ∈ T.L, e.n ≠ T.next) (hR : Rising T.P T.last) (ht0 : 1 ≤ T.timeout) (ht1 : T.timeout ≤ 100000)
    (hn0 : 0 ≤ T.now) (hn1 : T.now ≤ 4611686018427387904) (hl0 : 0 ≤ T.last) (hl1 : T.last ≤ 4611686018427387904) (hx0 : 0 ≤ T.next) (hx1 : T.next ≤ 4611686018427387904) (hroom : (T.L.length + 1) * 8 ≤ 140737488355328) (hroomP : (T.P.length + 1) * 24 ≤ 140737488355328) :
    Calls Try.prog 9 #[.pointer (some ⟨g, 0, none⟩), p.value h] w fun e w' => e = .returned (.int .i64 0) ∧ Sat w0 w' (tabC k g (T.add p) :: F) := by
  obtain ⟨A1, c1, e1, hb1⟩ := hR1.slice
  obtain ⟨A2, c2, e2, hb2⟩ := hR2.slice
  obtain ⟨p1, p2⟩ := h
  simp only at e1 e2
  subst e1; subst e2
  obtain ⟨bs, hS⟩ := tab_bs.1 hS
  obtain ⟨wg, km, kk, kw, o, d, o', d', hb, hS⟩ := tab_open hS
  obtain ⟨most, timeout, remember, next, L, P, now, last⟩ := T
  simp only at hS hk hm hfull hnx hR ht0 ht1 hn0 hn1 hl0 hl1 hx0 hx1 hroom hroomP hb
  have hwl := waits_le (L := L)
  have hput : ∀ v, mPut (allL L bs) next v = allL L bs ++ [(next, v)] := fun v => put_new (by
    intro q hq
    have : q.1 ∈ (allL L bs).map (·.1) := List.mem_map_of_mem hq
    rw [all_keys hb] at this
    obtain ⟨e, he, h⟩ := List.mem_map.1 this
    rw [← h]
    exact hnx e he)
  unfold tabO at hS
  simp only [List.cons_append, List.nil_append] at hS
  unfold Pnd.value
  refine enter Try.func9 rfl Try.ntmps9 (Nat.le_of_ble_eq_true rfl) fun a hF => ?_
  refine wp_seq_k fun K0 hK0 => ?_
  refine wp_region_lit ?_
  refine s_newp hF rfl rfl rfl (ef_box (cs := #[_, _, _, _, _, _, _, _, _, _, _, _]) (hF.ev rfl) rfl) hS ?_; clear hF hS; intro b3 w hS a hF
  refine s_pu hF rfl rfl rfl (pu_assign (hF.ev rfl)) ?_; clear hF; intro a hF
  refine s_done ?_
  refine hK0 _ _ ?_; clear hK0
  refine wp_seq_k fun K1 hK1 => ?_
  refine wp_region_lit ?_
  refine s_pu hF rfl rfl rfl ((by exact pu_field fd35_2 (hF.ev rfl))) ?_; clear hF; intro a hF
  refine s_rd hF rfl rfl rfl (by exact rd_load pl3 (hF.ev rfl) (hS.cellL (i := 0) rfl rfl)) ?_; clear hF; intro a hF
  refine s_pu hF rfl rfl rfl ((by exact pu_field fd35_3 (hF.ev rfl))) ?_; clear hF; intro a hF
  refine s_rd hF rfl rfl rfl (by exact rd_load pl3 (hF.ev rfl) (hS.cellL (i := 0) rfl rfl)) ?_; clear hF; intro a hF
  refine s_pu hF rfl rfl rfl ((pu_build st93 (hF.evp rfl) rfl rfl : Pu _ _ _ (.agg #[_, _]))) ?_; clear hF; intro a hF
  refine s_newp hF rfl rfl rfl (ef_alloc (cs := #[_, _]) ze93 rfl) hS ?_; clear hF hS; intro b5 w hS a hF
  ((refine s_store (vs := [_, _]) (cs' := #[_, _]) 0 hF rfl (hF.ev rfl) (hF.ev rfl) hS rfl rfl sz93 (by rfl) (by exact Nat.le_of_ble_eq_true rfl) rfl ?_))
  clear hS; intro w hS; (try simp only [upd, del] at hS)
  refine s_done ?_
  refine hK1 _ _ ?_; clear hK1
  refine wp_seq_k fun K2 hK2 => ?_
  refine d_start (S := (fun w => Sat w0 w _)) (ds := []) (ord := [(0, .pu), (1, .pu), (2, .pu), (3, .tk), (4, .pu), (5, .tk), (6, .tk), (7, .pu), (8, .pu), (9, .pu), (10, .pu), (11, .pu)]) mixed ⟨by kernel_rfl, fun _ d _ _ _ h => by cases d <;> exact h⟩ hS.drew fun hD => ?_
  replace hS := hS.drew; generalize w.drew = w at hS ⊢
  refine d_pu hD hF rfl rfl rfl rfl rfl (pu_move (hF.ev rfl)) ?_; clear hF; intro a hF
  refine d_pu hD hF rfl rfl rfl rfl rfl ((by exact pu_nil (hF.ev rfl))) ?_; clear hF; intro a hF
  refine d_pu hD hF rfl rfl rfl rfl rfl ((by exact pu_field fd91_6 (hF.ev rfl))) ?_; clear hF; intro a hF
  refine d_rd hD hF rfl rfl rfl rfl rfl hS (fun w hS => (by exact rd_load pl88 (hF.ev rfl) (hS.cellL (i := 2) rfl rfl))) ?_; clear hF; intro a hF
  refine d_pu hD hF rfl rfl rfl rfl rfl ((by exact pu_field fd35_0 (hF.ev rfl))) ?_; clear hF; intro a hF
  refine d_rd hD hF rfl rfl rfl rfl rfl hS (fun w hS => (by exact rd_loadB (i := 1) (vs := [_, _, _, _, _]) ag30 (hF.ev rfl) hS rfl rfl)) ?_; clear hF; intro a hF
  refine d_rd hD hF rfl rfl rfl rfl rfl hS (fun w hS => rd_look_n (x := p.key) 4 keys30 Try.underlying88 ze3 (hF.ev rfl) (hF.ev rfl) hS rfl hk) ?_; clear hF; intro a hF
  refine d_pu hD hF rfl rfl rfl rfl rfl (pu_move (hF.ev rfl)) ?_; clear hF; intro a hF
  refine d_pu hD hF rfl rfl rfl rfl rfl (pu_extract (hF.ev rfl) rfl) ?_; clear hF; intro a hF
  refine d_pu hD hF rfl rfl rfl rfl rfl (pu_extract (hF.ev rfl) rfl) ?_; clear hF; intro a hF
  refine d_pu hD hF rfl rfl rfl rfl rfl (pu_assign (hF.ev rfl)) ?_; clear hF; intro a hF
  refine d_pu hD hF rfl rfl rfl rfl rfl (pu_assign (hF.ev rfl)) ?_; clear hF; intro a hF
  refine d_done hD rfl ?_; clear hD
  refine hK2 _ _ ?_; clear hK2
  refine wp_seq_k fun K3 hK3 => ?_
  refine d_start (S := (fun w => Sat w0 w _)) (ds := []) (ord := [(0, .pu), (1, .pu), (2, .pu), (3, .tk), (4, .tk), (5, .tk), (6, .pu), (7, .pu), (8, .pu), (9, .pu), (10, .pu)]) mixed ⟨by kernel_rfl, fun _ d _ _ _ h => by cases d <;> exact h⟩ hS.drew fun hD => ?_
  replace hS := hS.drew; generalize w.drew = w at hS ⊢
  refine d_pu hD hF rfl rfl rfl rfl rfl (pu_move (hF.ev rfl)) ?_; clear hF; intro a hF
  refine d_pu hD hF rfl rfl rfl rfl rfl ((by exact pu_nil (hF.ev rfl))) ?_; clear hF; intro a hF
  refine d_pu hD hF rfl rfl rfl rfl rfl ((by exact pu_field fd91_7 (hF.ev rfl))) ?_; clear hF; intro a hF
  refine d_rd hD hF rfl rfl rfl rfl rfl hS (fun w hS => (by exact rd_load pl89 (hF.ev rfl) (hS.cellL (i := 2) rfl rfl))) ?_; clear hF; intro a hF
  refine d_rd hD hF rfl rfl rfl rfl rfl hS (fun w hS => (by exact rd_loadB (i := 0) (vs := [_, _]) ag93 (hF.ev rfl) hS rfl rfl)) ?_; clear hF; intro a hF
  refine d_rd hD hF rfl rfl rfl rfl rfl hS (fun w hS => rd_look_n (x := p.way) 5 keys93 Try.underlying89 ze3 (hF.ev rfl) (hF.ev rfl) hS rfl hm) ?_; clear hF; intro a hF
  refine d_pu hD hF rfl rfl rfl rfl rfl (pu_move (hF.ev rfl)) ?_; clear hF; intro a hF
  refine d_pu hD hF rfl rfl rfl rfl rfl (pu_extract (hF.ev rfl) rfl) ?_; clear hF; intro a hF
  refine d_pu hD hF rfl rfl rfl rfl rfl (pu_extract (hF.ev rfl) rfl) ?_; clear hF; intro a hF
  refine d_pu hD hF rfl rfl rfl rfl rfl (pu_assign (hF.ev rfl)) ?_; clear hF; intro a hF
  refine d_pu hD hF rfl rfl rfl rfl rfl (pu_assign (hF.ev rfl)) ?_; clear hF; intro a hF
  refine d_done hD rfl ?_; clear hD
  refine hK3 _ _ ?_; clear hK3
  refine wp_seq_k fun K4 hK4 => ?_
  refine wp_seq_k fun K5 hK5 => ?_
  refine wp_region_lit ?_
  refine s_pu hF rfl rfl rfl (pu_move (hF.ev rfl)) ?_; clear hF; intro a hF
  refine s_pu hF rfl rfl rfl (pu_move (hF.ev rfl)) ?_; clear hF; intro a hF
  refine s_pu hF rfl rfl rfl (pu_move (hF.ev rfl)) ?_; clear hF; intro a hF
  refine s_pu hF rfl rfl rfl ((by exact pu_pick_f (hF.ev rfl) (hF.ev rfl))) ?_; clear hF; intro a hF
  refine s_done ?_
  refine hK5 _ _ ?_; clear hK5
  refine wp_cond_false (hF.ev rfl) ?_
  refine wp_skip ?_
  refine hK4 _ _ ?_; clear hK4
  refine wp_seq_k fun K6 hK6 => ?_
  refine wp_seq_k fun K7 hK7 => ?_
  refine d_start (S := (fun w => Sat w0 w _)) (ds := []) (ord := [(0, .pu), (1, .pu), (2, .pu), (3, .tk), (4, .pu), (5, .pu), (6, .pu), (7, .pu), (8, .tk), (9, .pu)]) mixed ⟨by kernel_rfl, fun _ d _ _ _ h => by cases d <;> exact h⟩ hS.drew fun hD => ?_
  replace hS := hS.drew; generalize w.drew = w at hS ⊢
  refine d_pu hD hF rfl rfl rfl rfl rfl (pu_move (hF.ev rfl)) ?_; clear hF; intro a hF
  refine d_pu hD hF rfl rfl rfl rfl rfl ((by exact pu_nil (hF.ev rfl))) ?_; clear hF; intro a hF
  refine d_pu hD hF rfl rfl rfl rfl rfl ((by exact pu_field fd91_8 (hF.ev rfl))) ?_; clear hF; intro a hF
  refine d_rd hD hF rfl rfl rfl rfl rfl hS (fun w hS => (by exact rd_load pl22 (hF.ev rfl) (hS.cellL (i := 2) rfl rfl))) ?_; clear hF; intro a hF
  refine d_pu hD hF rfl rfl rfl rfl rfl (pu_len sl22 (hF.ev rfl)) ?_; clear hF; intro a hF
  refine d_pu hD hF rfl rfl rfl rfl rfl (pu_move (hF.ev rfl)) ?_; clear hF; intro a hF
  refine d_pu hD hF rfl rfl rfl rfl rfl ((by exact pu_nil (hF.ev rfl))) ?_; clear hF; intro a hF
  refine d_pu hD hF rfl rfl rfl rfl rfl ((by exact pu_field fd91_1 (hF.ev rfl))) ?_; clear hF; intro a hF
  refine d_rd hD hF rfl rfl rfl rfl rfl hS (fun w hS => (by exact rd_load pl3 (hF.ev rfl) (hS.cellL (i := 2) rfl rfl))) ?_; clear hF; intro a hF
  refine d_pu hD hF rfl rfl rfl rfl rfl (pu_geq (hF.ev rfl) (hF.ev rfl)) ?_; clear hF; intro a hF
  refine d_done hD rfl ?_; clear hD
  refine hK7 _ _ ?_; clear hK7
  refine wp_cond_split (hF.ev rfl) (fun hc1 => ?_) (fun hc1 => ?_)
  · -- cond 1 true
    try simp only [decide_eq_true_eq, decide_eq_false_iff_not, Bool.not_eq_true', Bool.not_eq_false', Int.not_lt, Int.not_le, ne_eq, Decidable.not_not, Bool.or_eq_true, Bool.or_eq_false_iff, Bool.and_eq_true, Bool.and_eq_false_imp] at hc1
    omega
  · -- cond 1 false
    try simp only [decide_eq_true_eq, decide_eq_false_iff_not, Bool.not_eq_true', Bool.not_eq_false', Int.not_lt, Int.not_le, ne_eq, Decidable.not_not, Bool.or_eq_true, Bool.or_eq_false_iff, Bool.and_eq_true, Bool.and_eq_false_imp] at hc1
    refine wp_skip ?_
    refine hK6 _ _ ?_; clear hK6
    refine wp_seq_k fun K8 hK8 => ?_
    refine d_start (S := (fun w => Sat w0 w _)) (ds := [12]) (ord := [(0, .pu), (1, .pu), (2, .pu), (3, .tk), (4, .pu), (5, .pu), (6, .pu), (7, .tk), (8, .pu), (9, .pu), (10, .pu), (11, .tk), (12, .ls), (13, .pu), (14, .pu), (15, .pu), (16, .pu), (17, .pu)]) mixed ⟨by kernel_rfl, fun _ d _ _ _ h => by cases d <;> exact h⟩ hS.drew fun hD => ?_
    replace hS := hS.drew; generalize w.drew = w at hS ⊢
    refine d_pu hD hF rfl rfl rfl rfl rfl (pu_move (hF.ev rfl)) ?_; clear hF; intro a hF
    refine d_pu hD hF rfl rfl rfl rfl rfl ((by exact pu_nil (hF.ev rfl))) ?_; clear hF; intro a hF
    refine d_pu hD hF rfl rfl rfl rfl rfl ((by exact pu_field fd91_0 (hF.ev rfl))) ?_; clear hF; intro a hF
    refine d_rd hD hF rfl rfl rfl rfl rfl hS (fun w hS => (by exact rd_load pl84 (hF.ev rfl) (hS.cellL (i := 2) rfl rfl))) ?_; clear hF; intro a hF
    refine d_pu hD hF rfl rfl rfl rfl rfl (pu_move (hF.ev rfl)) ?_; clear hF; intro a hF
    refine d_pu hD hF rfl rfl rfl rfl rfl ((by exact pu_nil (hF.ev rfl))) ?_; clear hF; intro a hF
    refine d_pu hD hF rfl rfl rfl rfl rfl ((by exact pu_field fd91_2 (hF.ev rfl))) ?_; clear hF; intro a hF
    refine d_rd hD hF rfl rfl rfl rfl rfl hS (fun w hS => (by exact rd_load pl3 (hF.ev rfl) (hS.cellL (i := 2) rfl rfl))) ?_; clear hF; intro a hF
    refine d_pu hD hF rfl rfl rfl rfl rfl (pu_move (hF.ev rfl)) ?_; clear hF; intro a hF
    refine d_pu hD hF rfl rfl rfl rfl rfl ((by exact pu_nil (hF.ev rfl))) ?_; clear hF; intro a hF
    refine d_pu hD hF rfl rfl rfl rfl rfl ((by exact pu_field fd91_4 (hF.ev rfl))) ?_; clear hF; intro a hF
    refine d_rd hD hF rfl rfl rfl rfl rfl hS (fun w hS => (by exact rd_load pl3 (hF.ev rfl) (hS.cellL (i := 2) rfl rfl))) ?_; clear hF; intro a hF
    refine l_en hD hF rfl rfl rfl rfl rfl (run_fn fk31 (hF.ev rfl) (hF.evs rfl)) (at_place 8 hS rfl (fun h => wAdd_i (x := next) h hR (by omega) (by omega) ht0 ht1 hn0 hn1 hl0 hl1 hroomP)) ?_
    clear hS; rintro e w ⟨rfl, hS⟩
    simp only [del] at hS
    refine ⟨_, rfl, ?_⟩; clear hF; intro a hF
    refine d_pu hD hF rfl rfl rfl rfl rfl (pu_move (hF.ev rfl)) ?_; clear hF; intro a hF
    refine d_pu hD hF rfl rfl rfl rfl rfl (pu_extract (hF.ev rfl) rfl) ?_; clear hF; intro a hF
    refine d_pu hD hF rfl rfl rfl rfl rfl (pu_extract (hF.ev rfl) rfl) ?_; clear hF; intro a hF
    refine d_pu hD hF rfl rfl rfl rfl rfl (pu_assign (hF.ev rfl)) ?_; clear hF; intro a hF
    refine d_pu hD hF rfl rfl rfl rfl rfl (pu_assign (hF.ev rfl)) ?_; clear hF; intro a hF
    refine d_done hD rfl ?_; clear hD
    refine hK8 _ _ ?_; clear hK8
    refine wp_seq_k fun K9 hK9 => ?_
    refine wp_seq_k fun K10 hK10 => ?_
    refine wp_region_lit ?_
    refine s_pu hF rfl rfl rfl (pu_move (hF.ev rfl)) ?_; clear hF; intro a hF
    refine s_pu hF rfl rfl rfl (pu_neq (hF.ev rfl) (hF.ev rfl)) ?_; clear hF; intro a hF
    refine s_done ?_
    refine hK10 _ _ ?_; clear hK10
    refine wp_cond_false (hF.ev rfl) ?_
    refine wp_skip ?_
    refine hK9 _ _ ?_; clear hK9
    refine wp_seq_k fun K11 hK11 => ?_
    refine d_start (S := (fun w => Sat w0 w _)) (ds := [13]) (ord := [(0, .pu), (1, .pu), (2, .pu), (3, .tk), (4, .pu), (5, .pu), (6, .pu), (7, .tk), (8, .tk), (10, .pu), (9, .on), (11, .pu), (12, .on), (13, .ls)]) mixed ⟨by kernel_rfl, fun _ d _ _ _ h => by cases d <;> exact h⟩ hS.drew fun hD => ?_
    replace hS := hS.drew; generalize w.drew = w at hS ⊢
    refine d_pu hD hF rfl rfl rfl rfl rfl (pu_move (hF.ev rfl)) ?_; clear hF; intro a hF
    refine d_pu hD hF rfl rfl rfl rfl rfl ((by exact pu_nil (hF.ev rfl))) ?_; clear hF; intro a hF
    refine d_pu hD hF rfl rfl rfl rfl rfl ((by exact pu_field fd91_5 (hF.ev rfl))) ?_; clear hF; intro a hF
    refine d_rd hD hF rfl rfl rfl rfl rfl hS (fun w hS => (by exact rd_load pl87 (hF.ev rfl) (hS.cellL (i := 3) rfl rfl))) ?_; clear hF; intro a hF
    refine d_pu hD hF rfl rfl rfl rfl rfl (pu_move (hF.ev rfl)) ?_; clear hF; intro a hF
    refine d_pu hD hF rfl rfl rfl rfl rfl ((by exact pu_nil (hF.ev rfl))) ?_; clear hF; intro a hF
    refine d_pu hD hF rfl rfl rfl rfl rfl ((by exact pu_field fd91_4 (hF.ev rfl))) ?_; clear hF; intro a hF
    refine d_rd hD hF rfl rfl rfl rfl rfl hS (fun w hS => (by exact rd_load pl3 (hF.ev rfl) (hS.cellL (i := 3) rfl rfl))) ?_; clear hF; intro a hF
    refine d_rd hD hF rfl rfl rfl rfl rfl hS (fun w hS => (by exact rd_loadB (i := 2) (vs := [_, _, _, _, _, _, _, _, _, _, _, _]) ag35 (hF.ev rfl) hS rfl rfl)) ?_; clear hF; intro a hF
    refine d_pu hD hF rfl rfl rfl rfl rfl (pu_move (hF.ev rfl)) ?_; clear hF; intro a hF
    refine d_en hD hF rfl rfl rfl rfl rfl (run_fn fk32 (hF.ev rfl) (hF.evs rfl)) (copied_c k (p := p) (h := (.slice A1 p.f1.length c1, .slice A2 p.f2.length c2)) hR1 hR2 (hK.sub (fun w h => h.tail.tail.tail.tail.tail.tail.tail.tail.tail.right)) hS) ?_
    clear hS; rintro e w ⟨h', rfl, ⟨B1, m1, q1, B2, m2, q2, rfl⟩, hS⟩
    unfold Pnd.value
    refine ⟨_, rfl, hS.tail, ?_⟩; clear hF; intro a hF
    refine d_pu hD hF rfl rfl rfl rfl rfl ((pu_build st100 (hF.evp rfl) rfl rfl : Pu _ _ _ (.agg #[_, _, _, _, _, _, _, _, _, _, _, _, _, _]))) ?_; clear hF; intro a hF
    refine d_newp hD hF rfl rfl rfl rfl rfl (ef_box (cs := #[_, _, _, _, _, _, _, _, _, _, _, _, _, _]) (hF.ev rfl) rfl) hS (fun _ _ h => h.tail.tail) ?_; clear hF hS; intro b81 w hS a hF
    refine l_put (x := next) (ν := ptrV) (v := b81) 6 hD hF rfl rfl rfl (int_keys Try.underlying3) Try.underlying87 (hF.ev rfl) (hF.ev rfl) (hF.ev rfl) hS rfl ?_
    clear hS; intro w hS; (try simp only [upd, del] at hS)
    refine d_done hD rfl ?_; clear hD
    rw [hput] at hS
    refine hK11 _ _ ?_; clear hK11
    refine wp_seq_k fun K12 hK12 => ?_
    replace hS := hS.sel [5, 3, 3, 4, 4]
    simp only [selR, nth, del, upd] at hS
    refine d_start (S := (fun w => Sat w0 w [_, _, _])) (ds := [24]) (ord := [(0, .pu), (1, .pu), (2, .pu), (3, .tk), (4, .pu), (5, .tk), (6, .pu), (7, .pu), (8, .pu), (9, .tk), (10, .tk), (11, .pu), (12, .pu), (13, .pu), (14, .tk), (15, .pu), (16, .pu), (17, .pu), (18, .tk), (19, .on), (20, .pu), (21, .on), (22, .on), (23, .pu), (24, .ls)]) mixed ⟨by kernel_rfl, fun _ d _ _ _ h => by cases d <;> exact h⟩ (hS.left (C := [_, _, _])).drew fun hD => ?_
    replace hS := hS.drew; generalize w.drew = w at hS ⊢
    refine d_pu hD hF rfl rfl rfl rfl rfl (pu_move (hF.ev rfl)) ?_; clear hF; intro a hF
    refine d_pu hD hF rfl rfl rfl rfl rfl ((by exact pu_nil (hF.ev rfl))) ?_; clear hF; intro a hF
    refine d_pu hD hF rfl rfl rfl rfl rfl ((by exact pu_field fd91_6 (hF.ev rfl))) ?_; clear hF; intro a hF
    refine d_rd hD hF rfl rfl rfl rfl rfl (hS.left (C := [_, _, _])) (fun w hS => (by exact rd_load pl88 (hF.ev rfl) (hS.cellL (i := 0) rfl rfl))) ?_; clear hF; intro a hF
    refine d_pu hD hF rfl rfl rfl rfl rfl ((by exact pu_field fd35_0 (hF.ev rfl))) ?_; clear hF; intro a hF
    refine d_rd hD hF rfl rfl rfl rfl rfl (hS.left (C := [_, _, _])) (fun w hS => (by exact rd_loadB (i := 2) (vs := [_, _, _, _, _]) ag30 (hF.ev rfl) hS rfl rfl)) ?_; clear hF; intro a hF
    refine d_pu hD hF rfl rfl rfl rfl rfl (pu_move (hF.ev rfl)) ?_; clear hF; intro a hF
    refine d_pu hD hF rfl rfl rfl rfl rfl ((by exact pu_nil (hF.ev rfl))) ?_; clear hF; intro a hF
    refine d_pu hD hF rfl rfl rfl rfl rfl ((by exact pu_field fd91_7 (hF.ev rfl))) ?_; clear hF; intro a hF
    refine d_rd hD hF rfl rfl rfl rfl rfl (hS.left (C := [_, _, _])) (fun w hS => (by exact rd_load pl89 (hF.ev rfl) (hS.cellL (i := 0) rfl rfl))) ?_; clear hF; intro a hF
    refine d_rd hD hF rfl rfl rfl rfl rfl (hS.left (C := [_, _, _])) (fun w hS => (by exact rd_loadB (i := 1) (vs := [_, _]) ag93 (hF.ev rfl) hS rfl rfl)) ?_; clear hF; intro a hF
    refine d_pu hD hF rfl rfl rfl rfl rfl (pu_move (hF.ev rfl)) ?_; clear hF; intro a hF
    refine d_pu hD hF rfl rfl rfl rfl rfl ((by exact pu_nil (hF.ev rfl))) ?_; clear hF; intro a hF
    refine d_pu hD hF rfl rfl rfl rfl rfl ((by exact pu_field fd91_4 (hF.ev rfl))) ?_; clear hF; intro a hF
    refine d_rd hD hF rfl rfl rfl rfl rfl (hS.left (C := [_, _, _])) (fun w hS => (by exact rd_load pl3 (hF.ev rfl) (hS.cellL (i := 0) rfl rfl))) ?_; clear hF; intro a hF
    refine d_pu hD hF rfl rfl rfl rfl rfl (pu_move (hF.ev rfl)) ?_; clear hF; intro a hF
    refine d_pu hD hF rfl rfl rfl rfl rfl ((by exact pu_nil (hF.ev rfl))) ?_; clear hF; intro a hF
    refine d_pu hD hF rfl rfl rfl rfl rfl ((by exact pu_field fd91_4 (hF.ev rfl))) ?_; clear hF; intro a hF
    refine d_rd hD hF rfl rfl rfl rfl rfl (hS.left (C := [_, _, _])) (fun w hS => (by exact rd_load pl3 (hF.ev rfl) (hS.cellL (i := 0) rfl rfl))) ?_; clear hF; intro a hF
    refine d_entry (x := p.key) 3 hD hF rfl rfl rfl rfl keys30 Try.underlying88 ze3 (hF.ev rfl) (hF.ev rfl) hS rfl hk (fun _ _ h => h.left (C := [_, _, _])) ?_
    clear hF hS; intro s101 w hS a hF; (try simp only [upd, del] at hS)
    refine d_pu hD hF rfl rfl rfl rfl rfl (pu_extract (hF.ev rfl) rfl) ?_; clear hF; intro a hF
    ((refine d_estore 3 hD hF rfl rfl rfl (hF.ev rfl) (hF.ev rfl) (hF.ev rfl) hS rfl (fun _ h => h.left (C := [_, _, _])) ?_))
    clear hS; intro w hS; (try simp only [upd, del] at hS)
    refine d_entry (x := p.way) 4 hD hF rfl rfl rfl rfl keys93 Try.underlying89 ze3 (hF.ev rfl) (hF.ev rfl) hS rfl hm (fun _ _ h => h.left (C := [_, _, _])) ?_
    clear hF hS; intro s103 w hS a hF; (try simp only [upd, del] at hS)
    refine d_pu hD hF rfl rfl rfl rfl rfl (pu_extract (hF.ev rfl) rfl) ?_; clear hF; intro a hF
    ((refine l_estore 4 hD hF rfl rfl rfl (hF.ev rfl) (hF.ev rfl) (hF.ev rfl) hS rfl ?_))
    clear hS; intro w hS; (try simp only [upd, del] at hS)
    refine d_done hD rfl ?_; clear hD
    refine hK12 _ _ ?_; clear hK12
    refine wp_seq_k fun K13 hK13 => ?_
    replace hS := hS.sel [0, 8]
    simp only [selR, nth, del, upd] at hS
    refine d_start (S := (fun w => Sat w0 w [_])) (ds := [13]) (ord := [(0, .pu), (1, .pu), (2, .pu), (3, .pu), (4, .tk), (5, .pu), (6, .pu), (7, .pu), (8, .tk), (9, .on), (10, .on), (11, .pu), (12, .pu), (13, .ls)]) mixed ⟨by kernel_rfl, fun _ d _ _ _ h => by cases d <;> exact h⟩ (hS.left (C := [_])).drew fun hD => ?_
    replace hS := hS.drew; generalize w.drew = w at hS ⊢
    refine d_pu hD hF rfl rfl rfl rfl rfl (pu_move (hF.ev rfl)) ?_; clear hF; intro a hF
    refine d_pu hD hF rfl rfl rfl rfl rfl (pu_move (hF.ev rfl)) ?_; clear hF; intro a hF
    refine d_pu hD hF rfl rfl rfl rfl rfl ((by exact pu_nil (hF.ev rfl))) ?_; clear hF; intro a hF
    refine d_pu hD hF rfl rfl rfl rfl rfl ((by exact pu_field fd91_8 (hF.ev rfl))) ?_; clear hF; intro a hF
    refine d_rd hD hF rfl rfl rfl rfl rfl (hS.left (C := [_])) (fun w hS => (by exact rd_load pl22 (hF.ev rfl) (hS.cellL (i := 0) rfl rfl))) ?_; clear hF; intro a hF
    refine d_pu hD hF rfl rfl rfl rfl rfl (pu_move (hF.ev rfl)) ?_; clear hF; intro a hF
    refine d_pu hD hF rfl rfl rfl rfl rfl ((by exact pu_nil (hF.ev rfl))) ?_; clear hF; intro a hF
    refine d_pu hD hF rfl rfl rfl rfl rfl ((by exact pu_field fd91_4 (hF.ev rfl))) ?_; clear hF; intro a hF
    refine d_rd hD hF rfl rfl rfl rfl rfl (hS.left (C := [_])) (fun w hS => (by exact rd_load pl3 (hF.ev rfl) (hS.cellL (i := 0) rfl rfl))) ?_; clear hF; intro a hF
    refine d_news hD hF rfl rfl rfl rfl rfl (ef_lit1 (cs := [_]) sl22 ze3 rfl (hF.ev rfl) (by rfl) rfl (by omega) (by omega)) hS (fun _ _ h => h.tail.left (C := [_])) ?_; clear hF hS; intro b114 w hS a hF
    refine d_append 2 0 hD hF rfl rfl rfl rfl sl22 el3 (hF.ev rfl) (hF.ev rfl) hS rfl rfl rfl (by rfl) (by unfold maxLen; omega) (by omega) (fun _ _ h => h.tail.tail.left (C := [_])) ?_
    clear hS hF; intro A115 q115 w hS a hF; (try simp only [upd, del] at hS)
    refine d_pu hD hF rfl rfl rfl rfl rfl ((by exact pu_nil (hF.ev rfl))) ?_; clear hF; intro a hF
    refine d_pu hD hF rfl rfl rfl rfl rfl ((by exact pu_field fd91_8 (hF.ev rfl))) ?_; clear hF; intro a hF
    ((refine l_store (vs := [_]) (cs' := #[_, _, _, _, _, _, _, _, _, _]) 2 hD hF rfl rfl rfl (hF.ev rfl) (hF.ev rfl) hS rfl rfl sz22 (by rfl) (by exact Nat.le_of_ble_eq_true rfl) rfl ?_))
    clear hS; intro w hS; (try simp only [upd, del] at hS)
    refine d_done hD rfl ?_; clear hD
    refine hK13 _ _ ?_; clear hK13
    refine wp_seq_k fun K14 hK14 => ?_
    refine wp_region_lit ?_
    refine s_pu hF rfl rfl rfl (pu_move (hF.ev rfl)) ?_; clear hF; intro a hF
    refine s_pu hF rfl rfl rfl ((by exact pu_nil (hF.ev rfl))) ?_; clear hF; intro a hF
    refine s_pu hF rfl rfl rfl ((by exact pu_field fd91_4 (hF.ev rfl))) ?_; clear hF; intro a hF
    refine s_rd hF rfl rfl rfl (by exact rd_load pl3 (hF.ev rfl) (hS.cellL (i := 2) rfl rfl)) ?_; clear hF; intro a hF
    refine s_pu hF rfl rfl rfl ((by exact pu_add64 (hF.ev rfl) (hF.ev rfl) (by omega))) ?_; clear hF; intro a hF
    refine s_pu hF rfl rfl rfl ((by exact pu_nil (hF.ev rfl))) ?_; clear hF; intro a hF
    refine s_pu hF rfl rfl rfl ((by exact pu_field fd91_4 (hF.ev rfl))) ?_; clear hF; intro a hF
    ((refine s_store (vs := [_]) (cs' := #[_, _, _, _, _, _, _, _, _, _]) 2 hF rfl (hF.ev rfl) (hF.ev rfl) hS rfl rfl sz3 (by rfl) (by exact Nat.le_of_ble_eq_true rfl) rfl ?_))
    clear hS; intro w hS; (try simp only [upd, del] at hS)
    refine s_done ?_
    refine hK14 _ _ ?_; clear hK14
    refine wp_seq_k fun K15 hK15 => ?_
    refine wp_region_lit ?_
    refine s_pu hF rfl rfl rfl (pu_assign (hF.ev rfl)) ?_; clear hF; intro a hF
    refine s_done ?_
    refine hK15 _ _ ?_; clear hK15
    refine wp_ret ?_
    refine fin1 Try.results9 hF rfl ?_
    refine ⟨rfl, tab_bs.2 ⟨bs ++ [b81], ?_⟩⟩
    replace hS := (((hS.drop 1).drop 2).drop 2).sel [5, 4, 1, 4, 1, 1, 0, 1]
    simp only [selR, nth, del, mesC] at hS
    rw [sat_star] at hS
    replace hS := hS.sel [2]
    simp only [List.cons_append, List.nil_append, selR, nth, del] at hS
    refine tab_shut (T := ⟨most, timeout, remember, next + 1, L ++ [⟨next, p, last + 1, false⟩], P ++ [⟨last + 1, now + timeout, .int .i64 next, rfl⟩], now, last + 1⟩) (wg := wg) (km := km) (kk := kk) (kw := kw)
      (hw := .slice A115 (waitsL (L ++ [⟨next, p, last + 1, false⟩])).length q115) (hl := .slice o' (latesL (L ++ [⟨next, p, last + 1, false⟩])).length d') (by show (bs ++ [b81]).length = (L ++ [_]).length; rw [List.length_append, List.length_append, hb]; rfl) ?_
    refine (ents_take (A := L) (B := []) (bA := bs) (bB := []) hb).2 ⟨.slice B1 m1 q1, .slice B2 m2 q2, ?_⟩
    unfold tabO
    simp only [List.append_nil, List.cons_append, List.nil_append, all_snoc hb, keys_snoc (e := (⟨next, p, last + 1, false⟩ : Ety)) rfl, waits_snoc (e := (⟨next, p, last + 1, false⟩ : Ety)) rfl, lates_snoc (e := (⟨next, p, last + 1, false⟩ : Ety)) rfl, ways_snoc, List.length_append, List.length_cons, List.length_nil, Nat.zero_add]
    rw [← ints_snoc]
    exact hS
end Go.Proofs.Ytbfdebddoncfhaa
