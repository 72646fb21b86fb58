import Derived.Test.YtbfdebddoncfhaaPd6
/-! Pending: Add. -/
namespace Go.Proofs.Ytbfdebddoncfhaa
open Go Go.RowKit Go.Proofs.Ytbfdebddoncfhaa.Sk
set_option linter.unusedVariables false
set_option linter.unusedSimpArgs false
set_option maxRecDepth 100000

theorem put_new {K V : Type} [DecidableEq K] {m : List (K × V)} {x : K} {v : V} (h : ∀ p ∈ m, p.1 ≠ x) : mPut m x v = m ++ [(x, v)] := by
  unfold mPut
  rw [if_neg]
  rw [List.any_eq_true]
  rintro ⟨p, hp, e⟩
  exact h p hp (by simpa using e)
def Tab.add (T : Tab) (p : Pnd) : Tab := { T with L := T.L ++ [⟨T.next, p, T.last + 1, false⟩], P := T.P ++ [⟨T.last + 1, T.now + T.timeout, .int .i64 T.next, rfl⟩], last := T.last + 1, next := T.next + 1 }
def Pnd.way (p : Pnd) : Int × Int := (p.to_, p.number)
theorem all_snoc {L : List Ety} {bs : List Nat} {e : Ety} {b : Nat} (hb : bs.length = L.length) : allL (L ++ [e]) (bs ++ [b]) = allL L bs ++ [(e.n, b)] := by
  unfold allL
  rw [List.zipWith_append hb.symm]
  rfl
theorem keys_snoc {L : List Ety} {e : Ety} (h : e.late = false) : keysL (L ++ [e]) = keysL L ++ [(e.p.key, e.n)] := by rw [keys_app]; unfold keysL; simp [h]
theorem waits_snoc {L : List Ety} {e : Ety} (h : e.late = false) : waitsL (L ++ [e]) = waitsL L ++ [e.n] := by rw [waits_app]; unfold waitsL; simp [h]
theorem lates_snoc {L : List Ety} {e : Ety} (h : e.late = false) : latesL (L ++ [e]) = latesL L := by rw [lates_app]; unfold latesL; simp [h]
theorem ways_snoc {L : List Ety} {e : Ety} : waysL (L ++ [e]) = waysL L ++ [(e.way, e.n)] := by unfold waysL; simp
theorem ints_snoc {l : List Int} {x : Int} : ints l ++ [.int .i64 x] = ints (l ++ [x]) := by unfold ints; simp
section
variable {w0 w : World} {F : List Chunk} {k g : Nat} {T : Tab} {p : Pnd} {A1 A2 : Option Addr} {n1 d1 n2 d2 : Nat}
theorem add_tw1 {v1 v2 : Int} (hS : Sat w0 w (tabC k g T :: F)) (hk : mGet (keysL T.L) p.key = some v1) (hm : mGet (waysL T.L) p.way = none) :
    Calls Try.prog 9 #[.pointer (some ⟨g, 0, none⟩), p.value (.slice A1 n1 d1, .slice A2 n2 d2)] w fun e w' => e = .returned (.int .i64 191) ∧ Sat w0 w' (tabC k g T :: F) := by
  obtain ⟨bs, hS⟩ := tab_bs.1 hS
  obtain ⟨wg, km, kk, kw, o, d, o', d', hb, hS⟩ := tab_open hS
  unfold tabO at hS
  simp only [List.cons_append, List.nil_append] at hS
  unfold Pnd.value
  refine enter Try.func9 rfl Try.ntmps9 (Nat.le_of_ble_eq_true rfl) fun a hF => ?_
  refine wp_seq_k fun K0 hK0 => ?_
  refine wp_region_lit ?_
  refine s_newp hF rfl rfl rfl (ef_box (cs := #[_, _, _, _, _, _, _, _, _, _, _, _]) (hF.ev rfl) rfl) hS ?_; clear hF hS; intro b3 w hS a hF
  refine s_pu hF rfl rfl rfl (pu_assign (hF.ev rfl)) ?_; clear hF; intro a hF
  refine s_done ?_
  refine hK0 _ _ ?_; clear hK0
  refine wp_seq_k fun K1 hK1 => ?_
  refine wp_region_lit ?_
  refine s_pu hF rfl rfl rfl ((by exact pu_field fd35_2 (hF.ev rfl))) ?_; clear hF; intro a hF
  refine s_rd hF rfl rfl rfl (by exact rd_load pl3 (hF.ev rfl) (hS.cellL (i := 0) rfl rfl)) ?_; clear hF; intro a hF
  refine s_pu hF rfl rfl rfl ((by exact pu_field fd35_3 (hF.ev rfl))) ?_; clear hF; intro a hF
  refine s_rd hF rfl rfl rfl (by exact rd_load pl3 (hF.ev rfl) (hS.cellL (i := 0) rfl rfl)) ?_; clear hF; intro a hF
  refine s_pu hF rfl rfl rfl ((pu_build st93 (hF.evp rfl) rfl rfl : Pu _ _ _ (.agg #[_, _]))) ?_; clear hF; intro a hF
  refine s_newp hF rfl rfl rfl (ef_alloc (cs := #[_, _]) ze93 rfl) hS ?_; clear hF hS; intro b5 w hS a hF
  ((refine s_store (vs := [_, _]) (cs' := #[_, _]) 0 hF rfl (hF.ev rfl) (hF.ev rfl) hS rfl rfl sz93 (by rfl) (by exact Nat.le_of_ble_eq_true rfl) rfl ?_))
  clear hS; intro w hS; (try simp only [upd, del] at hS)
  refine s_done ?_
  refine hK1 _ _ ?_; clear hK1
  refine wp_seq_k fun K2 hK2 => ?_
  refine d_start (S := (fun w => Sat w0 w _)) (ds := []) (ord := [(0, .pu), (1, .pu), (2, .pu), (3, .tk), (4, .pu), (5, .tk), (6, .tk), (7, .pu), (8, .pu), (9, .pu), (10, .pu), (11, .pu)]) mixed ⟨by kernel_rfl, fun _ d _ _ _ h => by cases d <;> exact h⟩ hS.drew fun hD => ?_
  replace hS := hS.drew; generalize w.drew = w at hS ⊢
  refine d_pu hD hF rfl rfl rfl rfl rfl (pu_move (hF.ev rfl)) ?_; clear hF; intro a hF
  refine d_pu hD hF rfl rfl rfl rfl rfl ((by exact pu_nil (hF.ev rfl))) ?_; clear hF; intro a hF
  refine d_pu hD hF rfl rfl rfl rfl rfl ((by exact pu_field fd91_6 (hF.ev rfl))) ?_; clear hF; intro a hF
  refine d_rd hD hF rfl rfl rfl rfl rfl hS (fun w hS => (by exact rd_load pl88 (hF.ev rfl) (hS.cellL (i := 2) rfl rfl))) ?_; clear hF; intro a hF
  refine d_pu hD hF rfl rfl rfl rfl rfl ((by exact pu_field fd35_0 (hF.ev rfl))) ?_; clear hF; intro a hF
  refine d_rd hD hF rfl rfl rfl rfl rfl hS (fun w hS => (by exact rd_loadB (i := 1) (vs := [_, _, _, _, _]) ag30 (hF.ev rfl) hS rfl rfl)) ?_; clear hF; intro a hF
  first
    | (refine d_rd hD hF rfl rfl rfl rfl rfl hS (fun w hS => rd_look_s (x := p.key) 4 keys30 Try.underlying88 ze3 (hF.ev rfl) (hF.ev rfl) hS rfl hk) ?_; clear hF; intro a hF)
    | (refine d_rd hD hF rfl rfl rfl rfl rfl hS (fun w hS => rd_look_n (x := p.key) 4 keys30 Try.underlying88 ze3 (hF.ev rfl) (hF.ev rfl) hS rfl hk) ?_; clear hF; intro a hF)
  refine d_pu hD hF rfl rfl rfl rfl rfl (pu_move (hF.ev rfl)) ?_; clear hF; intro a hF
  refine d_pu hD hF rfl rfl rfl rfl rfl (pu_extract (hF.ev rfl) rfl) ?_; clear hF; intro a hF
  refine d_pu hD hF rfl rfl rfl rfl rfl (pu_extract (hF.ev rfl) rfl) ?_; clear hF; intro a hF
  refine d_pu hD hF rfl rfl rfl rfl rfl (pu_assign (hF.ev rfl)) ?_; clear hF; intro a hF
  refine d_pu hD hF rfl rfl rfl rfl rfl (pu_assign (hF.ev rfl)) ?_; clear hF; intro a hF
  refine d_done hD rfl ?_; clear hD
  refine hK2 _ _ ?_; clear hK2
  refine wp_seq_k fun K3 hK3 => ?_
  refine d_start (S := (fun w => Sat w0 w _)) (ds := []) (ord := [(0, .pu), (1, .pu), (2, .pu), (3, .tk), (4, .tk), (5, .tk), (6, .pu), (7, .pu), (8, .pu), (9, .pu), (10, .pu)]) mixed ⟨by kernel_rfl, fun _ d _ _ _ h => by cases d <;> exact h⟩ hS.drew fun hD => ?_
  replace hS := hS.drew; generalize w.drew = w at hS ⊢
  refine d_pu hD hF rfl rfl rfl rfl rfl (pu_move (hF.ev rfl)) ?_; clear hF; intro a hF
  refine d_pu hD hF rfl rfl rfl rfl rfl ((by exact pu_nil (hF.ev rfl))) ?_; clear hF; intro a hF
  refine d_pu hD hF rfl rfl rfl rfl rfl ((by exact pu_field fd91_7 (hF.ev rfl))) ?_; clear hF; intro a hF
  refine d_rd hD hF rfl rfl rfl rfl rfl hS (fun w hS => (by exact rd_load pl89 (hF.ev rfl) (hS.cellL (i := 2) rfl rfl))) ?_; clear hF; intro a hF
  refine d_rd hD hF rfl rfl rfl rfl rfl hS (fun w hS => (by exact rd_loadB (i := 0) (vs := [_, _]) ag93 (hF.ev rfl) hS rfl rfl)) ?_; clear hF; intro a hF
  first
    | (refine d_rd hD hF rfl rfl rfl rfl rfl hS (fun w hS => rd_look_s (x := p.way) 5 keys93 Try.underlying89 ze3 (hF.ev rfl) (hF.ev rfl) hS rfl hm) ?_; clear hF; intro a hF)
    | (refine d_rd hD hF rfl rfl rfl rfl rfl hS (fun w hS => rd_look_n (x := p.way) 5 keys93 Try.underlying89 ze3 (hF.ev rfl) (hF.ev rfl) hS rfl hm) ?_; clear hF; intro a hF)
  refine d_pu hD hF rfl rfl rfl rfl rfl (pu_move (hF.ev rfl)) ?_; clear hF; intro a hF
  refine d_pu hD hF rfl rfl rfl rfl rfl (pu_extract (hF.ev rfl) rfl) ?_; clear hF; intro a hF
  refine d_pu hD hF rfl rfl rfl rfl rfl (pu_extract (hF.ev rfl) rfl) ?_; clear hF; intro a hF
  refine d_pu hD hF rfl rfl rfl rfl rfl (pu_assign (hF.ev rfl)) ?_; clear hF; intro a hF
  refine d_pu hD hF rfl rfl rfl rfl rfl (pu_assign (hF.ev rfl)) ?_; clear hF; intro a hF
  refine d_done hD rfl ?_; clear hD
  refine hK3 _ _ ?_; clear hK3
  refine wp_seq_k fun K4 hK4 => ?_
  refine wp_seq_k fun K5 hK5 => ?_
  refine wp_region_lit ?_
  refine s_pu hF rfl rfl rfl (pu_move (hF.ev rfl)) ?_; clear hF; intro a hF
  refine s_pu hF rfl rfl rfl (pu_move (hF.ev rfl)) ?_; clear hF; intro a hF
  refine s_no hF rfl rfl rfl ?_; clear hF; intro a hF
  refine s_pu hF rfl rfl rfl ((by exact pu_pick_t (hF.ev rfl) (hF.ev rfl))) ?_; clear hF; intro a hF
  refine s_done ?_
  refine hK5 _ _ ?_; clear hK5
  refine wp_cond_true (hF.ev rfl) ?_
  refine wp_seq_k fun K6 hK6 => ?_
  refine wp_region_lit ?_
  refine s_pu hF rfl rfl rfl (pu_assign (hF.ev rfl)) ?_; clear hF; intro a hF
  refine s_done ?_
  refine hK6 _ _ ?_; clear hK6
  refine wp_ret ?_
  refine then_ret ?_
  refine fin1 Try.results9 hF rfl ?_
  exact ⟨rfl, tab_bs.2 ⟨bs, tab_shut hb hS.tail.tail⟩⟩
theorem add_tw2 {v1 v2 : Int} (hS : Sat w0 w (tabC k g T :: F)) (hk : mGet (keysL T.L) p.key = some v1) (hm : mGet (waysL T.L) p.way = some v2) :
    Calls Try.prog 9 #[.pointer (some ⟨g, 0, none⟩), p.value (.slice A1 n1 d1, .slice A2 n2 d2)] w fun e w' => e = .returned (.int .i64 191) ∧ Sat w0 w' (tabC k g T :: F) := by
  obtain ⟨bs, hS⟩ := tab_bs.1 hS
  obtain ⟨wg, km, kk, kw, o, d, o', d', hb, hS⟩ := tab_open hS
  unfold tabO at hS
  simp only [List.cons_append, List.nil_append] at hS
  unfold Pnd.value
  refine enter Try.func9 rfl Try.ntmps9 (Nat.le_of_ble_eq_true rfl) fun a hF => ?_
  refine wp_seq_k fun K0 hK0 => ?_
  refine wp_region_lit ?_
  refine s_newp hF rfl rfl rfl (ef_box (cs := #[_, _, _, _, _, _, _, _, _, _, _, _]) (hF.ev rfl) rfl) hS ?_; clear hF hS; intro b3 w hS a hF
  refine s_pu hF rfl rfl rfl (pu_assign (hF.ev rfl)) ?_; clear hF; intro a hF
  refine s_done ?_
  refine hK0 _ _ ?_; clear hK0
  refine wp_seq_k fun K1 hK1 => ?_
  refine wp_region_lit ?_
  refine s_pu hF rfl rfl rfl ((by exact pu_field fd35_2 (hF.ev rfl))) ?_; clear hF; intro a hF
  refine s_rd hF rfl rfl rfl (by exact rd_load pl3 (hF.ev rfl) (hS.cellL (i := 0) rfl rfl)) ?_; clear hF; intro a hF
  refine s_pu hF rfl rfl rfl ((by exact pu_field fd35_3 (hF.ev rfl))) ?_; clear hF; intro a hF
  refine s_rd hF rfl rfl rfl (by exact rd_load pl3 (hF.ev rfl) (hS.cellL (i := 0) rfl rfl)) ?_; clear hF; intro a hF
  refine s_pu hF rfl rfl rfl ((pu_build st93 (hF.evp rfl) rfl rfl : Pu _ _ _ (.agg #[_, _]))) ?_; clear hF; intro a hF
  refine s_newp hF rfl rfl rfl (ef_alloc (cs := #[_, _]) ze93 rfl) hS ?_; clear hF hS; intro b5 w hS a hF
  ((refine s_store (vs := [_, _]) (cs' := #[_, _]) 0 hF rfl (hF.ev rfl) (hF.ev rfl) hS rfl rfl sz93 (by rfl) (by exact Nat.le_of_ble_eq_true rfl) rfl ?_))
  clear hS; intro w hS; (try simp only [upd, del] at hS)
  refine s_done ?_
  refine hK1 _ _ ?_; clear hK1
  refine wp_seq_k fun K2 hK2 => ?_
  refine d_start (S := (fun w => Sat w0 w _)) (ds := []) (ord := [(0, .pu), (1, .pu), (2, .pu), (3, .tk), (4, .pu), (5, .tk), (6, .tk), (7, .pu), (8, .pu), (9, .pu), (10, .pu), (11, .pu)]) mixed ⟨by kernel_rfl, fun _ d _ _ _ h => by cases d <;> exact h⟩ hS.drew fun hD => ?_
  replace hS := hS.drew; generalize w.drew = w at hS ⊢
  refine d_pu hD hF rfl rfl rfl rfl rfl (pu_move (hF.ev rfl)) ?_; clear hF; intro a hF
  refine d_pu hD hF rfl rfl rfl rfl rfl ((by exact pu_nil (hF.ev rfl))) ?_; clear hF; intro a hF
  refine d_pu hD hF rfl rfl rfl rfl rfl ((by exact pu_field fd91_6 (hF.ev rfl))) ?_; clear hF; intro a hF
  refine d_rd hD hF rfl rfl rfl rfl rfl hS (fun w hS => (by exact rd_load pl88 (hF.ev rfl) (hS.cellL (i := 2) rfl rfl))) ?_; clear hF; intro a hF
  refine d_pu hD hF rfl rfl rfl rfl rfl ((by exact pu_field fd35_0 (hF.ev rfl))) ?_; clear hF; intro a hF
  refine d_rd hD hF rfl rfl rfl rfl rfl hS (fun w hS => (by exact rd_loadB (i := 1) (vs := [_, _, _, _, _]) ag30 (hF.ev rfl) hS rfl rfl)) ?_; clear hF; intro a hF
  first
    | (refine d_rd hD hF rfl rfl rfl rfl rfl hS (fun w hS => rd_look_s (x := p.key) 4 keys30 Try.underlying88 ze3 (hF.ev rfl) (hF.ev rfl) hS rfl hk) ?_; clear hF; intro a hF)
    | (refine d_rd hD hF rfl rfl rfl rfl rfl hS (fun w hS => rd_look_n (x := p.key) 4 keys30 Try.underlying88 ze3 (hF.ev rfl) (hF.ev rfl) hS rfl hk) ?_; clear hF; intro a hF)
  refine d_pu hD hF rfl rfl rfl rfl rfl (pu_move (hF.ev rfl)) ?_; clear hF; intro a hF
  refine d_pu hD hF rfl rfl rfl rfl rfl (pu_extract (hF.ev rfl) rfl) ?_; clear hF; intro a hF
  refine d_pu hD hF rfl rfl rfl rfl rfl (pu_extract (hF.ev rfl) rfl) ?_; clear hF; intro a hF
  refine d_pu hD hF rfl rfl rfl rfl rfl (pu_assign (hF.ev rfl)) ?_; clear hF; intro a hF
  refine d_pu hD hF rfl rfl rfl rfl rfl (pu_assign (hF.ev rfl)) ?_; clear hF; intro a hF
  refine d_done hD rfl ?_; clear hD
  refine hK2 _ _ ?_; clear hK2
  refine wp_seq_k fun K3 hK3 => ?_
  refine d_start (S := (fun w => Sat w0 w _)) (ds := []) (ord := [(0, .pu), (1, .pu), (2, .pu), (3, .tk), (4, .tk), (5, .tk), (6, .pu), (7, .pu), (8, .pu), (9, .pu), (10, .pu)]) mixed ⟨by kernel_rfl, fun _ d _ _ _ h => by cases d <;> exact h⟩ hS.drew fun hD => ?_
  replace hS := hS.drew; generalize w.drew = w at hS ⊢
  refine d_pu hD hF rfl rfl rfl rfl rfl (pu_move (hF.ev rfl)) ?_; clear hF; intro a hF
  refine d_pu hD hF rfl rfl rfl rfl rfl ((by exact pu_nil (hF.ev rfl))) ?_; clear hF; intro a hF
  refine d_pu hD hF rfl rfl rfl rfl rfl ((by exact pu_field fd91_7 (hF.ev rfl))) ?_; clear hF; intro a hF
  refine d_rd hD hF rfl rfl rfl rfl rfl hS (fun w hS => (by exact rd_load pl89 (hF.ev rfl) (hS.cellL (i := 2) rfl rfl))) ?_; clear hF; intro a hF
  refine d_rd hD hF rfl rfl rfl rfl rfl hS (fun w hS => (by exact rd_loadB (i := 0) (vs := [_, _]) ag93 (hF.ev rfl) hS rfl rfl)) ?_; clear hF; intro a hF
  first
    | (refine d_rd hD hF rfl rfl rfl rfl rfl hS (fun w hS => rd_look_s (x := p.way) 5 keys93 Try.underlying89 ze3 (hF.ev rfl) (hF.ev rfl) hS rfl hm) ?_; clear hF; intro a hF)
    | (refine d_rd hD hF rfl rfl rfl rfl rfl hS (fun w hS => rd_look_n (x := p.way) 5 keys93 Try.underlying89 ze3 (hF.ev rfl) (hF.ev rfl) hS rfl hm) ?_; clear hF; intro a hF)
  refine d_pu hD hF rfl rfl rfl rfl rfl (pu_move (hF.ev rfl)) ?_; clear hF; intro a hF
  refine d_pu hD hF rfl rfl rfl rfl rfl (pu_extract (hF.ev rfl) rfl) ?_; clear hF; intro a hF
  refine d_pu hD hF rfl rfl rfl rfl rfl (pu_extract (hF.ev rfl) rfl) ?_; clear hF; intro a hF
  refine d_pu hD hF rfl rfl rfl rfl rfl (pu_assign (hF.ev rfl)) ?_; clear hF; intro a hF
  refine d_pu hD hF rfl rfl rfl rfl rfl (pu_assign (hF.ev rfl)) ?_; clear hF; intro a hF
  refine d_done hD rfl ?_; clear hD
  refine hK3 _ _ ?_; clear hK3
  refine wp_seq_k fun K4 hK4 => ?_
  refine wp_seq_k fun K5 hK5 => ?_
  refine wp_region_lit ?_
  refine s_pu hF rfl rfl rfl (pu_move (hF.ev rfl)) ?_; clear hF; intro a hF
  refine s_pu hF rfl rfl rfl (pu_move (hF.ev rfl)) ?_; clear hF; intro a hF
  refine s_no hF rfl rfl rfl ?_; clear hF; intro a hF
  refine s_pu hF rfl rfl rfl ((by exact pu_pick_t (hF.ev rfl) (hF.ev rfl))) ?_; clear hF; intro a hF
  refine s_done ?_
  refine hK5 _ _ ?_; clear hK5
  refine wp_cond_true (hF.ev rfl) ?_
  refine wp_seq_k fun K6 hK6 => ?_
  refine wp_region_lit ?_
  refine s_pu hF rfl rfl rfl (pu_assign (hF.ev rfl)) ?_; clear hF; intro a hF
  refine s_done ?_
  refine hK6 _ _ ?_; clear hK6
  refine wp_ret ?_
  refine then_ret ?_
  refine fin1 Try.results9 hF rfl ?_
  exact ⟨rfl, tab_bs.2 ⟨bs, tab_shut hb hS.tail.tail⟩⟩
theorem add_tw3 {v1 v2 : Int} (hS : Sat w0 w (tabC k g T :: F)) (hk : mGet (keysL T.L) p.key = none) (hm : mGet (waysL T.L) p.way = some v2) :
    Calls Try.prog 9 #[.pointer (some ⟨g, 0, none⟩), p.value (.slice A1 n1 d1, .slice A2 n2 d2)] w fun e w' => e = .returned (.int .i64 191) ∧ Sat w0 w' (tabC k g T :: F) := by
  obtain ⟨bs, hS⟩ := tab_bs.1 hS
  obtain ⟨wg, km, kk, kw, o, d, o', d', hb, hS⟩ := tab_open hS
  unfold tabO at hS
  simp only [List.cons_append, List.nil_append] at hS
  unfold Pnd.value
  refine enter Try.func9 rfl Try.ntmps9 (Nat.le_of_ble_eq_true rfl) fun a hF => ?_
  refine wp_seq_k fun K0 hK0 => ?_
  refine wp_region_lit ?_
  refine s_newp hF rfl rfl rfl (ef_box (cs := #[_, _, _, _, _, _, _, _, _, _, _, _]) (hF.ev rfl) rfl) hS ?_; clear hF hS; intro b3 w hS a hF
  refine s_pu hF rfl rfl rfl (pu_assign (hF.ev rfl)) ?_; clear hF; intro a hF
  refine s_done ?_
  refine hK0 _ _ ?_; clear hK0
  refine wp_seq_k fun K1 hK1 => ?_
  refine wp_region_lit ?_
  refine s_pu hF rfl rfl rfl ((by exact pu_field fd35_2 (hF.ev rfl))) ?_; clear hF; intro a hF
  refine s_rd hF rfl rfl rfl (by exact rd_load pl3 (hF.ev rfl) (hS.cellL (i := 0) rfl rfl)) ?_; clear hF; intro a hF
  refine s_pu hF rfl rfl rfl ((by exact pu_field fd35_3 (hF.ev rfl))) ?_; clear hF; intro a hF
  refine s_rd hF rfl rfl rfl (by exact rd_load pl3 (hF.ev rfl) (hS.cellL (i := 0) rfl rfl)) ?_; clear hF; intro a hF
  refine s_pu hF rfl rfl rfl ((pu_build st93 (hF.evp rfl) rfl rfl : Pu _ _ _ (.agg #[_, _]))) ?_; clear hF; intro a hF
  refine s_newp hF rfl rfl rfl (ef_alloc (cs := #[_, _]) ze93 rfl) hS ?_; clear hF hS; intro b5 w hS a hF
  ((refine s_store (vs := [_, _]) (cs' := #[_, _]) 0 hF rfl (hF.ev rfl) (hF.ev rfl) hS rfl rfl sz93 (by rfl) (by exact Nat.le_of_ble_eq_true rfl) rfl ?_))
  clear hS; intro w hS; (try simp only [upd, del] at hS)
  refine s_done ?_
  refine hK1 _ _ ?_; clear hK1
  refine wp_seq_k fun K2 hK2 => ?_
  refine d_start (S := (fun w => Sat w0 w _)) (ds := []) (ord := [(0, .pu), (1, .pu), (2, .pu), (3, .tk), (4, .pu), (5, .tk), (6, .tk), (7, .pu), (8, .pu), (9, .pu), (10, .pu), (11, .pu)]) mixed ⟨by kernel_rfl, fun _ d _ _ _ h => by cases d <;> exact h⟩ hS.drew fun hD => ?_
  replace hS := hS.drew; generalize w.drew = w at hS ⊢
  refine d_pu hD hF rfl rfl rfl rfl rfl (pu_move (hF.ev rfl)) ?_; clear hF; intro a hF
  refine d_pu hD hF rfl rfl rfl rfl rfl ((by exact pu_nil (hF.ev rfl))) ?_; clear hF; intro a hF
  refine d_pu hD hF rfl rfl rfl rfl rfl ((by exact pu_field fd91_6 (hF.ev rfl))) ?_; clear hF; intro a hF
  refine d_rd hD hF rfl rfl rfl rfl rfl hS (fun w hS => (by exact rd_load pl88 (hF.ev rfl) (hS.cellL (i := 2) rfl rfl))) ?_; clear hF; intro a hF
  refine d_pu hD hF rfl rfl rfl rfl rfl ((by exact pu_field fd35_0 (hF.ev rfl))) ?_; clear hF; intro a hF
  refine d_rd hD hF rfl rfl rfl rfl rfl hS (fun w hS => (by exact rd_loadB (i := 1) (vs := [_, _, _, _, _]) ag30 (hF.ev rfl) hS rfl rfl)) ?_; clear hF; intro a hF
  first
    | (refine d_rd hD hF rfl rfl rfl rfl rfl hS (fun w hS => rd_look_s (x := p.key) 4 keys30 Try.underlying88 ze3 (hF.ev rfl) (hF.ev rfl) hS rfl hk) ?_; clear hF; intro a hF)
    | (refine d_rd hD hF rfl rfl rfl rfl rfl hS (fun w hS => rd_look_n (x := p.key) 4 keys30 Try.underlying88 ze3 (hF.ev rfl) (hF.ev rfl) hS rfl hk) ?_; clear hF; intro a hF)
  refine d_pu hD hF rfl rfl rfl rfl rfl (pu_move (hF.ev rfl)) ?_; clear hF; intro a hF
  refine d_pu hD hF rfl rfl rfl rfl rfl (pu_extract (hF.ev rfl) rfl) ?_; clear hF; intro a hF
  refine d_pu hD hF rfl rfl rfl rfl rfl (pu_extract (hF.ev rfl) rfl) ?_; clear hF; intro a hF
  refine d_pu hD hF rfl rfl rfl rfl rfl (pu_assign (hF.ev rfl)) ?_; clear hF; intro a hF
  refine d_pu hD hF rfl rfl rfl rfl rfl (pu_assign (hF.ev rfl)) ?_; clear hF; intro a hF
  refine d_done hD rfl ?_; clear hD
  refine hK2 _ _ ?_; clear hK2
  refine wp_seq_k fun K3 hK3 => ?_
  refine d_start (S := (fun w => Sat w0 w _)) (ds := []) (ord := [(0, .pu), (1, .pu), (2, .pu), (3, .tk), (4, .tk), (5, .tk), (6, .pu), (7, .pu), (8, .pu), (9, .pu), (10, .pu)]) mixed ⟨by kernel_rfl, fun _ d _ _ _ h => by cases d <;> exact h⟩ hS.drew fun hD => ?_
  replace hS := hS.drew; generalize w.drew = w at hS ⊢
  refine d_pu hD hF rfl rfl rfl rfl rfl (pu_move (hF.ev rfl)) ?_; clear hF; intro a hF
  refine d_pu hD hF rfl rfl rfl rfl rfl ((by exact pu_nil (hF.ev rfl))) ?_; clear hF; intro a hF
  refine d_pu hD hF rfl rfl rfl rfl rfl ((by exact pu_field fd91_7 (hF.ev rfl))) ?_; clear hF; intro a hF
  refine d_rd hD hF rfl rfl rfl rfl rfl hS (fun w hS => (by exact rd_load pl89 (hF.ev rfl) (hS.cellL (i := 2) rfl rfl))) ?_; clear hF; intro a hF
  refine d_rd hD hF rfl rfl rfl rfl rfl hS (fun w hS => (by exact rd_loadB (i := 0) (vs := [_, _]) ag93 (hF.ev rfl) hS rfl rfl)) ?_; clear hF; intro a hF
  first
    | (refine d_rd hD hF rfl rfl rfl rfl rfl hS (fun w hS => rd_look_s (x := p.way) 5 keys93 Try.underlying89 ze3 (hF.ev rfl) (hF.ev rfl) hS rfl hm) ?_; clear hF; intro a hF)
    | (refine d_rd hD hF rfl rfl rfl rfl rfl hS (fun w hS => rd_look_n (x := p.way) 5 keys93 Try.underlying89 ze3 (hF.ev rfl) (hF.ev rfl) hS rfl hm) ?_; clear hF; intro a hF)
  refine d_pu hD hF rfl rfl rfl rfl rfl (pu_move (hF.ev rfl)) ?_; clear hF; intro a hF
  refine d_pu hD hF rfl rfl rfl rfl rfl (pu_extract (hF.ev rfl) rfl) ?_; clear hF; intro a hF
  refine d_pu hD hF rfl rfl rfl rfl rfl (pu_extract (hF.ev rfl) rfl) ?_; clear hF; intro a hF
  refine d_pu hD hF rfl rfl rfl rfl rfl (pu_assign (hF.ev rfl)) ?_; clear hF; intro a hF
  refine d_pu hD hF rfl rfl rfl rfl rfl (pu_assign (hF.ev rfl)) ?_; clear hF; intro a hF
  refine d_done hD rfl ?_; clear hD
  refine hK3 _ _ ?_; clear hK3
  refine wp_seq_k fun K4 hK4 => ?_
  refine wp_seq_k fun K5 hK5 => ?_
  refine wp_region_lit ?_
  refine s_pu hF rfl rfl rfl (pu_move (hF.ev rfl)) ?_; clear hF; intro a hF
  refine s_pu hF rfl rfl rfl (pu_move (hF.ev rfl)) ?_; clear hF; intro a hF
  refine s_pu hF rfl rfl rfl (pu_move (hF.ev rfl)) ?_; clear hF; intro a hF
  refine s_pu hF rfl rfl rfl ((by exact pu_pick_f (hF.ev rfl) (hF.ev rfl))) ?_; clear hF; intro a hF
  refine s_done ?_
  refine hK5 _ _ ?_; clear hK5
  refine wp_cond_true (hF.ev rfl) ?_
  refine wp_seq_k fun K6 hK6 => ?_
  refine wp_region_lit ?_
  refine s_pu hF rfl rfl rfl (pu_assign (hF.ev rfl)) ?_; clear hF; intro a hF
  refine s_done ?_
  refine hK6 _ _ ?_; clear hK6
  refine wp_ret ?_
  refine then_ret ?_
  refine fin1 Try.results9 hF rfl ?_
  exact ⟨rfl, tab_bs.2 ⟨bs, tab_shut hb hS.tail.tail⟩⟩
theorem add_full {v1 v2 : Int} (hS : Sat w0 w (tabC k g T :: F)) (hk : mGet (keysL T.L) p.key = none) (hm : mGet (waysL T.L) p.way = none) (hfull : T.most ≤ (waitsL T.L).length) :
    Calls Try.prog 9 #[.pointer (some ⟨g, 0, none⟩), p.value (.slice A1 n1 d1, .slice A2 n2 d2)] w fun e w' => e = .returned (.int .i64 190) ∧ Sat w0 w' (tabC k g T :: F) := by
  obtain ⟨bs, hS⟩ := tab_bs.1 hS
  obtain ⟨wg, km, kk, kw, o, d, o', d', hb, hS⟩ := tab_open hS
  unfold tabO at hS
  simp only [List.cons_append, List.nil_append] at hS
  unfold Pnd.value
  refine enter Try.func9 rfl Try.ntmps9 (Nat.le_of_ble_eq_true rfl) fun a hF => ?_
  refine wp_seq_k fun K0 hK0 => ?_
  refine wp_region_lit ?_
  refine s_newp hF rfl rfl rfl (ef_box (cs := #[_, _, _, _, _, _, _, _, _, _, _, _]) (hF.ev rfl) rfl) hS ?_; clear hF hS; intro b3 w hS a hF
  refine s_pu hF rfl rfl rfl (pu_assign (hF.ev rfl)) ?_; clear hF; intro a hF
  refine s_done ?_
  refine hK0 _ _ ?_; clear hK0
  refine wp_seq_k fun K1 hK1 => ?_
  refine wp_region_lit ?_
  refine s_pu hF rfl rfl rfl ((by exact pu_field fd35_2 (hF.ev rfl))) ?_; clear hF; intro a hF
  refine s_rd hF rfl rfl rfl (by exact rd_load pl3 (hF.ev rfl) (hS.cellL (i := 0) rfl rfl)) ?_; clear hF; intro a hF
  refine s_pu hF rfl rfl rfl ((by exact pu_field fd35_3 (hF.ev rfl))) ?_; clear hF; intro a hF
  refine s_rd hF rfl rfl rfl (by exact rd_load pl3 (hF.ev rfl) (hS.cellL (i := 0) rfl rfl)) ?_; clear hF; intro a hF
  refine s_pu hF rfl rfl rfl ((pu_build st93 (hF.evp rfl) rfl rfl : Pu _ _ _ (.agg #[_, _]))) ?_; clear hF; intro a hF
  refine s_newp hF rfl rfl rfl (ef_alloc (cs := #[_, _]) ze93 rfl) hS ?_; clear hF hS; intro b5 w hS a hF
  ((refine s_store (vs := [_, _]) (cs' := #[_, _]) 0 hF rfl (hF.ev rfl) (hF.ev rfl) hS rfl rfl sz93 (by rfl) (by exact Nat.le_of_ble_eq_true rfl) rfl ?_))
  clear hS; intro w hS; (try simp only [upd, del] at hS)
  refine s_done ?_
  refine hK1 _ _ ?_; clear hK1
  refine wp_seq_k fun K2 hK2 => ?_
  refine d_start (S := (fun w => Sat w0 w _)) (ds := []) (ord := [(0, .pu), (1, .pu), (2, .pu), (3, .tk), (4, .pu), (5, .tk), (6, .tk), (7, .pu), (8, .pu), (9, .pu), (10, .pu), (11, .pu)]) mixed ⟨by kernel_rfl, fun _ d _ _ _ h => by cases d <;> exact h⟩ hS.drew fun hD => ?_
  replace hS := hS.drew; generalize w.drew = w at hS ⊢
  refine d_pu hD hF rfl rfl rfl rfl rfl (pu_move (hF.ev rfl)) ?_; clear hF; intro a hF
  refine d_pu hD hF rfl rfl rfl rfl rfl ((by exact pu_nil (hF.ev rfl))) ?_; clear hF; intro a hF
  refine d_pu hD hF rfl rfl rfl rfl rfl ((by exact pu_field fd91_6 (hF.ev rfl))) ?_; clear hF; intro a hF
  refine d_rd hD hF rfl rfl rfl rfl rfl hS (fun w hS => (by exact rd_load pl88 (hF.ev rfl) (hS.cellL (i := 2) rfl rfl))) ?_; clear hF; intro a hF
  refine d_pu hD hF rfl rfl rfl rfl rfl ((by exact pu_field fd35_0 (hF.ev rfl))) ?_; clear hF; intro a hF
  refine d_rd hD hF rfl rfl rfl rfl rfl hS (fun w hS => (by exact rd_loadB (i := 1) (vs := [_, _, _, _, _]) ag30 (hF.ev rfl) hS rfl rfl)) ?_; clear hF; intro a hF
  first
    | (refine d_rd hD hF rfl rfl rfl rfl rfl hS (fun w hS => rd_look_s (x := p.key) 4 keys30 Try.underlying88 ze3 (hF.ev rfl) (hF.ev rfl) hS rfl hk) ?_; clear hF; intro a hF)
    | (refine d_rd hD hF rfl rfl rfl rfl rfl hS (fun w hS => rd_look_n (x := p.key) 4 keys30 Try.underlying88 ze3 (hF.ev rfl) (hF.ev rfl) hS rfl hk) ?_; clear hF; intro a hF)
  refine d_pu hD hF rfl rfl rfl rfl rfl (pu_move (hF.ev rfl)) ?_; clear hF; intro a hF
  refine d_pu hD hF rfl rfl rfl rfl rfl (pu_extract (hF.ev rfl) rfl) ?_; clear hF; intro a hF
  refine d_pu hD hF rfl rfl rfl rfl rfl (pu_extract (hF.ev rfl) rfl) ?_; clear hF; intro a hF
  refine d_pu hD hF rfl rfl rfl rfl rfl (pu_assign (hF.ev rfl)) ?_; clear hF; intro a hF
  refine d_pu hD hF rfl rfl rfl rfl rfl (pu_assign (hF.ev rfl)) ?_; clear hF; intro a hF
  refine d_done hD rfl ?_; clear hD
  refine hK2 _ _ ?_; clear hK2
  refine wp_seq_k fun K3 hK3 => ?_
  refine d_start (S := (fun w => Sat w0 w _)) (ds := []) (ord := [(0, .pu), (1, .pu), (2, .pu), (3, .tk), (4, .tk), (5, .tk), (6, .pu), (7, .pu), (8, .pu), (9, .pu), (10, .pu)]) mixed ⟨by kernel_rfl, fun _ d _ _ _ h => by cases d <;> exact h⟩ hS.drew fun hD => ?_
  replace hS := hS.drew; generalize w.drew = w at hS ⊢
  refine d_pu hD hF rfl rfl rfl rfl rfl (pu_move (hF.ev rfl)) ?_; clear hF; intro a hF
  refine d_pu hD hF rfl rfl rfl rfl rfl ((by exact pu_nil (hF.ev rfl))) ?_; clear hF; intro a hF
  refine d_pu hD hF rfl rfl rfl rfl rfl ((by exact pu_field fd91_7 (hF.ev rfl))) ?_; clear hF; intro a hF
  refine d_rd hD hF rfl rfl rfl rfl rfl hS (fun w hS => (by exact rd_load pl89 (hF.ev rfl) (hS.cellL (i := 2) rfl rfl))) ?_; clear hF; intro a hF
  refine d_rd hD hF rfl rfl rfl rfl rfl hS (fun w hS => (by exact rd_loadB (i := 0) (vs := [_, _]) ag93 (hF.ev rfl) hS rfl rfl)) ?_; clear hF; intro a hF
  first
    | (refine d_rd hD hF rfl rfl rfl rfl rfl hS (fun w hS => rd_look_s (x := p.way) 5 keys93 Try.underlying89 ze3 (hF.ev rfl) (hF.ev rfl) hS rfl hm) ?_; clear hF; intro a hF)
    | (refine d_rd hD hF rfl rfl rfl rfl rfl hS (fun w hS => rd_look_n (x := p.way) 5 keys93 Try.underlying89 ze3 (hF.ev rfl) (hF.ev rfl) hS rfl hm) ?_; clear hF; intro a hF)
  refine d_pu hD hF rfl rfl rfl rfl rfl (pu_move (hF.ev rfl)) ?_; clear hF; intro a hF
  refine d_pu hD hF rfl rfl rfl rfl rfl (pu_extract (hF.ev rfl) rfl) ?_; clear hF; intro a hF
  refine d_pu hD hF rfl rfl rfl rfl rfl (pu_extract (hF.ev rfl) rfl) ?_; clear hF; intro a hF
  refine d_pu hD hF rfl rfl rfl rfl rfl (pu_assign (hF.ev rfl)) ?_; clear hF; intro a hF
  refine d_pu hD hF rfl rfl rfl rfl rfl (pu_assign (hF.ev rfl)) ?_; clear hF; intro a hF
  refine d_done hD rfl ?_; clear hD
  refine hK3 _ _ ?_; clear hK3
  refine wp_seq_k fun K4 hK4 => ?_
  refine wp_seq_k fun K5 hK5 => ?_
  refine wp_region_lit ?_
  refine s_pu hF rfl rfl rfl (pu_move (hF.ev rfl)) ?_; clear hF; intro a hF
  refine s_pu hF rfl rfl rfl (pu_move (hF.ev rfl)) ?_; clear hF; intro a hF
  refine s_pu hF rfl rfl rfl (pu_move (hF.ev rfl)) ?_; clear hF; intro a hF
  refine s_pu hF rfl rfl rfl ((by exact pu_pick_f (hF.ev rfl) (hF.ev rfl))) ?_; clear hF; intro a hF
  refine s_done ?_
  refine hK5 _ _ ?_; clear hK5
  refine wp_cond_false (hF.ev rfl) ?_
  refine wp_skip ?_
  refine hK4 _ _ ?_; clear hK4
  refine wp_seq_k fun K6 hK6 => ?_
  refine wp_seq_k fun K7 hK7 => ?_
  refine d_start (S := (fun w => Sat w0 w _)) (ds := []) (ord := [(0, .pu), (1, .pu), (2, .pu), (3, .tk), (4, .pu), (5, .pu), (6, .pu), (7, .pu), (8, .tk), (9, .pu)]) mixed ⟨by kernel_rfl, fun _ d _ _ _ h => by cases d <;> exact h⟩ hS.drew fun hD => ?_
  replace hS := hS.drew; generalize w.drew = w at hS ⊢
  refine d_pu hD hF rfl rfl rfl rfl rfl (pu_move (hF.ev rfl)) ?_; clear hF; intro a hF
  refine d_pu hD hF rfl rfl rfl rfl rfl ((by exact pu_nil (hF.ev rfl))) ?_; clear hF; intro a hF
  refine d_pu hD hF rfl rfl rfl rfl rfl ((by exact pu_field fd91_8 (hF.ev rfl))) ?_; clear hF; intro a hF
  refine d_rd hD hF rfl rfl rfl rfl rfl hS (fun w hS => (by exact rd_load pl22 (hF.ev rfl) (hS.cellL (i := 2) rfl rfl))) ?_; clear hF; intro a hF
  refine d_pu hD hF rfl rfl rfl rfl rfl (pu_len sl22 (hF.ev rfl)) ?_; clear hF; intro a hF
  refine d_pu hD hF rfl rfl rfl rfl rfl (pu_move (hF.ev rfl)) ?_; clear hF; intro a hF
  refine d_pu hD hF rfl rfl rfl rfl rfl ((by exact pu_nil (hF.ev rfl))) ?_; clear hF; intro a hF
  refine d_pu hD hF rfl rfl rfl rfl rfl ((by exact pu_field fd91_1 (hF.ev rfl))) ?_; clear hF; intro a hF
  refine d_rd hD hF rfl rfl rfl rfl rfl hS (fun w hS => (by exact rd_load pl3 (hF.ev rfl) (hS.cellL (i := 2) rfl rfl))) ?_; clear hF; intro a hF
  refine d_pu hD hF rfl rfl rfl rfl rfl (pu_geq (hF.ev rfl) (hF.ev rfl)) ?_; clear hF; intro a hF
  refine d_done hD rfl ?_; clear hD
  refine hK7 _ _ ?_; clear hK7
  refine wp_cond_split (hF.ev rfl) (fun hc1 => ?_) (fun hc1 => ?_)
  · -- cond 1 true
    try simp only [decide_eq_true_eq, decide_eq_false_iff_not, Bool.not_eq_true', Bool.not_eq_false', Int.not_lt, Int.not_le, ne_eq, Decidable.not_not, Bool.or_eq_true, Bool.or_eq_false_iff, Bool.and_eq_true, Bool.and_eq_false_imp] at hc1
    refine wp_seq_k fun K8 hK8 => ?_
    refine wp_region_lit ?_
    refine s_pu hF rfl rfl rfl (pu_assign (hF.ev rfl)) ?_; clear hF; intro a hF
    refine s_done ?_
    refine hK8 _ _ ?_; clear hK8
    refine wp_ret ?_
    refine then_ret ?_
    refine fin1 Try.results9 hF rfl ?_
    exact ⟨rfl, tab_bs.2 ⟨bs, tab_shut hb hS.tail.tail⟩⟩
  · -- cond 1 false
    try simp only [decide_eq_true_eq, decide_eq_false_iff_not, Bool.not_eq_true', Bool.not_eq_false', Int.not_lt, Int.not_le, ne_eq, Decidable.not_not, Bool.or_eq_true, Bool.or_eq_false_iff, Bool.and_eq_true, Bool.and_eq_false_imp] at hc1
    omega
theorem add_twice (hS : Sat w0 w (tabC k g T :: F)) (h : (mGet (keysL T.L) p.key).isSome = true ∨ (mGet (waysL T.L) p.way).isSome = true) :
    Calls Try.prog 9 #[.pointer (some ⟨g, 0, none⟩), p.value (.slice A1 n1 d1, .slice A2 n2 d2)] w fun e w' => e = .returned (.int .i64 191) ∧ Sat w0 w' (tabC k g T :: F) := by
  rcases hk : mGet (keysL T.L) p.key with _ | v1 <;> rcases hm : mGet (waysL T.L) p.way with _ | v2
  · rw [hk, hm] at h; simp at h
  · exact add_tw3 (v1 := 0) hS hk hm
  · exact add_tw1 (v2 := 0) hS hk hm
  · exact add_tw2 hS hk hm
end
end Go.Proofs.Ytbfdebddoncfhaa
