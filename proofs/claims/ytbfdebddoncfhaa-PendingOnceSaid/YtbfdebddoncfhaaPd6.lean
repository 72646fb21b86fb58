import Derived.Test.YtbfdebddoncfhaaPd5
/-! Pending: Answer. -/
namespace Go.Proofs.Ytbfdebddoncfhaa
open Go Go.RowKit Go.Proofs.Ytbfdebddoncfhaa.Sk
set_option linter.unusedVariables false
set_option linter.unusedSimpArgs false
set_option maxRecDepth 100000

theorem tab_cX {w0 w : World} {F X : List Chunk} {k g : Nat} {T : Tab} {bs : List Nat} (hS : Sat w0 w (X ++ tabB k g T bs :: F)) : Sat w0 w (X ++ tabC k g T :: F) :=
  Sat.perm (tab_bs.2 ⟨bs, hS.perm List.perm_middle⟩) List.perm_middle.symm
theorem tab_backX {w0 w : World} {F : List Chunk} {c : Chunk} {k g : Nat} {T : Tab} {A B : List Ety} {bA bB : List Nat} {b : Nat} {e : Ety} {wg km kk kw : Nat} {hw hl' h1 h2 : Value} (hL : T.L = A ++ e :: B) (hl : bA.length = A.length) (hb : bB.length = B.length)
    (hS : Sat w0 w (c :: .obj b (e.obj (h1, h2)) :: nodesC 133 k 104 h1 e.p.f1 :: nodesC 133 k 104 h2 e.p.f2 :: (tabO g T (bA ++ b :: bB) wg km kk kw hw hl' ++ (entsC k (bA ++ bB) (A ++ B) ++ F)))) : Sat w0 w (tabB k g T (bA ++ b :: bB) :: c :: F) := by
  refine tab_entry_back (F := c :: F) (wg := wg) (km := km) (kk := kk) (kw := kw) (hw := hw) (hl' := hl') (h1 := h1) (h2 := h2) hL hl hb (hS.perm ?_)
  have e1 : ∀ X Y : List Chunk, (c :: (X ++ (Y ++ F))).Perm (X ++ (Y ++ c :: F)) := fun X Y =>
    ((List.perm_middle (l₁ := X) (l₂ := Y ++ F)).symm).trans ((List.perm_middle (l₁ := Y) (l₂ := F)).symm.append_left X)
  exact e1 (_ :: _ :: _ :: tabO g T (bA ++ b :: bB) wg km kk kw hw hl') _
theorem way_get {A B : List Ety} {e : Ety} (hn : ((waysL (A ++ e :: B)).map (·.1)).Nodup) : mGet (waysL (A ++ e :: B)) e.way = some e.n := by
  rw [ways_split] at hn ⊢
  exact get_split hn
def pndZ : Value := .agg #[.int .i64 0, .int .i64 0, .string .empty, .string .empty, .string .empty, .int .i64 0, .int .i64 0, .int .i64 0, .string .empty, .slice none 0 0, .string .empty, .slice none 0 0]
theorem answer_no {w0 w : World} {F : List Chunk} {k g : Nat} {T : Tab} {to number : Int} (hS : Sat w0 w (tabC k g T :: F)) (hm : mGet (waysL T.L) (to, number) = none) :
    Calls Try.prog 12 #[.pointer (some ⟨g, 0, none⟩), .int .i64 to, .int .i64 number] w fun e w' => e = .returned (.tuple #[pndZ, .int .i64 192]) ∧ Sat w0 w' (tabC k g T :: F) := by
  obtain ⟨bs, hS⟩ := tab_bs.1 hS
  obtain ⟨wg, km, kk, kw, o, d, o', d', hb, hS⟩ := tab_open hS
  unfold tabO at hS
  simp only [List.cons_append, List.nil_append] at hS
  refine enter Try.func12 rfl Try.ntmps12 (Nat.le_of_ble_eq_true rfl) fun a hF => ?_
  refine wp_seq_k fun K0 hK0 => ?_
  refine wp_region_lit ?_
  refine s_newp hF rfl rfl rfl (ef_alloc (cs := #[_, _, _, _, _, _, _, _, _, _, _, _]) ze35 rfl) hS ?_; clear hF hS; intro b6 w hS a hF
  refine s_pu hF rfl rfl rfl (pu_assign (hF.ev rfl)) ?_; clear hF; intro a hF
  refine s_done ?_
  refine hK0 _ _ ?_; clear hK0
  refine wp_seq_k fun K1 hK1 => ?_
  refine wp_region_lit ?_
  refine s_pu hF rfl rfl rfl (pu_move (hF.ev rfl)) ?_; clear hF; intro a hF
  refine s_pu hF rfl rfl rfl ((by exact pu_nil (hF.ev rfl))) ?_; clear hF; intro a hF
  refine s_pu hF rfl rfl rfl ((by exact pu_field fd91_7 (hF.ev rfl))) ?_; clear hF; intro a hF
  refine s_rd hF rfl rfl rfl (by exact rd_load pl89 (hF.ev rfl) (hS.cellL (i := 1) rfl rfl)) ?_; clear hF; intro a hF
  refine s_pu hF rfl rfl rfl (pu_move (hF.ev rfl)) ?_; clear hF; intro a hF
  refine s_pu hF rfl rfl rfl (pu_move (hF.ev rfl)) ?_; clear hF; intro a hF
  refine s_pu hF rfl rfl rfl ((pu_build st93 (hF.evp rfl) rfl rfl : Pu _ _ _ (.agg #[_, _]))) ?_; clear hF; intro a hF
  refine s_rd hF rfl rfl rfl (rd_look_n (x := (to, number)) 4 keys93 Try.underlying89 ze3 (hF.ev rfl) (hF.ev rfl) hS rfl hm) ?_; clear hF; intro a hF
  refine s_pu hF rfl rfl rfl (pu_move (hF.ev rfl)) ?_; clear hF; intro a hF
  refine s_pu hF rfl rfl rfl (pu_extract (hF.ev rfl) rfl) ?_; clear hF; intro a hF
  refine s_pu hF rfl rfl rfl (pu_extract (hF.ev rfl) rfl) ?_; clear hF; intro a hF
  refine s_pu hF rfl rfl rfl (pu_assign (hF.ev rfl)) ?_; clear hF; intro a hF
  refine s_pu hF rfl rfl rfl (pu_assign (hF.ev rfl)) ?_; clear hF; intro a hF
  refine s_done ?_
  refine hK1 _ _ ?_; clear hK1
  refine wp_seq_k fun K2 hK2 => ?_
  refine wp_seq_k fun K3 hK3 => ?_
  refine wp_region_lit ?_
  refine s_pu hF rfl rfl rfl (pu_move (hF.ev rfl)) ?_; clear hF; intro a hF
  refine s_pu hF rfl rfl rfl (pu_not (hF.ev rfl)) ?_; clear hF; intro a hF
  refine s_done ?_
  refine hK3 _ _ ?_; clear hK3
  refine wp_cond_true (hF.ev rfl) ?_
  refine wp_seq_k fun K4 hK4 => ?_
  refine wp_region_lit ?_
  refine s_pu hF rfl rfl rfl ((pu_build st35 (hF.evp rfl) rfl rfl : Pu _ _ _ (.agg #[_, _, _, _, _, _, _, _, _, _, _, _]))) ?_; clear hF; intro a hF
  ((refine s_store (vs := [_, _, _, _, _, _, _, _, _, _, _, _]) (cs' := #[_, _, _, _, _, _, _, _, _, _, _, _]) 0 hF rfl (hF.ev rfl) (hF.ev rfl) hS rfl rfl sz35 (by rfl) (by exact Nat.le_of_ble_eq_true rfl) rfl ?_))
  clear hS; intro w hS; (try simp only [upd, del] at hS)
  refine s_pu hF rfl rfl rfl (pu_assign (hF.ev rfl)) ?_; clear hF; intro a hF
  refine s_done ?_
  refine hK4 _ _ ?_; clear hK4
  refine wp_ret ?_
  refine then_ret ?_
  refine finc2 Try.results12 hF rfl rfl (by exact holds_block (i := 0) ag35 hS rfl rfl) ?_
  exact ⟨rfl, tab_bs.2 ⟨bs, tab_shut hb hS.tail⟩⟩
theorem answer_c {w0 w : World} {F : List Chunk} {k g : Nat} {T : Tab} {to number : Int} {A B : List Ety} {e : Ety} {en : Ent} (hL : T.L = A ++ e :: B) (hw : e.way = (to, number)) (hen : en ∈ T.P) (ht : en.timer = e.timer) (h0 : 0 ≤ en.at_) (hR : Rising T.P T.last)
    (hS : Sat w0 w (tabC k g T :: F)) (hroom : T.L.length ≤ 140737488355328) (hroomP : (T.P.length + 1) * 24 ≤ 140737488355328) :
    Calls Try.prog 12 #[.pointer (some ⟨g, 0, none⟩), .int .i64 to, .int .i64 number] w fun r w' => ∃ B1 n1 d1 B2 n2 d2, r = .returned (.tuple #[e.p.value (.slice B1 n1 d1, .slice B2 n2 d2), .int .i64 (if e.late = true then 193 else 0)]) ∧
      Sat w0 w' (mesC k (.slice B1 n1 d1, .slice B2 n2 d2) e.p :: tabC k g { T with L := A ++ B, P := T.P.filter fun x => !decide (x.timer = e.timer) } :: F) := by
  obtain ⟨bs, hS⟩ := tab_bs.1 hS
  obtain ⟨bA, b, bB, rfl, hl⟩ := bs_split (bs := bs) (A := A) (B := B) (e := e) (by
    obtain ⟨_, _, _, _, _, _, _, _, h, _⟩ := tab_open hS
    rw [h, hL])
  obtain ⟨wg, km, kk, kw, o, d, o', d', B1, n1, d1, B2, n2, d2, hb, hn1, hn2, hn3, hS⟩ := tab_entry hL hl hS
  obtain ⟨most, timeout, remember, next, L, P, now, last⟩ := T
  simp only at hL hS hn1 hn2 hn3 hroom hroomP hen hR ⊢
  subst hL
  obtain ⟨hall, hget⟩ := all_drop hl hn1
  have hwm := way_get hn3
  rw [hw] at hwm
  unfold tabO at hS
  simp only [List.cons_append, List.nil_append, Ety.obj] at hS
  refine enter Try.func12 rfl Try.ntmps12 (Nat.le_of_ble_eq_true rfl) fun a hF => ?_
  refine wp_seq_k fun K0 hK0 => ?_
  refine wp_region_lit ?_
  refine s_newp hF rfl rfl rfl (ef_alloc (cs := #[_, _, _, _, _, _, _, _, _, _, _, _]) ze35 rfl) hS ?_; clear hF hS; intro b6 w hS a hF
  refine s_pu hF rfl rfl rfl (pu_assign (hF.ev rfl)) ?_; clear hF; intro a hF
  refine s_done ?_
  refine hK0 _ _ ?_; clear hK0
  refine wp_seq_k fun K1 hK1 => ?_
  refine wp_region_lit ?_
  refine s_pu hF rfl rfl rfl (pu_move (hF.ev rfl)) ?_; clear hF; intro a hF
  refine s_pu hF rfl rfl rfl ((by exact pu_nil (hF.ev rfl))) ?_; clear hF; intro a hF
  refine s_pu hF rfl rfl rfl ((by exact pu_field fd91_7 (hF.ev rfl))) ?_; clear hF; intro a hF
  refine s_rd hF rfl rfl rfl (by exact rd_load pl89 (hF.ev rfl) (hS.cellL (i := 4) rfl rfl)) ?_; clear hF; intro a hF
  refine s_pu hF rfl rfl rfl (pu_move (hF.ev rfl)) ?_; clear hF; intro a hF
  refine s_pu hF rfl rfl rfl (pu_move (hF.ev rfl)) ?_; clear hF; intro a hF
  refine s_pu hF rfl rfl rfl ((pu_build st93 (hF.evp rfl) rfl rfl : Pu _ _ _ (.agg #[_, _]))) ?_; clear hF; intro a hF
  refine s_rd hF rfl rfl rfl (rd_look_s (x := (to, number)) 7 keys93 Try.underlying89 ze3 (hF.ev rfl) (hF.ev rfl) hS rfl hwm) ?_; clear hF; intro a hF
  refine s_pu hF rfl rfl rfl (pu_move (hF.ev rfl)) ?_; clear hF; intro a hF
  refine s_pu hF rfl rfl rfl (pu_extract (hF.ev rfl) rfl) ?_; clear hF; intro a hF
  refine s_pu hF rfl rfl rfl (pu_extract (hF.ev rfl) rfl) ?_; clear hF; intro a hF
  refine s_pu hF rfl rfl rfl (pu_assign (hF.ev rfl)) ?_; clear hF; intro a hF
  refine s_pu hF rfl rfl rfl (pu_assign (hF.ev rfl)) ?_; clear hF; intro a hF
  refine s_done ?_
  refine hK1 _ _ ?_; clear hK1
  refine wp_seq_k fun K2 hK2 => ?_
  refine wp_seq_k fun K3 hK3 => ?_
  refine wp_region_lit ?_
  refine s_pu hF rfl rfl rfl (pu_move (hF.ev rfl)) ?_; clear hF; intro a hF
  refine s_pu hF rfl rfl rfl (pu_not (hF.ev rfl)) ?_; clear hF; intro a hF
  refine s_done ?_
  refine hK3 _ _ ?_; clear hK3
  refine wp_cond_false (hF.ev rfl) ?_
  refine wp_skip ?_
  refine hK2 _ _ ?_; clear hK2
  refine wp_seq_k fun K4 hK4 => ?_
  refine wp_region_lit ?_
  refine s_pu hF rfl rfl rfl (pu_move (hF.ev rfl)) ?_; clear hF; intro a hF
  refine s_pu hF rfl rfl rfl ((by exact pu_nil (hF.ev rfl))) ?_; clear hF; intro a hF
  refine s_pu hF rfl rfl rfl ((by exact pu_field fd91_5 (hF.ev rfl))) ?_; clear hF; intro a hF
  refine s_rd hF rfl rfl rfl (by exact rd_load pl87 (hF.ev rfl) (hS.cellL (i := 4) rfl rfl)) ?_; clear hF; intro a hF
  refine s_pu hF rfl rfl rfl (pu_move (hF.ev rfl)) ?_; clear hF; intro a hF
  refine s_rd hF rfl rfl rfl (rd_look1_s 5 (int_keys Try.underlying3) Try.underlying87 (by kernel_rfl : zeroO Try.prog 97 = some (.pointer none)) (hF.ev rfl) (hF.ev rfl) hS rfl hget) ?_; clear hF; intro a hF
  refine s_pu hF rfl rfl rfl (pu_assign (hF.ev rfl)) ?_; clear hF; intro a hF
  refine s_done ?_
  refine hK4 _ _ ?_; clear hK4
  refine wp_seq_k fun K5 hK5 => ?_
  refine wp_seq_k fun K6 hK6 => ?_
  refine d_start (S := (fun w => Sat w0 w _)) (ds := [8]) (ord := [(0, .pu), (1, .pu), (2, .pu), (3, .tk), (4, .pu), (5, .pu), (6, .pu), (7, .tk), (8, .ls), (9, .pu), (10, .pu), (11, .pu), (12, .pu), (13, .pu)]) mixed ⟨by kernel_rfl, fun _ d _ _ _ h => by cases d <;> exact h⟩ hS.drew fun hD => ?_
  replace hS := hS.drew; generalize w.drew = w at hS ⊢
  refine d_pu hD hF rfl rfl rfl rfl rfl (pu_move (hF.ev rfl)) ?_; clear hF; intro a hF
  refine d_pu hD hF rfl rfl rfl rfl rfl ((by exact pu_nil (hF.ev rfl))) ?_; clear hF; intro a hF
  refine d_pu hD hF rfl rfl rfl rfl rfl ((by exact pu_field fd91_0 (hF.ev rfl))) ?_; clear hF; intro a hF
  refine d_rd hD hF rfl rfl rfl rfl rfl hS (fun w hS => (by exact rd_load pl84 (hF.ev rfl) (hS.cellL (i := 4) rfl rfl))) ?_; clear hF; intro a hF
  refine d_pu hD hF rfl rfl rfl rfl rfl (pu_move (hF.ev rfl)) ?_; clear hF; intro a hF
  refine d_pu hD hF rfl rfl rfl rfl rfl ((by exact pu_nil (hF.ev rfl))) ?_; clear hF; intro a hF
  refine d_pu hD hF rfl rfl rfl rfl rfl ((by exact pu_field fd100_1 (hF.ev rfl))) ?_; clear hF; intro a hF
  refine d_rd hD hF rfl rfl rfl rfl rfl hS (fun w hS => (by exact rd_load pl3 (hF.ev rfl) (hS.cellL (i := 1) rfl rfl))) ?_; clear hF; intro a hF
  refine l_en hD hF rfl rfl rfl rfl rfl (run_fn fk33 (hF.ev rfl) (hF.evs rfl)) (at_place 10 hS rfl (fun h => wCancel_i h hR (by omega) hen ht h0 hroomP)) ?_
  clear hS; rintro e w ⟨rfl, hS⟩
  simp only [del] at hS
  refine ⟨_, rfl, ?_⟩; clear hF; intro a hF
  refine d_pu hD hF rfl rfl rfl rfl rfl (pu_move (hF.ev rfl)) ?_; clear hF; intro a hF
  refine d_pu hD hF rfl rfl rfl rfl rfl (pu_extract (hF.ev rfl) rfl) ?_; clear hF; intro a hF
  refine d_pu hD hF rfl rfl rfl rfl rfl (pu_extract (hF.ev rfl) rfl) ?_; clear hF; intro a hF
  refine d_pu hD hF rfl rfl rfl rfl rfl (pu_assign (hF.ev rfl)) ?_; clear hF; intro a hF
  refine d_pu hD hF rfl rfl rfl rfl rfl (pu_assign (hF.ev rfl)) ?_; clear hF; intro a hF
  refine d_done hD rfl ?_; clear hD
  refine hK6 _ _ ?_; clear hK6
  refine wp_seq_k fun K7 hK7 => ?_
  refine wp_region_lit ?_
  refine s_pu hF rfl rfl rfl (pu_move (hF.ev rfl)) ?_; clear hF; intro a hF
  refine s_pu hF rfl rfl rfl (pu_neq (hF.ev rfl) (hF.ev rfl)) ?_; clear hF; intro a hF
  refine s_done ?_
  refine hK7 _ _ ?_; clear hK7
  refine wp_cond_false (hF.ev rfl) ?_
  refine wp_skip ?_
  refine hK5 _ _ ?_; clear hK5
  refine wp_seq_k fun K8 hK8 => ?_
  refine wp_region_lit ?_
  replace hS := tab_backX (T := ⟨most, timeout, remember, next, A ++ e :: B, P.filter fun x => !decide (x.timer = e.timer), now, last⟩) rfl hl hb (hS.sel [1, 1, 1, 1, 1, 1, 1, 1, 1, 1])
  refine s_pu hF rfl rfl rfl (pu_move (hF.ev rfl)) ?_; clear hF; intro a hF
  refine s_pu hF rfl rfl rfl (pu_move (hF.ev rfl)) ?_; clear hF; intro a hF
  refine s_en hF rfl rfl rfl (run_fn fk34 (hF.ev rfl) (hF.evs rfl)) (drop_c rfl hl hS hroom) ?_
  clear hS; rintro e w ⟨_, _, _, _, _, _, rfl, hS⟩
  simp only [Ety.obj, Pnd.value] at hS ⊢
  refine ⟨_, rfl, ?_⟩; clear hF; intro a hF
  refine s_newp hF rfl rfl rfl (ef_alloc (cs := #[_, _, _, _, _, _, _, _, _, _, _, _]) ze35 rfl) hS ?_; clear hF hS; intro b13 w hS a hF
  ((refine s_store (vs := [_, _, _, _, _, _, _, _, _, _, _, _]) (cs' := #[_, _, _, _, _, _, _, _, _, _, _, _]) 0 hF rfl (hF.ev rfl) (hF.ev rfl) hS rfl rfl sz35 (by rfl) (by exact Nat.le_of_ble_eq_true rfl) rfl ?_))
  clear hS; intro w hS; (try simp only [upd, del] at hS)
  refine s_done ?_
  refine hK8 _ _ ?_; clear hK8
  refine wp_seq_k fun K9 hK9 => ?_
  refine wp_seq_k fun K10 hK10 => ?_
  refine wp_region_lit ?_
  refine s_pu hF rfl rfl rfl (pu_move (hF.ev rfl)) ?_; clear hF; intro a hF
  refine s_pu hF rfl rfl rfl ((by exact pu_nil (hF.ev rfl))) ?_; clear hF; intro a hF
  refine s_pu hF rfl rfl rfl ((by exact pu_field fd100_2 (hF.ev rfl))) ?_; clear hF; intro a hF
  refine s_rd hF rfl rfl rfl (by exact rd_load pl4 (hF.ev rfl) (hS.cellL (i := 1) rfl rfl)) ?_; clear hF; intro a hF
  refine s_done ?_
  refine hK10 _ _ ?_; clear hK10
  refine wp_cond_split (hF.ev rfl) (fun hc2 => ?_) (fun hc2 => ?_)
  · -- cond 2 true
    refine wp_seq_k fun K11 hK11 => ?_
    refine wp_region_lit ?_
    refine s_rd hF rfl rfl rfl (by exact rd_loadB (i := 0) (vs := [_, _, _, _, _, _, _, _, _, _, _, _]) ag35 (hF.ev rfl) hS rfl rfl) ?_; clear hF; intro a hF
    ((refine s_store (vs := [_, _, _, _, _, _, _, _, _, _, _, _]) (cs' := #[_, _, _, _, _, _, _, _, _, _, _, _]) 5 hF rfl (hF.ev rfl) (hF.ev rfl) hS rfl rfl sz35 (by rfl) (by exact Nat.le_of_ble_eq_true rfl) rfl ?_))
    clear hS; intro w hS; (try simp only [upd, del] at hS)
    refine s_pu hF rfl rfl rfl (pu_assign (hF.ev rfl)) ?_; clear hF; intro a hF
    refine s_done ?_
    refine hK11 _ _ ?_; clear hK11
    refine wp_ret ?_
    refine then_ret ?_
    refine finc2 Try.results12 hF rfl rfl (by exact holds_block (i := 5) ag35 hS rfl rfl) ?_
    rw [hc2, if_pos rfl]
    refine ⟨_, _, _, _, _, _, rfl, ?_⟩
    unfold mesC
    rw [sat_star]
    exact tab_cX (X := [_, _]) ((hS.drop 0).drop 0 |>.drop 3)
  · -- cond 2 false
    refine wp_skip ?_
    refine hK9 _ _ ?_; clear hK9
    refine wp_seq_k fun K11 hK11 => ?_
    refine wp_region_lit ?_
    refine s_rd hF rfl rfl rfl (by exact rd_loadB (i := 0) (vs := [_, _, _, _, _, _, _, _, _, _, _, _]) ag35 (hF.ev rfl) hS rfl rfl) ?_; clear hF; intro a hF
    ((refine s_store (vs := [_, _, _, _, _, _, _, _, _, _, _, _]) (cs' := #[_, _, _, _, _, _, _, _, _, _, _, _]) 5 hF rfl (hF.ev rfl) (hF.ev rfl) hS rfl rfl sz35 (by rfl) (by exact Nat.le_of_ble_eq_true rfl) rfl ?_))
    clear hS; intro w hS; (try simp only [upd, del] at hS)
    refine s_pu hF rfl rfl rfl (pu_assign (hF.ev rfl)) ?_; clear hF; intro a hF
    refine s_done ?_
    refine hK11 _ _ ?_; clear hK11
    refine wp_ret ?_
    refine finc2 Try.results12 hF rfl rfl (by exact holds_block (i := 5) ag35 hS rfl rfl) ?_
    rw [hc2, if_neg (by decide)]
    refine ⟨_, _, _, _, _, _, rfl, ?_⟩
    unfold mesC
    rw [sat_star]
    exact tab_cX (X := [_, _]) ((hS.drop 0).drop 0 |>.drop 3)
end Go.Proofs.Ytbfdebddoncfhaa
