import Derived.Test.YtbfdebddoncfhaaPd4
/-! Pending: drop. -/
namespace Go.Proofs.Ytbfdebddoncfhaa
open Go Go.RowKit Go.Proofs.Ytbfdebddoncfhaa.Sk
set_option linter.unusedVariables false
set_option linter.unusedSimpArgs false
set_option maxRecDepth 100000

theorem rd_look1_s {K V : Type} [DecidableEq K] {P : Program} {a : Act} {w0 w : World} {C : List Chunk} {dst : Option Tmp} {ty : TypeId} {pos : String} {af : Array Edge} {gd : Option (Nat × Bool)} {kt et : TypeId} {κ : K → Value} {ν : V → Value} {b : Nat} {m : List (K × V)} {x : K} {X Y : Operand} {t : TypeId}
    {z : Value} {v : V} (i : Nat) (hK : Keys P kt κ) (ht : P.underlying t = some (.map kt et)) (hz : zeroO P et = some z) (hX : a.eval X = .map (some b)) (hY : a.eval Y = κ x) (hS : Sat w0 w C) (hi : nth C i = some (mapC κ ν b m)) (hm : mGet m x = some v) :
    Rd P a.eval w ⟨dst, .lookup t X Y false, ty, pos, af, gd⟩ (ν v) := by
  have := rd_look1 (dst := dst) (ty := ty) (pos := pos) (af := af) (gd := gd) i hK ht hz hX hY hS hi
  rw [hm] at this
  exact this
section pure
variable {A B : List Ety} {e : Ety}
theorem n_out (hn : ((A ++ e :: B).map Ety.n).Nodup) : (∀ x ∈ A, x.n ≠ e.n) ∧ ∀ x ∈ B, x.n ≠ e.n := by
  rw [List.map_append, List.nodup_append] at hn
  obtain ⟨_, h2, h3⟩ := hn
  rw [List.map_cons, List.nodup_cons] at h2
  exact ⟨fun x hx => h3 x.n (List.mem_map_of_mem hx) e.n (by simp), fun x hx h => h2.1 (h ▸ List.mem_map_of_mem hx)⟩
theorem waits_split : waitsL (A ++ e :: B) = waitsL A ++ (if e.late = true then [] else [e.n]) ++ waitsL B := by
  unfold waitsL
  rw [List.filter_append, List.filter_cons]
  cases e.late <;> simp
theorem lates_split : latesL (A ++ e :: B) = latesL A ++ (if e.late = true then [e.n] else []) ++ latesL B := by
  unfold latesL
  rw [List.filter_append, List.filter_cons]
  cases e.late <;> simp
theorem waits_app : waitsL (A ++ B) = waitsL A ++ waitsL B := by unfold waitsL; rw [List.filter_append, List.map_append]
theorem lates_app : latesL (A ++ B) = latesL A ++ latesL B := by unfold latesL; rw [List.filter_append, List.map_append]
theorem mem_waits {L : List Ety} {n : Int} (h : n ∈ waitsL L) : ∃ x ∈ L, x.n = n := by
  obtain ⟨x, hx, rfl⟩ := List.mem_map.1 h
  exact ⟨x, (List.mem_filter.1 hx).1, rfl⟩
theorem mem_lates {L : List Ety} {n : Int} (h : n ∈ latesL L) : ∃ x ∈ L, x.n = n := by
  obtain ⟨x, hx, rfl⟩ := List.mem_map.1 h
  exact ⟨x, (List.mem_filter.1 hx).1, rfl⟩
theorem lack_app {n : Int} {l m : List Int} : lack n (l ++ m) = lack n l ++ lack n m := by unfold lack; rw [List.filter_append]
theorem lack_one {n : Int} : lack n [n] = [] := by unfold lack; simp
theorem waits_drop (hn : ((A ++ e :: B).map Ety.n).Nodup) (h : e.late = false) : lack e.n (waitsL (A ++ e :: B)) = waitsL (A ++ B) := by
  obtain ⟨h1, h2⟩ := n_out hn
  rw [waits_split, h, if_neg (by decide), waits_app, lack_app, lack_app, lack_one, List.append_nil, lack_all, lack_all]
  · intro z hz; obtain ⟨x, hx, rfl⟩ := mem_waits hz; exact h2 x hx
  · intro z hz; obtain ⟨x, hx, rfl⟩ := mem_waits hz; exact h1 x hx
theorem waits_keep (h : e.late = true) : waitsL (A ++ e :: B) = waitsL (A ++ B) := by rw [waits_split, h, if_pos rfl, List.append_nil, waits_app]
theorem lates_drop (hn : ((A ++ e :: B).map Ety.n).Nodup) (h : e.late = true) : lack e.n (latesL (A ++ e :: B)) = latesL (A ++ B) := by
  obtain ⟨h1, h2⟩ := n_out hn
  rw [lates_split, h, if_pos rfl, lates_app, lack_app, lack_app, lack_one, List.append_nil, lack_all, lack_all]
  · intro z hz; obtain ⟨x, hx, rfl⟩ := mem_lates hz; exact h2 x hx
  · intro z hz; obtain ⟨x, hx, rfl⟩ := mem_lates hz; exact h1 x hx
theorem lates_keep (h : e.late = false) : latesL (A ++ e :: B) = latesL (A ++ B) := by rw [lates_split, h, if_neg (by decide), List.append_nil, lates_app]
theorem keys_keep (h : e.late = true) : keysL (A ++ e :: B) = keysL (A ++ B) := by unfold keysL; rw [List.filter_append, List.filter_cons, h, List.filter_append]; rfl
theorem keys_split (h : e.late = false) : keysL (A ++ e :: B) = keysL A ++ (e.p.key, e.n) :: keysL B := by unfold keysL; rw [List.filter_append, List.filter_cons, h, List.map_append]; rfl
theorem keys_app : keysL (A ++ B) = keysL A ++ keysL B := by unfold keysL; rw [List.filter_append, List.map_append]
theorem keys_drop (hn : ((keysL (A ++ e :: B)).map (·.1)).Nodup) (h : e.late = false) : mDel (keysL (A ++ e :: B)) e.p.key = keysL (A ++ B) := by
  rw [keys_split h] at hn ⊢
  rw [del_split hn, keys_app]
theorem ways_split : waysL (A ++ e :: B) = waysL A ++ (e.way, e.n) :: waysL B := by unfold waysL; rw [List.map_append]; rfl
theorem ways_drop (hn : ((waysL (A ++ e :: B)).map (·.1)).Nodup) : mDel (waysL (A ++ e :: B)) e.way = waysL (A ++ B) := by
  rw [ways_split] at hn ⊢
  rw [del_split hn]
  unfold waysL
  rw [List.map_append]
theorem all_drop {bA bB : List Nat} {b : Nat} (hl : bA.length = A.length) (hn : ((allL (A ++ e :: B) (bA ++ b :: bB)).map (·.1)).Nodup) : mDel (allL (A ++ e :: B) (bA ++ b :: bB)) e.n = allL (A ++ B) (bA ++ bB) ∧ mGet (allL (A ++ e :: B) (bA ++ b :: bB)) e.n = some b := by
  obtain ⟨e1, e2⟩ := all_split (B := B) (bB := bB) (b := b) (e := e) hl
  rw [e1] at hn ⊢
  rw [del_split hn, get_split hn, e2]
  exact ⟨rfl, rfl⟩
theorem waits_le {L : List Ety} : (waitsL L).length ≤ L.length := by unfold waitsL; rw [List.length_map]; exact List.length_filter_le _ _
theorem lates_le {L : List Ety} : (latesL L).length ≤ L.length := by unfold latesL; rw [List.length_map]; exact List.length_filter_le _ _
end pure
/-- The table, with one entry laid open ahead of it. -/
theorem tab_entry {w0 w : World} {F : List Chunk} {k g : Nat} {T : Tab} {A B : List Ety} {bA bB : List Nat} {b : Nat} {e : Ety} (hL : T.L = A ++ e :: B) (hl : bA.length = A.length) (hS : Sat w0 w (tabB k g T (bA ++ b :: bB) :: F)) :
    ∃ wg km kk kw o d o' d' B1 n1 d1 B2 n2 d2, bB.length = B.length ∧ ((allL T.L (bA ++ b :: bB)).map (·.1)).Nodup ∧ ((keysL T.L).map (·.1)).Nodup ∧ ((waysL T.L).map (·.1)).Nodup ∧
      Sat w0 w (.obj b (e.obj (.slice B1 n1 d1, .slice B2 n2 d2)) :: nodesC 133 k 104 (.slice B1 n1 d1) e.p.f1 :: nodesC 133 k 104 (.slice B2 n2 d2) e.p.f2 :: (tabO g T (bA ++ b :: bB) wg km kk kw (.slice o (waitsL T.L).length d) (.slice o' (latesL T.L).length d') ++ (entsC k (bA ++ bB) (A ++ B) ++ F))) := by
  obtain ⟨wg, km, kk, kw, o, d, o', d', hb, hS⟩ := tab_open hS
  have h1 := (map_open (hS.front 1 rfl)).1
  have h2 := (map_open (hS.front 2 rfl)).1
  have h3 := (map_open (hS.front 3 rfl)).1
  have hb' : bB.length = B.length := by rw [hL] at hb; simp at hb; omega
  have hS' : Sat w0 w (tabO g T (bA ++ b :: bB) wg km kk kw (.slice o (waitsL T.L).length d) (.slice o' (latesL T.L).length d') ++ (entsC k (bA ++ b :: bB) (A ++ e :: B) ++ F)) := by rw [← hL]; exact hS
  obtain ⟨x1, x2, hS'⟩ := (ents_take hl).1 hS'
  obtain ⟨B1, d1, rfl⟩ := nodes_val (hS'.front 1 rfl)
  obtain ⟨B2, d2, rfl⟩ := nodes_val (hS'.front 2 rfl)
  exact ⟨wg, km, kk, kw, o, d, o', d', B1, _, d1, B2, _, d2, hb', h1, h2, h3, hS'⟩
theorem tab_entry_back {w0 w : World} {F : List Chunk} {k g : Nat} {T : Tab} {A B : List Ety} {bA bB : List Nat} {b : Nat} {e : Ety} {wg km kk kw : Nat} {hw hl' h1 h2 : Value} (hL : T.L = A ++ e :: B) (hl : bA.length = A.length) (hb : bB.length = B.length)
    (hS : Sat w0 w (.obj b (e.obj (h1, h2)) :: nodesC 133 k 104 h1 e.p.f1 :: nodesC 133 k 104 h2 e.p.f2 :: (tabO g T (bA ++ b :: bB) wg km kk kw hw hl' ++ (entsC k (bA ++ bB) (A ++ B) ++ F)))) : Sat w0 w (tabB k g T (bA ++ b :: bB) :: F) := by
  refine tab_shut (wg := wg) (km := km) (kk := kk) (kw := kw) (hw := hw) (hl := hl') (by rw [hL]; simp [hl, hb]) ?_
  have := (ents_take (X := tabO g T (bA ++ b :: bB) wg km kk kw hw hl') (B := B) (bB := bB) hl).2 ⟨h1, h2, hS⟩
  rw [hL]
  exact this
theorem tab_shutX {w0 w : World} {F X : List Chunk} {k g : Nat} {T : Tab} {bs : List Nat} {wg km kk kw : Nat} {hw hl : Value} (hb : bs.length = T.L.length) (hS : Sat w0 w (X ++ (tabO g T bs wg km kk kw hw hl ++ (entsC k bs T.L ++ F)))) : Sat w0 w (X ++ tabB k g T bs :: F) := by
  refine Sat.perm (C := tabB k g T bs :: (X ++ F)) (tab_shut (wg := wg) (km := km) (kk := kk) (kw := kw) (hw := hw) (hl := hl) hb (hS.perm ?_)) List.perm_middle.symm
  refine (List.perm_append_comm_assoc _ _ _).trans ?_
  exact (List.perm_append_comm_assoc _ _ _).append_left _
theorem tab_openX {w0 w : World} {F X : List Chunk} {k g : Nat} {T : Tab} {bs : List Nat} (hS : Sat w0 w (X ++ tabB k g T bs :: F)) : ∃ wg km kk kw o d o' d', bs.length = T.L.length ∧ Sat w0 w (tabO g T bs wg km kk kw (.slice o (waitsL T.L).length d) (.slice o' (latesL T.L).length d') ++ (entsC k bs T.L ++ (X ++ F))) :=
  tab_open (hS.perm List.perm_middle)

theorem drop_c {w0 w : World} {F : List Chunk} {k g : Nat} {T : Tab} {A B : List Ety} {bA bB : List Nat} {b : Nat} {e : Ety} (hL : T.L = A ++ e :: B) (hl : bA.length = A.length) (hS : Sat w0 w (tabB k g T (bA ++ b :: bB) :: F)) (hroom : T.L.length ≤ 140737488355328) :
    Calls Try.prog 34 #[.pointer (some ⟨g, 0, none⟩), .int .i64 e.n] w fun en w' => ∃ B1 n1 d1 B2 n2 d2, en = .returned (e.p.value (.slice B1 n1 d1, .slice B2 n2 d2)) ∧
      Sat w0 w' (.obj b (e.obj (.slice B1 n1 d1, .slice B2 n2 d2)) :: nodesC 133 k 104 (.slice B1 n1 d1) e.p.f1 :: nodesC 133 k 104 (.slice B2 n2 d2) e.p.f2 :: tabB k g { T with L := A ++ B } (bA ++ bB) :: F) := by
  obtain ⟨wg, km, kk, kw, o, d, o', d', B1, n1, d1, B2, n2, d2, hb, hn1, hn2, hn3, hS⟩ := tab_entry hL hl hS
  obtain ⟨most, timeout, remember, next, L, P, now, last⟩ := T
  simp only at hL hS hn1 hn2 hn3 hroom ⊢
  subst hL
  obtain ⟨hall, hget⟩ := all_drop hl hn1
  rw [all_keys (by simp [hl, hb])] at hn1
  have hwl := waits_le (L := A ++ e :: B)
  have hll := lates_le (L := A ++ e :: B)
  unfold tabO at hS
  simp only [List.cons_append, List.nil_append, Ety.obj] at hS
  refine enter Try.func34 rfl Try.ntmps34 (Nat.le_of_ble_eq_true rfl) fun a hF => ?_
  refine wp_seq_k fun K0 hK0 => ?_
  refine wp_region_lit ?_
  refine s_newp hF rfl rfl rfl (ef_alloc (cs := #[_, _, _, _, _, _, _, _, _, _, _, _]) ze35 rfl) hS ?_; clear hF hS; intro b4 w hS a hF
  refine s_done ?_
  refine hK0 _ _ ?_; clear hK0
  refine wp_seq_k fun K1 hK1 => ?_
  refine wp_region_lit ?_
  refine s_pu hF rfl rfl rfl (pu_move (hF.ev rfl)) ?_; clear hF; intro a hF
  refine s_pu hF rfl rfl rfl ((by exact pu_nil (hF.ev rfl))) ?_; clear hF; intro a hF
  refine s_pu hF rfl rfl rfl ((by exact pu_field fd91_5 (hF.ev rfl))) ?_; clear hF; intro a hF
  refine s_rd hF rfl rfl rfl (by exact rd_load pl87 (hF.ev rfl) (hS.cellL (i := 4) rfl rfl)) ?_; clear hF; intro a hF
  refine s_pu hF rfl rfl rfl (pu_move (hF.ev rfl)) ?_; clear hF; intro a hF
  refine s_rd hF rfl rfl rfl (rd_look1_s 5 (int_keys Try.underlying3) Try.underlying87 (by kernel_rfl : zeroO Try.prog 97 = some (.pointer none)) (hF.ev rfl) (hF.ev rfl) hS rfl hget) ?_; clear hF; intro a hF
  refine s_pu hF rfl rfl rfl (pu_assign (hF.ev rfl)) ?_; clear hF; intro a hF
  refine s_done ?_
  refine hK1 _ _ ?_; clear hK1
  refine wp_seq_k fun K2 hK2 => ?_
  refine wp_region_lit ?_
  refine s_pu hF rfl rfl rfl (pu_move (hF.ev rfl)) ?_; clear hF; intro a hF
  refine s_pu hF rfl rfl rfl ((by exact pu_nil (hF.ev rfl))) ?_; clear hF; intro a hF
  refine s_pu hF rfl rfl rfl ((by exact pu_field fd91_5 (hF.ev rfl))) ?_; clear hF; intro a hF
  refine s_rd hF rfl rfl rfl (by exact rd_load pl87 (hF.ev rfl) (hS.cellL (i := 4) rfl rfl)) ?_; clear hF; intro a hF
  refine s_pu hF rfl rfl rfl (pu_move (hF.ev rfl)) ?_; clear hF; intro a hF
  refine s_del 5 hF rfl (int_keys Try.underlying3) Try.underlying87 (hF.ev rfl) (hF.ev rfl) hS rfl ?_
  clear hS; intro w hS; (try simp only [upd, del] at hS)
  rw [hall] at hS
  refine s_done ?_
  refine hK2 _ _ ?_; clear hK2
  refine wp_seq_k fun K3 hK3 => ?_
  refine d_start (S := (fun w => Sat w0 w _)) (ds := [15]) (ord := [(0, .pu), (1, .pu), (2, .pu), (3, .tk), (4, .pu), (5, .pu), (6, .pu), (7, .pu), (8, .tk), (9, .pu), (10, .pu), (11, .pu), (12, .pu), (13, .tk), (14, .pu), (15, .ls)]) mixed ⟨by kernel_rfl, fun _ d _ _ _ h => by cases d <;> exact h⟩ hS.drew fun hD => ?_
  replace hS := hS.drew; generalize w.drew = w at hS ⊢
  refine d_pu hD hF rfl rfl rfl rfl rfl (pu_move (hF.ev rfl)) ?_; clear hF; intro a hF
  refine d_pu hD hF rfl rfl rfl rfl rfl ((by exact pu_nil (hF.ev rfl))) ?_; clear hF; intro a hF
  refine d_pu hD hF rfl rfl rfl rfl rfl ((by exact pu_field fd91_7 (hF.ev rfl))) ?_; clear hF; intro a hF
  refine d_rd hD hF rfl rfl rfl rfl rfl hS (fun w hS => (by exact rd_load pl89 (hF.ev rfl) (hS.cellL (i := 4) rfl rfl))) ?_; clear hF; intro a hF
  refine d_pu hD hF rfl rfl rfl rfl rfl (pu_move (hF.ev rfl)) ?_; clear hF; intro a hF
  refine d_pu hD hF rfl rfl rfl rfl rfl ((by exact pu_nil (hF.ev rfl))) ?_; clear hF; intro a hF
  refine d_pu hD hF rfl rfl rfl rfl rfl ((by exact pu_field fd100_0 (hF.ev rfl))) ?_; clear hF; intro a hF
  refine d_pu hD hF rfl rfl rfl rfl rfl ((by exact pu_field fd35_2 (hF.ev rfl))) ?_; clear hF; intro a hF
  refine d_rd hD hF rfl rfl rfl rfl rfl hS (fun w hS => (by exact rd_load pl3 (hF.ev rfl) (hS.cellL (i := 1) rfl rfl))) ?_; clear hF; intro a hF
  refine d_pu hD hF rfl rfl rfl rfl rfl (pu_move (hF.ev rfl)) ?_; clear hF; intro a hF
  refine d_pu hD hF rfl rfl rfl rfl rfl ((by exact pu_nil (hF.ev rfl))) ?_; clear hF; intro a hF
  refine d_pu hD hF rfl rfl rfl rfl rfl ((by exact pu_field fd100_0 (hF.ev rfl))) ?_; clear hF; intro a hF
  refine d_pu hD hF rfl rfl rfl rfl rfl ((by exact pu_field fd35_3 (hF.ev rfl))) ?_; clear hF; intro a hF
  refine d_rd hD hF rfl rfl rfl rfl rfl hS (fun w hS => (by exact rd_load pl3 (hF.ev rfl) (hS.cellL (i := 1) rfl rfl))) ?_; clear hF; intro a hF
  refine d_pu hD hF rfl rfl rfl rfl rfl ((pu_build st93 (hF.evp rfl) rfl rfl : Pu _ _ _ (.agg #[_, _]))) ?_; clear hF; intro a hF
  refine l_del (x := e.way) 7 hD hF rfl rfl rfl keys93 Try.underlying89 (hF.ev rfl) (hF.ev rfl) hS rfl ?_
  clear hS; intro w hS; (try simp only [upd, del] at hS)
  rw [ways_drop hn3] at hS
  refine d_done hD rfl ?_; clear hD
  refine hK3 _ _ ?_; clear hK3
  refine wp_seq_k fun K4 hK4 => ?_
  refine wp_seq_k fun K5 hK5 => ?_
  refine wp_region_lit ?_
  refine s_pu hF rfl rfl rfl (pu_move (hF.ev rfl)) ?_; clear hF; intro a hF
  refine s_pu hF rfl rfl rfl ((by exact pu_nil (hF.ev rfl))) ?_; clear hF; intro a hF
  refine s_pu hF rfl rfl rfl ((by exact pu_field fd100_2 (hF.ev rfl))) ?_; clear hF; intro a hF
  refine s_rd hF rfl rfl rfl (by exact rd_load pl4 (hF.ev rfl) (hS.cellL (i := 1) rfl rfl)) ?_; clear hF; intro a hF
  refine s_done ?_
  refine hK5 _ _ ?_; clear hK5
  refine wp_cond_split (hF.ev rfl) (fun hc0 => ?_) (fun hc0 => ?_)
  · -- cond 0 true
    refine wp_region_lit ?_
    refine s_pu hF rfl rfl rfl (pu_move (hF.ev rfl)) ?_; clear hF; intro a hF
    refine s_pu hF rfl rfl rfl (pu_move (hF.ev rfl)) ?_; clear hF; intro a hF
    refine s_pu hF rfl rfl rfl ((by exact pu_nil (hF.ev rfl))) ?_; clear hF; intro a hF
    refine s_pu hF rfl rfl rfl ((by exact pu_field fd91_9 (hF.ev rfl))) ?_; clear hF; intro a hF
    refine s_rd hF rfl rfl rfl (by exact rd_load pl22 (hF.ev rfl) (hS.cellL (i := 4) rfl rfl)) ?_; clear hF; intro a hF
    refine s_pu hF rfl rfl rfl (pu_move (hF.ev rfl)) ?_; clear hF; intro a hF
    refine s_en hF rfl rfl rfl (run_fn fk37 (hF.ev rfl) (hF.evs rfl)) (at_place 9 hS rfl (fun h => without_c h (by omega))) ?_
    clear hS; rintro e w ⟨A42, c42, rfl, hS⟩
    simp only [del] at hS
    refine ⟨_, rfl, ?_⟩; clear hF; intro a hF
    refine s_pu hF rfl rfl rfl ((by exact pu_nil (hF.ev rfl))) ?_; clear hF; intro a hF
    refine s_pu hF rfl rfl rfl ((by exact pu_field fd91_9 (hF.ev rfl))) ?_; clear hF; intro a hF
    ((refine s_store (vs := [_]) (cs' := #[_, _, _, _, _, _, _, _, _, _]) 5 hF rfl (hF.ev rfl) (hF.ev rfl) hS rfl rfl sz22 (by rfl) (by exact Nat.le_of_ble_eq_true rfl) rfl ?_))
    clear hS; intro w hS; (try simp only [upd, del] at hS)
    refine s_done ?_
    refine hK4 _ _ ?_; clear hK4
    refine wp_seq_k fun K6 hK6 => ?_
    refine wp_region_lit ?_
    refine s_pu hF rfl rfl rfl (pu_move (hF.ev rfl)) ?_; clear hF; intro a hF
    refine s_pu hF rfl rfl rfl ((by exact pu_nil (hF.ev rfl))) ?_; clear hF; intro a hF
    refine s_pu hF rfl rfl rfl ((by exact pu_field fd100_0 (hF.ev rfl))) ?_; clear hF; intro a hF
    refine s_rd hF rfl rfl rfl (by exact rd_loadB (i := 2) (vs := [_, _, _, _, _, _, _, _, _, _, _, _]) ag35 (hF.ev rfl) hS rfl rfl) ?_; clear hF; intro a hF
    ((refine s_store (vs := [_, _, _, _, _, _, _, _, _, _, _, _]) (cs' := #[_, _, _, _, _, _, _, _, _, _, _, _]) 1 hF rfl (hF.ev rfl) (hF.ev rfl) hS rfl rfl sz35 (by rfl) (by exact Nat.le_of_ble_eq_true rfl) rfl ?_))
    clear hS; intro w hS; (try simp only [upd, del] at hS)
    refine s_done ?_
    refine hK6 _ _ ?_; clear hK6
    refine wp_ret ?_
    refine finc1 Try.results34 hF rfl (by exact holds_block (i := 1) ag35 hS rfl rfl) ?_
    have hl2 : (bA ++ bB).length = (A ++ B).length := by simp [hl, hb]
    rw [lates_drop hn1 hc0] at hS
    rw [keys_keep hc0, waits_keep hc0] at hS
    refine ⟨_, _, _, _, _, _, rfl, tab_shutX (X := [_, _, _]) (T := ⟨most, timeout, remember, next, A ++ B, P, now, last⟩) (wg := wg) (km := km) (kk := kk) (kw := kw) (hw := .slice o (waitsL (A ++ B)).length d) (hl := .slice A42 (latesL (A ++ B)).length c42) hl2 ?_⟩
    exact (hS.drop 1).sel [1, 1, 1, 1, 1, 1, 1, 1]
  · -- cond 0 false
    refine wp_seq_k fun K6 hK6 => ?_
    refine d_start (S := (fun w => Sat w0 w _)) (ds := [9]) (ord := [(0, .pu), (1, .pu), (2, .pu), (3, .tk), (4, .pu), (5, .pu), (6, .pu), (7, .pu), (8, .tk), (9, .ls)]) mixed ⟨by kernel_rfl, fun _ d _ _ _ h => by cases d <;> exact h⟩ hS.drew fun hD => ?_
    replace hS := hS.drew; generalize w.drew = w at hS ⊢
    refine d_pu hD hF rfl rfl rfl rfl rfl (pu_move (hF.ev rfl)) ?_; clear hF; intro a hF
    refine d_pu hD hF rfl rfl rfl rfl rfl ((by exact pu_nil (hF.ev rfl))) ?_; clear hF; intro a hF
    refine d_pu hD hF rfl rfl rfl rfl rfl ((by exact pu_field fd91_6 (hF.ev rfl))) ?_; clear hF; intro a hF
    refine d_rd hD hF rfl rfl rfl rfl rfl hS (fun w hS => (by exact rd_load pl88 (hF.ev rfl) (hS.cellL (i := 4) rfl rfl))) ?_; clear hF; intro a hF
    refine d_pu hD hF rfl rfl rfl rfl rfl (pu_move (hF.ev rfl)) ?_; clear hF; intro a hF
    refine d_pu hD hF rfl rfl rfl rfl rfl ((by exact pu_nil (hF.ev rfl))) ?_; clear hF; intro a hF
    refine d_pu hD hF rfl rfl rfl rfl rfl ((by exact pu_field fd100_0 (hF.ev rfl))) ?_; clear hF; intro a hF
    refine d_pu hD hF rfl rfl rfl rfl rfl ((by exact pu_field fd35_0 (hF.ev rfl))) ?_; clear hF; intro a hF
    refine d_rd hD hF rfl rfl rfl rfl rfl hS (fun w hS => (by exact rd_loadB (i := 1) (vs := [_, _, _, _, _]) ag30 (hF.ev rfl) hS rfl rfl)) ?_; clear hF; intro a hF
    refine l_del (x := e.p.key) 6 hD hF rfl rfl rfl keys30 Try.underlying88 (hF.ev rfl) (hF.ev rfl) hS rfl ?_
    clear hS; intro w hS; (try simp only [upd, del] at hS)
    rw [keys_drop hn2 hc0] at hS
    refine d_done hD rfl ?_; clear hD
    refine hK6 _ _ ?_; clear hK6
    refine wp_region_lit ?_
    refine s_pu hF rfl rfl rfl (pu_move (hF.ev rfl)) ?_; clear hF; intro a hF
    refine s_pu hF rfl rfl rfl (pu_move (hF.ev rfl)) ?_; clear hF; intro a hF
    refine s_pu hF rfl rfl rfl ((by exact pu_nil (hF.ev rfl))) ?_; clear hF; intro a hF
    refine s_pu hF rfl rfl rfl ((by exact pu_field fd91_8 (hF.ev rfl))) ?_; clear hF; intro a hF
    refine s_rd hF rfl rfl rfl (by exact rd_load pl22 (hF.ev rfl) (hS.cellL (i := 4) rfl rfl)) ?_; clear hF; intro a hF
    refine s_pu hF rfl rfl rfl (pu_move (hF.ev rfl)) ?_; clear hF; intro a hF
    refine s_en hF rfl rfl rfl (run_fn fk37 (hF.ev rfl) (hF.evs rfl)) (at_place 8 hS rfl (fun h => without_c h (by omega))) ?_
    clear hS; rintro e w ⟨A60, c60, rfl, hS⟩
    simp only [del] at hS
    refine ⟨_, rfl, ?_⟩; clear hF; intro a hF
    refine s_pu hF rfl rfl rfl ((by exact pu_nil (hF.ev rfl))) ?_; clear hF; intro a hF
    refine s_pu hF rfl rfl rfl ((by exact pu_field fd91_8 (hF.ev rfl))) ?_; clear hF; intro a hF
    ((refine s_store (vs := [_]) (cs' := #[_, _, _, _, _, _, _, _, _, _]) 5 hF rfl (hF.ev rfl) (hF.ev rfl) hS rfl rfl sz22 (by rfl) (by exact Nat.le_of_ble_eq_true rfl) rfl ?_))
    clear hS; intro w hS; (try simp only [upd, del] at hS)
    refine s_done ?_
    refine hK4 _ _ ?_; clear hK4
    refine wp_seq_k fun K7 hK7 => ?_
    refine wp_region_lit ?_
    refine s_pu hF rfl rfl rfl (pu_move (hF.ev rfl)) ?_; clear hF; intro a hF
    refine s_pu hF rfl rfl rfl ((by exact pu_nil (hF.ev rfl))) ?_; clear hF; intro a hF
    refine s_pu hF rfl rfl rfl ((by exact pu_field fd100_0 (hF.ev rfl))) ?_; clear hF; intro a hF
    refine s_rd hF rfl rfl rfl (by exact rd_loadB (i := 2) (vs := [_, _, _, _, _, _, _, _, _, _, _, _]) ag35 (hF.ev rfl) hS rfl rfl) ?_; clear hF; intro a hF
    ((refine s_store (vs := [_, _, _, _, _, _, _, _, _, _, _, _]) (cs' := #[_, _, _, _, _, _, _, _, _, _, _, _]) 1 hF rfl (hF.ev rfl) (hF.ev rfl) hS rfl rfl sz35 (by rfl) (by exact Nat.le_of_ble_eq_true rfl) rfl ?_))
    clear hS; intro w hS; (try simp only [upd, del] at hS)
    refine s_done ?_
    refine hK7 _ _ ?_; clear hK7
    refine wp_ret ?_
    refine finc1 Try.results34 hF rfl (by exact holds_block (i := 1) ag35 hS rfl rfl) ?_
    have hl2 : (bA ++ bB).length = (A ++ B).length := by simp [hl, hb]
    rw [waits_drop hn1 hc0] at hS
    rw [lates_keep hc0] at hS
    refine ⟨_, _, _, _, _, _, rfl, tab_shutX (X := [_, _, _]) (T := ⟨most, timeout, remember, next, A ++ B, P, now, last⟩) (wg := wg) (km := km) (kk := kk) (kw := kw) (hw := .slice A60 (waitsL (A ++ B)).length c60) (hl := .slice o' (latesL (A ++ B)).length d') hl2 ?_⟩
    exact (hS.drop 1).sel [1, 1, 1, 1, 1, 1, 1]
end Go.Proofs.Ytbfdebddoncfhaa
