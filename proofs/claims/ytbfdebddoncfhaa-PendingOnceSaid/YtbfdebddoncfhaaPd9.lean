import Derived.Test.YtbfdebddoncfhaaPd8
/-! Pending: lists of requests; All. -/
namespace Go.Proofs.Ytbfdebddoncfhaa
open Go Go.RowKit Go.Proofs.Ytbfdebddoncfhaa.Sk
set_option linter.unusedVariables false
set_option linter.unusedSimpArgs false
set_option maxRecDepth 100000

def pndCells : List Pnd → List (Value × Value) → List Value
  | a :: l, p :: hs => a.cells p ++ pndCells l hs
  | _, _ => []
theorem pndCells_len : ∀ {l : List Pnd} {hs : List (Value × Value)}, hs.length = l.length → (pndCells l hs).length = l.length * 12
  | [], [], _ => rfl
  | a :: l, p :: hs, h => by
    have := pndCells_len (l := l) (hs := hs) (by simpa using h)
    simp only [pndCells, Pnd.cells, List.length_append, List.length_cons, List.length_nil, this]
    omega
  | [], _ :: _, h => by simp at h
  | _ :: _, [], h => by simp at h
theorem pndCells_at : ∀ {l : List Pnd} {hs : List (Value × Value)} {i : Nat} {a : Pnd} {p : Value × Value}, l[i]? = some a → hs[i]? = some p → ∀ j v, (a.cells p)[j]? = some v → (pndCells l hs)[i * 12 + j]? = some v
  | [], _, _, _, _, h1, _, _, _, _ => by simp at h1
  | _ :: _, [], _, _, _, _, h2, _, _, _ => by simp at h2
  | a :: l, p :: hs, 0, _, _, h1, h2, j, v, hj => by
    simp at h1 h2
    subst h1; subst h2
    rw [Nat.zero_mul, Nat.zero_add]
    unfold pndCells
    rw [List.getElem?_append_left (List.getElem?_eq_some_iff.1 hj).1]
    exact hj
  | a :: l, p :: hs, i + 1, _, _, h1, h2, j, v, hj => by
    simp only [List.getElem?_cons_succ] at h1 h2
    have := pndCells_at h1 h2 j v hj
    have e : (i + 1) * 12 + j = (i * 12 + j) + 12 := by omega
    unfold pndCells
    rw [e, List.getElem?_append_right (by simp [Pnd.cells])]
    simpa [Pnd.cells] using this
theorem pndCells_snoc : ∀ {l : List Pnd} {hs : List (Value × Value)} (a : Pnd) (p : Value × Value), hs.length = l.length → pndCells (l ++ [a]) (hs ++ [p]) = pndCells l hs ++ a.cells p
  | [], [], _, _, _ => by simp [pndCells]
  | b :: l, q :: hs, a, p, h => by
    have := pndCells_snoc (l := l) (hs := hs) a p (by simpa using h)
    simp only [List.cons_append, pndCells, this, List.append_assoc]
  | [], _ :: _, _, _, h => by simp at h
  | _ :: _, [], _, _, h => by simp at h
def messC (k : Nat) (hs : List (Value × Value)) (l : List Pnd) : List Chunk := List.zipWith (mesC k) hs l
theorem messC_snoc {k : Nat} {l : List Pnd} {hs : List (Value × Value)} {a : Pnd} {p : Value × Value} (h : hs.length = l.length) : messC k (hs ++ [p]) (l ++ [a]) = messC k hs l ++ [mesC k p a] := by
  unfold messC
  rw [List.zipWith_append h]
  rfl
theorem mem_mes {k i : Nat} {l : List Pnd} {hs : List (Value × Value)} {a : Pnd} {p : Value × Value} (ha : l[i]? = some a) (hp : hs[i]? = some p) : mesC k p a ∈ messC k hs l := by
  refine List.mem_of_getElem? (i := i) ?_
  unfold messC
  rw [List.getElem?_zipWith, hp, ha]
/-- A list of advices in memory of its own. -/
def listC (k : Nat) (v : Value) (l : List Pnd) : Chunk := exC fun hs => pureC (hs.length = l.length) (star (rowC 35 12 v l.length (pndCells l hs) :: messC k hs l))
theorem list_open {k : Nat} {v : Value} {l : List Pnd} {w0 w : World} {F : List Chunk} : Sat w0 w (listC k v l :: F) ↔ ∃ hs : List (Value × Value), hs.length = l.length ∧ Sat w0 w (rowC 35 12 v l.length (pndCells l hs) :: (messC k hs l ++ F)) := by
  unfold listC
  simp only [sat_ex, sat_pure, sat_star, List.cons_append]
theorem nth_mess {k : Nat} {F : List Chunk} : ∀ {l : List Pnd} {hs : List (Value × Value)} {i : Nat} {a : Pnd} {p : Value × Value}, l[i]? = some a → hs[i]? = some p → nth (messC k hs l ++ F) i = some (mesC k p a)
  | [], _, _, _, _, h, _ => by simp at h
  | _ :: _, [], _, _, _, _, h => by simp at h
  | a :: l, p :: hs, 0, _, _, h1, h2 => by simp at h1 h2; subst h1; subst h2; rfl
  | a :: l, p :: hs, i + 1, _, _, h1, h2 => by
    simp only [List.getElem?_cons_succ] at h1 h2
    exact nth_mess (l := l) (hs := hs) h1 h2
theorem copied_at (k i : Nat) {w0 w : World} {C : List Chunk} {ad : Pnd} {p : Value × Value} (hS : Sat w0 w C) (hi : nth C i = some (mesC k p ad)) :
    Calls Try.prog 32 #[ad.value p] w fun e w' => ∃ p' : Value × Value, e = .returned (ad.value p') ∧ (∃ A n c A' n' c', p' = (.slice A n c, .slice A' n' c')) ∧ Sat w0 w' (mesC k p' ad :: C) := by
  have hS' := hS.front i hi
  unfold mesC at hS'
  rw [sat_star] at hS'
  obtain ⟨f1, hf1, hS', hg1⟩ := hS'.exact
  obtain ⟨f2, hf2, hS', hg2⟩ := (hS'.front 1 rfl).exact
  have hS' : Sat w0 w (exactC f2 :: exactC f1 :: del C i) := hS'
  have hR1 : RdN w (fun b => f1 b ≠ none ∨ f2 b ≠ none) k p.1 ad.f1 := (nodes_rd hf1 hg1).mono (fun _ h => .inl h)
  have hR2 : RdN w (fun b => f1 b ≠ none ∨ f2 b ≠ none) k p.2 ad.f2 := (nodes_rd hf2 hg2).mono (fun _ h => .inr h)
  have hK : Keeps w0 (exactC f2 :: exactC f1 :: del C i) w (fun b => f1 b ≠ none ∨ f2 b ≠ none) := by
    intro w' h b hb
    rcases hb with hb | hb
    · exact keeps_exact (i := 1) hg1 rfl w' h b hb
    · exact keeps_exact (i := 0) hg2 rfl w' h b hb
  refine (copied_c (p := ad) (h := p) k hR1 hR2 hK hS').mono ?_
  rintro e w' ⟨p', rfl, hp, h⟩
  refine ⟨p', rfl, hp, ?_⟩
  have h1 := (h.front 1 rfl).unexact hf2
  have h2 := (h1.front 2 rfl).unexact hf1
  have h3 : Sat w0 w' (nodesC 133 k 104 p.1 ad.f1 :: nodesC 133 k 104 p.2 ad.f2 :: mesC k p' ad :: del C i) := h2
  have h4 : Sat w0 w' (mesC k p ad :: mesC k p' ad :: del C i) := sat_star.2 h3
  exact h4.perm ((List.Perm.swap _ _ _).trans ((nth_perm C i _ hi).symm.cons _))

def waitsE (L : List Ety) : List Ety := L.filter fun e => !e.late
theorem waitsE_n {L : List Ety} : waitsL L = (waitsE L).map Ety.n := rfl
theorem waitsE_split {L : List Ety} {i : Nat} {e : Ety} (h : (waitsE L)[i]? = some e) : e.late = false ∧ ∃ A B, L = A ++ e :: B := by
  have hm := List.mem_of_getElem? h
  unfold waitsE at hm
  obtain ⟨h1, h2⟩ := List.mem_filter.1 hm
  exact ⟨by simpa using h2, List.append_of_mem h1⟩
theorem waitsP_len {L : List Ety} : ((waitsE L).map Ety.p).length = (waitsL L).length := by rw [waitsE_n]; simp
theorem mes_in {w0 w : World} {C : List Chunk} {k : Nat} {h1 h2 : Value} {p : Pnd} (h : Sat w0 w (nodesC 133 k 104 h1 p.f1 :: nodesC 133 k 104 h2 p.f2 :: C)) : Sat w0 w (mesC k (h1, h2) p :: C) := by
  unfold mesC
  exact sat_star.2 h
theorem mes_out {w0 w : World} {C : List Chunk} {k : Nat} {h1 h2 : Value} {p : Pnd} (h : Sat w0 w (mesC k (h1, h2) p :: C)) : Sat w0 w (nodesC 133 k 104 h1 p.f1 :: nodesC 133 k 104 h2 p.f2 :: C) := by
  unfold mesC at h
  exact sat_star.1 h
theorem perm3 (c : Chunk) (X Y M F : List Chunk) : (c :: (X ++ (Y ++ (M ++ F)))).Perm (X ++ (Y ++ (M ++ c :: F))) :=
  (List.perm_middle (l₁ := X)).symm.trans (((List.perm_middle (l₁ := Y)).symm.trans ((List.perm_middle (l₁ := M)).symm.append_left Y)).append_left X)
theorem tall_c {w0 w : World} {F : List Chunk} {k g : Nat} {T : Tab} (hS : Sat w0 w (tabC k g T :: F)) (hroom : (T.L.length + 1) * 168 ≤ 140737488355328) :
    Calls Try.prog 14 #[.pointer (some ⟨g, 0, none⟩)] w fun e w' => ∃ A c, e = .returned (.slice A (waitsL T.L).length c) ∧ Sat w0 w' (listC k (.slice A (waitsL T.L).length c) ((waitsE T.L).map Ety.p) :: tabC k g T :: F) := by
  obtain ⟨bs, hS⟩ := tab_bs.1 hS
  have hwl := waits_le (L := T.L)
  obtain ⟨ps, hps⟩ : ∃ ps, ps = (waitsE T.L).map Ety.p := ⟨_, rfl⟩
  rw [← hps]
  have hpl : ps.length = (waitsL T.L).length := by rw [hps, waitsP_len]
  obtain ⟨wg, km, kk, kw, o, d, o', d', hb, hS⟩ := tab_open hS
  have hn1 := (map_open (hS.front 1 rfl)).1
  unfold tabO at hS
  simp only [List.cons_append, List.nil_append] at hS
  refine enter Try.func14 rfl Try.ntmps14 (Nat.le_of_ble_eq_true rfl) fun a hF => ?_
  refine wp_seq_k fun K0 hK0 => ?_
  refine wp_region_lit ?_
  refine s_pu hF rfl rfl rfl (pu_assign (hF.ev rfl)) ?_; clear hF; intro a hF
  refine s_done ?_
  refine hK0 _ _ ?_; clear hK0
  refine wp_seq_k fun K1 hK1 => ?_
  refine wp_region_lit ?_
  refine s_pu hF rfl rfl rfl (pu_assign (hF.ev rfl)) ?_; clear hF; intro a hF
  refine s_done ?_
  refine hK1 _ _ ?_; clear hK1
  refine wp_seq_k fun K2 hK2 => ?_
  refine wp_seq_k fun K3 hK3 => ?_
  refine wp_region_lit ?_
  refine s_pu hF rfl rfl rfl (pu_move (hF.ev rfl)) ?_; clear hF; intro a hF
  refine s_pu hF rfl rfl rfl ((by exact pu_nil (hF.ev rfl))) ?_; clear hF; intro a hF
  refine s_pu hF rfl rfl rfl ((by exact pu_field fd91_8 (hF.ev rfl))) ?_; clear hF; intro a hF
  refine s_rd hF rfl rfl rfl (by exact rd_load pl22 (hF.ev rfl) (hS.cellL (i := 0) rfl rfl)) ?_; clear hF; intro a hF
  refine s_pu hF rfl rfl rfl (pu_len sl22 (hF.ev rfl)) ?_; clear hF; intro a hF
  refine s_pu hF rfl rfl rfl (pu_move (hF.ev rfl)) ?_; clear hF; intro a hF
  refine s_done ?_
  refine hK3 _ _ ?_; clear hK3
  refine wp_block ?_
  replace hS := row_nil (E := 35) (sz := 12) hS
  refine wp_ind (fun j a w => ∃ (i : Nat) (q : Option Addr) (c : Nat) (hs : List (Value × Value)), j = (waitsL T.L).length - i ∧ i ≤ (waitsL T.L).length ∧ hs.length = i ∧
    Fr a 30 [(0, .pointer (some ⟨g, 0, none⟩)), (3, .slice q i c), (9, .slice o (waitsL T.L).length d), (10, .int .i64 (waitsL T.L).length), (11, .int .i64 i)] ∧
    Sat w0 w (rowC 35 12 (.slice q i c) i (pndCells (ps.take i) hs) :: (tabO g T bs wg km kk kw (.slice o (waitsL T.L).length d) (.slice o' (latesL T.L).length d') ++ (entsC k bs T.L ++ (messC k hs (ps.take i) ++ F))))) (waitsL T.L).length
    ⟨0, none, 0, [], by omega, by omega, rfl, hF.sub ⟨rfl, rfl, rfl, rfl, rfl, trivial⟩, hS⟩ ?_
  clear hS hF
  rintro j a w ⟨i, q, c, hs, rfl, hi, hl, hF, hS⟩
  refine wp_seq_k fun K4 hK4 => ?_
  refine wp_region_lit ?_
  refine s_pu hF rfl rfl rfl (pu_lss (hF.ev rfl) (hF.ev rfl)) ?_; clear hF; intro a hF
  refine s_done ?_
  refine hK4 _ _ ?_; clear hK4
  refine wp_seq_k fun K5 hK5 => ?_
  refine wp_cond_split (hF.ev rfl) (fun hc0 => ?_) (fun hc0 => ?_)
  · -- cond 0 true
    try simp only [decide_eq_true_eq, decide_eq_false_iff_not, Bool.not_eq_true', Bool.not_eq_false', Int.not_lt, Int.not_le, ne_eq, Decidable.not_not, Bool.or_eq_true, Bool.or_eq_false_iff, Bool.and_eq_true, Bool.and_eq_false_imp] at hc0
    have hil : i < (waitsL T.L).length := by omega
    obtain ⟨e, he⟩ : ∃ e, (waitsE T.L)[i]? = some e := ⟨(waitsE T.L)[i]'(by rw [waitsE_n] at hil; simpa using hil), List.getElem?_eq_getElem _⟩
    obtain ⟨hel, A, B, hL⟩ := waitsE_split he
    have hpi : ps[i]? = some e.p := by rw [hps, List.getElem?_map, he]; rfl
    obtain ⟨bA, b, bB, rfl, hl2⟩ := bs_split (bs := bs) (A := A) (B := B) (e := e) (by rw [hb, hL])
    have hget : mGet (allL T.L (bA ++ b :: bB)) e.n = some b := by
      rw [hL] at hn1 ⊢
      exact (all_drop hl2 hn1).2
    have hni : (waitsL T.L).getD i 0 = e.n := by rw [waitsE_n, List.getD_eq_getElem?_getD, List.getElem?_map, he]; rfl
    obtain ⟨x1, x2, hS⟩ := (ents_take (X := rowC 35 12 (.slice q i c) i (pndCells (ps.take i) hs) :: tabO g T (bA ++ b :: bB) wg km kk kw (.slice o (waitsL T.L).length d) (.slice o' (latesL T.L).length d')) hl2).1 (by rw [← hL]; exact hS)
    obtain ⟨B1, d1, rfl⟩ := nodes_val (hS.front 1 rfl)
    obtain ⟨B2, d2, rfl⟩ := nodes_val (hS.front 2 rfl)
    replace hS := mes_in (p := e.p) (hS.sel [1, 1])
    replace hS := hS.sel [2]
    unfold tabO at hS
    simp only [List.cons_append, List.nil_append, selR, nth, del, Ety.obj] at hS
    obtain ⟨gw, rfl⟩ := row_some (i := 7) hS rfl (by omega)
    have hv := row_at (i := 7) hS rfl (ints_at hil)
    rw [hni] at hv
    refine wp_skip ?_
    refine hK5 _ _ ?_; clear hK5
    refine wp_seq_k fun K6 hK6 => ?_
    refine wp_block ?_
    refine wp_seq_k fun K7 hK7 => ?_
    refine wp_region_lit ?_
    refine s_pu hF rfl rfl rfl ((by exact pu_elem sl22 (hF.ev rfl) (hF.ev rfl) (by omega) (by omega))) ?_; clear hF; intro a hF
    refine s_rd hF rfl rfl rfl (by exact rd_load pl3 (hF.ev rfl) (by assumption)) ?_; clear hF; intro a hF
    refine s_pu hF rfl rfl rfl (pu_assign (hF.ev rfl)) ?_; clear hF; intro a hF
    refine s_done ?_
    refine hK7 _ _ ?_; clear hK7
    refine wp_region_lit ?_
    refine s_pu hF rfl rfl rfl (pu_move (hF.ev rfl)) ?_; clear hF; intro a hF
    refine s_pu hF rfl rfl rfl (pu_move (hF.ev rfl)) ?_; clear hF; intro a hF
    refine s_pu hF rfl rfl rfl ((by exact pu_nil (hF.ev rfl))) ?_; clear hF; intro a hF
    refine s_pu hF rfl rfl rfl ((by exact pu_field fd91_5 (hF.ev rfl))) ?_; clear hF; intro a hF
    refine s_rd hF rfl rfl rfl (by exact rd_load pl87 (hF.ev rfl) (hS.cellL (i := 3) rfl rfl)) ?_; clear hF; intro a hF
    refine s_pu hF rfl rfl rfl (pu_move (hF.ev rfl)) ?_; clear hF; intro a hF
    refine s_rd hF rfl rfl rfl (rd_look1_s 4 (int_keys Try.underlying3) Try.underlying87 (by kernel_rfl : zeroO Try.prog 97 = some (.pointer none)) (hF.ev rfl) (hF.ev rfl) hS rfl hget) ?_; clear hF; intro a hF
    refine s_pu hF rfl rfl rfl ((by exact pu_nil (hF.ev rfl))) ?_; clear hF; intro a hF
    refine s_pu hF rfl rfl rfl ((by exact pu_field fd100_0 (hF.ev rfl))) ?_; clear hF; intro a hF
    refine s_rd hF rfl rfl rfl (by exact rd_loadB (i := 2) (vs := [_, _, _, _, _, _, _, _, _, _, _, _]) ag35 (hF.ev rfl) hS rfl rfl) ?_; clear hF; intro a hF
    refine s_en hF rfl rfl rfl (run_fn fk32 (hF.ev rfl) (hF.evs rfl)) (copied_at k 1 (p := (.slice B1 e.p.f1.length d1, .slice B2 e.p.f2.length d2)) hS rfl) ?_
    clear hS; rintro e w ⟨p', rfl, ⟨D1, m1, q1, D2, m2, q2, rfl⟩, hS⟩
    unfold Pnd.value
    refine ⟨_, rfl, ?_⟩; clear hF; intro a hF
    refine s_news hF rfl rfl rfl (ef_lit1 (cs := [_, _, _, _, _, _, _, _, _, _, _, _]) sl41 ze35 rfl (hF.ev rfl) (by rfl) rfl (by omega) (by omega)) hS ?_; clear hF hS; intro b26 w hS a hF
    (((refine s_append 2 0 hF rfl rfl sl41 el35 (hF.ev rfl) (hF.ev rfl) hS rfl rfl rfl (by rfl) (by unfold maxLen; omega) (by omega) ?_))); (clear hS hF; intro A27 q27 w hS a hF; (try simp only [upd, del] at hS))
    refine s_pu hF rfl rfl rfl (pu_assign (hF.ev rfl)) ?_; clear hF; intro a hF
    refine s_done ?_
    refine blk_normal ?_
    refine hK6 _ _ ?_; clear hK6
    refine wp_region_lit ?_
    refine s_pu hF rfl rfl rfl ((by exact pu_add64 (hF.ev rfl) (hF.ev rfl) (by omega))) ?_; clear hF; intro a hF
    refine s_pu hF rfl rfl rfl (pu_move (hF.ev rfl)) ?_; clear hF; intro a hF
    refine s_done ?_
    have e1 : ps.take (i + 1) = ps.take i ++ [e.p] := by rw [List.take_add_one, hpi]; rfl
    have hlt : hs.length = (ps.take i).length := by rw [List.length_take]; omega
    refine ⟨_, by omega, i + 1, A27, q27, hs ++ [(.slice D1 m1 q1, .slice D2 m2 q2)], rfl, by omega, by simp [hl], hF.sub ⟨rfl, rfl, rfl, rfl, rfl, trivial⟩, ?_⟩
    rw [e1, pndCells_snoc _ _ hlt, messC_snoc hlt, List.append_assoc]
    have hb' : bB.length = B.length := by rw [hL] at hb; simp at hb; omega
    have h1 := mes_out ((hS.drop 1).front 2 rfl)
    have h2 := h1.sel [4]
    have h3 := (ents_take (X := rowC 35 12 (.slice A27 (i + 1) q27) (i + 1) (pndCells (ps.take i) hs ++ e.p.cells (.slice D1 m1 q1, .slice D2 m2 q2)) :: mesC k (.slice D1 m1 q1, .slice D2 m2 q2) e.p :: tabO g T (bA ++ b :: bB) wg km kk kw (.slice (some ⟨gw, 0, none⟩) (waitsL T.L).length d) (.slice o' (latesL T.L).length d')) (b := b) (e := e) (bB := bB) (B := B) hl2).2 ⟨_, _, h2⟩
    rw [← hL] at h3
    exact h3.perm ((perm3 _ _ _ _ _).cons _)
  · -- cond 0 false
    try simp only [decide_eq_true_eq, decide_eq_false_iff_not, Bool.not_eq_true', Bool.not_eq_false', Int.not_lt, Int.not_le, ne_eq, Decidable.not_not, Bool.or_eq_true, Bool.or_eq_false_iff, Bool.and_eq_true, Bool.and_eq_false_imp] at hc0
    refine wp_exit ?_
    refine then_exit ?_
    refine then_exit ?_
    refine blk_exit ?_
    refine hK2 _ _ ?_; clear hK2
    refine wp_seq_k fun K6 hK6 => ?_
    refine wp_region_lit ?_
    refine s_pu hF rfl rfl rfl (pu_move (hF.ev rfl)) ?_; clear hF; intro a hF
    refine s_pu hF rfl rfl rfl (pu_assign (hF.ev rfl)) ?_; clear hF; intro a hF
    refine s_done ?_
    refine hK6 _ _ ?_; clear hK6
    refine wp_ret ?_
    refine fin1 Try.results14 hF rfl ?_
    have hil : i = (waitsL T.L).length := by omega
    subst hil
    have h1 := tab_cX (X := [_]) (tab_shutX (X := [_]) (wg := wg) (km := km) (kk := kk) (kw := kw) (hw := .slice o (waitsL T.L).length d) (hl := .slice o' (latesL T.L).length d') hb hS)
    rw [← hpl, List.take_length] at h1
    rw [← hpl]
    refine ⟨_, _, rfl, list_open.2 ⟨hs, by rw [hl, hpl], ?_⟩⟩
    exact h1.perm ((List.perm_middle (l₁ := messC k hs ps)).symm.cons _)
end Go.Proofs.Ytbfdebddoncfhaa
