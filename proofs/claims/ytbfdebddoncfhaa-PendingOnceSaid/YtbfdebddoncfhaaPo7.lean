import Derived.Test.YtbfdebddoncfhaaPo6
/-! PendingOnce: a tick. -/
namespace Go.Proofs.Ytbfdebddoncfhaa
open Go Go.RowKit Go.Proofs.Ytbfdebddoncfhaa.Sk
set_option linter.unusedVariables false
set_option linter.unusedSimpArgs false
set_option maxRecDepth 100000

theorem nth_app : ∀ (A B : List Chunk) (i : Nat), nth (A ++ B) (A.length + i) = nth B i
  | [], B, i => by simp
  | a :: A, B, i => by
    rw [List.length_cons, show A.length + 1 + i = (A.length + i) + 1 by omega]
    exact nth_app A B i
theorem end_perm (o r l g : Chunk) (M G Z : List Chunk) : (o :: r :: l :: g :: (M ++ (G ++ Z))).Perm ((l :: g :: (M ++ G)) ++ (o :: r :: Z)) := by
  have e : (l :: g :: (M ++ G)) ++ Z = l :: g :: (M ++ (G ++ Z)) := by simp
  have p1 := (List.perm_middle (a := o) (l₁ := l :: g :: (M ++ G)) (l₂ := r :: Z)).trans ((List.perm_middle (a := r) (l₁ := l :: g :: (M ++ G)) (l₂ := Z)).cons o)
  rw [e] at p1
  exact p1.symm
theorem tick_perm (g l t o r : Chunk) (X Y F : List Chunk) : (g :: (Y ++ ((l :: X) ++ (t :: o :: r :: F)))).Perm (o :: r :: l :: g :: (X ++ (Y ++ t :: F))) := by
  have p1 : (t :: o :: r :: F).Perm (o :: r :: t :: F) := (List.Perm.swap o t _).trans ((List.Perm.swap r t F).cons o)
  have p2 : (X ++ (t :: o :: r :: F)).Perm (o :: r :: (X ++ t :: F)) := (p1.append_left X).trans (List.perm_middle.trans (List.perm_middle.cons o))
  have p3 : (Y ++ (l :: (X ++ (t :: o :: r :: F)))).Perm (l :: o :: r :: (X ++ (Y ++ t :: F))) := by
    refine List.perm_middle.trans (List.Perm.cons l ?_)
    refine (p2.append_left Y).trans (List.perm_middle.trans (List.Perm.cons o (List.perm_middle.trans (List.Perm.cons r ?_))))
    exact List.perm_append_comm_assoc Y X _
  refine (p3.cons g).trans ?_
  have p4 : ([g, l] ++ ([o, r] ++ (X ++ (Y ++ t :: F)))).Perm ([o, r] ++ ([g, l] ++ (X ++ (Y ++ t :: F)))) := List.perm_append_comm_assoc _ _ _
  refine p4.trans ?_
  exact ((List.Perm.swap l g _).cons r).cons o
theorem drop_head {α : Type} {l D : List α} {x : α} {k : Nat} (h : l.drop k = x :: D) : l[k]? = some x ∧ l.take (k + 1) = l.take k ++ [x] ∧ l.drop (k + 1) = D ∧ k < l.length := by
  have hk : k < l.length := by
    rcases Nat.lt_or_ge k l.length with h1 | h1
    · exact h1
    · rw [List.drop_of_length_le h1] at h
      cases h
  have h1 : l[k]? = some x := by
    have := congrArg (fun m => m[0]?) h
    simpa using this
  refine ⟨h1, ?_, ?_, hk⟩
  · rw [List.take_add_one, h1]
    rfl
  · have := congrArg (fun m => m.drop 1) h
    simpa [Nat.add_comm] using this
section
variable {to : Int} {R : List Fate} {LA C W2 : List Lv} {k n : Nat} {f : Fate}
theorem tick_case (hrel : Rel to R (LA ++ C.take k) (C.drop k ++ W2)) (hids : (((LA ++ C.take k) ++ (C.drop k ++ W2)).map Lv.i).Pairwise (· < ·)) (hf : R[n]? = some f) (hge : ∀ x ∈ C.drop k, n ≤ x.i) :
    (((∃ fa fl, f = ⟨fa, fl, true⟩) ∨ (∃ x ∈ LA ++ C.take k, f = ⟨x.a, x.a + to, false⟩) ∨ (∃ x ∈ W2, f = ⟨x.a, 0, false⟩)) ∧ ∀ x ∈ C.drop k, n + 1 ≤ x.i) ∨
      (∃ x D, C.drop k = x :: D ∧ x.i = n ∧ f = ⟨x.a, 0, false⟩ ∧ ∀ y ∈ D, n + 1 ≤ y.i) := by
  have hlt : ∀ {A B : List Lv} {x : Lv}, C.drop k = A ++ x :: B → (∀ y ∈ B, x.i < y.i) ∧ ∀ y ∈ A, y.i < x.i := by
    intro A B x h
    rw [List.map_append, List.pairwise_append] at hids
    have h2 := hids.2.1
    rw [h, List.append_assoc, List.cons_append, List.map_append, List.map_cons, List.pairwise_append, List.pairwise_cons] at h2
    exact ⟨fun y hy => h2.2.1.1 y.i (List.mem_map_of_mem (by simp [hy])), fun y hy => h2.2.2 y.i (List.mem_map_of_mem hy) x.i (by simp)⟩
  by_cases hx : ∃ x ∈ C.drop k, x.i = n
  · obtain ⟨x, hx, hxn⟩ := hx
    obtain ⟨A, B, hAB⟩ := List.append_of_mem hx
    obtain ⟨h1, h2⟩ := hlt hAB
    cases A with
    | nil =>
      refine .inr ⟨x, B, by simpa using hAB, hxn, ?_, fun y hy => by have := h1 y hy; omega⟩
      have := hrel.rw x (by simp [hx])
      rw [hxn, hf] at this
      injection this
    | cons z A =>
      have h3 := h2 z (by simp)
      have h4 := hge z (by rw [hAB]; simp)
      omega
  · have hno : ∀ x ∈ C.drop k, n + 1 ≤ x.i := by
      intro x hx1
      have h1 := hge x hx1
      have h2 : x.i ≠ n := fun h => hx ⟨x, hx1, h⟩
      omega
    refine .inl ⟨?_, hno⟩
    cases hfo : f.out with
    | true => exact .inl ⟨f.added, f.late, by rw [← hfo]⟩
    | false =>
      obtain ⟨x, hx1, hxn⟩ := hrel.all n f hf hfo
      rcases List.mem_append.1 hx1 with hx1 | hx1
      · have := hrel.rl x hx1
        rw [hxn, hf] at this
        injection this with this
        exact .inr (.inl ⟨x, hx1, this⟩)
      · rcases List.mem_append.1 hx1 with hx2 | hx2
        · exact absurd ⟨x, hx2, hxn⟩ hx
        · have := hrel.rw x hx1
          rw [hxn, hf] at this
          injection this with this
          exact .inr (.inr ⟨x, hx2, this⟩)
end
section
variable {w0 w : World} {F : List Chunk} {b g m : Nat} {to fo now last : Int} {R : List Fate} {LA WA : List Lv} {P : List Ent}
set_option maxHeartbeats 2000000 in
theorem tick_w (hS : Sat w0 w (wC b g R now WA.length LA.length m to fo :: tabC 1 g (tabS m to fo R.length LA WA P now last) :: F)) (h : WldOk m to fo R LA WA P now last) (hR : R.length ≤ 900) (hn : now ≤ 50000) :
    Calls Try.prog 19 #[.pointer (some ⟨b, 0, none⟩)] w fun e w' => e = .returned (.bool true) ∧ ∃ R' LA' WA' P' last', WldOk m to fo R' LA' WA' P' (now + 1) last' ∧ R'.length = R.length ∧ (∀ x ∈ LA' ++ WA', ∃ y ∈ LA ++ WA, y.a = x.a) ∧
      Sat w0 w' (wC b g R' (now + 1) WA'.length LA'.length m to fo :: tabC 1 g (tabS m to fo R'.length LA' WA' P' (now + 1) last') :: F) := by
  obtain ⟨AF, cF, hc, hS⟩ := w_open hS
  obtain ⟨ds, gn, C, W2, LB, P', last', T⟩ := h.ok.tick h.c (by omega) (by omega)
  have hWA := T.wa
  have hwn := h.ok.wn
  have hln := h.ok.ln
  have hn0 := h.ok.n0
  have hto := h.c.to
  have hfo := h.c.fo
  have hmm := h.c.m
  have hpl := h.ok.perm.length_eq
  have hdl := T.dl
  have hgl := T.gl
  have hrel0 := h.rel
  have hids := h.ok.ids
  have hnx := h.ok.nx
  subst hWA
  simp only [List.length_append, List.length_map] at hpl hwn
  have hA0 : ∀ x ∈ LA ++ C, 0 ≤ x.a ∧ x.a ≤ now ∧ x.a + to ≤ now + 1 := by
    intro x hx
    rcases List.mem_append.1 hx with hx | hx
    · have := h.ok.late x hx; omega
    · have := h.ok.wait x (by simp [hx]); have := T.ce x hx; omega
  have hA1 : ∀ x ∈ W2, 0 ≤ x.a ∧ x.a ≤ now := by
    intro x hx
    have := h.ok.wait x (by simp [hx]); omega
  have hLBk : LB.map Lv.key = ((LA ++ C).drop gn).map Lv.key := by
    rw [List.drop_append_of_le_length hgl]
    exact T.lb
  refine enter Try.func19 rfl Try.ntmps19 (Nat.le_of_ble_eq_true rfl) fun a hF => ?_
  refine wp_seq_k fun K0 hK0 => ?_
  refine wp_region_lit ?_
  refine s_pu hF rfl rfl rfl (pu_assign (hF.ev rfl)) ?_; clear hF; intro a hF
  refine s_done ?_
  refine hK0 _ _ ?_; clear hK0
  refine wp_seq_k fun K1 hK1 => ?_
  refine wp_region_lit ?_
  refine s_pu hF rfl rfl rfl (pu_move (hF.ev rfl)) ?_; clear hF; intro a hF
  refine s_pu hF rfl rfl rfl ((by exact pu_nil (hF.ev rfl))) ?_; clear hF; intro a hF
  refine s_pu hF rfl rfl rfl ((by exact pu_field fd52_2 (hF.ev rfl))) ?_; clear hF; intro a hF
  refine s_rd hF rfl rfl rfl (by exact rd_load pl3 (hF.ev rfl) (hS.cellL (i := 0) rfl rfl)) ?_; clear hF; intro a hF
  refine s_pu hF rfl rfl rfl ((by exact pu_add64 (hF.ev rfl) (hF.ev rfl) (by omega))) ?_; clear hF; intro a hF
  refine s_pu hF rfl rfl rfl ((by exact pu_nil (hF.ev rfl))) ?_; clear hF; intro a hF
  refine s_pu hF rfl rfl rfl ((by exact pu_field fd52_2 (hF.ev rfl))) ?_; clear hF; intro a hF
  ((refine s_store (vs := [_]) (cs' := #[_, _, _, _, _, _, _, _]) 0 hF rfl (hF.ev rfl) (hF.ev rfl) hS rfl rfl sz3 (by rfl) (by exact Nat.le_of_ble_eq_true rfl) rfl ?_))
  clear hS; intro w hS; (try simp only [upd, del] at hS)
  refine s_done ?_
  refine hK1 _ _ ?_; clear hK1
  refine wp_seq_k fun K2 hK2 => ?_
  refine wp_region_lit ?_
  refine s_pu hF rfl rfl rfl (pu_move (hF.ev rfl)) ?_; clear hF; intro a hF
  refine s_pu hF rfl rfl rfl ((by exact pu_nil (hF.ev rfl))) ?_; clear hF; intro a hF
  refine s_pu hF rfl rfl rfl ((by exact pu_field fd52_0 (hF.ev rfl))) ?_; clear hF; intro a hF
  refine s_rd hF rfl rfl rfl (by exact rd_load pl24 (hF.ev rfl) (hS.cellL (i := 0) rfl rfl)) ?_; clear hF; intro a hF
  refine s_en hF rfl rfl rfl (run_fn fk16 (hF.ev rfl) (hF.evs rfl)) (at_place 2 hS rfl (fun h' => tick_k h' T.tk h.ok.rise hn0 (by simp only [tabS]; omega) (by simp only [tabS, List.length_append, List.length_map]; omega) (by simp only [tabS]; omega) (by omega))) ?_
  clear hS; rintro e w ⟨AL, cL, AG, cG, rfl, hS⟩
  simp only [del, List.length_map] at hS
  simp only [List.length_map]
  have hgt : (LA.take gn).length = gn := by rw [List.length_take]; omega
  rw [hgt] at hS
  rw [hgt]
  obtain ⟨hsL, hslL, hS⟩ := list_open.1 hS
  rw [List.length_map] at hS hslL
  replace hS := hS.perm (List.perm_middle (l₁ := rowC 35 12 (.slice AL C.length cL) C.length (pndCells (C.map fun x : Lv => req x.i) hsL) :: messC 1 hsL (C.map fun x : Lv => req x.i)))
  obtain ⟨hsG, hslG, hS⟩ := list_open.1 hS
  rw [List.length_map, hgt] at hS hslG
  have hmL : (messC 1 hsL (C.map fun x => req x.i)).length = C.length := by unfold messC; rw [List.length_zipWith, List.length_map]; omega
  have hmG : (messC 1 hsG ((LA.take gn).map fun x => req x.i)).length = gn := by unfold messC; rw [List.length_zipWith, List.length_map, hgt]; omega
  replace hS := hS.perm (tick_perm _ _ _ _ _ _ _ _)
  have hcW : ((C ++ W2).length : Int) = (C.length : Int) + W2.length := by simp
  rw [hcW] at hS
  refine ⟨_, rfl, ?_⟩; clear hF; intro a hF
  refine s_pu hF rfl rfl rfl (pu_move (hF.ev rfl)) ?_; clear hF; intro a hF
  refine s_pu hF rfl rfl rfl (pu_extract (hF.ev rfl) rfl) ?_; clear hF; intro a hF
  refine s_pu hF rfl rfl rfl (pu_extract (hF.ev rfl) rfl) ?_; clear hF; intro a hF
  refine s_pu hF rfl rfl rfl (pu_assign (hF.ev rfl)) ?_; clear hF; intro a hF
  refine s_pu hF rfl rfl rfl (pu_assign (hF.ev rfl)) ?_; clear hF; intro a hF
  refine s_done ?_
  refine hK2 _ _ ?_; clear hK2
  refine wp_seq_k fun K3 hK3 => ?_
  refine wp_region_lit ?_
  refine s_pu hF rfl rfl rfl (pu_assign (hF.ev rfl)) ?_; clear hF; intro a hF
  refine s_done ?_
  refine hK3 _ _ ?_; clear hK3
  refine wp_seq_k fun K4 hK4 => ?_
  refine wp_seq_k fun K5 hK5 => ?_
  refine wp_region_lit ?_
  refine s_pu hF rfl rfl rfl (pu_assign (hF.ev rfl)) ?_; clear hF; intro a hF
  refine s_done ?_
  refine hK5 _ _ ?_; clear hK5
  refine wp_block ?_
  refine wp_ind (fun j a w => ∃ (n k : Nat) (R' : List Fate), j = R.length - n ∧ n ≤ R.length ∧ k ≤ C.length ∧ R'.length = R.length ∧ Rel to R' (LA ++ C.take k) (C.drop k ++ W2) ∧ (∀ x ∈ C.drop k, n ≤ x.i) ∧
    Fr a 303 [(0, .pointer (some ⟨b, 0, none⟩)), (3, .slice AL C.length cL), (4, .slice AG gn cG), (5, .int .i64 k), (6, .int .i64 n)] ∧
    Sat w0 w (.obj b (.cells #[.pointer (some ⟨g, 0, none⟩), .slice AF R.length cF, .int .i64 (now + 1), .int .i64 ((C.length : Int) + W2.length - k), .int .i64 ((LA.length : Int) + k), .int .i64 m, .int .i64 to, .int .i64 fo] 52 (0, 0)) :: rowC 58 3 (.slice AF R.length cF) R.length (fateCells R') :: rowC 35 12 (.slice AL C.length cL) C.length (pndCells (C.map fun x => req x.i) hsL) :: rowC 35 12 (.slice AG gn cG) gn (pndCells ((LA.take gn).map fun x => req x.i) hsG) :: (messC 1 hsL (C.map fun x => req x.i) ++ (messC 1 hsG ((LA.take gn).map fun x => req x.i) ++ (tabC 1 g (tabS m to fo R.length LB W2 P' (now + 1) last') :: F))))) R.length
    ⟨0, 0, R, by omega, by omega, by omega, rfl, by simpa using hrel0, fun x _ => by omega, hF.sub ⟨rfl, rfl, rfl, rfl, rfl, trivial⟩, by simpa using hS⟩ ?_
  clear hS hF
  rintro j a w ⟨n, k, R', rfl, hnR, hkC, hRl, hrel, hge, hF, hS⟩
  refine wp_seq_k fun K6 hK6 => ?_
  refine wp_seq_k fun K7 hK7 => ?_
  refine wp_region_lit ?_
  refine s_pu hF rfl rfl rfl (pu_move (hF.ev rfl)) ?_; clear hF; intro a hF
  refine s_pu hF rfl rfl rfl (pu_move (hF.ev rfl)) ?_; clear hF; intro a hF
  refine s_pu hF rfl rfl rfl ((by exact pu_nil (hF.ev rfl))) ?_; clear hF; intro a hF
  refine s_pu hF rfl rfl rfl ((by exact pu_field fd52_1 (hF.ev rfl))) ?_; clear hF; intro a hF
  refine s_rd hF rfl rfl rfl (by exact rd_load pl50 (hF.ev rfl) (hS.cellL (i := 0) rfl rfl)) ?_; clear hF; intro a hF
  refine s_pu hF rfl rfl rfl (pu_len sl50 (hF.ev rfl)) ?_; clear hF; intro a hF
  refine s_pu hF rfl rfl rfl (pu_lss (hF.ev rfl) (hF.ev rfl)) ?_; clear hF; intro a hF
  refine s_done ?_
  refine hK7 _ _ ?_; clear hK7
  refine wp_cond_split (hF.ev rfl) (fun hc0 => ?_) (fun hc0 => ?_)
  · -- cond 0 true
    try simp only [decide_eq_true_eq, decide_eq_false_iff_not, Bool.not_eq_true', Bool.not_eq_false', Int.not_lt, Int.not_le, ne_eq, Decidable.not_not, Bool.or_eq_true, Bool.or_eq_false_iff, Bool.and_eq_true, Bool.and_eq_false_imp] at hc0
    have hn1 : n < R.length := by omega
    obtain ⟨f, hf⟩ : ∃ f, R'[n]? = some f := ⟨R'[n]'(by omega), List.getElem?_eq_getElem _⟩
    obtain ⟨gA, rfl⟩ := row_some (i := 1) hS rfl (by omega)
    have hids2 : (((LA ++ C.take k) ++ (C.drop k ++ W2)).map Lv.i).Pairwise (· < ·) := by
      have e : (LA ++ C.take k) ++ (C.drop k ++ W2) = LA ++ (C ++ W2) := by
        rw [List.append_assoc, ← List.append_assoc (C.take k), List.take_append_drop]
      rw [e]
      exact hids
    have hcase := tick_case hrel hids2 hf hge
    refine wp_skip ?_
    refine hK6 _ _ ?_; clear hK6
    refine wp_seq_k fun K8 hK8 => ?_
    refine wp_block ?_
    refine wp_seq_k fun K9 hK9 => ?_
    refine wp_region_lit ?_
    refine s_pu hF rfl rfl rfl (pu_move (hF.ev rfl)) ?_; clear hF; intro a hF
    refine s_pu hF rfl rfl rfl ((by exact pu_nil (hF.ev rfl))) ?_; clear hF; intro a hF
    refine s_pu hF rfl rfl rfl ((by exact pu_field fd52_1 (hF.ev rfl))) ?_; clear hF; intro a hF
    refine s_rd hF rfl rfl rfl (by exact rd_load pl50 (hF.ev rfl) (hS.cellL (i := 0) rfl rfl)) ?_; clear hF; intro a hF
    refine s_pu hF rfl rfl rfl (pu_move (hF.ev rfl)) ?_; clear hF; intro a hF
    refine s_pu hF rfl rfl rfl ((by exact pu_elem sl50 (hF.ev rfl) (hF.ev rfl) (by omega) (by omega))) ?_; clear hF; intro a hF
    refine s_rd hF rfl rfl rfl (rd_loadN ag58 (hF.ev rfl) rfl (row_load (i := 1) hS rfl (by omega) (fate_at hf))) ?_; clear hF; intro a hF
    refine s_newp hF rfl rfl rfl (ef_alloc (cs := #[_, _, _]) ze58 rfl) hS ?_; clear hF hS; intro b7 w hS a hF
    ((refine s_store (vs := [_, _, _]) (cs' := #[_, _, _]) 0 hF rfl (hF.ev rfl) (hF.ev rfl) hS rfl rfl sz58 (by rfl) (by exact Nat.le_of_ble_eq_true rfl) rfl ?_))
    clear hS; intro w hS; (try simp only [upd, del] at hS)
    refine s_done ?_
    refine hK9 _ _ ?_; clear hK9
    refine wp_seq_k fun K10 hK10 => ?_
    refine wp_seq_k fun K11 hK11 => ?_
    rcases hcase with ⟨⟨fa, fl, rfl⟩ | ⟨x, hx, rfl⟩ | ⟨x, hx, rfl⟩, hnext⟩ | ⟨x, D, hD, hxn, rfl, hnext⟩
    · -- out
      try dsimp only at hS hF
      refine d_start (S := (fun w => Sat w0 w _)) (ds := []) (ord := [(0, .pu), (1, .tk), (2, .pu), (3, .pu), (4, .tk), (5, .pu), (6, .pu), (7, .pu), (8, .pu), (9, .tk), (10, .pu), (11, .pu), (12, .pu), (13, .tk), (14, .pu), (15, .pu), (16, .pu), (17, .pu), (18, .tk), (19, .pu), (20, .pu)]) mixed ⟨by kernel_rfl, fun _ d _ _ _ h => by cases d <;> exact h⟩ hS.drew fun hD => ?_
      replace hS := hS.drew; generalize w.drew = w at hS ⊢
      refine d_pu hD hF rfl rfl rfl rfl rfl ((by exact pu_field fd58_2 (hF.ev rfl))) ?_; clear hF; intro a hF
      refine d_rd hD hF rfl rfl rfl rfl rfl hS (fun w hS => (by exact rd_load pl4 (hF.ev rfl) (hS.cellL (i := 0) rfl rfl))) ?_; clear hF; intro a hF
      refine d_pu hD hF rfl rfl rfl rfl rfl (pu_move (hF.ev rfl)) ?_; clear hF; intro a hF
      refine d_no hD hF rfl rfl rfl rfl rfl ?_; clear hF; intro a hF
      refine d_nord hD hF rfl rfl rfl rfl rfl hS ?_; clear hF; intro a hF
      refine d_no hD hF rfl rfl rfl rfl rfl ?_; clear hF; intro a hF
      refine d_pu hD hF rfl rfl rfl rfl rfl ((by exact pu_pick_t (hF.ev rfl) (hF.ev rfl))) ?_; clear hF; intro a hF
      refine d_pu hD hF rfl rfl rfl rfl rfl (pu_move (hF.ev rfl)) ?_; clear hF; intro a hF
      refine d_no hD hF rfl rfl rfl rfl rfl ?_; clear hF; intro a hF
      refine d_nord hD hF rfl rfl rfl rfl rfl hS ?_; clear hF; intro a hF
      refine d_no hD hF rfl rfl rfl rfl rfl ?_; clear hF; intro a hF
      refine d_no hD hF rfl rfl rfl rfl rfl ?_; clear hF; intro a hF
      refine d_no hD hF rfl rfl rfl rfl rfl ?_; clear hF; intro a hF
      refine d_nord hD hF rfl rfl rfl rfl rfl hS ?_; clear hF; intro a hF
      refine d_no hD hF rfl rfl rfl rfl rfl ?_; clear hF; intro a hF
      refine d_no hD hF rfl rfl rfl rfl rfl ?_; clear hF; intro a hF
      refine d_no hD hF rfl rfl rfl rfl rfl ?_; clear hF; intro a hF
      refine d_no hD hF rfl rfl rfl rfl rfl ?_; clear hF; intro a hF
      refine d_nord hD hF rfl rfl rfl rfl rfl hS ?_; clear hF; intro a hF
      refine d_no hD hF rfl rfl rfl rfl rfl ?_; clear hF; intro a hF
      refine d_pu hD hF rfl rfl rfl rfl rfl ((by exact pu_pick_t (hF.ev rfl) (hF.ev rfl))) ?_; clear hF; intro a hF
      refine d_done hD rfl ?_; clear hD
      refine hK11 _ _ ?_; clear hK11
      refine wp_cond_true (hF.ev rfl) ?_
      refine wp_exit ?_
      refine then_exit ?_
      refine blk_exit ?_
      refine hK8 _ _ ?_; clear hK8
      refine wp_region_lit ?_
      refine s_pu hF rfl rfl rfl (pu_move (hF.ev rfl)) ?_; clear hF; intro a hF
      refine s_pu hF rfl rfl rfl ((by exact pu_add64 (hF.ev rfl) (hF.ev rfl) (by omega))) ?_; clear hF; intro a hF
      refine s_pu hF rfl rfl rfl (pu_assign (hF.ev rfl)) ?_; clear hF; intro a hF
      refine s_done ?_
      exact ⟨_, by omega, n + 1, k, R', rfl, by omega, hkC, hRl, hrel, hnext, hF.sub ⟨rfl, rfl, rfl, rfl, rfl, trivial⟩, hS.tail⟩
    · -- lat
      try dsimp only at hS hF
      have hxb : 0 ≤ x.a ∧ x.a ≤ now ∧ x.a + to ≤ now + 1 := hA0 x (by
        rcases List.mem_append.1 hx with hx | hx
        · simp [hx]
        · simp [List.mem_of_mem_take hx])
      refine d_start (S := (fun w => Sat w0 w _)) (ds := []) (ord := [(0, .pu), (1, .tk), (2, .pu), (3, .pu), (4, .tk), (5, .pu), (6, .pu), (7, .pu), (8, .pu), (9, .tk), (10, .pu), (11, .pu), (12, .pu), (13, .tk), (14, .pu), (15, .pu), (16, .pu), (17, .pu), (18, .tk), (19, .pu), (20, .pu)]) mixed ⟨by kernel_rfl, fun _ d _ _ _ h => by cases d <;> exact h⟩ hS.drew fun hD => ?_
      replace hS := hS.drew; generalize w.drew = w at hS ⊢
      refine d_pu hD hF rfl rfl rfl rfl rfl ((by exact pu_field fd58_2 (hF.ev rfl))) ?_; clear hF; intro a hF
      refine d_rd hD hF rfl rfl rfl rfl rfl hS (fun w hS => (by exact rd_load pl4 (hF.ev rfl) (hS.cellL (i := 0) rfl rfl))) ?_; clear hF; intro a hF
      refine d_pu hD hF rfl rfl rfl rfl rfl (pu_move (hF.ev rfl)) ?_; clear hF; intro a hF
      refine d_pu hD hF rfl rfl rfl rfl rfl ((by exact pu_field fd58_1 (hF.ev rfl))) ?_; clear hF; intro a hF
      refine d_rd hD hF rfl rfl rfl rfl rfl hS (fun w hS => (by exact rd_load pl3 (hF.ev rfl) (hS.cellL (i := 0) rfl rfl))) ?_; clear hF; intro a hF
      refine d_pu hD hF rfl rfl rfl rfl rfl (pu_gtr (hF.ev rfl) (hF.ev rfl)) ?_; clear hF; intro a hF
      refine d_pu hD hF rfl rfl rfl rfl rfl ((by exact pu_pick_f (hF.ev rfl) (hF.ev rfl))) ?_; clear hF; intro a hF
      refine d_pu hD hF rfl rfl rfl rfl rfl (pu_move (hF.ev rfl)) ?_; clear hF; intro a hF
      refine fr_split hF (t := 53) rfl ?_ ?_
      · clear hF; intro hg53 hF   -- slot 53 true
        try simp only [decide_eq_true_eq, decide_eq_false_iff_not, Bool.not_eq_true', Bool.not_eq_false', Int.not_lt, Int.not_le, ne_eq, Decidable.not_not, Bool.or_eq_true, Bool.or_eq_false_iff, Bool.and_eq_true, Bool.and_eq_false_imp] at hg53
        refine d_no hD hF rfl rfl rfl rfl rfl ?_; clear hF; intro a hF
        refine d_nord hD hF rfl rfl rfl rfl rfl hS ?_; clear hF; intro a hF
        refine d_no hD hF rfl rfl rfl rfl rfl ?_; clear hF; intro a hF
        refine d_no hD hF rfl rfl rfl rfl rfl ?_; clear hF; intro a hF
        refine d_no hD hF rfl rfl rfl rfl rfl ?_; clear hF; intro a hF
        refine d_nord hD hF rfl rfl rfl rfl rfl hS ?_; clear hF; intro a hF
        refine d_no hD hF rfl rfl rfl rfl rfl ?_; clear hF; intro a hF
        refine d_no hD hF rfl rfl rfl rfl rfl ?_; clear hF; intro a hF
        refine d_no hD hF rfl rfl rfl rfl rfl ?_; clear hF; intro a hF
        refine d_no hD hF rfl rfl rfl rfl rfl ?_; clear hF; intro a hF
        refine d_nord hD hF rfl rfl rfl rfl rfl hS ?_; clear hF; intro a hF
        refine d_no hD hF rfl rfl rfl rfl rfl ?_; clear hF; intro a hF
        refine d_pu hD hF rfl rfl rfl rfl rfl ((by exact pu_pick_t (hF.ev rfl) (hF.ev rfl))) ?_; clear hF; intro a hF
        refine d_done hD rfl ?_; clear hD
        refine hK11 _ _ ?_; clear hK11
        refine wp_cond_true (hF.ev rfl) ?_
        refine wp_exit ?_
        refine then_exit ?_
        refine blk_exit ?_
        refine hK8 _ _ ?_; clear hK8
        refine wp_region_lit ?_
        refine s_pu hF rfl rfl rfl (pu_move (hF.ev rfl)) ?_; clear hF; intro a hF
        refine s_pu hF rfl rfl rfl ((by exact pu_add64 (hF.ev rfl) (hF.ev rfl) (by omega))) ?_; clear hF; intro a hF
        refine s_pu hF rfl rfl rfl (pu_assign (hF.ev rfl)) ?_; clear hF; intro a hF
        refine s_done ?_
        exact ⟨_, by omega, n + 1, k, R', rfl, by omega, hkC, hRl, hrel, hnext, hF.sub ⟨rfl, rfl, rfl, rfl, rfl, trivial⟩, hS.tail⟩
      · clear hF; intro hg53 hF   -- slot 53 false
        try simp only [decide_eq_true_eq, decide_eq_false_iff_not, Bool.not_eq_true', Bool.not_eq_false', Int.not_lt, Int.not_le, ne_eq, Decidable.not_not, Bool.or_eq_true, Bool.or_eq_false_iff, Bool.and_eq_true, Bool.and_eq_false_imp] at hg53
        omega
    · -- wt
      try dsimp only at hS hF
      have hxb := hA1 x hx
      have hxw := T.wf x hx
      refine d_start (S := (fun w => Sat w0 w _)) (ds := []) (ord := [(0, .pu), (1, .tk), (2, .pu), (3, .pu), (4, .tk), (5, .pu), (6, .pu), (7, .pu), (8, .pu), (9, .tk), (10, .pu), (11, .pu), (12, .pu), (13, .tk), (14, .pu), (15, .pu), (16, .pu), (17, .pu), (18, .tk), (19, .pu), (20, .pu)]) mixed ⟨by kernel_rfl, fun _ d _ _ _ h => by cases d <;> exact h⟩ hS.drew fun hD => ?_
      replace hS := hS.drew; generalize w.drew = w at hS ⊢
      refine d_pu hD hF rfl rfl rfl rfl rfl ((by exact pu_field fd58_2 (hF.ev rfl))) ?_; clear hF; intro a hF
      refine d_rd hD hF rfl rfl rfl rfl rfl hS (fun w hS => (by exact rd_load pl4 (hF.ev rfl) (hS.cellL (i := 0) rfl rfl))) ?_; clear hF; intro a hF
      refine d_pu hD hF rfl rfl rfl rfl rfl (pu_move (hF.ev rfl)) ?_; clear hF; intro a hF
      refine d_pu hD hF rfl rfl rfl rfl rfl ((by exact pu_field fd58_1 (hF.ev rfl))) ?_; clear hF; intro a hF
      refine d_rd hD hF rfl rfl rfl rfl rfl hS (fun w hS => (by exact rd_load pl3 (hF.ev rfl) (hS.cellL (i := 0) rfl rfl))) ?_; clear hF; intro a hF
      refine d_pu hD hF rfl rfl rfl rfl rfl (pu_gtr (hF.ev rfl) (hF.ev rfl)) ?_; clear hF; intro a hF
      refine d_pu hD hF rfl rfl rfl rfl rfl ((by exact pu_pick_f (hF.ev rfl) (hF.ev rfl))) ?_; clear hF; intro a hF
      refine d_pu hD hF rfl rfl rfl rfl rfl (pu_move (hF.ev rfl)) ?_; clear hF; intro a hF
      refine fr_split hF (t := 53) rfl ?_ ?_
      · clear hF; intro hg53 hF   -- slot 53 true
        try simp only [decide_eq_true_eq, decide_eq_false_iff_not, Bool.not_eq_true', Bool.not_eq_false', Int.not_lt, Int.not_le, ne_eq, Decidable.not_not, Bool.or_eq_true, Bool.or_eq_false_iff, Bool.and_eq_true, Bool.and_eq_false_imp] at hg53
        simp at hg53
      · clear hF; intro hg53 hF   -- slot 53 false
        try simp only [decide_eq_true_eq, decide_eq_false_iff_not, Bool.not_eq_true', Bool.not_eq_false', Int.not_lt, Int.not_le, ne_eq, Decidable.not_not, Bool.or_eq_true, Bool.or_eq_false_iff, Bool.and_eq_true, Bool.and_eq_false_imp] at hg53
        refine d_pu hD hF rfl rfl rfl rfl rfl ((by exact pu_field fd58_0 (hF.ev rfl))) ?_; clear hF; intro a hF
        refine d_rd hD hF rfl rfl rfl rfl rfl hS (fun w hS => (by exact rd_load pl3 (hF.ev rfl) (hS.cellL (i := 0) rfl rfl))) ?_; clear hF; intro a hF
        refine d_pu hD hF rfl rfl rfl rfl rfl (pu_move (hF.ev rfl)) ?_; clear hF; intro a hF
        refine d_pu hD hF rfl rfl rfl rfl rfl ((by exact pu_nil (hF.ev rfl))) ?_; clear hF; intro a hF
        refine d_pu hD hF rfl rfl rfl rfl rfl ((by exact pu_field fd52_6 (hF.ev rfl))) ?_; clear hF; intro a hF
        refine d_rd hD hF rfl rfl rfl rfl rfl hS (fun w hS => (by exact rd_load pl3 (hF.ev rfl) (hS.cellL (i := 1) rfl rfl))) ?_; clear hF; intro a hF
        refine d_pu hD hF rfl rfl rfl rfl rfl ((by exact pu_add64 (hF.ev rfl) (hF.ev rfl) (by omega))) ?_; clear hF; intro a hF
        refine d_pu hD hF rfl rfl rfl rfl rfl (pu_move (hF.ev rfl)) ?_; clear hF; intro a hF
        refine d_pu hD hF rfl rfl rfl rfl rfl ((by exact pu_nil (hF.ev rfl))) ?_; clear hF; intro a hF
        refine d_pu hD hF rfl rfl rfl rfl rfl ((by exact pu_field fd52_2 (hF.ev rfl))) ?_; clear hF; intro a hF
        refine d_rd hD hF rfl rfl rfl rfl rfl hS (fun w hS => (by exact rd_load pl3 (hF.ev rfl) (hS.cellL (i := 1) rfl rfl))) ?_; clear hF; intro a hF
        refine d_pu hD hF rfl rfl rfl rfl rfl (pu_neq (hF.ev rfl) (hF.ev rfl)) ?_; clear hF; intro a hF
        refine d_pu hD hF rfl rfl rfl rfl rfl ((by exact pu_pick_f (hF.ev rfl) (hF.ev rfl))) ?_; clear hF; intro a hF
        refine d_done hD rfl ?_; clear hD
        refine hK11 _ _ ?_; clear hK11
        refine wp_cond_split (hF.ev rfl) (fun hc1 => ?_) (fun hc1 => ?_)
        · -- cond 1 true
          try simp only [decide_eq_true_eq, decide_eq_false_iff_not, Bool.not_eq_true', Bool.not_eq_false', Int.not_lt, Int.not_le, ne_eq, Decidable.not_not, Bool.or_eq_true, Bool.or_eq_false_iff, Bool.and_eq_true, Bool.and_eq_false_imp] at hc1
          refine wp_exit ?_
          refine then_exit ?_
          refine blk_exit ?_
          refine hK8 _ _ ?_; clear hK8
          refine wp_region_lit ?_
          refine s_pu hF rfl rfl rfl (pu_move (hF.ev rfl)) ?_; clear hF; intro a hF
          refine s_pu hF rfl rfl rfl ((by exact pu_add64 (hF.ev rfl) (hF.ev rfl) (by omega))) ?_; clear hF; intro a hF
          refine s_pu hF rfl rfl rfl (pu_assign (hF.ev rfl)) ?_; clear hF; intro a hF
          refine s_done ?_
          exact ⟨_, by omega, n + 1, k, R', rfl, by omega, hkC, hRl, hrel, hnext, hF.sub ⟨rfl, rfl, rfl, rfl, rfl, trivial⟩, hS.tail⟩
        · -- cond 1 false
          try simp only [decide_eq_true_eq, decide_eq_false_iff_not, Bool.not_eq_true', Bool.not_eq_false', Int.not_lt, Int.not_le, ne_eq, Decidable.not_not, Bool.or_eq_true, Bool.or_eq_false_iff, Bool.and_eq_true, Bool.and_eq_false_imp] at hc1
          omega
    · -- tak
      try dsimp only at hS hF
      obtain ⟨hd1, hd2, hd3, hd4⟩ := drop_head hD
      have hxm := List.mem_of_getElem? hd1
      have hxb := hA0 x (by simp [hxm])
      have hxc := T.ce x hxm
      refine d_start (S := (fun w => Sat w0 w _)) (ds := []) (ord := [(0, .pu), (1, .tk), (2, .pu), (3, .pu), (4, .tk), (5, .pu), (6, .pu), (7, .pu), (8, .pu), (9, .tk), (10, .pu), (11, .pu), (12, .pu), (13, .tk), (14, .pu), (15, .pu), (16, .pu), (17, .pu), (18, .tk), (19, .pu), (20, .pu)]) mixed ⟨by kernel_rfl, fun _ d _ _ _ h => by cases d <;> exact h⟩ hS.drew fun hD => ?_
      replace hS := hS.drew; generalize w.drew = w at hS ⊢
      refine d_pu hD hF rfl rfl rfl rfl rfl ((by exact pu_field fd58_2 (hF.ev rfl))) ?_; clear hF; intro a hF
      refine d_rd hD hF rfl rfl rfl rfl rfl hS (fun w hS => (by exact rd_load pl4 (hF.ev rfl) (hS.cellL (i := 0) rfl rfl))) ?_; clear hF; intro a hF
      refine d_pu hD hF rfl rfl rfl rfl rfl (pu_move (hF.ev rfl)) ?_; clear hF; intro a hF
      refine d_pu hD hF rfl rfl rfl rfl rfl ((by exact pu_field fd58_1 (hF.ev rfl))) ?_; clear hF; intro a hF
      refine d_rd hD hF rfl rfl rfl rfl rfl hS (fun w hS => (by exact rd_load pl3 (hF.ev rfl) (hS.cellL (i := 0) rfl rfl))) ?_; clear hF; intro a hF
      refine d_pu hD hF rfl rfl rfl rfl rfl (pu_gtr (hF.ev rfl) (hF.ev rfl)) ?_; clear hF; intro a hF
      refine d_pu hD hF rfl rfl rfl rfl rfl ((by exact pu_pick_f (hF.ev rfl) (hF.ev rfl))) ?_; clear hF; intro a hF
      refine d_pu hD hF rfl rfl rfl rfl rfl (pu_move (hF.ev rfl)) ?_; clear hF; intro a hF
      refine fr_split hF (t := 53) rfl ?_ ?_
      · clear hF; intro hg53 hF   -- slot 53 true
        try simp only [decide_eq_true_eq, decide_eq_false_iff_not, Bool.not_eq_true', Bool.not_eq_false', Int.not_lt, Int.not_le, ne_eq, Decidable.not_not, Bool.or_eq_true, Bool.or_eq_false_iff, Bool.and_eq_true, Bool.and_eq_false_imp] at hg53
        simp at hg53
      · clear hF; intro hg53 hF   -- slot 53 false
        try simp only [decide_eq_true_eq, decide_eq_false_iff_not, Bool.not_eq_true', Bool.not_eq_false', Int.not_lt, Int.not_le, ne_eq, Decidable.not_not, Bool.or_eq_true, Bool.or_eq_false_iff, Bool.and_eq_true, Bool.and_eq_false_imp] at hg53
        refine d_pu hD hF rfl rfl rfl rfl rfl ((by exact pu_field fd58_0 (hF.ev rfl))) ?_; clear hF; intro a hF
        refine d_rd hD hF rfl rfl rfl rfl rfl hS (fun w hS => (by exact rd_load pl3 (hF.ev rfl) (hS.cellL (i := 0) rfl rfl))) ?_; clear hF; intro a hF
        refine d_pu hD hF rfl rfl rfl rfl rfl (pu_move (hF.ev rfl)) ?_; clear hF; intro a hF
        refine d_pu hD hF rfl rfl rfl rfl rfl ((by exact pu_nil (hF.ev rfl))) ?_; clear hF; intro a hF
        refine d_pu hD hF rfl rfl rfl rfl rfl ((by exact pu_field fd52_6 (hF.ev rfl))) ?_; clear hF; intro a hF
        refine d_rd hD hF rfl rfl rfl rfl rfl hS (fun w hS => (by exact rd_load pl3 (hF.ev rfl) (hS.cellL (i := 1) rfl rfl))) ?_; clear hF; intro a hF
        refine d_pu hD hF rfl rfl rfl rfl rfl ((by exact pu_add64 (hF.ev rfl) (hF.ev rfl) (by omega))) ?_; clear hF; intro a hF
        refine d_pu hD hF rfl rfl rfl rfl rfl (pu_move (hF.ev rfl)) ?_; clear hF; intro a hF
        refine d_pu hD hF rfl rfl rfl rfl rfl ((by exact pu_nil (hF.ev rfl))) ?_; clear hF; intro a hF
        refine d_pu hD hF rfl rfl rfl rfl rfl ((by exact pu_field fd52_2 (hF.ev rfl))) ?_; clear hF; intro a hF
        refine d_rd hD hF rfl rfl rfl rfl rfl hS (fun w hS => (by exact rd_load pl3 (hF.ev rfl) (hS.cellL (i := 1) rfl rfl))) ?_; clear hF; intro a hF
        refine d_pu hD hF rfl rfl rfl rfl rfl (pu_neq (hF.ev rfl) (hF.ev rfl)) ?_; clear hF; intro a hF
        refine d_pu hD hF rfl rfl rfl rfl rfl ((by exact pu_pick_f (hF.ev rfl) (hF.ev rfl))) ?_; clear hF; intro a hF
        refine d_done hD rfl ?_; clear hD
        refine hK11 _ _ ?_; clear hK11
        refine wp_cond_split (hF.ev rfl) (fun hc1 => ?_) (fun hc1 => ?_)
        · -- cond 1 true
          try simp only [decide_eq_true_eq, decide_eq_false_iff_not, Bool.not_eq_true', Bool.not_eq_false', Int.not_lt, Int.not_le, ne_eq, Decidable.not_not, Bool.or_eq_true, Bool.or_eq_false_iff, Bool.and_eq_true, Bool.and_eq_false_imp] at hc1
          omega
        · -- cond 1 false
          try simp only [decide_eq_true_eq, decide_eq_false_iff_not, Bool.not_eq_true', Bool.not_eq_false', Int.not_lt, Int.not_le, ne_eq, Decidable.not_not, Bool.or_eq_true, Bool.or_eq_false_iff, Bool.and_eq_true, Bool.and_eq_false_imp] at hc1
          refine wp_skip ?_
          refine hK10 _ _ ?_; clear hK10
          refine wp_seq_k fun K12 hK12 => ?_
          refine wp_seq_k fun K13 hK13 => ?_
          refine wp_region_lit ?_
          refine s_pu hF rfl rfl rfl (pu_move (hF.ev rfl)) ?_; clear hF; intro a hF
          refine s_pu hF rfl rfl rfl (pu_move (hF.ev rfl)) ?_; clear hF; intro a hF
          refine s_pu hF rfl rfl rfl (pu_len sl41 (hF.ev rfl)) ?_; clear hF; intro a hF
          refine s_pu hF rfl rfl rfl (pu_geq (hF.ev rfl) (hF.ev rfl)) ?_; clear hF; intro a hF
          refine s_done ?_
          refine hK13 _ _ ?_; clear hK13
          refine wp_cond_split (hF.ev rfl) (fun hc2 => ?_) (fun hc2 => ?_)
          · -- cond 2 true
            try simp only [decide_eq_true_eq, decide_eq_false_iff_not, Bool.not_eq_true', Bool.not_eq_false', Int.not_lt, Int.not_le, ne_eq, Decidable.not_not, Bool.or_eq_true, Bool.or_eq_false_iff, Bool.and_eq_true, Bool.and_eq_false_imp] at hc2
            omega
          · -- cond 2 false
            try simp only [decide_eq_true_eq, decide_eq_false_iff_not, Bool.not_eq_true', Bool.not_eq_false', Int.not_lt, Int.not_le, ne_eq, Decidable.not_not, Bool.or_eq_true, Bool.or_eq_false_iff, Bool.and_eq_true, Bool.and_eq_false_imp] at hc2
            refine wp_skip ?_
            refine hK12 _ _ ?_; clear hK12
            refine wp_seq_k fun K14 hK14 => ?_
            refine wp_region_lit ?_
            have hxL : (C.map fun x => req x.i)[k]? = some (req x.i) := by rw [List.getElem?_map, hd1]; rfl
            obtain ⟨px, hpx⟩ : ∃ px, hsL[k]? = some px := ⟨hsL[k]'(by omega), List.getElem?_eq_getElem _⟩
            obtain ⟨gB, rfl⟩ := row_some (i := 3) hS rfl (by omega)
            have hnth : ∀ c0 c1 c2 c3 c4, nth (c0 :: c1 :: c2 :: c3 :: c4 :: (messC 1 hsL (C.map fun x => req x.i) ++ (messC 1 hsG ((LA.take gn).map fun x => req x.i) ++ (tabC 1 g (tabS m to fo R.length LB W2 P' (now + 1) last') :: F)))) (k + 5) = some (mesC 1 px (req x.i)) := fun _ _ _ _ _ => nth_mess hxL hpx
            obtain ⟨B1, m1, B2, m2, rfl⟩ := mes_val (hS.front _ (hnth _ _ _ _ _))
            refine s_pu hF rfl rfl rfl (pu_move (hF.ev rfl)) ?_; clear hF; intro a hF
            refine s_pu hF rfl rfl rfl (pu_move (hF.ev rfl)) ?_; clear hF; intro a hF
            refine s_pu hF rfl rfl rfl ((by exact pu_elem sl41 (hF.ev rfl) (hF.ev rfl) (by omega) (by omega))) ?_; clear hF; intro a hF
            refine s_rd hF rfl rfl rfl (rd_loadN ag35 (hF.ev rfl) rfl (row_load (i := 3) hS rfl (by omega) (pndCells_at hxL hpx))) ?_; clear hF; intro a hF
            refine s_pu hF rfl rfl rfl (pu_move (hF.ev rfl)) ?_; clear hF; intro a hF
            refine s_en hF rfl rfl rfl (run_fn fk13 (hF.ev rfl) (hF.evs rfl)) (at_place (k + 5) hS (hnth _ _ _ _ _) (fun h => its_own (n := n) (p := req x.i) h (by omega))) ?_
            clear hS; rintro e w ⟨bb, rfl, hbb, hS⟩
            obtain rfl : bb = true := hbb.2 (by rw [hxn])
            replace hS := same_place (k + 5) hS (hnth _ _ _ _ _)
            refine ⟨_, rfl, ?_⟩; clear hF; intro a hF
            refine s_pu hF rfl rfl rfl (pu_assign (hF.ev rfl)) ?_; clear hF; intro a hF
            refine s_done ?_
            refine hK14 _ _ ?_; clear hK14
            refine wp_seq_k fun K15 hK15 => ?_
            refine wp_seq_k fun K16 hK16 => ?_
            refine wp_region_lit ?_
            refine s_pu hF rfl rfl rfl (pu_move (hF.ev rfl)) ?_; clear hF; intro a hF
            refine s_pu hF rfl rfl rfl (pu_not (hF.ev rfl)) ?_; clear hF; intro a hF
            refine s_done ?_
            refine hK16 _ _ ?_; clear hK16
            refine wp_cond_false (hF.ev rfl) ?_
            refine wp_skip ?_
            refine hK15 _ _ ?_; clear hK15
            refine wp_seq_k fun K17 hK17 => ?_
            refine d_start (S := (fun w => Sat w0 w _)) (ds := [11]) (ord := [(0, .pu), (1, .pu), (2, .pu), (3, .tk), (4, .pu), (5, .pu), (6, .pu), (7, .pu), (8, .tk), (9, .pu), (10, .pu), (11, .ls)]) mixed ⟨by kernel_rfl, fun _ d _ _ _ h => by cases d <;> exact h⟩ hS.drew fun hD => ?_
            replace hS := hS.drew; generalize w.drew = w at hS ⊢
            refine d_pu hD hF rfl rfl rfl rfl rfl (pu_move (hF.ev rfl)) ?_; clear hF; intro a hF
            refine d_pu hD hF rfl rfl rfl rfl rfl ((by exact pu_nil (hF.ev rfl))) ?_; clear hF; intro a hF
            refine d_pu hD hF rfl rfl rfl rfl rfl ((by exact pu_field fd52_1 (hF.ev rfl))) ?_; clear hF; intro a hF
            refine d_rd hD hF rfl rfl rfl rfl rfl hS (fun w hS => (by exact rd_load pl50 (hF.ev rfl) (hS.cellL (i := 1) rfl rfl))) ?_; clear hF; intro a hF
            refine d_pu hD hF rfl rfl rfl rfl rfl (pu_move (hF.ev rfl)) ?_; clear hF; intro a hF
            refine d_pu hD hF rfl rfl rfl rfl rfl (pu_move (hF.ev rfl)) ?_; clear hF; intro a hF
            refine d_pu hD hF rfl rfl rfl rfl rfl ((by exact pu_nil (hF.ev rfl))) ?_; clear hF; intro a hF
            refine d_pu hD hF rfl rfl rfl rfl rfl ((by exact pu_field fd52_2 (hF.ev rfl))) ?_; clear hF; intro a hF
            refine d_rd hD hF rfl rfl rfl rfl rfl hS (fun w hS => (by exact rd_load pl3 (hF.ev rfl) (hS.cellL (i := 1) rfl rfl))) ?_; clear hF; intro a hF
            refine d_pu hD hF rfl rfl rfl rfl rfl ((by exact pu_elem sl50 (hF.ev rfl) (hF.ev rfl) (by omega) (by omega))) ?_; clear hF; intro a hF
            refine d_pu hD hF rfl rfl rfl rfl rfl ((by exact pu_field fd58_1 (hF.ev rfl))) ?_; clear hF; intro a hF
            refine l_rstoreF 2 (k := n) (f := 1) hD hF rfl rfl rfl (hF.ev rfl) (hF.ev rfl) hS rfl rfl sz3 rfl (by omega) (by omega) (by rw [fate_len]; omega) ?_; clear hS; intro w hS; (try simp only [upd, del] at hS)
            rw [fate_set (f' := ⟨x.a, now + 1, false⟩) hf (by omega) rfl] at hS
            refine d_done hD rfl ?_; clear hD
            refine hK17 _ _ ?_; clear hK17
            refine wp_seq_k fun K18 hK18 => ?_
            refine wp_region_lit ?_
            refine s_pu hF rfl rfl rfl (pu_move (hF.ev rfl)) ?_; clear hF; intro a hF
            refine s_pu hF rfl rfl rfl ((by exact pu_nil (hF.ev rfl))) ?_; clear hF; intro a hF
            refine s_pu hF rfl rfl rfl ((by exact pu_field fd52_3 (hF.ev rfl))) ?_; clear hF; intro a hF
            refine s_rd hF rfl rfl rfl (by exact rd_load pl3 (hF.ev rfl) (hS.cellL (i := 1) rfl rfl)) ?_; clear hF; intro a hF
            refine s_pu hF rfl rfl rfl ((by exact pu_sub64 (hF.ev rfl) (hF.ev rfl) (by omega))) ?_; clear hF; intro a hF
            refine s_pu hF rfl rfl rfl ((by exact pu_nil (hF.ev rfl))) ?_; clear hF; intro a hF
            refine s_pu hF rfl rfl rfl ((by exact pu_field fd52_3 (hF.ev rfl))) ?_; clear hF; intro a hF
            ((refine s_store (vs := [_]) (cs' := #[_, _, _, _, _, _, _, _]) 1 hF rfl (hF.ev rfl) (hF.ev rfl) hS rfl rfl sz3 (by rfl) (by exact Nat.le_of_ble_eq_true rfl) rfl ?_))
            clear hS; intro w hS; (try simp only [upd, del] at hS)
            refine s_done ?_
            refine hK18 _ _ ?_; clear hK18
            refine wp_seq_k fun K19 hK19 => ?_
            refine wp_region_lit ?_
            refine s_pu hF rfl rfl rfl (pu_move (hF.ev rfl)) ?_; clear hF; intro a hF
            refine s_pu hF rfl rfl rfl ((by exact pu_nil (hF.ev rfl))) ?_; clear hF; intro a hF
            refine s_pu hF rfl rfl rfl ((by exact pu_field fd52_4 (hF.ev rfl))) ?_; clear hF; intro a hF
            refine s_rd hF rfl rfl rfl (by exact rd_load pl3 (hF.ev rfl) (hS.cellL (i := 1) rfl rfl)) ?_; clear hF; intro a hF
            refine s_pu hF rfl rfl rfl ((by exact pu_add64 (hF.ev rfl) (hF.ev rfl) (by omega))) ?_; clear hF; intro a hF
            refine s_pu hF rfl rfl rfl ((by exact pu_nil (hF.ev rfl))) ?_; clear hF; intro a hF
            refine s_pu hF rfl rfl rfl ((by exact pu_field fd52_4 (hF.ev rfl))) ?_; clear hF; intro a hF
            ((refine s_store (vs := [_]) (cs' := #[_, _, _, _, _, _, _, _]) 1 hF rfl (hF.ev rfl) (hF.ev rfl) hS rfl rfl sz3 (by rfl) (by exact Nat.le_of_ble_eq_true rfl) rfl ?_))
            clear hS; intro w hS; (try simp only [upd, del] at hS)
            refine s_done ?_
            refine hK19 _ _ ?_; clear hK19
            refine wp_region_lit ?_
            refine s_pu hF rfl rfl rfl (pu_move (hF.ev rfl)) ?_; clear hF; intro a hF
            refine s_pu hF rfl rfl rfl ((by exact pu_add64 (hF.ev rfl) (hF.ev rfl) (by omega))) ?_; clear hF; intro a hF
            refine s_pu hF rfl rfl rfl (pu_assign (hF.ev rfl)) ?_; clear hF; intro a hF
            refine s_done ?_
            refine blk_normal ?_
            refine hK8 _ _ ?_; clear hK8
            refine wp_region_lit ?_
            refine s_pu hF rfl rfl rfl (pu_move (hF.ev rfl)) ?_; clear hF; intro a hF
            refine s_pu hF rfl rfl rfl ((by exact pu_add64 (hF.ev rfl) (hF.ev rfl) (by omega))) ?_; clear hF; intro a hF
            refine s_pu hF rfl rfl rfl (pu_assign (hF.ev rfl)) ?_; clear hF; intro a hF
            refine s_done ?_
            have hrel2 : Rel to (R'.set n ⟨x.a, now + 1, false⟩) (LA ++ C.take (k + 1)) (C.drop (k + 1) ++ W2) := by
              rw [hd2, hd3, ← List.append_assoc, ← hxn]
              rw [hD, List.cons_append] at hrel hids2
              exact hrel.late hids2 hxc
            have e1 : (C.length : Int) + W2.length - k - 1 = C.length + W2.length - ((k + 1 : Nat) : Int) := by omega
            have e2 : (LA.length : Int) + k + 1 = LA.length + ((k + 1 : Nat) : Int) := by omega
            rw [e1, e2] at hS
            exact ⟨_, by omega, n + 1, k + 1, R'.set n ⟨x.a, now + 1, false⟩, rfl, by omega, by omega, by simpa using hRl, hrel2, by rw [hd3]; exact hnext, hF.sub ⟨rfl, rfl, rfl, rfl, rfl, trivial⟩, hS.tail⟩
  · -- cond 0 false
    try simp only [decide_eq_true_eq, decide_eq_false_iff_not, Bool.not_eq_true', Bool.not_eq_false', Int.not_lt, Int.not_le, ne_eq, Decidable.not_not, Bool.or_eq_true, Bool.or_eq_false_iff, Bool.and_eq_true, Bool.and_eq_false_imp] at hc0
    refine wp_exit ?_
    refine then_exit ?_
    refine then_exit ?_
    refine blk_exit ?_
    refine hK4 _ _ ?_; clear hK4
    refine wp_seq_k fun K8 hK8 => ?_
    refine wp_seq_k fun K9 hK9 => ?_
    refine wp_region_lit ?_
    have hnR2 : n = R.length := by omega
    have hkC2 : k = C.length := by
      rcases Nat.lt_or_ge k C.length with hlt | hge2
      · obtain ⟨x, hx⟩ : ∃ x, C[k]? = some x := ⟨C[k], List.getElem?_eq_getElem _⟩
        have hxm : x ∈ C.drop k := by
          rw [List.mem_iff_getElem?]
          exact ⟨0, by simpa using hx⟩
        have h1 := hge x hxm
        have h2 := hnx x (by simp [List.mem_of_getElem? hx])
        omega
      · omega
    subst hkC2
    rw [List.take_length, List.drop_length, List.nil_append] at hrel
    refine s_pu hF rfl rfl rfl (pu_move (hF.ev rfl)) ?_; clear hF; intro a hF
    refine s_pu hF rfl rfl rfl (pu_move (hF.ev rfl)) ?_; clear hF; intro a hF
    refine s_pu hF rfl rfl rfl (pu_len sl41 (hF.ev rfl)) ?_; clear hF; intro a hF
    refine s_pu hF rfl rfl rfl (pu_neq (hF.ev rfl) (hF.ev rfl)) ?_; clear hF; intro a hF
    refine s_done ?_
    refine hK9 _ _ ?_; clear hK9
    refine wp_cond_split (hF.ev rfl) (fun hc4 => ?_) (fun hc4 => ?_)
    · -- cond 4 true
      try simp only [decide_eq_true_eq, decide_eq_false_iff_not, Bool.not_eq_true', Bool.not_eq_false', Int.not_lt, Int.not_le, ne_eq, Decidable.not_not, Bool.or_eq_true, Bool.or_eq_false_iff, Bool.and_eq_true, Bool.and_eq_false_imp] at hc4
      simp at hc4
    · -- cond 4 false
      try simp only [decide_eq_true_eq, decide_eq_false_iff_not, Bool.not_eq_true', Bool.not_eq_false', Int.not_lt, Int.not_le, ne_eq, Decidable.not_not, Bool.or_eq_true, Bool.or_eq_false_iff, Bool.and_eq_true, Bool.and_eq_false_imp] at hc4
      refine wp_skip ?_
      refine hK8 _ _ ?_; clear hK8
      refine wp_seq_k fun K10 hK10 => ?_
      refine wp_seq_k fun K11 hK11 => ?_
      refine wp_region_lit ?_
      refine s_pu hF rfl rfl rfl (pu_assign (hF.ev rfl)) ?_; clear hF; intro a hF
      refine s_done ?_
      refine hK11 _ _ ?_; clear hK11
      refine wp_block ?_
      refine wp_ind (fun j a w => ∃ (q : Nat) (R' : List Fate), j = gn - q ∧ q ≤ gn ∧ R'.length = R.length ∧ Rel to R' ((LA ++ C).drop q) W2 ∧
        Fr a 303 [(0, .pointer (some ⟨b, 0, none⟩)), (4, .slice AG gn cG), (9, .int .i64 q)] ∧
        Sat w0 w (.obj b (.cells #[.pointer (some ⟨g, 0, none⟩), .slice AF R.length cF, .int .i64 (now + 1), .int .i64 ((C.length : Int) + W2.length - C.length), .int .i64 ((LA.length : Int) + C.length - q), .int .i64 m, .int .i64 to, .int .i64 fo] 52 (0, 0)) :: rowC 58 3 (.slice AF R.length cF) R.length (fateCells R') :: rowC 35 12 (.slice AL C.length cL) C.length (pndCells (C.map fun x => req x.i) hsL) :: rowC 35 12 (.slice AG gn cG) gn (pndCells ((LA.take gn).map fun x => req x.i) hsG) :: (messC 1 hsL (C.map fun x => req x.i) ++ (messC 1 hsG ((LA.take gn).map fun x => req x.i) ++ (tabC 1 g (tabS m to fo R.length LB W2 P' (now + 1) last') :: F))))) gn
        ⟨0, R', by omega, by omega, hRl, by simpa using hrel, hF.sub ⟨rfl, rfl, rfl, trivial⟩, by simpa using hS⟩ ?_
      clear hS hF hrel hRl hge R'
      rintro j a w ⟨q, R', rfl, hqg, hRl, hrel, hF, hS⟩
      refine wp_seq_k fun K12 hK12 => ?_
      refine wp_seq_k fun K13 hK13 => ?_
      refine wp_region_lit ?_
      refine s_pu hF rfl rfl rfl (pu_move (hF.ev rfl)) ?_; clear hF; intro a hF
      refine s_pu hF rfl rfl rfl (pu_move (hF.ev rfl)) ?_; clear hF; intro a hF
      refine s_pu hF rfl rfl rfl (pu_len sl41 (hF.ev rfl)) ?_; clear hF; intro a hF
      refine s_pu hF rfl rfl rfl (pu_lss (hF.ev rfl) (hF.ev rfl)) ?_; clear hF; intro a hF
      refine s_done ?_
      refine hK13 _ _ ?_; clear hK13
      refine wp_cond_split (hF.ev rfl) (fun hc5 => ?_) (fun hc5 => ?_)
      · -- cond 5 true
        try simp only [decide_eq_true_eq, decide_eq_false_iff_not, Bool.not_eq_true', Bool.not_eq_false', Int.not_lt, Int.not_le, ne_eq, Decidable.not_not, Bool.or_eq_true, Bool.or_eq_false_iff, Bool.and_eq_true, Bool.and_eq_false_imp] at hc5
        have hqg2 : q < gn := by omega
        obtain ⟨y, hy⟩ : ∃ y, LA[q]? = some y := ⟨LA[q]'(by omega), List.getElem?_eq_getElem _⟩
        have hym := List.mem_of_getElem? hy
        have hyb := hA0 y (by simp [hym])
        have hyl := h.ok.late y hym
        have hyD : (LA ++ C).drop q = y :: (LA ++ C).drop (q + 1) := by
          have h1 : (LA ++ C)[q]? = some y := by rw [List.getElem?_append_left (by omega)]; exact hy
          obtain ⟨h2, h3⟩ := List.getElem?_eq_some_iff.1 h1
          rw [List.drop_eq_getElem_cons h2, h3]
        have hyR := hrel.rl y (by rw [hyD]; simp)
        have hyn := hnx y (by simp [hym])
        have hwhy := T.why q y hy hqg2
        have hidq : (((LA ++ C).drop q ++ W2).map Lv.i).Pairwise (· < ·) := by
          have h1 := hids
          rw [← List.append_assoc] at h1
          exact h1.sublist (((List.drop_sublist q _).append (List.Sublist.refl _)).map _)
        have hxG : ((LA.take gn).map fun x => req x.i)[q]? = some (req y.i) := by rw [List.getElem?_map, List.getElem?_take, if_pos hqg2, hy]; rfl
        obtain ⟨px, hpx⟩ : ∃ px, hsG[q]? = some px := ⟨hsG[q]'(by omega), List.getElem?_eq_getElem _⟩
        obtain ⟨gB, rfl⟩ := row_some (i := 3) hS rfl (by omega)
        obtain ⟨gA, rfl⟩ := row_some (i := 1) hS rfl (by omega)
        have hnth : ∀ c0 c1 c2 c3, nth (c0 :: c1 :: c2 :: c3 :: (messC 1 hsL (C.map fun x => req x.i) ++ (messC 1 hsG ((LA.take gn).map fun x => req x.i) ++ (tabC 1 g (tabS m to fo R.length LB W2 P' (now + 1) last') :: F)))) (C.length + q + 4) = some (mesC 1 px (req y.i)) := fun _ _ _ _ => by
          have h1 := nth_app (messC 1 hsL (C.map fun x => req x.i)) (messC 1 hsG ((LA.take gn).map fun x => req x.i) ++ (tabC 1 g (tabS m to fo R.length LB W2 P' (now + 1) last') :: F)) q
          rw [hmL] at h1
          exact h1.trans (nth_mess hxG hpx)
        obtain ⟨B1, m1, B2, m2, rfl⟩ := mes_val (hS.front _ (hnth _ _ _ _))
        refine wp_skip ?_
        refine hK12 _ _ ?_; clear hK12
        refine wp_seq_k fun K14 hK14 => ?_
        refine wp_block ?_
        refine wp_seq_k fun K15 hK15 => ?_
        refine wp_region_lit ?_
        refine s_pu hF rfl rfl rfl (pu_move (hF.ev rfl)) ?_; clear hF; intro a hF
        refine s_pu hF rfl rfl rfl (pu_move (hF.ev rfl)) ?_; clear hF; intro a hF
        refine s_pu hF rfl rfl rfl ((by exact pu_elem sl41 (hF.ev rfl) (hF.ev rfl) (by omega) (by omega))) ?_; clear hF; intro a hF
        refine s_pu hF rfl rfl rfl ((by exact pu_field fd35_3 (hF.ev rfl))) ?_; clear hF; intro a hF
        refine s_rd hF rfl rfl rfl (rd_load pl3 (hF.ev rfl) (row_load (i := 3) hS rfl (by omega) (pndCells_at hxG hpx) 7 _ rfl)) ?_; clear hF; intro a hF
        have hyN : (req y.i).number = (y.i : Int) := rfl
        rw [hyN] at hF
        refine s_pu hF rfl rfl rfl (pu_assign (hF.ev rfl)) ?_; clear hF; intro a hF
        refine s_done ?_
        refine hK15 _ _ ?_; clear hK15
        refine wp_seq_k fun K16 hK16 => ?_
        refine wp_seq_k fun K17 hK17 => ?_
        refine d_start (S := (fun w => Sat w0 w _)) (ds := []) (ord := [(0, .pu), (1, .pu), (2, .pu), (3, .pu), (4, .pu), (5, .pu), (6, .pu), (7, .tk), (8, .pu), (9, .pu), (10, .pu), (11, .pu), (12, .pu), (13, .pu), (14, .pu), (15, .tk), (16, .pu), (17, .pu), (18, .pu), (19, .tk), (20, .pu), (21, .pu), (22, .pu), (23, .pu), (24, .pu), (25, .tk), (26, .pu), (27, .pu), (28, .pu), (29, .tk), (30, .pu), (31, .pu), (32, .pu), (33, .pu), (34, .pu), (35, .pu), (36, .tk), (37, .pu), (38, .pu), (39, .pu), (40, .tk), (41, .pu), (42, .pu), (43, .pu), (44, .tk), (45, .pu), (46, .pu)]) mixed ⟨by kernel_rfl, fun _ d _ _ _ h => by cases d <;> exact h⟩ hS.drew fun hD => ?_
        replace hS := hS.drew; generalize w.drew = w at hS ⊢
        refine d_pu hD hF rfl rfl rfl rfl rfl (pu_move (hF.ev rfl)) ?_; clear hF; intro a hF
        refine d_pu hD hF rfl rfl rfl rfl rfl (pu_lss (hF.ev rfl) (hF.ev rfl)) ?_; clear hF; intro a hF
        refine d_pu hD hF rfl rfl rfl rfl rfl (pu_move (hF.ev rfl)) ?_; clear hF; intro a hF
        refine fr_split hF (t := 123) rfl ?_ ?_
        · clear hF; intro hg123 hF   -- slot 123 true
          try simp only [decide_eq_true_eq, decide_eq_false_iff_not, Bool.not_eq_true', Bool.not_eq_false', Int.not_lt, Int.not_le, ne_eq, Decidable.not_not, Bool.or_eq_true, Bool.or_eq_false_iff, Bool.and_eq_true, Bool.and_eq_false_imp] at hg123
          omega
        · clear hF; intro hg123 hF   -- slot 123 false
          try simp only [decide_eq_true_eq, decide_eq_false_iff_not, Bool.not_eq_true', Bool.not_eq_false', Int.not_lt, Int.not_le, ne_eq, Decidable.not_not, Bool.or_eq_true, Bool.or_eq_false_iff, Bool.and_eq_true, Bool.and_eq_false_imp] at hg123
          refine d_pu hD hF rfl rfl rfl rfl rfl (pu_move (hF.ev rfl)) ?_; clear hF; intro a hF
          refine d_pu hD hF rfl rfl rfl rfl rfl (pu_move (hF.ev rfl)) ?_; clear hF; intro a hF
          refine d_pu hD hF rfl rfl rfl rfl rfl ((by exact pu_nil (hF.ev rfl))) ?_; clear hF; intro a hF
          refine d_pu hD hF rfl rfl rfl rfl rfl ((by exact pu_field fd52_1 (hF.ev rfl))) ?_; clear hF; intro a hF
          refine d_rd hD hF rfl rfl rfl rfl rfl hS (fun w hS => (by exact rd_load pl50 (hF.ev rfl) (hS.cellL (i := 0) rfl rfl))) ?_; clear hF; intro a hF
          refine d_pu hD hF rfl rfl rfl rfl rfl (pu_len sl50 (hF.ev rfl)) ?_; clear hF; intro a hF
          refine d_pu hD hF rfl rfl rfl rfl rfl (pu_geq (hF.ev rfl) (hF.ev rfl)) ?_; clear hF; intro a hF
          refine d_pu hD hF rfl rfl rfl rfl rfl ((by exact pu_pick_f (hF.ev rfl) (hF.ev rfl))) ?_; clear hF; intro a hF
          refine d_pu hD hF rfl rfl rfl rfl rfl (pu_move (hF.ev rfl)) ?_; clear hF; intro a hF
          refine fr_split hF (t := 132) rfl ?_ ?_
          · clear hF; intro hg132 hF   -- slot 132 true
            try simp only [decide_eq_true_eq, decide_eq_false_iff_not, Bool.not_eq_true', Bool.not_eq_false', Int.not_lt, Int.not_le, ne_eq, Decidable.not_not, Bool.or_eq_true, Bool.or_eq_false_iff, Bool.and_eq_true, Bool.and_eq_false_imp] at hg132
            omega
          · clear hF; intro hg132 hF   -- slot 132 false
            try simp only [decide_eq_true_eq, decide_eq_false_iff_not, Bool.not_eq_true', Bool.not_eq_false', Int.not_lt, Int.not_le, ne_eq, Decidable.not_not, Bool.or_eq_true, Bool.or_eq_false_iff, Bool.and_eq_true, Bool.and_eq_false_imp] at hg132
            refine d_pu hD hF rfl rfl rfl rfl rfl (pu_move (hF.ev rfl)) ?_; clear hF; intro a hF
            refine d_pu hD hF rfl rfl rfl rfl rfl ((by exact pu_nil (hF.ev rfl))) ?_; clear hF; intro a hF
            refine d_pu hD hF rfl rfl rfl rfl rfl ((by exact pu_field fd52_1 (hF.ev rfl))) ?_; clear hF; intro a hF
            refine d_rd hD hF rfl rfl rfl rfl rfl hS (fun w hS => (by exact rd_load pl50 (hF.ev rfl) (hS.cellL (i := 0) rfl rfl))) ?_; clear hF; intro a hF
            refine d_pu hD hF rfl rfl rfl rfl rfl (pu_move (hF.ev rfl)) ?_; clear hF; intro a hF
            refine d_pu hD hF rfl rfl rfl rfl rfl ((by exact pu_elem sl50 (hF.ev rfl) (hF.ev rfl) (by omega) (by omega))) ?_; clear hF; intro a hF
            refine d_pu hD hF rfl rfl rfl rfl rfl ((by exact pu_field fd58_2 (hF.ev rfl))) ?_; clear hF; intro a hF
            refine d_rd hD hF rfl rfl rfl rfl rfl hS (fun w hS => rd_load pl4 (hF.ev rfl) (row_load (i := 1) hS rfl (by omega) (fate_at hyR) 2 _ rfl)) ?_; clear hF; intro a hF
            refine d_pu hD hF rfl rfl rfl rfl rfl ((by exact pu_pick_f (hF.ev rfl) (hF.ev rfl))) ?_; clear hF; intro a hF
            refine d_pu hD hF rfl rfl rfl rfl rfl (pu_move (hF.ev rfl)) ?_; clear hF; intro a hF
            refine d_pu hD hF rfl rfl rfl rfl rfl (pu_move (hF.ev rfl)) ?_; clear hF; intro a hF
            refine d_pu hD hF rfl rfl rfl rfl rfl ((by exact pu_nil (hF.ev rfl))) ?_; clear hF; intro a hF
            refine d_pu hD hF rfl rfl rfl rfl rfl ((by exact pu_field fd52_1 (hF.ev rfl))) ?_; clear hF; intro a hF
            refine d_rd hD hF rfl rfl rfl rfl rfl hS (fun w hS => (by exact rd_load pl50 (hF.ev rfl) (hS.cellL (i := 0) rfl rfl))) ?_; clear hF; intro a hF
            refine d_pu hD hF rfl rfl rfl rfl rfl (pu_move (hF.ev rfl)) ?_; clear hF; intro a hF
            refine d_pu hD hF rfl rfl rfl rfl rfl ((by exact pu_elem sl50 (hF.ev rfl) (hF.ev rfl) (by omega) (by omega))) ?_; clear hF; intro a hF
            refine d_pu hD hF rfl rfl rfl rfl rfl ((by exact pu_field fd58_1 (hF.ev rfl))) ?_; clear hF; intro a hF
            refine d_rd hD hF rfl rfl rfl rfl rfl hS (fun w hS => rd_load pl3 (hF.ev rfl) (row_load (i := 1) hS rfl (by omega) (fate_at hyR) 1 (.int .i64 (y.a + to)) rfl)) ?_; clear hF; intro a hF
            refine d_pu hD hF rfl rfl rfl rfl rfl (pu_eql (hF.ev rfl) (hF.ev rfl)) ?_; clear hF; intro a hF
            refine d_pu hD hF rfl rfl rfl rfl rfl ((by exact pu_pick_f (hF.ev rfl) (hF.ev rfl))) ?_; clear hF; intro a hF
            refine d_pu hD hF rfl rfl rfl rfl rfl (pu_move (hF.ev rfl)) ?_; clear hF; intro a hF
            refine fr_split hF (t := 153) rfl ?_ ?_
            · clear hF; intro hg153 hF   -- slot 153 true
              try simp only [decide_eq_true_eq, decide_eq_false_iff_not, Bool.not_eq_true', Bool.not_eq_false', Int.not_lt, Int.not_le, ne_eq, Decidable.not_not, Bool.or_eq_true, Bool.or_eq_false_iff, Bool.and_eq_true, Bool.and_eq_false_imp] at hg153
              omega
            · clear hF; intro hg153 hF   -- slot 153 false
              try simp only [decide_eq_true_eq, decide_eq_false_iff_not, Bool.not_eq_true', Bool.not_eq_false', Int.not_lt, Int.not_le, ne_eq, Decidable.not_not, Bool.or_eq_true, Bool.or_eq_false_iff, Bool.and_eq_true, Bool.and_eq_false_imp] at hg153
              refine d_pu hD hF rfl rfl rfl rfl rfl (pu_move (hF.ev rfl)) ?_; clear hF; intro a hF
              refine d_pu hD hF rfl rfl rfl rfl rfl ((by exact pu_nil (hF.ev rfl))) ?_; clear hF; intro a hF
              refine d_pu hD hF rfl rfl rfl rfl rfl ((by exact pu_field fd52_1 (hF.ev rfl))) ?_; clear hF; intro a hF
              refine d_rd hD hF rfl rfl rfl rfl rfl hS (fun w hS => (by exact rd_load pl50 (hF.ev rfl) (hS.cellL (i := 0) rfl rfl))) ?_; clear hF; intro a hF
              refine d_pu hD hF rfl rfl rfl rfl rfl (pu_move (hF.ev rfl)) ?_; clear hF; intro a hF
              refine d_pu hD hF rfl rfl rfl rfl rfl ((by exact pu_elem sl50 (hF.ev rfl) (hF.ev rfl) (by omega) (by omega))) ?_; clear hF; intro a hF
              refine d_pu hD hF rfl rfl rfl rfl rfl ((by exact pu_field fd58_1 (hF.ev rfl))) ?_; clear hF; intro a hF
              refine d_rd hD hF rfl rfl rfl rfl rfl hS (fun w hS => rd_load pl3 (hF.ev rfl) (row_load (i := 1) hS rfl (by omega) (fate_at hyR) 1 (.int .i64 (y.a + to)) rfl)) ?_; clear hF; intro a hF
              refine d_pu hD hF rfl rfl rfl rfl rfl (pu_move (hF.ev rfl)) ?_; clear hF; intro a hF
              refine d_pu hD hF rfl rfl rfl rfl rfl ((by exact pu_nil (hF.ev rfl))) ?_; clear hF; intro a hF
              refine d_pu hD hF rfl rfl rfl rfl rfl ((by exact pu_field fd52_2 (hF.ev rfl))) ?_; clear hF; intro a hF
              refine d_rd hD hF rfl rfl rfl rfl rfl hS (fun w hS => (by exact rd_load pl3 (hF.ev rfl) (hS.cellL (i := 0) rfl rfl))) ?_; clear hF; intro a hF
              refine d_pu hD hF rfl rfl rfl rfl rfl (pu_eql (hF.ev rfl) (hF.ev rfl)) ?_; clear hF; intro a hF
              refine d_pu hD hF rfl rfl rfl rfl rfl ((by exact pu_pick_f (hF.ev rfl) (hF.ev rfl))) ?_; clear hF; intro a hF
              refine d_done hD rfl ?_; clear hD
              refine hK17 _ _ ?_; clear hK17
              refine wp_cond_split (hF.ev rfl) (fun hc6 => ?_) (fun hc6 => ?_)
              · -- cond 6 true
                try simp only [decide_eq_true_eq, decide_eq_false_iff_not, Bool.not_eq_true', Bool.not_eq_false', Int.not_lt, Int.not_le, ne_eq, Decidable.not_not, Bool.or_eq_true, Bool.or_eq_false_iff, Bool.and_eq_true, Bool.and_eq_false_imp] at hc6
                omega
              · -- cond 6 false
                try simp only [decide_eq_true_eq, decide_eq_false_iff_not, Bool.not_eq_true', Bool.not_eq_false', Int.not_lt, Int.not_le, ne_eq, Decidable.not_not, Bool.or_eq_true, Bool.or_eq_false_iff, Bool.and_eq_true, Bool.and_eq_false_imp] at hc6
                refine wp_skip ?_
                refine hK16 _ _ ?_; clear hK16
                refine wp_seq_k fun K18 hK18 => ?_
                refine wp_seq_k fun K19 hK19 => ?_
                refine wp_region_lit ?_
                refine s_pu hF rfl rfl rfl (pu_assign (hF.ev rfl)) ?_; clear hF; intro a hF
                refine s_done ?_
                refine hK19 _ _ ?_; clear hK19
                refine wp_block ?_
                have hmrel := hrel
                refine wp_ind (fun j a w => ∃ (mm : Nat), j = y.i - mm ∧ mm ≤ y.i ∧
                  Fr a 303 [(0, .pointer (some ⟨b, 0, none⟩)), (4, .slice (some ⟨gB, 0, none⟩) gn cG), (9, .int .i64 q), (10, .int .i64 y.i), (11, .int .i64 mm)] ∧
                  Sat w0 w (.obj b (.cells #[.pointer (some ⟨g, 0, none⟩), .slice (some ⟨gA, 0, none⟩) R.length cF, .int .i64 (now + 1), .int .i64 ((C.length : Int) + W2.length - C.length), .int .i64 ((LA.length : Int) + C.length - q), .int .i64 m, .int .i64 to, .int .i64 fo] 52 (0, 0)) :: rowC 58 3 (.slice (some ⟨gA, 0, none⟩) R.length cF) R.length (fateCells R') :: rowC 35 12 (.slice AL C.length cL) C.length (pndCells (C.map fun x => req x.i) hsL) :: rowC 35 12 (.slice (some ⟨gB, 0, none⟩) gn cG) gn (pndCells ((LA.take gn).map fun x => req x.i) hsG) :: (messC 1 hsL (C.map fun x => req x.i) ++ (messC 1 hsG ((LA.take gn).map fun x => req x.i) ++ (tabC 1 g (tabS m to fo R.length LB W2 P' (now + 1) last') :: F))))) y.i
                  ⟨0, by omega, by omega, hF.sub ⟨rfl, rfl, rfl, rfl, rfl, trivial⟩, hS⟩ ?_
                clear hS hF
                rintro j a w ⟨mm, rfl, hmm2, hF, hS⟩
                refine wp_seq_k fun K20 hK20 => ?_
                refine wp_seq_k fun K21 hK21 => ?_
                refine wp_region_lit ?_
                refine s_pu hF rfl rfl rfl (pu_move (hF.ev rfl)) ?_; clear hF; intro a hF
                refine s_pu hF rfl rfl rfl (pu_move (hF.ev rfl)) ?_; clear hF; intro a hF
                refine s_pu hF rfl rfl rfl (pu_lss (hF.ev rfl) (hF.ev rfl)) ?_; clear hF; intro a hF
                refine s_done ?_
                refine hK21 _ _ ?_; clear hK21
                refine wp_cond_split (hF.ev rfl) (fun hc7 => ?_) (fun hc7 => ?_)
                · -- cond 7 true
                  try simp only [decide_eq_true_eq, decide_eq_false_iff_not, Bool.not_eq_true', Bool.not_eq_false', Int.not_lt, Int.not_le, ne_eq, Decidable.not_not, Bool.or_eq_true, Bool.or_eq_false_iff, Bool.and_eq_true, Bool.and_eq_false_imp] at hc7
                  have hmy : mm < y.i := by omega
                  obtain ⟨f2, hf2⟩ : ∃ f2, R'[mm]? = some f2 := ⟨R'[mm]'(by omega), List.getElem?_eq_getElem _⟩
                  have hcase2 : (∃ fa fl, f2 = ⟨fa, fl, true⟩) ∨ (∃ x, f2 = ⟨x, 0, false⟩) := by
                    cases hfo2 : f2.out with
                    | true => exact .inl ⟨f2.added, f2.late, by rw [← hfo2]⟩
                    | false =>
                      obtain ⟨x, hx1, hxn⟩ := hrel.all mm f2 hf2 hfo2
                      rcases List.mem_append.1 hx1 with hx1 | hx1
                      · exfalso
                        rw [hyD] at hx1 hidq
                        rcases List.mem_cons.1 hx1 with rfl | hx1
                        · omega
                        · rw [List.cons_append, List.map_cons, List.pairwise_cons] at hidq
                          have := hidq.1 x.i (List.mem_map_of_mem (by simp only [List.mem_append]; exact .inl hx1))
                          omega
                      · have := hrel.rw x hx1
                        rw [hxn, hf2] at this
                        injection this with this
                        exact .inr ⟨x.a, this⟩
                  refine wp_skip ?_
                  refine hK20 _ _ ?_; clear hK20
                  refine wp_seq_k fun K22 hK22 => ?_
                  refine wp_block ?_
                  refine wp_seq_k fun K23 hK23 => ?_
                  rcases hcase2 with ⟨fa, fl, rfl⟩ | ⟨xa, rfl⟩
                  · -- io
                    refine d_start (S := (fun w => Sat w0 w _)) (ds := []) (ord := [(0, .pu), (1, .pu), (2, .pu), (3, .tk), (4, .pu), (5, .pu), (6, .pu), (7, .tk), (8, .pu), (9, .pu), (10, .pu), (11, .pu), (12, .pu), (13, .tk), (14, .pu), (15, .pu), (16, .pu), (17, .tk), (18, .pu), (19, .pu), (20, .pu), (21, .pu), (22, .pu), (23, .pu), (24, .tk), (25, .pu), (26, .pu), (27, .pu), (28, .tk), (29, .pu), (30, .pu), (31, .pu), (32, .tk), (33, .pu), (34, .pu), (35, .pu), (36, .tk), (37, .pu), (38, .pu)]) mixed ⟨by kernel_rfl, fun _ d _ _ _ h => by cases d <;> exact h⟩ hS.drew fun hD => ?_
                    replace hS := hS.drew; generalize w.drew = w at hS ⊢
                    refine d_pu hD hF rfl rfl rfl rfl rfl (pu_move (hF.ev rfl)) ?_; clear hF; intro a hF
                    refine d_pu hD hF rfl rfl rfl rfl rfl ((by exact pu_nil (hF.ev rfl))) ?_; clear hF; intro a hF
                    refine d_pu hD hF rfl rfl rfl rfl rfl ((by exact pu_field fd52_1 (hF.ev rfl))) ?_; clear hF; intro a hF
                    refine d_rd hD hF rfl rfl rfl rfl rfl hS (fun w hS => (by exact rd_load pl50 (hF.ev rfl) (hS.cellL (i := 0) rfl rfl))) ?_; clear hF; intro a hF
                    refine d_pu hD hF rfl rfl rfl rfl rfl (pu_move (hF.ev rfl)) ?_; clear hF; intro a hF
                    refine d_pu hD hF rfl rfl rfl rfl rfl ((by exact pu_elem sl50 (hF.ev rfl) (hF.ev rfl) (by omega) (by omega))) ?_; clear hF; intro a hF
                    refine d_pu hD hF rfl rfl rfl rfl rfl ((by exact pu_field fd58_2 (hF.ev rfl))) ?_; clear hF; intro a hF
                    refine d_rd hD hF rfl rfl rfl rfl rfl hS (fun w hS => rd_load pl4 (hF.ev rfl) (row_load (i := 1) hS rfl (by omega) (fate_at hf2) 2 _ rfl)) ?_; clear hF; intro a hF
                    refine d_pu hD hF rfl rfl rfl rfl rfl (pu_not (hF.ev rfl)) ?_; clear hF; intro a hF
                    refine d_pu hD hF rfl rfl rfl rfl rfl (pu_move (hF.ev rfl)) ?_; clear hF; intro a hF
                    refine d_no hD hF rfl rfl rfl rfl rfl ?_; clear hF; intro a hF
                    refine d_no hD hF rfl rfl rfl rfl rfl ?_; clear hF; intro a hF
                    refine d_no hD hF rfl rfl rfl rfl rfl ?_; clear hF; intro a hF
                    refine d_nord hD hF rfl rfl rfl rfl rfl hS ?_; clear hF; intro a hF
                    refine d_no hD hF rfl rfl rfl rfl rfl ?_; clear hF; intro a hF
                    refine d_no hD hF rfl rfl rfl rfl rfl ?_; clear hF; intro a hF
                    refine d_no hD hF rfl rfl rfl rfl rfl ?_; clear hF; intro a hF
                    refine d_nord hD hF rfl rfl rfl rfl rfl hS ?_; clear hF; intro a hF
                    refine d_no hD hF rfl rfl rfl rfl rfl ?_; clear hF; intro a hF
                    refine d_pu hD hF rfl rfl rfl rfl rfl ((by exact pu_pick_f (hF.ev rfl) (hF.ev rfl))) ?_; clear hF; intro a hF
                    refine d_pu hD hF rfl rfl rfl rfl rfl (pu_move (hF.ev rfl)) ?_; clear hF; intro a hF
                    refine d_no hD hF rfl rfl rfl rfl rfl ?_; clear hF; intro a hF
                    refine d_no hD hF rfl rfl rfl rfl rfl ?_; clear hF; intro a hF
                    refine d_no hD hF rfl rfl rfl rfl rfl ?_; clear hF; intro a hF
                    refine d_nord hD hF rfl rfl rfl rfl rfl hS ?_; clear hF; intro a hF
                    refine d_no hD hF rfl rfl rfl rfl rfl ?_; clear hF; intro a hF
                    refine d_no hD hF rfl rfl rfl rfl rfl ?_; clear hF; intro a hF
                    refine d_no hD hF rfl rfl rfl rfl rfl ?_; clear hF; intro a hF
                    refine d_nord hD hF rfl rfl rfl rfl rfl hS ?_; clear hF; intro a hF
                    refine d_no hD hF rfl rfl rfl rfl rfl ?_; clear hF; intro a hF
                    refine d_no hD hF rfl rfl rfl rfl rfl ?_; clear hF; intro a hF
                    refine d_no hD hF rfl rfl rfl rfl rfl ?_; clear hF; intro a hF
                    refine d_nord hD hF rfl rfl rfl rfl rfl hS ?_; clear hF; intro a hF
                    refine d_no hD hF rfl rfl rfl rfl rfl ?_; clear hF; intro a hF
                    refine d_no hD hF rfl rfl rfl rfl rfl ?_; clear hF; intro a hF
                    refine d_no hD hF rfl rfl rfl rfl rfl ?_; clear hF; intro a hF
                    refine d_nord hD hF rfl rfl rfl rfl rfl hS ?_; clear hF; intro a hF
                    refine d_no hD hF rfl rfl rfl rfl rfl ?_; clear hF; intro a hF
                    refine d_pu hD hF rfl rfl rfl rfl rfl ((by exact pu_pick_f (hF.ev rfl) (hF.ev rfl))) ?_; clear hF; intro a hF
                    refine d_done hD rfl ?_; clear hD
                    refine hK23 _ _ ?_; clear hK23
                    refine wp_cond_false (hF.ev rfl) ?_
                    refine wp_skip ?_
                    refine blk_normal ?_
                    refine hK22 _ _ ?_; clear hK22
                    refine wp_region_lit ?_
                    refine s_pu hF rfl rfl rfl (pu_move (hF.ev rfl)) ?_; clear hF; intro a hF
                    refine s_pu hF rfl rfl rfl ((by exact pu_add64 (hF.ev rfl) (hF.ev rfl) (by omega))) ?_; clear hF; intro a hF
                    refine s_pu hF rfl rfl rfl (pu_assign (hF.ev rfl)) ?_; clear hF; intro a hF
                    refine s_done ?_
                    exact ⟨_, by omega, mm + 1, rfl, by omega, hF.sub ⟨rfl, rfl, rfl, rfl, rfl, trivial⟩, hS⟩
                  · -- iw
                    refine d_start (S := (fun w => Sat w0 w _)) (ds := []) (ord := [(0, .pu), (1, .pu), (2, .pu), (3, .tk), (4, .pu), (5, .pu), (6, .pu), (7, .tk), (8, .pu), (9, .pu), (10, .pu), (11, .pu), (12, .pu), (13, .tk), (14, .pu), (15, .pu), (16, .pu), (17, .tk), (18, .pu), (19, .pu), (20, .pu), (21, .pu), (22, .pu), (23, .pu), (24, .tk), (25, .pu), (26, .pu), (27, .pu), (28, .tk), (29, .pu), (30, .pu), (31, .pu), (32, .tk), (33, .pu), (34, .pu), (35, .pu), (36, .tk), (37, .pu), (38, .pu)]) mixed ⟨by kernel_rfl, fun _ d _ _ _ h => by cases d <;> exact h⟩ hS.drew fun hD => ?_
                    replace hS := hS.drew; generalize w.drew = w at hS ⊢
                    refine d_pu hD hF rfl rfl rfl rfl rfl (pu_move (hF.ev rfl)) ?_; clear hF; intro a hF
                    refine d_pu hD hF rfl rfl rfl rfl rfl ((by exact pu_nil (hF.ev rfl))) ?_; clear hF; intro a hF
                    refine d_pu hD hF rfl rfl rfl rfl rfl ((by exact pu_field fd52_1 (hF.ev rfl))) ?_; clear hF; intro a hF
                    refine d_rd hD hF rfl rfl rfl rfl rfl hS (fun w hS => (by exact rd_load pl50 (hF.ev rfl) (hS.cellL (i := 0) rfl rfl))) ?_; clear hF; intro a hF
                    refine d_pu hD hF rfl rfl rfl rfl rfl (pu_move (hF.ev rfl)) ?_; clear hF; intro a hF
                    refine d_pu hD hF rfl rfl rfl rfl rfl ((by exact pu_elem sl50 (hF.ev rfl) (hF.ev rfl) (by omega) (by omega))) ?_; clear hF; intro a hF
                    refine d_pu hD hF rfl rfl rfl rfl rfl ((by exact pu_field fd58_2 (hF.ev rfl))) ?_; clear hF; intro a hF
                    refine d_rd hD hF rfl rfl rfl rfl rfl hS (fun w hS => rd_load pl4 (hF.ev rfl) (row_load (i := 1) hS rfl (by omega) (fate_at hf2) 2 _ rfl)) ?_; clear hF; intro a hF
                    refine d_pu hD hF rfl rfl rfl rfl rfl (pu_not (hF.ev rfl)) ?_; clear hF; intro a hF
                    refine d_pu hD hF rfl rfl rfl rfl rfl (pu_move (hF.ev rfl)) ?_; clear hF; intro a hF
                    refine d_pu hD hF rfl rfl rfl rfl rfl (pu_move (hF.ev rfl)) ?_; clear hF; intro a hF
                    refine d_pu hD hF rfl rfl rfl rfl rfl ((by exact pu_nil (hF.ev rfl))) ?_; clear hF; intro a hF
                    refine d_pu hD hF rfl rfl rfl rfl rfl ((by exact pu_field fd52_1 (hF.ev rfl))) ?_; clear hF; intro a hF
                    refine d_rd hD hF rfl rfl rfl rfl rfl hS (fun w hS => (by exact rd_load pl50 (hF.ev rfl) (hS.cellL (i := 0) rfl rfl))) ?_; clear hF; intro a hF
                    refine d_pu hD hF rfl rfl rfl rfl rfl (pu_move (hF.ev rfl)) ?_; clear hF; intro a hF
                    refine d_pu hD hF rfl rfl rfl rfl rfl ((by exact pu_elem sl50 (hF.ev rfl) (hF.ev rfl) (by omega) (by omega))) ?_; clear hF; intro a hF
                    refine d_pu hD hF rfl rfl rfl rfl rfl ((by exact pu_field fd58_1 (hF.ev rfl))) ?_; clear hF; intro a hF
                    refine d_rd hD hF rfl rfl rfl rfl rfl hS (fun w hS => rd_load pl3 (hF.ev rfl) (row_load (i := 1) hS rfl (by omega) (fate_at hf2) 1 _ rfl)) ?_; clear hF; intro a hF
                    refine d_pu hD hF rfl rfl rfl rfl rfl (pu_gtr (hF.ev rfl) (hF.ev rfl)) ?_; clear hF; intro a hF
                    refine d_pu hD hF rfl rfl rfl rfl rfl ((by exact pu_pick_t (hF.ev rfl) (hF.ev rfl))) ?_; clear hF; intro a hF
                    refine d_pu hD hF rfl rfl rfl rfl rfl (pu_move (hF.ev rfl)) ?_; clear hF; intro a hF
                    refine d_no hD hF rfl rfl rfl rfl rfl ?_; clear hF; intro a hF
                    refine d_no hD hF rfl rfl rfl rfl rfl ?_; clear hF; intro a hF
                    refine d_no hD hF rfl rfl rfl rfl rfl ?_; clear hF; intro a hF
                    refine d_nord hD hF rfl rfl rfl rfl rfl hS ?_; clear hF; intro a hF
                    refine d_no hD hF rfl rfl rfl rfl rfl ?_; clear hF; intro a hF
                    refine d_no hD hF rfl rfl rfl rfl rfl ?_; clear hF; intro a hF
                    refine d_no hD hF rfl rfl rfl rfl rfl ?_; clear hF; intro a hF
                    refine d_nord hD hF rfl rfl rfl rfl rfl hS ?_; clear hF; intro a hF
                    refine d_no hD hF rfl rfl rfl rfl rfl ?_; clear hF; intro a hF
                    refine d_no hD hF rfl rfl rfl rfl rfl ?_; clear hF; intro a hF
                    refine d_no hD hF rfl rfl rfl rfl rfl ?_; clear hF; intro a hF
                    refine d_nord hD hF rfl rfl rfl rfl rfl hS ?_; clear hF; intro a hF
                    refine d_no hD hF rfl rfl rfl rfl rfl ?_; clear hF; intro a hF
                    refine d_no hD hF rfl rfl rfl rfl rfl ?_; clear hF; intro a hF
                    refine d_no hD hF rfl rfl rfl rfl rfl ?_; clear hF; intro a hF
                    refine d_nord hD hF rfl rfl rfl rfl rfl hS ?_; clear hF; intro a hF
                    refine d_no hD hF rfl rfl rfl rfl rfl ?_; clear hF; intro a hF
                    refine d_pu hD hF rfl rfl rfl rfl rfl ((by exact pu_pick_f (hF.ev rfl) (hF.ev rfl))) ?_; clear hF; intro a hF
                    refine d_done hD rfl ?_; clear hD
                    refine hK23 _ _ ?_; clear hK23
                    refine wp_cond_false (hF.ev rfl) ?_
                    refine wp_skip ?_
                    refine blk_normal ?_
                    refine hK22 _ _ ?_; clear hK22
                    refine wp_region_lit ?_
                    refine s_pu hF rfl rfl rfl (pu_move (hF.ev rfl)) ?_; clear hF; intro a hF
                    refine s_pu hF rfl rfl rfl ((by exact pu_add64 (hF.ev rfl) (hF.ev rfl) (by omega))) ?_; clear hF; intro a hF
                    refine s_pu hF rfl rfl rfl (pu_assign (hF.ev rfl)) ?_; clear hF; intro a hF
                    refine s_done ?_
                    exact ⟨_, by omega, mm + 1, rfl, by omega, hF.sub ⟨rfl, rfl, rfl, rfl, rfl, trivial⟩, hS⟩
                · -- cond 7 false
                  try simp only [decide_eq_true_eq, decide_eq_false_iff_not, Bool.not_eq_true', Bool.not_eq_false', Int.not_lt, Int.not_le, ne_eq, Decidable.not_not, Bool.or_eq_true, Bool.or_eq_false_iff, Bool.and_eq_true, Bool.and_eq_false_imp] at hc7
                  refine wp_exit ?_
                  refine then_exit ?_
                  refine then_exit ?_
                  refine blk_exit ?_
                  refine hK18 _ _ ?_; clear hK18
                  refine wp_seq_k fun K22 hK22 => ?_
                  refine wp_region_lit ?_
                  refine s_pu hF rfl rfl rfl (pu_move (hF.ev rfl)) ?_; clear hF; intro a hF
                  refine s_pu hF rfl rfl rfl (pu_move (hF.ev rfl)) ?_; clear hF; intro a hF
                  refine s_pu hF rfl rfl rfl ((by exact pu_elem sl41 (hF.ev rfl) (hF.ev rfl) (by omega) (by omega))) ?_; clear hF; intro a hF
                  refine s_rd hF rfl rfl rfl (rd_loadN ag35 (hF.ev rfl) rfl (row_load (i := 3) hS rfl (by omega) (pndCells_at hxG hpx))) ?_; clear hF; intro a hF
                  refine s_pu hF rfl rfl rfl (pu_move (hF.ev rfl)) ?_; clear hF; intro a hF
                  refine s_en hF rfl rfl rfl (run_fn fk13 (hF.ev rfl) (hF.evs rfl)) (at_place (C.length + q + 4) hS (hnth _ _ _ _) (fun h => its_own (n := y.i) (p := req y.i) h (by omega))) ?_
                  clear hS; rintro e w ⟨bb, rfl, hbb, hS⟩
                  obtain rfl : bb = true := hbb.2 rfl
                  replace hS := same_place (C.length + q + 4) hS (hnth _ _ _ _)
                  refine ⟨_, rfl, ?_⟩; clear hF; intro a hF
                  refine s_pu hF rfl rfl rfl (pu_assign (hF.ev rfl)) ?_; clear hF; intro a hF
                  refine s_done ?_
                  refine hK22 _ _ ?_; clear hK22
                  refine wp_seq_k fun K23 hK23 => ?_
                  refine wp_seq_k fun K24 hK24 => ?_
                  refine d_start (S := (fun w => Sat w0 w _)) (ds := []) (ord := [(0, .pu), (1, .pu), (2, .pu), (3, .pu), (4, .pu), (5, .pu), (6, .tk), (7, .pu), (8, .pu), (9, .pu), (10, .tk), (11, .pu), (12, .pu), (13, .pu), (14, .tk), (15, .pu), (16, .pu), (17, .pu), (18, .pu), (19, .tk), (20, .pu), (21, .pu), (22, .pu), (23, .pu), (24, .pu), (25, .tk), (26, .pu), (27, .pu), (28, .pu), (29, .tk), (30, .pu), (31, .pu), (32, .pu)]) mixed ⟨by kernel_rfl, fun _ d _ _ _ h => by cases d <;> exact h⟩ hS.drew fun hD => ?_
                  replace hS := hS.drew; generalize w.drew = w at hS ⊢
                  refine d_pu hD hF rfl rfl rfl rfl rfl (pu_move (hF.ev rfl)) ?_; clear hF; intro a hF
                  refine d_pu hD hF rfl rfl rfl rfl rfl (pu_not (hF.ev rfl)) ?_; clear hF; intro a hF
                  refine d_pu hD hF rfl rfl rfl rfl rfl (pu_move (hF.ev rfl)) ?_; clear hF; intro a hF
                  refine d_pu hD hF rfl rfl rfl rfl rfl (pu_move (hF.ev rfl)) ?_; clear hF; intro a hF
                  refine d_pu hD hF rfl rfl rfl rfl rfl ((by exact pu_nil (hF.ev rfl))) ?_; clear hF; intro a hF
                  refine d_pu hD hF rfl rfl rfl rfl rfl ((by exact pu_field fd52_1 (hF.ev rfl))) ?_; clear hF; intro a hF
                  refine d_rd hD hF rfl rfl rfl rfl rfl hS (fun w hS => (by exact rd_load pl50 (hF.ev rfl) (hS.cellL (i := 0) rfl rfl))) ?_; clear hF; intro a hF
                  refine d_pu hD hF rfl rfl rfl rfl rfl (pu_move (hF.ev rfl)) ?_; clear hF; intro a hF
                  refine d_pu hD hF rfl rfl rfl rfl rfl ((by exact pu_elem sl50 (hF.ev rfl) (hF.ev rfl) (by omega) (by omega))) ?_; clear hF; intro a hF
                  refine d_pu hD hF rfl rfl rfl rfl rfl ((by exact pu_field fd58_1 (hF.ev rfl))) ?_; clear hF; intro a hF
                  refine d_rd hD hF rfl rfl rfl rfl rfl hS (fun w hS => rd_load pl3 (hF.ev rfl) (row_load (i := 1) hS rfl (by omega) (fate_at hyR) 1 (.int .i64 (y.a + to)) rfl)) ?_; clear hF; intro a hF
                  refine d_pu hD hF rfl rfl rfl rfl rfl (pu_move (hF.ev rfl)) ?_; clear hF; intro a hF
                  refine d_pu hD hF rfl rfl rfl rfl rfl ((by exact pu_nil (hF.ev rfl))) ?_; clear hF; intro a hF
                  refine d_pu hD hF rfl rfl rfl rfl rfl ((by exact pu_field fd52_7 (hF.ev rfl))) ?_; clear hF; intro a hF
                  refine d_rd hD hF rfl rfl rfl rfl rfl hS (fun w hS => (by exact rd_load pl3 (hF.ev rfl) (hS.cellL (i := 0) rfl rfl))) ?_; clear hF; intro a hF
                  refine d_pu hD hF rfl rfl rfl rfl rfl ((by exact pu_add64 (hF.ev rfl) (hF.ev rfl) (by omega))) ?_; clear hF; intro a hF
                  refine d_pu hD hF rfl rfl rfl rfl rfl (pu_move (hF.ev rfl)) ?_; clear hF; intro a hF
                  refine d_pu hD hF rfl rfl rfl rfl rfl ((by exact pu_nil (hF.ev rfl))) ?_; clear hF; intro a hF
                  refine d_pu hD hF rfl rfl rfl rfl rfl ((by exact pu_field fd52_2 (hF.ev rfl))) ?_; clear hF; intro a hF
                  refine d_rd hD hF rfl rfl rfl rfl rfl hS (fun w hS => (by exact rd_load pl3 (hF.ev rfl) (hS.cellL (i := 0) rfl rfl))) ?_; clear hF; intro a hF
                  refine d_pu hD hF rfl rfl rfl rfl rfl (pu_neq (hF.ev rfl) (hF.ev rfl)) ?_; clear hF; intro a hF
                  refine d_pu hD hF rfl rfl rfl rfl rfl (pu_move (hF.ev rfl)) ?_; clear hF; intro a hF
                  refine fr_split hF (t := 239) rfl ?_ ?_
                  · clear hF; intro hg239 hF   -- slot 239 true
                    try simp only [decide_eq_true_eq, decide_eq_false_iff_not, Bool.not_eq_true', Bool.not_eq_false', Int.not_lt, Int.not_le, ne_eq, Decidable.not_not, Bool.or_eq_true, Bool.or_eq_false_iff, Bool.and_eq_true, Bool.and_eq_false_imp] at hg239
                    refine d_pu hD hF rfl rfl rfl rfl rfl (pu_move (hF.ev rfl)) ?_; clear hF; intro a hF
                    refine d_pu hD hF rfl rfl rfl rfl rfl ((by exact pu_nil (hF.ev rfl))) ?_; clear hF; intro a hF
                    refine d_pu hD hF rfl rfl rfl rfl rfl ((by exact pu_field fd52_4 (hF.ev rfl))) ?_; clear hF; intro a hF
                    refine d_rd hD hF rfl rfl rfl rfl rfl hS (fun w hS => (by exact rd_load pl3 (hF.ev rfl) (hS.cellL (i := 0) rfl rfl))) ?_; clear hF; intro a hF
                    refine d_pu hD hF rfl rfl rfl rfl rfl (pu_move (hF.ev rfl)) ?_; clear hF; intro a hF
                    refine d_pu hD hF rfl rfl rfl rfl rfl ((by exact pu_nil (hF.ev rfl))) ?_; clear hF; intro a hF
                    refine d_pu hD hF rfl rfl rfl rfl rfl ((by exact pu_field fd52_5 (hF.ev rfl))) ?_; clear hF; intro a hF
                    refine d_rd hD hF rfl rfl rfl rfl rfl hS (fun w hS => (by exact rd_load pl3 (hF.ev rfl) (hS.cellL (i := 0) rfl rfl))) ?_; clear hF; intro a hF
                    refine d_pu hD hF rfl rfl rfl rfl rfl (pu_leq (hF.ev rfl) (hF.ev rfl)) ?_; clear hF; intro a hF
                    refine d_pu hD hF rfl rfl rfl rfl rfl ((by exact pu_pick_t (hF.ev rfl) (hF.ev rfl))) ?_; clear hF; intro a hF
                    refine d_pu hD hF rfl rfl rfl rfl rfl ((by exact pu_pick_f (hF.ev rfl) (hF.ev rfl))) ?_; clear hF; intro a hF
                    refine d_done hD rfl ?_; clear hD
                    refine hK24 _ _ ?_; clear hK24
                    refine wp_cond_split (hF.ev rfl) (fun hc9 => ?_) (fun hc9 => ?_)
                    · -- cond 9 true
                      try simp only [decide_eq_true_eq, decide_eq_false_iff_not, Bool.not_eq_true', Bool.not_eq_false', Int.not_lt, Int.not_le, ne_eq, Decidable.not_not, Bool.or_eq_true, Bool.or_eq_false_iff, Bool.and_eq_true, Bool.and_eq_false_imp] at hc9
                      omega
                    · -- cond 9 false
                      try simp only [decide_eq_true_eq, decide_eq_false_iff_not, Bool.not_eq_true', Bool.not_eq_false', Int.not_lt, Int.not_le, ne_eq, Decidable.not_not, Bool.or_eq_true, Bool.or_eq_false_iff, Bool.and_eq_true, Bool.and_eq_false_imp] at hc9
                      refine wp_skip ?_
                      refine hK23 _ _ ?_; clear hK23
                      refine wp_seq_k fun K25 hK25 => ?_
                      refine wp_region_lit ?_
                      refine s_pu hF rfl rfl rfl (pu_move (hF.ev rfl)) ?_; clear hF; intro a hF
                      refine s_pu hF rfl rfl rfl ((by exact pu_nil (hF.ev rfl))) ?_; clear hF; intro a hF
                      refine s_pu hF rfl rfl rfl ((by exact pu_field fd52_1 (hF.ev rfl))) ?_; clear hF; intro a hF
                      refine s_rd hF rfl rfl rfl (by exact rd_load pl50 (hF.ev rfl) (hS.cellL (i := 0) rfl rfl)) ?_; clear hF; intro a hF
                      refine s_pu hF rfl rfl rfl (pu_move (hF.ev rfl)) ?_; clear hF; intro a hF
                      refine s_pu hF rfl rfl rfl ((by exact pu_elem sl50 (hF.ev rfl) (hF.ev rfl) (by omega) (by omega))) ?_; clear hF; intro a hF
                      refine s_pu hF rfl rfl rfl ((by exact pu_field fd58_2 (hF.ev rfl))) ?_; clear hF; intro a hF
                      refine s_rstoreF 1 (k := y.i) (f := 2) hF rfl (hF.ev rfl) (hF.ev rfl) hS rfl rfl sz4 rfl (by omega) (by omega) (by rw [fate_len]; omega) ?_; clear hS; intro w hS; (try simp only [upd, del] at hS)
                      rw [fate_set (f' := ⟨y.a, y.a + to, true⟩) hyR (by omega) rfl] at hS
                      refine s_done ?_
                      refine hK25 _ _ ?_; clear hK25
                      refine wp_region_lit ?_
                      refine s_pu hF rfl rfl rfl (pu_move (hF.ev rfl)) ?_; clear hF; intro a hF
                      refine s_pu hF rfl rfl rfl ((by exact pu_nil (hF.ev rfl))) ?_; clear hF; intro a hF
                      refine s_pu hF rfl rfl rfl ((by exact pu_field fd52_4 (hF.ev rfl))) ?_; clear hF; intro a hF
                      refine s_rd hF rfl rfl rfl (by exact rd_load pl3 (hF.ev rfl) (hS.cellL (i := 0) rfl rfl)) ?_; clear hF; intro a hF
                      refine s_pu hF rfl rfl rfl ((by exact pu_sub64 (hF.ev rfl) (hF.ev rfl) (by omega))) ?_; clear hF; intro a hF
                      refine s_pu hF rfl rfl rfl ((by exact pu_nil (hF.ev rfl))) ?_; clear hF; intro a hF
                      refine s_pu hF rfl rfl rfl ((by exact pu_field fd52_4 (hF.ev rfl))) ?_; clear hF; intro a hF
                      ((refine s_store (vs := [_]) (cs' := #[_, _, _, _, _, _, _, _]) 0 hF rfl (hF.ev rfl) (hF.ev rfl) hS rfl rfl sz3 (by rfl) (by exact Nat.le_of_ble_eq_true rfl) rfl ?_))
                      clear hS; intro w hS; (try simp only [upd, del] at hS)
                      refine s_done ?_
                      refine blk_normal ?_
                      refine hK14 _ _ ?_; clear hK14
                      refine wp_region_lit ?_
                      refine s_pu hF rfl rfl rfl (pu_move (hF.ev rfl)) ?_; clear hF; intro a hF
                      refine s_pu hF rfl rfl rfl ((by exact pu_add64 (hF.ev rfl) (hF.ev rfl) (by omega))) ?_; clear hF; intro a hF
                      refine s_pu hF rfl rfl rfl (pu_assign (hF.ev rfl)) ?_; clear hF; intro a hF
                      refine s_done ?_
                      have hrel2 : Rel to (R'.set y.i ⟨y.a, y.a + to, true⟩) ((LA ++ C).drop (q + 1)) W2 := by
                        rw [hyD] at hrel hidq
                        exact hrel.goneL (A := []) hidq rfl
                      have e1 : (LA.length : Int) + C.length - q - 1 = LA.length + C.length - ((q + 1 : Nat) : Int) := by omega
                      rw [e1] at hS
                      exact ⟨_, by omega, q + 1, R'.set y.i ⟨y.a, y.a + to, true⟩, rfl, by omega, by simpa using hRl, hrel2, hF.sub ⟨rfl, rfl, rfl, trivial⟩, hS⟩
                  · clear hF; intro hg239 hF   -- slot 239 false
                    try simp only [decide_eq_true_eq, decide_eq_false_iff_not, Bool.not_eq_true', Bool.not_eq_false', Int.not_lt, Int.not_le, ne_eq, Decidable.not_not, Bool.or_eq_true, Bool.or_eq_false_iff, Bool.and_eq_true, Bool.and_eq_false_imp] at hg239
                    refine d_no hD hF rfl rfl rfl rfl rfl ?_; clear hF; intro a hF
                    refine d_no hD hF rfl rfl rfl rfl rfl ?_; clear hF; intro a hF
                    refine d_no hD hF rfl rfl rfl rfl rfl ?_; clear hF; intro a hF
                    refine d_nord hD hF rfl rfl rfl rfl rfl hS ?_; clear hF; intro a hF
                    refine d_no hD hF rfl rfl rfl rfl rfl ?_; clear hF; intro a hF
                    refine d_no hD hF rfl rfl rfl rfl rfl ?_; clear hF; intro a hF
                    refine d_no hD hF rfl rfl rfl rfl rfl ?_; clear hF; intro a hF
                    refine d_nord hD hF rfl rfl rfl rfl rfl hS ?_; clear hF; intro a hF
                    refine d_no hD hF rfl rfl rfl rfl rfl ?_; clear hF; intro a hF
                    refine d_pu hD hF rfl rfl rfl rfl rfl ((by exact pu_pick_f (hF.ev rfl) (hF.ev rfl))) ?_; clear hF; intro a hF
                    refine d_pu hD hF rfl rfl rfl rfl rfl ((by exact pu_pick_f (hF.ev rfl) (hF.ev rfl))) ?_; clear hF; intro a hF
                    refine d_done hD rfl ?_; clear hD
                    refine hK24 _ _ ?_; clear hK24
                    refine wp_cond_false (hF.ev rfl) ?_
                    refine wp_skip ?_
                    refine hK23 _ _ ?_; clear hK23
                    refine wp_seq_k fun K25 hK25 => ?_
                    refine wp_region_lit ?_
                    refine s_pu hF rfl rfl rfl (pu_move (hF.ev rfl)) ?_; clear hF; intro a hF
                    refine s_pu hF rfl rfl rfl ((by exact pu_nil (hF.ev rfl))) ?_; clear hF; intro a hF
                    refine s_pu hF rfl rfl rfl ((by exact pu_field fd52_1 (hF.ev rfl))) ?_; clear hF; intro a hF
                    refine s_rd hF rfl rfl rfl (by exact rd_load pl50 (hF.ev rfl) (hS.cellL (i := 0) rfl rfl)) ?_; clear hF; intro a hF
                    refine s_pu hF rfl rfl rfl (pu_move (hF.ev rfl)) ?_; clear hF; intro a hF
                    refine s_pu hF rfl rfl rfl ((by exact pu_elem sl50 (hF.ev rfl) (hF.ev rfl) (by omega) (by omega))) ?_; clear hF; intro a hF
                    refine s_pu hF rfl rfl rfl ((by exact pu_field fd58_2 (hF.ev rfl))) ?_; clear hF; intro a hF
                    refine s_rstoreF 1 (k := y.i) (f := 2) hF rfl (hF.ev rfl) (hF.ev rfl) hS rfl rfl sz4 rfl (by omega) (by omega) (by rw [fate_len]; omega) ?_; clear hS; intro w hS; (try simp only [upd, del] at hS)
                    rw [fate_set (f' := ⟨y.a, y.a + to, true⟩) hyR (by omega) rfl] at hS
                    refine s_done ?_
                    refine hK25 _ _ ?_; clear hK25
                    refine wp_region_lit ?_
                    refine s_pu hF rfl rfl rfl (pu_move (hF.ev rfl)) ?_; clear hF; intro a hF
                    refine s_pu hF rfl rfl rfl ((by exact pu_nil (hF.ev rfl))) ?_; clear hF; intro a hF
                    refine s_pu hF rfl rfl rfl ((by exact pu_field fd52_4 (hF.ev rfl))) ?_; clear hF; intro a hF
                    refine s_rd hF rfl rfl rfl (by exact rd_load pl3 (hF.ev rfl) (hS.cellL (i := 0) rfl rfl)) ?_; clear hF; intro a hF
                    refine s_pu hF rfl rfl rfl ((by exact pu_sub64 (hF.ev rfl) (hF.ev rfl) (by omega))) ?_; clear hF; intro a hF
                    refine s_pu hF rfl rfl rfl ((by exact pu_nil (hF.ev rfl))) ?_; clear hF; intro a hF
                    refine s_pu hF rfl rfl rfl ((by exact pu_field fd52_4 (hF.ev rfl))) ?_; clear hF; intro a hF
                    ((refine s_store (vs := [_]) (cs' := #[_, _, _, _, _, _, _, _]) 0 hF rfl (hF.ev rfl) (hF.ev rfl) hS rfl rfl sz3 (by rfl) (by exact Nat.le_of_ble_eq_true rfl) rfl ?_))
                    clear hS; intro w hS; (try simp only [upd, del] at hS)
                    refine s_done ?_
                    refine blk_normal ?_
                    refine hK14 _ _ ?_; clear hK14
                    refine wp_region_lit ?_
                    refine s_pu hF rfl rfl rfl (pu_move (hF.ev rfl)) ?_; clear hF; intro a hF
                    refine s_pu hF rfl rfl rfl ((by exact pu_add64 (hF.ev rfl) (hF.ev rfl) (by omega))) ?_; clear hF; intro a hF
                    refine s_pu hF rfl rfl rfl (pu_assign (hF.ev rfl)) ?_; clear hF; intro a hF
                    refine s_done ?_
                    have hrel2 : Rel to (R'.set y.i ⟨y.a, y.a + to, true⟩) ((LA ++ C).drop (q + 1)) W2 := by
                      rw [hyD] at hrel hidq
                      exact hrel.goneL (A := []) hidq rfl
                    have e1 : (LA.length : Int) + C.length - q - 1 = LA.length + C.length - ((q + 1 : Nat) : Int) := by omega
                    rw [e1] at hS
                    exact ⟨_, by omega, q + 1, R'.set y.i ⟨y.a, y.a + to, true⟩, rfl, by omega, by simpa using hRl, hrel2, hF.sub ⟨rfl, rfl, rfl, trivial⟩, hS⟩
      · -- cond 5 false
        try simp only [decide_eq_true_eq, decide_eq_false_iff_not, Bool.not_eq_true', Bool.not_eq_false', Int.not_lt, Int.not_le, ne_eq, Decidable.not_not, Bool.or_eq_true, Bool.or_eq_false_iff, Bool.and_eq_true, Bool.and_eq_false_imp] at hc5
        refine wp_exit ?_
        refine then_exit ?_
        refine then_exit ?_
        refine blk_exit ?_
        refine hK10 _ _ ?_; clear hK10
        refine wp_seq_k fun K14 hK14 => ?_
        refine wp_seq_k fun K15 hK15 => ?_
        refine wp_region_lit ?_
        refine s_pu hF rfl rfl rfl (pu_assign (hF.ev rfl)) ?_; clear hF; intro a hF
        refine s_done ?_
        refine hK15 _ _ ?_; clear hK15
        refine wp_block ?_
        have hqe : q = gn := by omega
        subst hqe
        have hrel3 : Rel to R' LB W2 := hrel.keys hLBk
        have hLBl : (LB.length : Int) = LA.length + C.length - q := by
          have := key_len T.lb
          simp at this
          omega
        refine wp_ind (fun j a w => ∃ (mm : Nat), j = R.length - mm ∧ mm ≤ R.length ∧
          Fr a 303 [(0, .pointer (some ⟨b, 0, none⟩)), (13, .int .i64 mm)] ∧
          Sat w0 w (.obj b (.cells #[.pointer (some ⟨g, 0, none⟩), .slice AF R.length cF, .int .i64 (now + 1), .int .i64 ((C.length : Int) + W2.length - C.length), .int .i64 ((LA.length : Int) + C.length - q), .int .i64 m, .int .i64 to, .int .i64 fo] 52 (0, 0)) :: rowC 58 3 (.slice AF R.length cF) R.length (fateCells R') :: rowC 35 12 (.slice AL C.length cL) C.length (pndCells (C.map fun x => req x.i) hsL) :: rowC 35 12 (.slice AG q cG) q (pndCells ((LA.take q).map fun x => req x.i) hsG) :: (messC 1 hsL (C.map fun x => req x.i) ++ (messC 1 hsG ((LA.take q).map fun x => req x.i) ++ (tabC 1 g (tabS m to fo R.length LB W2 P' (now + 1) last') :: F))))) R.length
          ⟨0, by omega, by omega, hF.sub ⟨rfl, rfl, trivial⟩, hS⟩ ?_
        clear hS hF
        rintro j a w ⟨mm, rfl, hmm2, hF, hS⟩
        refine wp_seq_k fun K16 hK16 => ?_
        refine wp_seq_k fun K17 hK17 => ?_
        refine wp_region_lit ?_
        refine s_pu hF rfl rfl rfl (pu_move (hF.ev rfl)) ?_; clear hF; intro a hF
        refine s_pu hF rfl rfl rfl (pu_move (hF.ev rfl)) ?_; clear hF; intro a hF
        refine s_pu hF rfl rfl rfl ((by exact pu_nil (hF.ev rfl))) ?_; clear hF; intro a hF
        refine s_pu hF rfl rfl rfl ((by exact pu_field fd52_1 (hF.ev rfl))) ?_; clear hF; intro a hF
        refine s_rd hF rfl rfl rfl (by exact rd_load pl50 (hF.ev rfl) (hS.cellL (i := 0) rfl rfl)) ?_; clear hF; intro a hF
        refine s_pu hF rfl rfl rfl (pu_len sl50 (hF.ev rfl)) ?_; clear hF; intro a hF
        refine s_pu hF rfl rfl rfl (pu_lss (hF.ev rfl) (hF.ev rfl)) ?_; clear hF; intro a hF
        refine s_done ?_
        refine hK17 _ _ ?_; clear hK17
        refine wp_cond_split (hF.ev rfl) (fun hc10 => ?_) (fun hc10 => ?_)
        · -- cond 10 true
          try simp only [decide_eq_true_eq, decide_eq_false_iff_not, Bool.not_eq_true', Bool.not_eq_false', Int.not_lt, Int.not_le, ne_eq, Decidable.not_not, Bool.or_eq_true, Bool.or_eq_false_iff, Bool.and_eq_true, Bool.and_eq_false_imp] at hc10
          have hmR : mm < R.length := by omega
          obtain ⟨f3, hf3⟩ : ∃ f3, R'[mm]? = some f3 := ⟨R'[mm]'(by omega), List.getElem?_eq_getElem _⟩
          obtain ⟨gA, rfl⟩ := row_some (i := 1) hS rfl (by omega)
          have hcase3 : (∃ fa fl, f3 = ⟨fa, fl, true⟩) ∨ (∃ x, f3 = ⟨x, x + to, false⟩ ∧ 0 ≤ x ∧ x + to ≤ now + 1 ∧ now + 1 < x + to + fo) ∨ (∃ x, f3 = ⟨x, 0, false⟩) := by
            cases hfo3 : f3.out with
            | true => exact .inl ⟨f3.added, f3.late, by rw [← hfo3]⟩
            | false =>
              obtain ⟨x, hx1, hxn⟩ := hrel3.all mm f3 hf3 hfo3
              rcases List.mem_append.1 hx1 with hx1 | hx1
              · have h1 := hrel3.rl x hx1
                have h2 := T.ok.late x hx1
                rw [hxn, hf3] at h1
                injection h1 with h1
                exact .inr (.inl ⟨x.a, h1, by omega, by omega, by omega⟩)
              · have := hrel3.rw x hx1
                rw [hxn, hf3] at this
                injection this with this
                exact .inr (.inr ⟨x.a, this⟩)
          refine wp_skip ?_
          refine hK16 _ _ ?_; clear hK16
          refine wp_seq_k fun K18 hK18 => ?_
          refine wp_block ?_
          refine wp_seq_k fun K19 hK19 => ?_
          refine wp_region_lit ?_
          refine s_pu hF rfl rfl rfl (pu_move (hF.ev rfl)) ?_; clear hF; intro a hF
          refine s_pu hF rfl rfl rfl ((by exact pu_nil (hF.ev rfl))) ?_; clear hF; intro a hF
          refine s_pu hF rfl rfl rfl ((by exact pu_field fd52_1 (hF.ev rfl))) ?_; clear hF; intro a hF
          refine s_rd hF rfl rfl rfl (by exact rd_load pl50 (hF.ev rfl) (hS.cellL (i := 0) rfl rfl)) ?_; clear hF; intro a hF
          refine s_pu hF rfl rfl rfl (pu_move (hF.ev rfl)) ?_; clear hF; intro a hF
          refine s_pu hF rfl rfl rfl ((by exact pu_elem sl50 (hF.ev rfl) (hF.ev rfl) (by omega) (by omega))) ?_; clear hF; intro a hF
          refine s_rd hF rfl rfl rfl (rd_loadN ag58 (hF.ev rfl) rfl (row_load (i := 1) hS rfl (by omega) (fate_at hf3))) ?_; clear hF; intro a hF
          refine s_newp hF rfl rfl rfl (ef_alloc (cs := #[_, _, _]) ze58 rfl) hS ?_; clear hF hS; intro b14 w hS a hF
          ((refine s_store (vs := [_, _, _]) (cs' := #[_, _, _]) 0 hF rfl (hF.ev rfl) (hF.ev rfl) hS rfl rfl sz58 (by rfl) (by exact Nat.le_of_ble_eq_true rfl) rfl ?_))
          clear hS; intro w hS; (try simp only [upd, del] at hS)
          refine s_done ?_
          refine hK19 _ _ ?_; clear hK19
          refine wp_seq_k fun K20 hK20 => ?_
          rcases hcase3 with ⟨fa, fl, rfl⟩ | ⟨xa, rfl, hx0, hx1, hx2⟩ | ⟨xa, rfl⟩
          · -- lo
            try dsimp only at hS hF
            refine d_start (S := (fun w => Sat w0 w _)) (ds := []) (ord := [(0, .pu), (1, .tk), (2, .pu), (3, .pu), (4, .pu), (5, .tk), (6, .pu), (7, .pu), (8, .pu), (9, .pu), (10, .tk), (11, .pu), (12, .pu), (13, .pu), (14, .tk), (15, .pu), (16, .pu), (17, .pu), (18, .pu), (19, .tk), (20, .pu), (21, .pu)]) mixed ⟨by kernel_rfl, fun _ d _ _ _ h => by cases d <;> exact h⟩ hS.drew fun hD => ?_
            replace hS := hS.drew; generalize w.drew = w at hS ⊢
            refine d_pu hD hF rfl rfl rfl rfl rfl ((by exact pu_field fd58_2 (hF.ev rfl))) ?_; clear hF; intro a hF
            refine d_rd hD hF rfl rfl rfl rfl rfl hS (fun w hS => (by exact rd_load pl4 (hF.ev rfl) (hS.cellL (i := 0) rfl rfl))) ?_; clear hF; intro a hF
            refine d_pu hD hF rfl rfl rfl rfl rfl (pu_not (hF.ev rfl)) ?_; clear hF; intro a hF
            refine d_pu hD hF rfl rfl rfl rfl rfl (pu_move (hF.ev rfl)) ?_; clear hF; intro a hF
            refine d_no hD hF rfl rfl rfl rfl rfl ?_; clear hF; intro a hF
            refine d_nord hD hF rfl rfl rfl rfl rfl hS ?_; clear hF; intro a hF
            refine d_no hD hF rfl rfl rfl rfl rfl ?_; clear hF; intro a hF
            refine d_pu hD hF rfl rfl rfl rfl rfl ((by exact pu_pick_f (hF.ev rfl) (hF.ev rfl))) ?_; clear hF; intro a hF
            refine d_pu hD hF rfl rfl rfl rfl rfl (pu_move (hF.ev rfl)) ?_; clear hF; intro a hF
            refine d_no hD hF rfl rfl rfl rfl rfl ?_; clear hF; intro a hF
            refine d_nord hD hF rfl rfl rfl rfl rfl hS ?_; clear hF; intro a hF
            refine d_no hD hF rfl rfl rfl rfl rfl ?_; clear hF; intro a hF
            refine d_no hD hF rfl rfl rfl rfl rfl ?_; clear hF; intro a hF
            refine d_no hD hF rfl rfl rfl rfl rfl ?_; clear hF; intro a hF
            refine d_nord hD hF rfl rfl rfl rfl rfl hS ?_; clear hF; intro a hF
            refine d_no hD hF rfl rfl rfl rfl rfl ?_; clear hF; intro a hF
            refine d_no hD hF rfl rfl rfl rfl rfl ?_; clear hF; intro a hF
            refine d_no hD hF rfl rfl rfl rfl rfl ?_; clear hF; intro a hF
            refine d_no hD hF rfl rfl rfl rfl rfl ?_; clear hF; intro a hF
            refine d_nord hD hF rfl rfl rfl rfl rfl hS ?_; clear hF; intro a hF
            refine d_no hD hF rfl rfl rfl rfl rfl ?_; clear hF; intro a hF
            refine d_pu hD hF rfl rfl rfl rfl rfl ((by exact pu_pick_f (hF.ev rfl) (hF.ev rfl))) ?_; clear hF; intro a hF
            refine d_done hD rfl ?_; clear hD
            refine hK20 _ _ ?_; clear hK20
            refine wp_cond_false (hF.ev rfl) ?_
            refine wp_skip ?_
            refine blk_normal ?_
            refine hK18 _ _ ?_; clear hK18
            refine wp_region_lit ?_
            refine s_pu hF rfl rfl rfl (pu_move (hF.ev rfl)) ?_; clear hF; intro a hF
            refine s_pu hF rfl rfl rfl ((by exact pu_add64 (hF.ev rfl) (hF.ev rfl) (by omega))) ?_; clear hF; intro a hF
            refine s_pu hF rfl rfl rfl (pu_assign (hF.ev rfl)) ?_; clear hF; intro a hF
            refine s_done ?_
            exact ⟨_, by omega, mm + 1, rfl, by omega, hF.sub ⟨rfl, rfl, trivial⟩, hS.tail⟩
          · -- ll
            try dsimp only at hS hF
            refine d_start (S := (fun w => Sat w0 w _)) (ds := []) (ord := [(0, .pu), (1, .tk), (2, .pu), (3, .pu), (4, .pu), (5, .tk), (6, .pu), (7, .pu), (8, .pu), (9, .pu), (10, .tk), (11, .pu), (12, .pu), (13, .pu), (14, .tk), (15, .pu), (16, .pu), (17, .pu), (18, .pu), (19, .tk), (20, .pu), (21, .pu)]) mixed ⟨by kernel_rfl, fun _ d _ _ _ h => by cases d <;> exact h⟩ hS.drew fun hD => ?_
            replace hS := hS.drew; generalize w.drew = w at hS ⊢
            refine d_pu hD hF rfl rfl rfl rfl rfl ((by exact pu_field fd58_2 (hF.ev rfl))) ?_; clear hF; intro a hF
            refine d_rd hD hF rfl rfl rfl rfl rfl hS (fun w hS => (by exact rd_load pl4 (hF.ev rfl) (hS.cellL (i := 0) rfl rfl))) ?_; clear hF; intro a hF
            refine d_pu hD hF rfl rfl rfl rfl rfl (pu_not (hF.ev rfl)) ?_; clear hF; intro a hF
            refine d_pu hD hF rfl rfl rfl rfl rfl (pu_move (hF.ev rfl)) ?_; clear hF; intro a hF
            refine d_pu hD hF rfl rfl rfl rfl rfl ((by exact pu_field fd58_1 (hF.ev rfl))) ?_; clear hF; intro a hF
            refine d_rd hD hF rfl rfl rfl rfl rfl hS (fun w hS => (by exact rd_load pl3 (hF.ev rfl) (hS.cellL (i := 0) rfl rfl))) ?_; clear hF; intro a hF
            refine d_pu hD hF rfl rfl rfl rfl rfl (pu_gtr (hF.ev rfl) (hF.ev rfl)) ?_; clear hF; intro a hF
            refine d_pu hD hF rfl rfl rfl rfl rfl ((by exact pu_pick_t (hF.ev rfl) (hF.ev rfl))) ?_; clear hF; intro a hF
            refine d_pu hD hF rfl rfl rfl rfl rfl (pu_move (hF.ev rfl)) ?_; clear hF; intro a hF
            refine fr_split hF (t := 289) rfl ?_ ?_
            · clear hF; intro hg289 hF   -- slot 289 true
              try simp only [decide_eq_true_eq, decide_eq_false_iff_not, Bool.not_eq_true', Bool.not_eq_false', Int.not_lt, Int.not_le, ne_eq, Decidable.not_not, Bool.or_eq_true, Bool.or_eq_false_iff, Bool.and_eq_true, Bool.and_eq_false_imp] at hg289
              refine d_pu hD hF rfl rfl rfl rfl rfl ((by exact pu_field fd58_1 (hF.ev rfl))) ?_; clear hF; intro a hF
              refine d_rd hD hF rfl rfl rfl rfl rfl hS (fun w hS => (by exact rd_load pl3 (hF.ev rfl) (hS.cellL (i := 0) rfl rfl))) ?_; clear hF; intro a hF
              refine d_pu hD hF rfl rfl rfl rfl rfl (pu_move (hF.ev rfl)) ?_; clear hF; intro a hF
              refine d_pu hD hF rfl rfl rfl rfl rfl ((by exact pu_nil (hF.ev rfl))) ?_; clear hF; intro a hF
              refine d_pu hD hF rfl rfl rfl rfl rfl ((by exact pu_field fd52_7 (hF.ev rfl))) ?_; clear hF; intro a hF
              refine d_rd hD hF rfl rfl rfl rfl rfl hS (fun w hS => (by exact rd_load pl3 (hF.ev rfl) (hS.cellL (i := 1) rfl rfl))) ?_; clear hF; intro a hF
              refine d_pu hD hF rfl rfl rfl rfl rfl ((by exact pu_add64 (hF.ev rfl) (hF.ev rfl) (by omega))) ?_; clear hF; intro a hF
              refine d_pu hD hF rfl rfl rfl rfl rfl (pu_move (hF.ev rfl)) ?_; clear hF; intro a hF
              refine d_pu hD hF rfl rfl rfl rfl rfl ((by exact pu_nil (hF.ev rfl))) ?_; clear hF; intro a hF
              refine d_pu hD hF rfl rfl rfl rfl rfl ((by exact pu_field fd52_2 (hF.ev rfl))) ?_; clear hF; intro a hF
              refine d_rd hD hF rfl rfl rfl rfl rfl hS (fun w hS => (by exact rd_load pl3 (hF.ev rfl) (hS.cellL (i := 1) rfl rfl))) ?_; clear hF; intro a hF
              refine d_pu hD hF rfl rfl rfl rfl rfl (pu_leq (hF.ev rfl) (hF.ev rfl)) ?_; clear hF; intro a hF
              refine d_pu hD hF rfl rfl rfl rfl rfl ((by exact pu_pick_t (hF.ev rfl) (hF.ev rfl))) ?_; clear hF; intro a hF
              refine d_done hD rfl ?_; clear hD
              refine hK20 _ _ ?_; clear hK20
              refine wp_cond_split (hF.ev rfl) (fun hc11 => ?_) (fun hc11 => ?_)
              · -- cond 11 true
                try simp only [decide_eq_true_eq, decide_eq_false_iff_not, Bool.not_eq_true', Bool.not_eq_false', Int.not_lt, Int.not_le, ne_eq, Decidable.not_not, Bool.or_eq_true, Bool.or_eq_false_iff, Bool.and_eq_true, Bool.and_eq_false_imp] at hc11
                omega
              · -- cond 11 false
                try simp only [decide_eq_true_eq, decide_eq_false_iff_not, Bool.not_eq_true', Bool.not_eq_false', Int.not_lt, Int.not_le, ne_eq, Decidable.not_not, Bool.or_eq_true, Bool.or_eq_false_iff, Bool.and_eq_true, Bool.and_eq_false_imp] at hc11
                refine wp_skip ?_
                refine blk_normal ?_
                refine hK18 _ _ ?_; clear hK18
                refine wp_region_lit ?_
                refine s_pu hF rfl rfl rfl (pu_move (hF.ev rfl)) ?_; clear hF; intro a hF
                refine s_pu hF rfl rfl rfl ((by exact pu_add64 (hF.ev rfl) (hF.ev rfl) (by omega))) ?_; clear hF; intro a hF
                refine s_pu hF rfl rfl rfl (pu_assign (hF.ev rfl)) ?_; clear hF; intro a hF
                refine s_done ?_
                exact ⟨_, by omega, mm + 1, rfl, by omega, hF.sub ⟨rfl, rfl, trivial⟩, hS.tail⟩
            · clear hF; intro hg289 hF   -- slot 289 false
              try simp only [decide_eq_true_eq, decide_eq_false_iff_not, Bool.not_eq_true', Bool.not_eq_false', Int.not_lt, Int.not_le, ne_eq, Decidable.not_not, Bool.or_eq_true, Bool.or_eq_false_iff, Bool.and_eq_true, Bool.and_eq_false_imp] at hg289
              omega
          · -- lw
            try dsimp only at hS hF
            refine d_start (S := (fun w => Sat w0 w _)) (ds := []) (ord := [(0, .pu), (1, .tk), (2, .pu), (3, .pu), (4, .pu), (5, .tk), (6, .pu), (7, .pu), (8, .pu), (9, .pu), (10, .tk), (11, .pu), (12, .pu), (13, .pu), (14, .tk), (15, .pu), (16, .pu), (17, .pu), (18, .pu), (19, .tk), (20, .pu), (21, .pu)]) mixed ⟨by kernel_rfl, fun _ d _ _ _ h => by cases d <;> exact h⟩ hS.drew fun hD => ?_
            replace hS := hS.drew; generalize w.drew = w at hS ⊢
            refine d_pu hD hF rfl rfl rfl rfl rfl ((by exact pu_field fd58_2 (hF.ev rfl))) ?_; clear hF; intro a hF
            refine d_rd hD hF rfl rfl rfl rfl rfl hS (fun w hS => (by exact rd_load pl4 (hF.ev rfl) (hS.cellL (i := 0) rfl rfl))) ?_; clear hF; intro a hF
            refine d_pu hD hF rfl rfl rfl rfl rfl (pu_not (hF.ev rfl)) ?_; clear hF; intro a hF
            refine d_pu hD hF rfl rfl rfl rfl rfl (pu_move (hF.ev rfl)) ?_; clear hF; intro a hF
            refine d_pu hD hF rfl rfl rfl rfl rfl ((by exact pu_field fd58_1 (hF.ev rfl))) ?_; clear hF; intro a hF
            refine d_rd hD hF rfl rfl rfl rfl rfl hS (fun w hS => (by exact rd_load pl3 (hF.ev rfl) (hS.cellL (i := 0) rfl rfl))) ?_; clear hF; intro a hF
            refine d_pu hD hF rfl rfl rfl rfl rfl (pu_gtr (hF.ev rfl) (hF.ev rfl)) ?_; clear hF; intro a hF
            refine d_pu hD hF rfl rfl rfl rfl rfl ((by exact pu_pick_t (hF.ev rfl) (hF.ev rfl))) ?_; clear hF; intro a hF
            refine d_pu hD hF rfl rfl rfl rfl rfl (pu_move (hF.ev rfl)) ?_; clear hF; intro a hF
            refine d_no hD hF rfl rfl rfl rfl rfl ?_; clear hF; intro a hF
            refine d_nord hD hF rfl rfl rfl rfl rfl hS ?_; clear hF; intro a hF
            refine d_no hD hF rfl rfl rfl rfl rfl ?_; clear hF; intro a hF
            refine d_no hD hF rfl rfl rfl rfl rfl ?_; clear hF; intro a hF
            refine d_no hD hF rfl rfl rfl rfl rfl ?_; clear hF; intro a hF
            refine d_nord hD hF rfl rfl rfl rfl rfl hS ?_; clear hF; intro a hF
            refine d_no hD hF rfl rfl rfl rfl rfl ?_; clear hF; intro a hF
            refine d_no hD hF rfl rfl rfl rfl rfl ?_; clear hF; intro a hF
            refine d_no hD hF rfl rfl rfl rfl rfl ?_; clear hF; intro a hF
            refine d_no hD hF rfl rfl rfl rfl rfl ?_; clear hF; intro a hF
            refine d_nord hD hF rfl rfl rfl rfl rfl hS ?_; clear hF; intro a hF
            refine d_no hD hF rfl rfl rfl rfl rfl ?_; clear hF; intro a hF
            refine d_pu hD hF rfl rfl rfl rfl rfl ((by exact pu_pick_f (hF.ev rfl) (hF.ev rfl))) ?_; clear hF; intro a hF
            refine d_done hD rfl ?_; clear hD
            refine hK20 _ _ ?_; clear hK20
            refine wp_cond_false (hF.ev rfl) ?_
            refine wp_skip ?_
            refine blk_normal ?_
            refine hK18 _ _ ?_; clear hK18
            refine wp_region_lit ?_
            refine s_pu hF rfl rfl rfl (pu_move (hF.ev rfl)) ?_; clear hF; intro a hF
            refine s_pu hF rfl rfl rfl ((by exact pu_add64 (hF.ev rfl) (hF.ev rfl) (by omega))) ?_; clear hF; intro a hF
            refine s_pu hF rfl rfl rfl (pu_assign (hF.ev rfl)) ?_; clear hF; intro a hF
            refine s_done ?_
            exact ⟨_, by omega, mm + 1, rfl, by omega, hF.sub ⟨rfl, rfl, trivial⟩, hS.tail⟩
        · -- cond 10 false
          try simp only [decide_eq_true_eq, decide_eq_false_iff_not, Bool.not_eq_true', Bool.not_eq_false', Int.not_lt, Int.not_le, ne_eq, Decidable.not_not, Bool.or_eq_true, Bool.or_eq_false_iff, Bool.and_eq_true, Bool.and_eq_false_imp] at hc10
          refine wp_exit ?_
          refine then_exit ?_
          refine then_exit ?_
          refine blk_exit ?_
          refine hK14 _ _ ?_; clear hK14
          refine wp_seq_k fun K18 hK18 => ?_
          refine wp_region_lit ?_
          refine s_pu hF rfl rfl rfl (pu_assign (hF.ev rfl)) ?_; clear hF; intro a hF
          refine s_done ?_
          refine hK18 _ _ ?_; clear hK18
          refine wp_ret ?_
          refine fin1 Try.results19 hF rfl ?_
          rw [← hRl, show (C.length : Int) + W2.length - C.length = W2.length by omega, ← hLBl] at hS
          refine ⟨rfl, R', LB, W2, P', last', ⟨h.c, by rw [hRl]; exact T.ok, hrel3⟩, hRl, fun x hx => ?_, w_shut ((hS.perm (end_perm _ _ _ _ _ _ _)).right)⟩
          rcases List.mem_append.1 hx with hx | hx
          · obtain ⟨y, hy, _, h2⟩ := key_mem T.lb hx
            rcases List.mem_append.1 hy with hy | hy
            · exact ⟨y, by simp [List.mem_of_mem_drop hy], h2⟩
            · exact ⟨y, by simp [hy], h2⟩
          · exact ⟨x, by simp [hx], rfl⟩
end
end Go.Proofs.Ytbfdebddoncfhaa
