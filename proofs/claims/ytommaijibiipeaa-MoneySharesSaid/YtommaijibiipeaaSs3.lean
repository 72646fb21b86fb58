import Derived.Test.YtommaijibiipeaaSs2
/-! The sort: by insertion. -/
namespace Go.Proofs.Ytommaijibiipeaa
open Go Go.RowKit Go.Proofs.Ytommaijibiipeaa.Sk
set_option linter.unusedVariables false
set_option linter.unusedSimpArgs false
set_option maxRecDepth 100000

def Srt (l : List Prt) : Prop := l.Pairwise lt
def Up (l : List Prt) : Prop := l.Pairwise fun p q => p.1 < q.1
def Bd (l : List Prt) : Prop := ∀ p ∈ l, 0 ≤ p.2 ∧ p.2 ≤ 4611686018427387904
theorem lt_rest {p q : Prt} (h : lt p q) : q.2 ≤ p.2 := by
  rcases h with h | ⟨h, _⟩ <;> omega
/-- x put into a sorted list, behind all that have its rest or more. -/
theorem insert_srt {I1 I2 : List Prt} {x : Prt} (h : Srt (I1 ++ I2)) (h2 : ∀ y ∈ I2, y.2 < x.2) (h1 : I1 = [] ∨ ∃ I y, I1 = I ++ [y] ∧ x.2 ≤ y.2) (hat : ∀ y ∈ I1 ++ I2, y.1 < x.1) : Srt (I1 ++ x :: I2) := by
  unfold Srt at h ⊢
  rw [List.pairwise_append] at h ⊢
  obtain ⟨a1, a2, a3⟩ := h
  refine ⟨a1, List.pairwise_cons.2 ⟨fun y hy => .inl (h2 y hy), a2⟩, ?_⟩
  intro u hu v hv
  rcases List.mem_cons.1 hv with rfl | hv
  · rcases h1 with rfl | ⟨I, y, rfl, hy⟩
    · cases hu
    · have hur : y.2 ≤ u.2 := by
        rcases List.mem_append.1 hu with hu | hu
        · rw [List.pairwise_append] at a1
          exact lt_rest (a1.2.2 u hu y (by simp))
        · simp at hu; subst hu; omega
      have hua := hat u (List.mem_append.2 (.inl hu))
      rcases Int.lt_or_eq_of_le (Int.le_trans hy hur) with h | h
      · exact .inl h
      · exact .inr ⟨h, hua⟩
  · exact a3 u hu v hv
theorem insertion_c {w0 w : World} {C : List Chunk} {g n c : Nat} {P M S : List Prt} (hS : Sat w0 w (prow g n c (P ++ M ++ S) :: C)) (hU : Up M) (hB : Bd M) (hn : n ≤ 140737488355328) :
    Calls Try.prog 34 #[.slice (some ⟨g, 0, none⟩) n c, .int .i64 P.length, .int .i64 (P ++ M).length, .func (.func 24) #[] #[]] w fun e w' => e = .returned (.tuple #[]) ∧ ∃ M', M'.Perm M ∧ Srt M' ∧ Sat w0 w' (prow g n c (P ++ M' ++ S) :: C) := by
  have hlen := prow_len hS
  simp only [List.length_append] at hlen
  have q0 : (P ++ M).length = P.length + M.length := List.length_append
  refine enter Try.func34 rfl Try.ntmps34 (Nat.le_of_ble_eq_true rfl) fun a hF => ?_
  refine wp_seq_k fun K0 hK0 => ?_
  -- region 0
  refine wp_region_lit ?_
  refine s_pu hF rfl rfl rfl (pu_move (hF.ev rfl)) ?_; clear hF; intro a hF
  refine s_pu hF rfl rfl rfl ((by first | exact pu_add64 (hF.ev rfl) (hF.ev rfl) (by omega) | exact pu_add (hF.ev rfl) (hF.ev rfl))) ?_; clear hF; intro a hF
  refine s_pu hF rfl rfl rfl (pu_assign (hF.ev rfl)) ?_; clear hF; intro a hF
  refine s_done ?_
  refine hK0 _ _ ?_; clear hK0
  refine wp_block ?_
  refine wp_ind (fun j a w => ∃ (k : Nat) (I : List Prt), j = M.length - (k + 1) ∧ (0 < M.length → k < M.length) ∧ I.Perm (M.take (k + 1)) ∧ Srt I ∧
    Fr a 53 [(0, .slice (some ⟨g, 0, none⟩) n c), (1, .int .i64 P.length), (2, .int .i64 (P ++ M).length), (3, .func (.func 24) #[] #[]), (8, .int .i64 ((P.length : Int) + 1 + k))] ∧ Sat w0 w (prow g n c (P ++ I ++ M.drop (k + 1) ++ S) :: C)) (M.length - 1)
    ⟨0, M.take 1, by omega, by omega, .refl _, ?_, ?_, ?_⟩ ?_
  · cases M with
    | nil => exact List.Pairwise.nil
    | cons x r => simp [Srt]
  · have := hF.sub (L' := [(0, .slice (some ⟨g, 0, none⟩) n c), (1, .int .i64 P.length), (2, .int .i64 (P ++ M).length), (3, .func (.func 24) #[] #[]), (8, .int .i64 ((P.length : Int) + 1))]) ⟨rfl, rfl, rfl, rfl, rfl, trivial⟩
    simpa using this
  · rw [List.append_assoc P, show M.take 1 ++ M.drop (0 + 1) = M from List.take_append_drop 1 M]; exact hS
  clear hS hF
  rintro j a w ⟨k, I, rfl, hk, hp, hs, hF, hS⟩
  refine wp_seq_k fun K1 hK1 => ?_
  refine wp_seq_k fun K2 hK2 => ?_
  -- region 1
  refine wp_region_lit ?_
  refine s_pu hF rfl rfl rfl (pu_move (hF.ev rfl)) ?_; clear hF; intro a hF
  refine s_pu hF rfl rfl rfl (pu_move (hF.ev rfl)) ?_; clear hF; intro a hF
  refine s_pu hF rfl rfl rfl (pu_lss (hF.ev rfl) (hF.ev rfl)) ?_; clear hF; intro a hF
  refine s_done ?_
  refine hK2 _ _ ?_; clear hK2
  refine wp_cond_split (hF.ev rfl) (fun hc0 => ?_) (fun hc0 => ?_)
  · -- cond 0 true
    try simp only [decide_eq_true_eq, decide_eq_false_iff_not, Bool.not_eq_true', Bool.not_eq_false', Int.not_lt, Int.not_le, ne_eq, Decidable.not_not, Bool.or_eq_true, Bool.or_eq_false_iff, Bool.and_eq_true, Bool.and_eq_false_imp] at hc0
    have hkl : k + 1 < M.length := by omega
    obtain ⟨x, hx⟩ : ∃ x, M[k + 1]? = some x := ⟨M[k + 1], List.getElem?_eq_getElem _⟩
    have hdr : M.drop (k + 1) = x :: M.drop (k + 2) := by
      rw [List.drop_eq_getElem_cons hkl]
      rw [List.getElem?_eq_getElem hkl] at hx
      injection hx with hx
      rw [hx]
    have htk : M.take (k + 2) = M.take (k + 1) ++ [x] := by rw [List.take_add_one, hx]; rfl
    have hIl : I.length = k + 1 := by rw [hp.length_eq, List.length_take]; omega
    obtain ⟨D, hD⟩ : ∃ D, D = M.drop (k + 2) := ⟨_, rfl⟩
    rw [hdr, ← hD] at hS
    have hxM : x ∈ M := List.mem_of_getElem? hx
    have hbx := hB x hxM
    have hat : ∀ y ∈ I, y.1 < x.1 := by
      intro y hy
      have hy2 := hp.mem_iff.1 hy
      have h3 : M = M.take (k + 1) ++ x :: M.drop (k + 2) := by rw [← hdr, List.take_append_drop]
      unfold Up at hU
      rw [h3, List.pairwise_append] at hU
      exact hU.2.2 y hy2 x (by simp)
    have hbI : ∀ y ∈ I, 0 ≤ y.2 ∧ y.2 ≤ 4611686018427387904 := fun y hy => hB y (List.mem_of_mem_take (hp.mem_iff.1 hy))
    have hDl : P.length + I.length + 1 + D.length + S.length = n := by
      have := prow_len hS
      simp only [List.length_append, List.length_cons] at this
      omega
    refine wp_skip ?_
    refine hK1 _ _ ?_; clear hK1
    refine wp_seq_k fun K3 hK3 => ?_
    refine wp_block ?_
    refine wp_seq_k fun K4 hK4 => ?_
    -- region 3
    refine wp_region_lit ?_
    refine s_pu hF rfl rfl rfl (pu_move (hF.ev rfl)) ?_; clear hF; intro a hF
    refine s_pu hF rfl rfl rfl (pu_assign (hF.ev rfl)) ?_; clear hF; intro a hF
    refine s_done ?_
    refine hK4 _ _ ?_; clear hK4
    refine wp_block ?_
    refine wp_ind (fun j a w => ∃ (I1 I2 : List Prt), j = I1.length ∧ I = I1 ++ I2 ∧ (∀ y ∈ I2, y.2 < x.2) ∧
      Fr a 53 [(0, .slice (some ⟨g, 0, none⟩) n c), (1, .int .i64 P.length), (2, .int .i64 (P ++ M).length), (3, .func (.func 24) #[] #[]), (8, .int .i64 ((P.length : Int) + 1 + k)), (9, .int .i64 (P.length + I1.length : Nat))] ∧ Sat w0 w (prow g n c (P ++ I1 ++ x :: (I2 ++ D ++ S)) :: C)) I.length
      ⟨I, [], rfl, by simp, by simp, ?_, by simpa using hS⟩ ?_
    · rw [show ((P.length + I.length : Nat) : Int) = (P.length : Int) + 1 + k by omega]
      exact hF.sub ⟨rfl, rfl, rfl, rfl, rfl, rfl, trivial⟩
    clear hS hF
    rintro j a w ⟨I1, I2, rfl, rfl, hI2, hF, hS⟩
    rw [List.length_append] at hIl hDl
    refine wp_seq_k fun K5 hK5 => ?_
    refine wp_seq_k fun K6 hK6 => ?_
    -- region 4
    refine d_start (S := (fun w => Sat w0 w _)) (ds := [14]) (ord := [(0, .pu), (1, .pu), (2, .pu), (3, .pu), (4, .pu), (5, .pu), (6, .pu), (7, .pu), (8, .tk), (9, .pu), (10, .pu), (11, .pu), (12, .pu), (13, .tk), (14, .ls), (15, .pu), (16, .pu)]) mixed ⟨by kernel_rfl, fun _ d _ _ _ h => by cases d <;> exact h⟩ hS.drew fun hD => ?_
    replace hS := hS.drew; generalize w.drew = w at hS ⊢
    refine d_pu hD hF rfl rfl rfl rfl rfl (pu_move (hF.ev rfl)) ?_; clear hF; intro a hF
    refine d_pu hD hF rfl rfl rfl rfl rfl (pu_move (hF.ev rfl)) ?_; clear hF; intro a hF
    refine d_pu hD hF rfl rfl rfl rfl rfl (pu_gtr (hF.ev rfl) (hF.ev rfl)) ?_; clear hF; intro a hF
    refine d_pu hD hF rfl rfl rfl rfl rfl (pu_move (hF.ev rfl)) ?_; clear hF; intro a hF
    refine fr_split hF (t := 21) rfl ?_ ?_
    · clear hF; intro hg21 hF   -- slot 21 true
      try simp only [decide_eq_true_eq, decide_eq_false_iff_not, Bool.not_eq_true', Bool.not_eq_false', Int.not_lt, Int.not_le, ne_eq, Decidable.not_not, Bool.or_eq_true, Bool.or_eq_false_iff, Bool.and_eq_true, Bool.and_eq_false_imp] at hg21
      obtain ⟨I3, y, rfl⟩ : ∃ I3 y, I1 = I3 ++ [y] := by
        rcases List.eq_nil_or_concat I1 with h | ⟨I3, y, h⟩
        · subst h; simp at hg21
        · exact ⟨I3, y, by rw [h, List.concat_eq_append]⟩
      have hby := hbI y (by simp)
      simp only [List.length_append, List.length_cons, List.length_nil] at hIl hDl
      have q5 : (I3 ++ [y]).length = I3.length + 1 := by simp
      obtain ⟨kk1, hk1⟩ : ∃ q, q = P.length + I3.length := ⟨_, rfl⟩
      have hg1 : (P ++ (I3 ++ [y]) ++ x :: (I2 ++ D ++ S))[kk1]? = some y := by
        rw [show P ++ (I3 ++ [y]) ++ x :: (I2 ++ D ++ S) = (P ++ I3) ++ y :: (x :: (I2 ++ D ++ S)) by simp, hk1, ← List.length_append]
        exact get_mid _ _ _
      have hg2 : (P ++ (I3 ++ [y]) ++ x :: (I2 ++ D ++ S))[kk1 + 1]? = some x := by
        rw [show P ++ (I3 ++ [y]) ++ x :: (I2 ++ D ++ S) = (P ++ I3 ++ [y]) ++ x :: (I2 ++ D ++ S) by simp, show kk1 + 1 = (P ++ I3 ++ [y]).length by simp; omega]
        exact get_mid _ _ _
      rw [show ((P.length + (I3 ++ [y]).length : Nat) : Int) = ((kk1 + 1 : Nat) : Int) by omega] at hF
      have hbn : kk1 + 1 < n := by omega
      have hsub : ((kk1 + 1 : Nat) : Int) - 1 = (kk1 : Nat) := by omega
      have hxl : (P ++ (I3 ++ [y]) ++ x :: (I2 ++ D ++ S)).length = n := by simp; omega
      refine d_pu hD hF rfl rfl rfl rfl rfl (pu_move (hF.ev rfl)) ?_; clear hF; intro a hF
      refine d_pu hD hF rfl rfl rfl rfl rfl (pu_move (hF.ev rfl)) ?_; clear hF; intro a hF
      refine d_pu hD hF rfl rfl rfl rfl rfl (pu_move (hF.ev rfl)) ?_; clear hF; intro a hF
      refine d_pu hD hF rfl rfl rfl rfl rfl ((by first | exact pu_elem sl50 (hF.ev rfl) (hF.ev rfl) (by first | omega | simp) (by first | omega | (simp; done) | (simp; omega)) | exact pu_elemA sl50 (hF.ev rfl) (hF.ev rfl) (by omega) (by omega))) ?_; clear hF; intro a hF
      refine d_rd hD hF rfl rfl rfl rfl rfl hS (fun w hS => rd_loadN ag52 (hF.ev rfl) rfl (row_load (i := 0) hS rfl (by omega) (parts_at hg2))) ?_; clear hF; intro a hF
      refine d_pu hD hF rfl rfl rfl rfl rfl (pu_move (hF.ev rfl)) ?_; clear hF; intro a hF
      refine d_pu hD hF rfl rfl rfl rfl rfl (pu_move (hF.ev rfl)) ?_; clear hF; intro a hF
      refine d_pu hD hF rfl rfl rfl rfl rfl ((by first | exact pu_sub64 (hF.ev rfl) (hF.ev rfl) (by omega) | exact pu_sub (hF.ev rfl) (hF.ev rfl))) ?_; clear hF; intro a hF
      rw [hsub] at hF
      refine d_pu hD hF rfl rfl rfl rfl rfl ((by first | exact pu_elem sl50 (hF.ev rfl) (hF.ev rfl) (by first | omega | simp) (by first | omega | (simp; done) | (simp; omega)) | exact pu_elemA sl50 (hF.ev rfl) (hF.ev rfl) (by omega) (by omega))) ?_; clear hF; intro a hF
      refine d_rd hD hF rfl rfl rfl rfl rfl hS (fun w hS => rd_loadN ag52 (hF.ev rfl) rfl (row_load (i := 0) hS rfl (by omega) (parts_at hg1))) ?_; clear hF; intro a hF
      refine l_en hD hF rfl rfl rfl rfl rfl (run_fn fk24 (hF.ev rfl) (hF.evs rfl)) (cmp_c (p := x) (q := y) hS hbx hby) ?_
      clear hS; rintro e w ⟨rfl, hS⟩
      refine ⟨_, rfl, ?_⟩; clear hF; intro a hF
      refine d_pu hD hF rfl rfl rfl rfl rfl (pu_lss (hF.ev rfl) (hF.ev rfl)) ?_; clear hF; intro a hF
      refine d_pu hD hF rfl rfl rfl rfl rfl ((by first | exact pu_pick_t (hF.ev rfl) (hF.ev rfl) | exact pu_pick_f (hF.ev rfl) (hF.ev rfl) | exact pu_pick (hF.ev rfl) (hF.ev rfl) (hF.ev rfl))) ?_; clear hF; intro a hF
      refine d_done hD rfl ?_; clear hD
      refine hK6 _ _ ?_; clear hK6
      refine wp_cond_split (hF.ev rfl) (fun hc1 => ?_) (fun hc1 => ?_)
      · -- cond 1 true
        try simp only [decide_eq_true_eq, decide_eq_false_iff_not, Bool.not_eq_true', Bool.not_eq_false', Int.not_lt, Int.not_le, ne_eq, Decidable.not_not, Bool.or_eq_true, Bool.or_eq_false_iff, Bool.and_eq_true, Bool.and_eq_false_imp] at hc1
        refine wp_skip ?_
        refine hK5 _ _ ?_; clear hK5
        refine wp_seq_k fun K7 hK7 => ?_
        refine wp_block ?_
        -- region 6
        refine d_start (S := (fun w => Sat w0 w _)) (ds := [15, 17]) (ord := [(0, .pu), (1, .pu), (2, .pu), (3, .pu), (4, .pu), (5, .pu), (6, .pu), (7, .pu), (8, .pu), (9, .tk), (10, .pu), (11, .pu), (12, .pu), (13, .tk), (14, .pu), (15, .ls), (16, .pu), (17, .ls)]) mixed ⟨by kernel_rfl, fun _ d _ _ _ h => by cases d <;> exact h⟩ hS.drew fun hD => ?_
        replace hS := hS.drew; generalize w.drew = w at hS ⊢
        refine d_pu hD hF rfl rfl rfl rfl rfl (pu_move (hF.ev rfl)) ?_; clear hF; intro a hF
        refine d_pu hD hF rfl rfl rfl rfl rfl (pu_move (hF.ev rfl)) ?_; clear hF; intro a hF
        refine d_pu hD hF rfl rfl rfl rfl rfl (pu_move (hF.ev rfl)) ?_; clear hF; intro a hF
        refine d_pu hD hF rfl rfl rfl rfl rfl (pu_move (hF.ev rfl)) ?_; clear hF; intro a hF
        refine d_pu hD hF rfl rfl rfl rfl rfl ((by first | exact pu_sub64 (hF.ev rfl) (hF.ev rfl) (by omega) | exact pu_sub (hF.ev rfl) (hF.ev rfl))) ?_; clear hF; intro a hF
        refine d_pu hD hF rfl rfl rfl rfl rfl (pu_move (hF.ev rfl)) ?_; clear hF; intro a hF
        refine d_pu hD hF rfl rfl rfl rfl rfl (pu_move (hF.ev rfl)) ?_; clear hF; intro a hF
        refine d_pu hD hF rfl rfl rfl rfl rfl ((by first | exact pu_sub64 (hF.ev rfl) (hF.ev rfl) (by omega) | exact pu_sub (hF.ev rfl) (hF.ev rfl))) ?_; clear hF; intro a hF
        rw [hsub] at hF
        refine d_pu hD hF rfl rfl rfl rfl rfl ((by first | exact pu_elem sl50 (hF.ev rfl) (hF.ev rfl) (by first | omega | simp) (by first | omega | (simp; done) | (simp; omega)) | exact pu_elemA sl50 (hF.ev rfl) (hF.ev rfl) (by omega) (by omega))) ?_; clear hF; intro a hF
        refine d_rd hD hF rfl rfl rfl rfl rfl hS (fun w hS => rd_loadN ag52 (hF.ev rfl) rfl (row_load (i := 0) hS rfl (by omega) (parts_at hg1))) ?_; clear hF; intro a hF
        refine d_pu hD hF rfl rfl rfl rfl rfl (pu_move (hF.ev rfl)) ?_; clear hF; intro a hF
        refine d_pu hD hF rfl rfl rfl rfl rfl (pu_move (hF.ev rfl)) ?_; clear hF; intro a hF
        refine d_pu hD hF rfl rfl rfl rfl rfl ((by first | exact pu_elem sl50 (hF.ev rfl) (hF.ev rfl) (by first | omega | simp) (by first | omega | (simp; done) | (simp; omega)) | exact pu_elemA sl50 (hF.ev rfl) (hF.ev rfl) (by omega) (by omega))) ?_; clear hF; intro a hF
        refine d_rd hD hF rfl rfl rfl rfl rfl hS (fun w hS => rd_loadN ag52 (hF.ev rfl) rfl (row_load (i := 0) hS rfl (by omega) (parts_at hg2))) ?_; clear hF; intro a hF
        refine d_pu hD hF rfl rfl rfl rfl rfl ((by first | exact pu_elem sl50 (hF.ev rfl) (hF.ev rfl) (by first | omega | simp) (by first | omega | (simp; done) | (simp; omega)) | exact pu_elemA sl50 (hF.ev rfl) (hF.ev rfl) (by omega) (by omega))) ?_; clear hF; intro a hF
        refine l_rstoreN (k := kk1 + 1) (vs := [_, _]) 0 hD hF rfl rfl rfl (hF.ev rfl) (hF.ev rfl) hS rfl rfl sz52 rfl rfl hbn ?_
        clear hS; intro w hS; (try simp only [upd, del] at hS)
        rw [parts_set (by omega)] at hS
        refine d_pu hD hF rfl rfl rfl rfl rfl ((by first | exact pu_elem sl50 (hF.ev rfl) (hF.ev rfl) (by first | omega | simp) (by first | omega | (simp; done) | (simp; omega)) | exact pu_elemA sl50 (hF.ev rfl) (hF.ev rfl) (by omega) (by omega))) ?_; clear hF; intro a hF
        refine l_rstoreN (k := kk1) (vs := [_, _]) 0 hD hF rfl rfl rfl (hF.ev rfl) (hF.ev rfl) hS rfl rfl sz52 rfl rfl (by omega) ?_
        clear hS; intro w hS; (try simp only [upd, del] at hS)
        rw [parts_set (by rw [List.length_set]; omega)] at hS
        refine d_done hD rfl ?_; clear hD
        refine blk_normal ?_
        refine hK7 _ _ ?_; clear hK7
        -- region 5
        refine wp_region_lit ?_
        refine s_pu hF rfl rfl rfl (pu_move (hF.ev rfl)) ?_; clear hF; intro a hF
        refine s_pu hF rfl rfl rfl ((by first | exact pu_sub64 (hF.ev rfl) (hF.ev rfl) (by omega) | exact pu_sub (hF.ev rfl) (hF.ev rfl))) ?_; clear hF; intro a hF
        refine s_pu hF rfl rfl rfl (pu_assign (hF.ev rfl)) ?_; clear hF; intro a hF
        refine s_done ?_
        refine ⟨_, by simp, I3, y :: I2, rfl, by simp, ?_, ?_, ?_⟩
        · intro z hz
          rcases List.mem_cons.1 hz with rfl | hz
          · omega
          · exact hI2 z hz
        · rw [← hk1, ← hsub]
          exact hF.sub ⟨rfl, rfl, rfl, rfl, rfl, rfl, trivial⟩
        · have e1 : ((P ++ (I3 ++ [y]) ++ x :: (I2 ++ D ++ S)).set (kk1 + 1) y).set kk1 x = P ++ I3 ++ x :: (y :: I2 ++ D ++ S) := by
            rw [show P ++ (I3 ++ [y]) ++ x :: (I2 ++ D ++ S) = (P ++ I3 ++ [y]) ++ x :: (I2 ++ D ++ S) by simp, show kk1 + 1 = (P ++ I3 ++ [y]).length by simp; omega, set_mid]
            rw [show (P ++ I3 ++ [y]) ++ y :: (I2 ++ D ++ S) = (P ++ I3) ++ y :: (y :: (I2 ++ D ++ S)) by simp, show kk1 = (P ++ I3).length by simp; omega, set_mid]
            simp
          rw [e1] at hS
          exact hS
      · -- cond 1 false
        try simp only [decide_eq_true_eq, decide_eq_false_iff_not, Bool.not_eq_true', Bool.not_eq_false', Int.not_lt, Int.not_le, ne_eq, Decidable.not_not, Bool.or_eq_true, Bool.or_eq_false_iff, Bool.and_eq_true, Bool.and_eq_false_imp] at hc1
        refine wp_exit ?_
        refine then_exit ?_
        refine then_exit ?_
        refine blk_exit ?_
        refine blk_normal ?_
        refine hK3 _ _ ?_; clear hK3
        -- region 2
        refine wp_region_lit ?_
        refine s_pu hF rfl rfl rfl (pu_move (hF.ev rfl)) ?_; clear hF; intro a hF
        refine s_pu hF rfl rfl rfl ((by first | exact pu_add64 (hF.ev rfl) (hF.ev rfl) (by omega) | exact pu_add (hF.ev rfl) (hF.ev rfl))) ?_; clear hF; intro a hF
        refine s_pu hF rfl rfl rfl (pu_assign (hF.ev rfl)) ?_; clear hF; intro a hF
        refine s_done ?_
        first
          | (have hlast : (I3 ++ [y]) = [] ∨ ∃ I z, I3 ++ [y] = I ++ [z] ∧ x.2 ≤ z.2 := .inr ⟨I3, y, rfl, by omega⟩
             have hsr := insert_srt hs hI2 hlast hat
             refine ⟨_, by omega, k + 1, (I3 ++ [y]) ++ x :: I2, rfl, by omega, ?_, hsr, ?_, ?_⟩
             · rw [htk]
               exact (List.perm_middle.trans ((hp.cons x).trans (List.perm_append_comm (l₁ := [x]))))
             · rw [show (P.length : Int) + 1 + ((k + 1 : Nat) : Int) = (P.length : Int) + 1 + k + 1 by omega]
               exact hF.sub ⟨rfl, rfl, rfl, rfl, rfl, trivial⟩
             · rw [← hD]
               simpa [prow] using hS)
          | (have hI1 : I1 = [] := by
               cases I1 with
               | nil => rfl
               | cons z r => simp at hg21; omega
             subst hI1
             have hsr := insert_srt hs hI2 (.inl rfl) hat
             refine ⟨_, by omega, k + 1, [] ++ x :: I2, rfl, by omega, ?_, hsr, ?_, ?_⟩
             · rw [htk]
               exact (List.perm_middle.trans ((hp.cons x).trans (List.perm_append_comm (l₁ := [x]))))
             · rw [show (P.length : Int) + 1 + ((k + 1 : Nat) : Int) = (P.length : Int) + 1 + k + 1 by omega]
               exact hF.sub ⟨rfl, rfl, rfl, rfl, rfl, trivial⟩
             · rw [← hD]
               simpa using hS)
    · clear hF; intro hg21 hF   -- slot 21 false
      try simp only [decide_eq_true_eq, decide_eq_false_iff_not, Bool.not_eq_true', Bool.not_eq_false', Int.not_lt, Int.not_le, ne_eq, Decidable.not_not, Bool.or_eq_true, Bool.or_eq_false_iff, Bool.and_eq_true, Bool.and_eq_false_imp] at hg21
      refine d_no hD hF rfl rfl rfl rfl rfl ?_; clear hF; intro a hF
      refine d_no hD hF rfl rfl rfl rfl rfl ?_; clear hF; intro a hF
      refine d_no hD hF rfl rfl rfl rfl rfl ?_; clear hF; intro a hF
      refine d_no hD hF rfl rfl rfl rfl rfl ?_; clear hF; intro a hF
      refine d_nord hD hF rfl rfl rfl rfl rfl hS ?_; clear hF; intro a hF
      refine d_no hD hF rfl rfl rfl rfl rfl ?_; clear hF; intro a hF
      refine d_no hD hF rfl rfl rfl rfl rfl ?_; clear hF; intro a hF
      refine d_no hD hF rfl rfl rfl rfl rfl ?_; clear hF; intro a hF
      refine d_no hD hF rfl rfl rfl rfl rfl ?_; clear hF; intro a hF
      refine d_nord hD hF rfl rfl rfl rfl rfl hS ?_; clear hF; intro a hF
      refine l_no hD hF rfl rfl rfl rfl rfl ?_; clear hF; intro a hF
      refine d_no hD hF rfl rfl rfl rfl rfl ?_; clear hF; intro a hF
      refine d_pu hD hF rfl rfl rfl rfl rfl ((by first | exact pu_pick_t (hF.ev rfl) (hF.ev rfl) | exact pu_pick_f (hF.ev rfl) (hF.ev rfl) | exact pu_pick (hF.ev rfl) (hF.ev rfl) (hF.ev rfl))) ?_; clear hF; intro a hF
      refine d_done hD rfl ?_; clear hD
      refine hK6 _ _ ?_; clear hK6
      refine wp_cond_false (hF.ev rfl) ?_
      refine wp_exit ?_
      refine then_exit ?_
      refine then_exit ?_
      refine blk_exit ?_
      refine blk_normal ?_
      refine hK3 _ _ ?_; clear hK3
      -- region 2
      refine wp_region_lit ?_
      refine s_pu hF rfl rfl rfl (pu_move (hF.ev rfl)) ?_; clear hF; intro a hF
      refine s_pu hF rfl rfl rfl ((by first | exact pu_add64 (hF.ev rfl) (hF.ev rfl) (by omega) | exact pu_add (hF.ev rfl) (hF.ev rfl))) ?_; clear hF; intro a hF
      refine s_pu hF rfl rfl rfl (pu_assign (hF.ev rfl)) ?_; clear hF; intro a hF
      refine s_done ?_
      first
        | (have hlast : (I3 ++ [y]) = [] ∨ ∃ I z, I3 ++ [y] = I ++ [z] ∧ x.2 ≤ z.2 := .inr ⟨I3, y, rfl, by omega⟩
           have hsr := insert_srt hs hI2 hlast hat
           refine ⟨_, by omega, k + 1, (I3 ++ [y]) ++ x :: I2, rfl, by omega, ?_, hsr, ?_, ?_⟩
           · rw [htk]
             exact (List.perm_middle.trans ((hp.cons x).trans (List.perm_append_comm (l₁ := [x]))))
           · rw [show (P.length : Int) + 1 + ((k + 1 : Nat) : Int) = (P.length : Int) + 1 + k + 1 by omega]
             exact hF.sub ⟨rfl, rfl, rfl, rfl, rfl, trivial⟩
           · rw [← hD]
             simpa [prow] using hS)
        | (have hI1 : I1 = [] := by
             cases I1 with
             | nil => rfl
             | cons z r => simp at hg21; omega
           subst hI1
           have hsr := insert_srt hs hI2 (.inl rfl) hat
           refine ⟨_, by omega, k + 1, [] ++ x :: I2, rfl, by omega, ?_, hsr, ?_, ?_⟩
           · rw [htk]
             exact (List.perm_middle.trans ((hp.cons x).trans (List.perm_append_comm (l₁ := [x]))))
           · rw [show (P.length : Int) + 1 + ((k + 1 : Nat) : Int) = (P.length : Int) + 1 + k + 1 by omega]
             exact hF.sub ⟨rfl, rfl, rfl, rfl, rfl, trivial⟩
           · rw [← hD]
             simpa using hS)
  · -- cond 0 false
    try simp only [decide_eq_true_eq, decide_eq_false_iff_not, Bool.not_eq_true', Bool.not_eq_false', Int.not_lt, Int.not_le, ne_eq, Decidable.not_not, Bool.or_eq_true, Bool.or_eq_false_iff, Bool.and_eq_true, Bool.and_eq_false_imp] at hc0
    refine wp_exit ?_
    refine then_exit ?_
    refine then_exit ?_
    refine blk_exit ?_
    refine fin0 Try.results34 hF ?_
    have hkl : M.length ≤ k + 1 := by omega
    rw [List.take_of_length_le hkl] at hp
    rw [List.drop_eq_nil_of_le hkl, List.append_nil] at hS
    exact ⟨rfl, I, hp, hs, hS⟩
end Go.Proofs.Ytommaijibiipeaa
