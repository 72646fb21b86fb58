import Derived.Test.YtommaijibiipeaaSs3
/-! The sort: symMerge. -/
namespace Go.Proofs.Ytommaijibiipeaa
open Go Go.RowKit Go.Proofs.Ytommaijibiipeaa.Sk
set_option linter.unusedVariables false
set_option linter.unusedSimpArgs false
set_option maxRecDepth 100000

def Cross (A B : List Prt) : Prop := ∀ x ∈ A, ∀ y ∈ B, x.1 < y.1
def SymOk (sz : Nat) : Prop := ∀ {w0 w : World} {C : List Chunk} {g n c : Nat} {P L R S : List Prt}, Sat w0 w (prow g n c (P ++ L ++ R ++ S) :: C) → L.length + R.length ≤ sz → 0 < L.length → 0 < R.length → Srt L → Srt R → Cross L R → Bd (L ++ R) → n ≤ 140737488355328 →
  Calls Try.prog 35 #[.slice (some ⟨g, 0, none⟩) n c, .int .i64 P.length, .int .i64 (P.length + L.length : Nat), .int .i64 (P.length + L.length + R.length : Nat), .func (.func 24) #[] #[]] w fun e w' => e = .returned (.tuple #[]) ∧ ∃ M, M.Perm (L ++ R) ∧ Srt M ∧ Sat w0 w' (prow g n c (P ++ M ++ S) :: C)
theorem at_app {α : Type} {U V : List α} {i : Nat} {x : α} (h : V[i]? = some x) : (U ++ V)[U.length + i]? = some x := by
  rw [List.getElem?_append_right (by omega), Nat.add_sub_cancel_left]
  exact h
theorem at_app1 {α : Type} {U V : List α} {i : Nat} {x : α} (h : U[i]? = some x) : (U ++ V)[i]? = some x := by
  rw [List.getElem?_append_left (List.getElem?_eq_some_iff.1 h).1]
  exact h
theorem mem_take_rest {R : List Prt} {i : Nat} {z : Prt} (hs : Srt R) (h : R[i]? = some z) : (∀ u ∈ R.take (i + 1), z.2 ≤ u.2) ∧ ∀ u ∈ R.drop i, u.2 ≤ z.2 := by
  have hi := (List.getElem?_eq_some_iff.1 h).1
  have hz : z = R[i] := by rw [List.getElem?_eq_getElem hi] at h; injection h with h; exact h.symm
  have e : R = R.take i ++ z :: R.drop (i + 1) := by rw [hz, ← List.drop_eq_getElem_cons, List.take_append_drop]
  have hs2 := hs
  unfold Srt at hs2
  rw [e, List.pairwise_append, List.pairwise_cons] at hs2
  obtain ⟨_, ⟨h2, _⟩, h3⟩ := hs2
  constructor
  · intro u hu
    rw [List.take_add_one, h] at hu
    rcases List.mem_append.1 hu with hu | hu
    · exact lt_rest (h3 u hu z (by simp))
    · simp at hu; subst hu; omega
  · intro u hu
    rw [List.drop_eq_getElem_cons hi, ← hz] at hu
    rcases List.mem_cons.1 hu with rfl | hu
    · omega
    · exact lt_rest (h2 u hu)
/-- x between, where x stood ahead of all of R. -/
theorem put_ahead {R : List Prt} {x : Prt} {i : Nat} (hs : Srt R) (hx : ∀ y ∈ R, x.1 < y.1) (h1 : i = 0 ∨ ∃ z, R[i - 1]? = some z ∧ x.2 < z.2) (h2 : i = R.length ∨ ∃ z, R[i]? = some z ∧ z.2 ≤ x.2) : Srt (R.take i ++ x :: R.drop i) := by
  have hs2 := hs
  unfold Srt at hs2 ⊢
  rw [← List.take_append_drop i R, List.pairwise_append] at hs2
  obtain ⟨a1, a2, a3⟩ := hs2
  rw [List.pairwise_append, List.pairwise_cons]
  refine ⟨a1, ⟨fun y hy => ?_, a2⟩, ?_⟩
  · rcases h2 with rfl | ⟨z, hz, hzx⟩
    · rw [List.drop_length] at hy; cases hy
    · have := (mem_take_rest hs hz).2 y hy
      rcases Int.lt_or_eq_of_le (Int.le_trans this hzx) with h | h
      · exact .inl h
      · exact .inr ⟨h, hx y (List.mem_of_mem_drop hy)⟩
  · intro u hu v hv
    rcases List.mem_cons.1 hv with rfl | hv
    · rcases h1 with rfl | ⟨z, hz, hzx⟩
      · rw [List.take_zero] at hu; cases hu
      · have hpos : 0 < i := by
          rcases Nat.eq_zero_or_pos i with h | h
          · subst h; rw [List.take_zero] at hu; cases hu
          · exact h
        have := (mem_take_rest hs hz).1 u (by rw [show i - 1 + 1 = i by omega]; exact hu)
        exact .inl (by omega)
    · exact a3 u hu v hv
/-- y between, where y stood behind all of L. -/
theorem put_behind {L : List Prt} {y : Prt} {i : Nat} (hs : Srt L) (hx : ∀ u ∈ L, u.1 < y.1) (h1 : i = 0 ∨ ∃ z, L[i - 1]? = some z ∧ y.2 ≤ z.2) (h2 : i = L.length ∨ ∃ z, L[i]? = some z ∧ z.2 < y.2) : Srt (L.take i ++ y :: L.drop i) := by
  have hs2 := hs
  unfold Srt at hs2 ⊢
  rw [← List.take_append_drop i L, List.pairwise_append] at hs2
  obtain ⟨a1, a2, a3⟩ := hs2
  rw [List.pairwise_append, List.pairwise_cons]
  refine ⟨a1, ⟨fun u hu => ?_, a2⟩, ?_⟩
  · rcases h2 with rfl | ⟨z, hz, hzx⟩
    · rw [List.drop_length] at hu; cases hu
    · have := (mem_take_rest hs hz).2 u hu
      exact .inl (by omega)
  · intro u hu v hv
    rcases List.mem_cons.1 hv with rfl | hv
    · rcases h1 with rfl | ⟨z, hz, hzx⟩
      · rw [List.take_zero] at hu; cases hu
      · have hpos : 0 < i := by
          rcases Nat.eq_zero_or_pos i with h | h
          · subst h; rw [List.take_zero] at hu; cases hu
          · exact h
        have := (mem_take_rest hs hz).1 u (by rw [show i - 1 + 1 = i by omega]; exact hu)
        rcases Int.lt_or_eq_of_le (Int.le_trans hzx this) with h | h
        · exact .inl h
        · exact .inr ⟨h, hx u (List.mem_of_mem_take hu)⟩
    · exact a3 u hu v hv
theorem one_of_len {α : Type} {l : List α} (h : l.length = 1) : ∃ x, l = [x] := by
  match l, h with
  | [x], _ => exact ⟨x, rfl⟩
theorem take_snoc {α : Type} {l : List α} {i : Nat} {z : α} (h : l[i]? = some z) : l.take (i + 1) = l.take i ++ [z] ∧ l.drop i = z :: l.drop (i + 1) := by
  have hi := (List.getElem?_eq_some_iff.1 h).1
  refine ⟨by rw [List.take_add_one, h]; rfl, ?_⟩
  rw [List.drop_eq_getElem_cons hi]
  rw [List.getElem?_eq_getElem hi] at h
  injection h with h
  rw [h]
/-- The search: what is known at its two ends. -/
def SymLo (L R : List Prt) (md lo s : Nat) : Prop := s = lo ∨ ∃ zl zr, L[s - 1]? = some zl ∧ R[md - s]? = some zr ∧ zr.2 ≤ zl.2 ∧ 0 < s
def SymHi (L R : List Prt) (md hi r : Nat) : Prop := r = hi ∨ ∃ zl zr, L[r]? = some zl ∧ R[md - 1 - r]? = some zr ∧ zl.2 < zr.2 ∧ r < md
theorem sym_cross {L R : List Prt} {s md : Nat} (hsL : Srt L) (hsR : Srt R) (hX : Cross L R) (hmd : md ≤ L.length + R.length)
    (h1 : s = md - R.length ∨ ∃ zl zr, L[s - 1]? = some zl ∧ R[md - s]? = some zr ∧ zr.2 ≤ zl.2 ∧ 0 < s) (h2 : s = min L.length md ∨ ∃ zl zr, L[s]? = some zl ∧ R[md - 1 - s]? = some zr ∧ zl.2 < zr.2 ∧ s < md) :
    ∀ u ∈ L.take s ++ R.take (md - s), ∀ v ∈ L.drop s ++ R.drop (md - s), lt u v := by
  have sp : ∀ {l : List Prt} {i : Nat}, Srt l → ∀ u ∈ l.take i, ∀ v ∈ l.drop i, lt u v := fun {l i} h u hu v hv => by
    unfold Srt at h
    rw [← List.take_append_drop i l, List.pairwise_append] at h
    exact h.2.2 u hu v hv
  intro u hu v hv
  rcases List.mem_append.1 hu with hu | hu <;> rcases List.mem_append.1 hv with hv | hv
  · exact sp hsL u hu v hv
  · rcases h1 with h | ⟨zl, zr, hl, hr, hle, h0⟩
    · rcases Nat.eq_zero_or_pos s with h0 | h0
      · subst h0; simp at hu
      · rw [show md - s = R.length by omega, List.drop_length] at hv; cases hv
    · have a1 := (mem_take_rest hsL hl).1 u (by rw [show s - 1 + 1 = s by omega]; exact hu)
      have a2 := (mem_take_rest hsR hr).2 v hv
      rcases Int.lt_or_eq_of_le (show v.2 ≤ u.2 by omega) with h | h
      · exact .inl h
      · exact .inr ⟨h, hX u (List.mem_of_mem_take hu) v (List.mem_of_mem_drop hv)⟩
  · rcases h2 with h | ⟨zl, zr, hl, hr, hlt, h0⟩
    · rcases Nat.lt_or_ge s L.length with h0 | h0
      · rw [show md - s = 0 by omega, List.take_zero] at hu; cases hu
      · rw [List.drop_eq_nil_of_le h0] at hv; cases hv
    · have a1 := (mem_take_rest hsR hr).1 u (by rw [show md - 1 - s + 1 = md - s by omega]; exact hu)
      have a2 := (mem_take_rest hsL hl).2 v hv
      exact .inl (by omega)
  · exact sp hsR u hu v hv
theorem srt_app {A B : List Prt} (hA : Srt A) (hB : Srt B) (h : ∀ u ∈ A, ∀ v ∈ B, lt u v) : Srt (A ++ B) := List.pairwise_append.2 ⟨hA, hB, h⟩
theorem Srt.take {l : List Prt} (h : Srt l) (i : Nat) : Srt (l.take i) := List.Pairwise.sublist (List.take_sublist i l) h
theorem Srt.drop {l : List Prt} (h : Srt l) (i : Nat) : Srt (l.drop i) := List.Pairwise.sublist (List.drop_sublist i l) h
set_option maxHeartbeats 2000000 in
theorem sym_step (sz : Nat) (ih : ∀ s, s < sz → SymOk s) : SymOk sz := by
  intro w0 w C g n c P L R S hS hsz hL hR hsL hsR hX hB hn
  have hlen := prow_len hS
  simp only [List.length_append] at hlen
  obtain ⟨av, hav⟩ : ∃ av, av = P.length := ⟨_, rfl⟩
  obtain ⟨p, hp⟩ : ∃ p, p = L.length := ⟨_, rfl⟩
  obtain ⟨q, hq⟩ : ∃ q, q = R.length := ⟨_, rfl⟩
  rw [← hav, ← hp, ← hq]
  rw [← hav, ← hp, ← hq] at hlen
  rw [← hp, ← hq] at hsz
  rw [← hp] at hL
  rw [← hq] at hR
  refine enter Try.func35 rfl Try.ntmps35 (Nat.le_of_ble_eq_true rfl) fun a hF => ?_
  refine wp_seq_k fun K0 hK0 => ?_
  refine wp_seq_k fun K1 hK1 => ?_
  -- region 0
  refine wp_region_lit ?_
  refine s_pu hF rfl rfl rfl (pu_move (hF.ev rfl)) ?_; clear hF; intro a hF
  refine s_pu hF rfl rfl rfl (pu_move (hF.ev rfl)) ?_; clear hF; intro a hF
  refine s_pu hF rfl rfl rfl ((by first | exact pu_sub64 (hF.ev rfl) (hF.ev rfl) (by omega) | exact pu_sub (hF.ev rfl) (hF.ev rfl))) ?_; clear hF; intro a hF
  refine s_pu hF rfl rfl rfl (pu_eql (hF.ev rfl) (hF.ev rfl)) ?_; clear hF; intro a hF
  refine s_done ?_
  refine hK1 _ _ ?_; clear hK1
  refine wp_cond_split (hF.ev rfl) (fun hc0 => ?_) (fun hc0 => ?_)
  · -- cond 0 true
    try simp only [decide_eq_true_eq, decide_eq_false_iff_not, Bool.not_eq_true', Bool.not_eq_false', Int.not_lt, Int.not_le, ne_eq, Decidable.not_not, Bool.or_eq_true, Bool.or_eq_false_iff, Bool.and_eq_true, Bool.and_eq_false_imp] at hc0
    obtain ⟨x, rfl⟩ := one_of_len (l := L) (by omega)
    have hbx := hB x (by simp)
    have hxR : ∀ y ∈ R, x.1 < y.1 := fun y hy => hX x (by simp) y hy
    have hgx : (P ++ [x] ++ R ++ S)[av]? = some x := by
      rw [show P ++ [x] ++ R ++ S = P ++ x :: (R ++ S) by simp, hav]
      exact get_mid _ _ _
    have hp1 : p = 1 := by rw [hp]; rfl
    subst hp1
    have hgr : ∀ {i : Nat} {z : Prt}, R[i]? = some z → (P ++ [x] ++ R ++ S)[av + 1 + i]? = some z := fun {i z} h => by
      have := at_app (U := P ++ [x]) (V := R ++ S) (at_app1 (V := S) h)
      rw [show (P ++ [x]).length = av + 1 by simp [hav]] at this
      rw [List.append_assoc (P ++ [x])]
      exact this
    refine wp_seq_k fun K2 hK2 => ?_
    -- region 1
    refine wp_region_lit ?_
    refine s_pu hF rfl rfl rfl (pu_move (hF.ev rfl)) ?_; clear hF; intro a hF
    refine s_pu hF rfl rfl rfl (pu_assign (hF.ev rfl)) ?_; clear hF; intro a hF
    refine s_done ?_
    refine hK2 _ _ ?_; clear hK2
    refine wp_seq_k fun K3 hK3 => ?_
    -- region 2
    refine wp_region_lit ?_
    refine s_pu hF rfl rfl rfl (pu_move (hF.ev rfl)) ?_; clear hF; intro a hF
    refine s_pu hF rfl rfl rfl (pu_assign (hF.ev rfl)) ?_; clear hF; intro a hF
    refine s_done ?_
    refine hK3 _ _ ?_; clear hK3
    refine wp_seq_k fun K4 hK4 => ?_
    refine wp_block ?_
    refine wp_ind (fun j a w => ∃ (i r : Nat), j = r - i ∧ i ≤ r ∧ r ≤ q ∧ (i = 0 ∨ ∃ z, R[i - 1]? = some z ∧ x.2 < z.2) ∧ (r = R.length ∨ ∃ z, R[r]? = some z ∧ z.2 ≤ x.2) ∧
      Fr a 220 [(0, .slice (some ⟨g, 0, none⟩) n c), (1, .int .i64 av), (4, .func (.func 24) #[] #[]), (10, .int .i64 (av + 1 + i : Nat)), (11, .int .i64 (av + 1 + r : Nat))] ∧ Sat w0 w (prow g n c (P ++ [x] ++ R ++ S) :: C)) q
      ⟨0, q, by omega, by omega, by omega, .inl rfl, .inl hq, hF.sub ⟨rfl, rfl, rfl, rfl, rfl, trivial⟩, hS⟩ ?_
    clear hS hF
    rintro j a w ⟨i, r, rfl, hir, hrq, hi1, hr1, hF, hS⟩
    refine wp_seq_k fun K5 hK5 => ?_
    refine wp_seq_k fun K6 hK6 => ?_
    -- region 3
    refine wp_region_lit ?_
    refine s_pu hF rfl rfl rfl (pu_move (hF.ev rfl)) ?_; clear hF; intro a hF
    refine s_pu hF rfl rfl rfl (pu_move (hF.ev rfl)) ?_; clear hF; intro a hF
    refine s_pu hF rfl rfl rfl (pu_lss (hF.ev rfl) (hF.ev rfl)) ?_; clear hF; intro a hF
    refine s_done ?_
    refine hK6 _ _ ?_; clear hK6
    refine wp_cond_split (hF.ev rfl) (fun hc1 => ?_) (fun hc1 => ?_)
    · -- cond 1 true
      try simp only [decide_eq_true_eq, decide_eq_false_iff_not, Bool.not_eq_true', Bool.not_eq_false', Int.not_lt, Int.not_le, ne_eq, Decidable.not_not, Bool.or_eq_true, Bool.or_eq_false_iff, Bool.and_eq_true, Bool.and_eq_false_imp] at hc1
      obtain ⟨h, hh⟩ : ∃ h : Nat, (((av + 1 + i : Nat) : Int) + ((av + 1 + r : Nat) : Int)) / 2 = ((av + 1 + h : Nat) : Int) := ⟨(i + r) / 2, by omega⟩
      have hh1 : i ≤ h ∧ h < r := by omega
      obtain ⟨z, hz⟩ : ∃ z, R[h]? = some z := ⟨R[h]'(by omega), List.getElem?_eq_getElem _⟩
      have hbz := hB z (by simp [List.mem_of_getElem? hz])
      have hgz := hgr hz
      refine wp_skip ?_
      refine hK5 _ _ ?_; clear hK5
      refine wp_block ?_
      refine wp_seq_k fun K7 hK7 => ?_
      -- region 4
      refine wp_region_lit ?_
      refine s_pu hF rfl rfl rfl (pu_move (hF.ev rfl)) ?_; clear hF; intro a hF
      refine s_pu hF rfl rfl rfl (pu_move (hF.ev rfl)) ?_; clear hF; intro a hF
      refine s_pu hF rfl rfl rfl ((by first | exact pu_add64 (hF.ev rfl) (hF.ev rfl) (by omega) | exact pu_add (hF.ev rfl) (hF.ev rfl))) ?_; clear hF; intro a hF
      refine s_pu hF rfl rfl rfl ((by first | exact pu_convP it3 it64 (hF.ev rfl) rfl (by omega) (by omega) | exact pu_conv_int it3 it64 (hF.ev rfl))) ?_; clear hF; intro a hF
      refine s_pu hF rfl rfl rfl (pu_half (hF.ev rfl) (hF.ev rfl) rfl) ?_; clear hF; intro a hF
      refine s_pu hF rfl rfl rfl ((by first | exact pu_convP it64 it3 (hF.ev rfl) rfl (by omega) (by omega) | exact pu_conv_int it64 it3 (hF.ev rfl))) ?_; clear hF; intro a hF
      refine s_pu hF rfl rfl rfl (pu_assign (hF.ev rfl)) ?_; clear hF; intro a hF
      refine s_done ?_
      rw [hh] at hF
      refine hK7 _ _ ?_; clear hK7
      refine wp_seq_k fun K8 hK8 => ?_
      -- region 5
      refine d_start (S := (fun w => Sat w0 w _)) (ds := [9]) (ord := [(0, .pu), (1, .pu), (2, .pu), (3, .pu), (4, .tk), (5, .pu), (6, .pu), (7, .pu), (8, .tk), (9, .ls), (10, .pu)]) mixed ⟨by kernel_rfl, fun _ d _ _ _ h => by cases d <;> exact h⟩ hS.drew fun hD => ?_
      replace hS := hS.drew; generalize w.drew = w at hS ⊢
      refine d_pu hD hF rfl rfl rfl rfl rfl (pu_move (hF.ev rfl)) ?_; clear hF; intro a hF
      refine d_pu hD hF rfl rfl rfl rfl rfl (pu_move (hF.ev rfl)) ?_; clear hF; intro a hF
      refine d_pu hD hF rfl rfl rfl rfl rfl (pu_move (hF.ev rfl)) ?_; clear hF; intro a hF
      refine d_pu hD hF rfl rfl rfl rfl rfl ((by first | exact pu_elem sl50 (hF.ev rfl) (hF.ev rfl) (by first | omega | simp) (by first | omega | (simp; done) | (simp; omega)) | exact pu_elemA sl50 (hF.ev rfl) (hF.ev rfl) (by omega) (by omega))) ?_; clear hF; intro a hF
      refine d_rd hD hF rfl rfl rfl rfl rfl hS (fun w hS => rd_loadN ag52 (hF.ev rfl) rfl (row_load (i := 0) hS rfl (by omega) (parts_at hgz))) ?_; clear hF; intro a hF
      refine d_pu hD hF rfl rfl rfl rfl rfl (pu_move (hF.ev rfl)) ?_; clear hF; intro a hF
      refine d_pu hD hF rfl rfl rfl rfl rfl (pu_move (hF.ev rfl)) ?_; clear hF; intro a hF
      refine d_pu hD hF rfl rfl rfl rfl rfl ((by first | exact pu_elem sl50 (hF.ev rfl) (hF.ev rfl) (by first | omega | simp) (by first | omega | (simp; done) | (simp; omega)) | exact pu_elemA sl50 (hF.ev rfl) (hF.ev rfl) (by omega) (by omega))) ?_; clear hF; intro a hF
      refine d_rd hD hF rfl rfl rfl rfl rfl hS (fun w hS => rd_loadN ag52 (hF.ev rfl) rfl (row_load (i := 0) hS rfl (by omega) (parts_at hgx))) ?_; clear hF; intro a hF
      refine l_en hD hF rfl rfl rfl rfl rfl (run_fn fk24 (hF.ev rfl) (hF.evs rfl)) (cmp_c (p := z) (q := x) hS hbz hbx) ?_
      clear hS; rintro e w ⟨rfl, hS⟩
      refine ⟨_, rfl, ?_⟩; clear hF; intro a hF
      refine d_pu hD hF rfl rfl rfl rfl rfl (pu_lss (hF.ev rfl) (hF.ev rfl)) ?_; clear hF; intro a hF
      refine d_done hD rfl ?_; clear hD
      refine hK8 _ _ ?_; clear hK8
      refine wp_cond_split (hF.ev rfl) (fun hc2 => ?_) (fun hc2 => ?_)
      · -- cond 2 true
        try simp only [decide_eq_true_eq, decide_eq_false_iff_not, Bool.not_eq_true', Bool.not_eq_false', Int.not_lt, Int.not_le, ne_eq, Decidable.not_not, Bool.or_eq_true, Bool.or_eq_false_iff, Bool.and_eq_true, Bool.and_eq_false_imp] at hc2
        -- region 6
        refine wp_region_lit ?_
        refine s_pu hF rfl rfl rfl (pu_move (hF.ev rfl)) ?_; clear hF; intro a hF
        refine s_pu hF rfl rfl rfl ((by first | exact pu_add64 (hF.ev rfl) (hF.ev rfl) (by omega) | exact pu_add (hF.ev rfl) (hF.ev rfl))) ?_; clear hF; intro a hF
        refine s_pu hF rfl rfl rfl (pu_assign (hF.ev rfl)) ?_; clear hF; intro a hF
        refine s_done ?_
        refine blk_normal ?_
        first
          | (have e9 : ((av + 1 + (h + 1) : Nat) : Int) = ((av + 1 + h : Nat) : Int) + 1 := by omega
             refine ⟨_, by omega, h + 1, r, rfl, by omega, hrq, .inr ⟨z, hz, by omega⟩, hr1, ?_, hS⟩
             rw [e9]
             exact hF.sub ⟨rfl, rfl, rfl, rfl, rfl, trivial⟩)
          | exact ⟨_, by omega, i, h, rfl, by omega, by omega, hi1, .inr ⟨z, hz, by omega⟩, hF.sub ⟨rfl, rfl, rfl, rfl, rfl, trivial⟩, hS⟩
      · -- cond 2 false
        try simp only [decide_eq_true_eq, decide_eq_false_iff_not, Bool.not_eq_true', Bool.not_eq_false', Int.not_lt, Int.not_le, ne_eq, Decidable.not_not, Bool.or_eq_true, Bool.or_eq_false_iff, Bool.and_eq_true, Bool.and_eq_false_imp] at hc2
        -- region 7
        refine wp_region_lit ?_
        refine s_pu hF rfl rfl rfl (pu_move (hF.ev rfl)) ?_; clear hF; intro a hF
        refine s_pu hF rfl rfl rfl (pu_assign (hF.ev rfl)) ?_; clear hF; intro a hF
        refine s_done ?_
        refine blk_normal ?_
        first
          | (have e9 : ((av + 1 + (h + 1) : Nat) : Int) = ((av + 1 + h : Nat) : Int) + 1 := by omega
             refine ⟨_, by omega, h + 1, r, rfl, by omega, hrq, .inr ⟨z, hz, by omega⟩, hr1, ?_, hS⟩
             rw [e9]
             exact hF.sub ⟨rfl, rfl, rfl, rfl, rfl, trivial⟩)
          | exact ⟨_, by omega, i, h, rfl, by omega, by omega, hi1, .inr ⟨z, hz, by omega⟩, hF.sub ⟨rfl, rfl, rfl, rfl, rfl, trivial⟩, hS⟩
    · -- cond 1 false
      try simp only [decide_eq_true_eq, decide_eq_false_iff_not, Bool.not_eq_true', Bool.not_eq_false', Int.not_lt, Int.not_le, ne_eq, Decidable.not_not, Bool.or_eq_true, Bool.or_eq_false_iff, Bool.and_eq_true, Bool.and_eq_false_imp] at hc1
      have hire : r = i := by omega
      subst hire
      refine wp_exit ?_
      refine then_exit ?_
      refine then_exit ?_
      refine blk_exit ?_
      refine hK4 _ _ ?_; clear hK4
      refine wp_seq_k fun K7 hK7 => ?_
      refine wp_seq_k fun K8 hK8 => ?_
      -- region 8
      refine wp_region_lit ?_
      refine s_pu hF rfl rfl rfl (pu_move (hF.ev rfl)) ?_; clear hF; intro a hF
      refine s_pu hF rfl rfl rfl (pu_assign (hF.ev rfl)) ?_; clear hF; intro a hF
      refine s_done ?_
      refine hK8 _ _ ?_; clear hK8
      refine wp_block ?_
      refine wp_ind (fun j a w => ∃ (t : Nat), j = r - t ∧ t ≤ r ∧
        Fr a 220 [(0, .slice (some ⟨g, 0, none⟩) n c), (10, .int .i64 (av + 1 + r : Nat)), (13, .int .i64 (av + t : Nat))] ∧ Sat w0 w (prow g n c (P ++ R.take t ++ x :: (R.drop t ++ S)) :: C)) r
        ⟨0, rfl, by omega, hF.sub ⟨rfl, rfl, rfl, trivial⟩, by simpa using hS⟩ ?_
      clear hS hF
      rintro j a w ⟨t, rfl, htr, hF, hS⟩
      refine wp_seq_k fun K9 hK9 => ?_
      refine wp_seq_k fun K10 hK10 => ?_
      -- region 9
      refine wp_region_lit ?_
      refine s_pu hF rfl rfl rfl (pu_move (hF.ev rfl)) ?_; clear hF; intro a hF
      refine s_pu hF rfl rfl rfl (pu_move (hF.ev rfl)) ?_; clear hF; intro a hF
      refine s_pu hF rfl rfl rfl ((by first | exact pu_sub64 (hF.ev rfl) (hF.ev rfl) (by omega) | exact pu_sub (hF.ev rfl) (hF.ev rfl))) ?_; clear hF; intro a hF
      refine s_pu hF rfl rfl rfl (pu_lss (hF.ev rfl) (hF.ev rfl)) ?_; clear hF; intro a hF
      refine s_done ?_
      refine hK10 _ _ ?_; clear hK10
      refine wp_cond_split (hF.ev rfl) (fun hc3 => ?_) (fun hc3 => ?_)
      · -- cond 3 true
        try simp only [decide_eq_true_eq, decide_eq_false_iff_not, Bool.not_eq_true', Bool.not_eq_false', Int.not_lt, Int.not_le, ne_eq, Decidable.not_not, Bool.or_eq_true, Bool.or_eq_false_iff, Bool.and_eq_true, Bool.and_eq_false_imp] at hc3
        have htr2 : t < r := by omega
        obtain ⟨z, hz⟩ : ∃ z, R[t]? = some z := ⟨R[t]'(by omega), List.getElem?_eq_getElem _⟩
        obtain ⟨hz1, hz2⟩ := take_snoc hz
        rw [hz2] at hS
        have htl : (R.take t).length = t := by rw [List.length_take]; omega
        have hg1 : (P ++ R.take t ++ x :: (z :: R.drop (t + 1) ++ S))[av + t]? = some x := by
          rw [show av + t = (P ++ R.take t).length by simp [hav, htl]]
          exact get_mid _ _ _
        have hg2 : (P ++ R.take t ++ x :: (z :: R.drop (t + 1) ++ S))[av + t + 1]? = some z := by
          rw [show P ++ R.take t ++ x :: (z :: R.drop (t + 1) ++ S) = (P ++ R.take t ++ [x]) ++ z :: (R.drop (t + 1) ++ S) by simp, show av + t + 1 = (P ++ R.take t ++ [x]).length by simp [hav, htl]; omega]
          exact get_mid _ _ _
        have hk1 : ((av + t : Nat) : Int) + 1 = ((av + t + 1 : Nat) : Int) := by omega
        have hxl := prow_len hS
        have hbn : av + t + 1 < n := by omega
        refine wp_skip ?_
        refine hK9 _ _ ?_; clear hK9
        refine wp_seq_k fun K11 hK11 => ?_
        refine wp_block ?_
        -- region 11
        refine d_start (S := (fun w => Sat w0 w _)) (ds := [15, 17]) (ord := [(0, .pu), (1, .pu), (2, .pu), (3, .pu), (4, .pu), (5, .pu), (6, .pu), (7, .pu), (8, .pu), (9, .tk), (10, .pu), (11, .pu), (12, .pu), (13, .tk), (14, .pu), (15, .ls), (16, .pu), (17, .ls)]) mixed ⟨by kernel_rfl, fun _ d _ _ _ h => by cases d <;> exact h⟩ hS.drew fun hD => ?_
        replace hS := hS.drew; generalize w.drew = w at hS ⊢
        refine d_pu hD hF rfl rfl rfl rfl rfl (pu_move (hF.ev rfl)) ?_; clear hF; intro a hF
        refine d_pu hD hF rfl rfl rfl rfl rfl (pu_move (hF.ev rfl)) ?_; clear hF; intro a hF
        refine d_pu hD hF rfl rfl rfl rfl rfl (pu_move (hF.ev rfl)) ?_; clear hF; intro a hF
        refine d_pu hD hF rfl rfl rfl rfl rfl (pu_move (hF.ev rfl)) ?_; clear hF; intro a hF
        refine d_pu hD hF rfl rfl rfl rfl rfl ((by first | exact pu_add64 (hF.ev rfl) (hF.ev rfl) (by omega) | exact pu_add (hF.ev rfl) (hF.ev rfl))) ?_; clear hF; intro a hF
        refine d_pu hD hF rfl rfl rfl rfl rfl (pu_move (hF.ev rfl)) ?_; clear hF; intro a hF
        refine d_pu hD hF rfl rfl rfl rfl rfl (pu_move (hF.ev rfl)) ?_; clear hF; intro a hF
        refine d_pu hD hF rfl rfl rfl rfl rfl ((by first | exact pu_add64 (hF.ev rfl) (hF.ev rfl) (by omega) | exact pu_add (hF.ev rfl) (hF.ev rfl))) ?_; clear hF; intro a hF
        rw [hk1] at hF
        refine d_pu hD hF rfl rfl rfl rfl rfl ((by first | exact pu_elem sl50 (hF.ev rfl) (hF.ev rfl) (by first | omega | simp) (by first | omega | (simp; done) | (simp; omega)) | exact pu_elemA sl50 (hF.ev rfl) (hF.ev rfl) (by omega) (by omega))) ?_; clear hF; intro a hF
        refine d_rd hD hF rfl rfl rfl rfl rfl hS (fun w hS => rd_loadN ag52 (hF.ev rfl) rfl (row_load (i := 0) hS rfl (by omega) (parts_at hg2))) ?_; clear hF; intro a hF
        refine d_pu hD hF rfl rfl rfl rfl rfl (pu_move (hF.ev rfl)) ?_; clear hF; intro a hF
        refine d_pu hD hF rfl rfl rfl rfl rfl (pu_move (hF.ev rfl)) ?_; clear hF; intro a hF
        refine d_pu hD hF rfl rfl rfl rfl rfl ((by first | exact pu_elem sl50 (hF.ev rfl) (hF.ev rfl) (by first | omega | simp) (by first | omega | (simp; done) | (simp; omega)) | exact pu_elemA sl50 (hF.ev rfl) (hF.ev rfl) (by omega) (by omega))) ?_; clear hF; intro a hF
        refine d_rd hD hF rfl rfl rfl rfl rfl hS (fun w hS => rd_loadN ag52 (hF.ev rfl) rfl (row_load (i := 0) hS rfl (by omega) (parts_at hg1))) ?_; clear hF; intro a hF
        refine d_pu hD hF rfl rfl rfl rfl rfl ((by first | exact pu_elem sl50 (hF.ev rfl) (hF.ev rfl) (by first | omega | simp) (by first | omega | (simp; done) | (simp; omega)) | exact pu_elemA sl50 (hF.ev rfl) (hF.ev rfl) (by omega) (by omega))) ?_; clear hF; intro a hF
        refine l_rstoreN (k := av + t) (vs := [_, _]) 0 hD hF rfl rfl rfl (hF.ev rfl) (hF.ev rfl) hS rfl rfl sz52 rfl rfl (by omega) ?_
        clear hS; intro w hS; (try simp only [upd, del] at hS)
        rw [parts_set (by omega)] at hS
        refine d_pu hD hF rfl rfl rfl rfl rfl ((by first | exact pu_elem sl50 (hF.ev rfl) (hF.ev rfl) (by first | omega | simp) (by first | omega | (simp; done) | (simp; omega)) | exact pu_elemA sl50 (hF.ev rfl) (hF.ev rfl) (by omega) (by omega))) ?_; clear hF; intro a hF
        refine l_rstoreN (k := av + t + 1) (vs := [_, _]) 0 hD hF rfl rfl rfl (hF.ev rfl) (hF.ev rfl) hS rfl rfl sz52 rfl rfl hbn ?_
        clear hS; intro w hS; (try simp only [upd, del] at hS)
        rw [parts_set (by rw [List.length_set]; omega)] at hS
        refine d_done hD rfl ?_; clear hD
        refine blk_normal ?_
        refine hK11 _ _ ?_; clear hK11
        -- region 10
        refine wp_region_lit ?_
        refine s_pu hF rfl rfl rfl (pu_move (hF.ev rfl)) ?_; clear hF; intro a hF
        refine s_pu hF rfl rfl rfl ((by first | exact pu_add64 (hF.ev rfl) (hF.ev rfl) (by omega) | exact pu_add (hF.ev rfl) (hF.ev rfl))) ?_; clear hF; intro a hF
        refine s_pu hF rfl rfl rfl (pu_assign (hF.ev rfl)) ?_; clear hF; intro a hF
        refine s_done ?_
        refine ⟨_, by omega, t + 1, rfl, by omega, ?_, ?_⟩
        · rw [show ((av + (t + 1) : Nat) : Int) = ((av + t : Nat) : Int) + 1 by omega]
          rw [← hk1] at hF
          exact hF.sub ⟨rfl, rfl, rfl, trivial⟩
        · have e1 : ((P ++ R.take t ++ x :: (z :: R.drop (t + 1) ++ S)).set (av + t) z).set (av + t + 1) x = P ++ R.take (t + 1) ++ x :: (R.drop (t + 1) ++ S) := by
            rw [show av + t = (P ++ R.take t).length by simp [hav, htl], set_mid]
            rw [show P ++ R.take t ++ z :: (z :: R.drop (t + 1) ++ S) = (P ++ R.take t ++ [z]) ++ z :: (R.drop (t + 1) ++ S) by simp, show (P ++ R.take t).length + 1 = (P ++ R.take t ++ [z]).length by simp; omega, set_mid, hz1]
            simp
          rw [e1] at hS
          exact hS
      · -- cond 3 false
        try simp only [decide_eq_true_eq, decide_eq_false_iff_not, Bool.not_eq_true', Bool.not_eq_false', Int.not_lt, Int.not_le, ne_eq, Decidable.not_not, Bool.or_eq_true, Bool.or_eq_false_iff, Bool.and_eq_true, Bool.and_eq_false_imp] at hc3
        refine wp_exit ?_
        refine then_exit ?_
        refine then_exit ?_
        refine blk_exit ?_
        refine hK7 _ _ ?_; clear hK7
        refine wp_ret ?_
        refine then_ret ?_
        refine fin0r Try.results35 hF ?_
        have htr2 : t = r := by omega
        subst htr2
        refine ⟨rfl, R.take t ++ x :: R.drop t, ?_, put_ahead hsR hxR hi1 hr1, by simpa using hS⟩
        have := (List.perm_middle (a := x) (l₁ := R.take t) (l₂ := R.drop t))
        rw [List.take_append_drop] at this
        exact this
  · -- cond 0 false
    try simp only [decide_eq_true_eq, decide_eq_false_iff_not, Bool.not_eq_true', Bool.not_eq_false', Int.not_lt, Int.not_le, ne_eq, Decidable.not_not, Bool.or_eq_true, Bool.or_eq_false_iff, Bool.and_eq_true, Bool.and_eq_false_imp] at hc0
    refine wp_skip ?_
    refine hK0 _ _ ?_; clear hK0
    refine wp_seq_k fun K2 hK2 => ?_
    refine wp_seq_k fun K3 hK3 => ?_
    -- region 12
    refine wp_region_lit ?_
    refine s_pu hF rfl rfl rfl (pu_move (hF.ev rfl)) ?_; clear hF; intro a hF
    refine s_pu hF rfl rfl rfl (pu_move (hF.ev rfl)) ?_; clear hF; intro a hF
    refine s_pu hF rfl rfl rfl ((by first | exact pu_sub64 (hF.ev rfl) (hF.ev rfl) (by omega) | exact pu_sub (hF.ev rfl) (hF.ev rfl))) ?_; clear hF; intro a hF
    refine s_pu hF rfl rfl rfl (pu_eql (hF.ev rfl) (hF.ev rfl)) ?_; clear hF; intro a hF
    refine s_done ?_
    refine hK3 _ _ ?_; clear hK3
    refine wp_cond_split (hF.ev rfl) (fun hc4 => ?_) (fun hc4 => ?_)
    · -- cond 4 true
      try simp only [decide_eq_true_eq, decide_eq_false_iff_not, Bool.not_eq_true', Bool.not_eq_false', Int.not_lt, Int.not_le, ne_eq, Decidable.not_not, Bool.or_eq_true, Bool.or_eq_false_iff, Bool.and_eq_true, Bool.and_eq_false_imp] at hc4
      obtain ⟨y, rfl⟩ := one_of_len (l := R) (by omega)
      have hby := hB y (by simp)
      have hyL : ∀ u ∈ L, u.1 < y.1 := fun u hu => hX u hu y (by simp)
      have hq1 : q = 1 := by rw [hq]; rfl
      subst hq1
      have hgy : (P ++ L ++ [y] ++ S)[av + p]? = some y := by
        rw [show P ++ L ++ [y] ++ S = (P ++ L) ++ y :: S by simp, show av + p = (P ++ L).length by simp [hav, hp]]
        exact get_mid _ _ _
      have hgl : ∀ {i : Nat} {z : Prt}, L[i]? = some z → (P ++ L ++ [y] ++ S)[av + i]? = some z := fun {i z} h => by
        have := at_app (U := P) (V := L ++ ([y] ++ S)) (at_app1 (V := [y] ++ S) h)
        rw [← hav] at this
        rw [show P ++ L ++ [y] ++ S = P ++ (L ++ ([y] ++ S)) by simp]
        exact this
      refine wp_seq_k fun K4 hK4 => ?_
      -- region 13
      refine wp_region_lit ?_
      refine s_pu hF rfl rfl rfl (pu_move (hF.ev rfl)) ?_; clear hF; intro a hF
      refine s_pu hF rfl rfl rfl (pu_assign (hF.ev rfl)) ?_; clear hF; intro a hF
      refine s_done ?_
      refine hK4 _ _ ?_; clear hK4
      refine wp_seq_k fun K5 hK5 => ?_
      -- region 14
      refine wp_region_lit ?_
      refine s_pu hF rfl rfl rfl (pu_move (hF.ev rfl)) ?_; clear hF; intro a hF
      refine s_pu hF rfl rfl rfl (pu_assign (hF.ev rfl)) ?_; clear hF; intro a hF
      refine s_done ?_
      refine hK5 _ _ ?_; clear hK5
      refine wp_seq_k fun K6 hK6 => ?_
      refine wp_block ?_
      refine wp_ind (fun j a w => ∃ (i r : Nat), j = r - i ∧ i ≤ r ∧ r ≤ p ∧ (i = 0 ∨ ∃ z, L[i - 1]? = some z ∧ y.2 ≤ z.2) ∧ (r = L.length ∨ ∃ z, L[r]? = some z ∧ z.2 < y.2) ∧
        Fr a 220 [(0, .slice (some ⟨g, 0, none⟩) n c), (2, .int .i64 (av + p : Nat)), (4, .func (.func 24) #[] #[]), (14, .int .i64 (av + i : Nat)), (15, .int .i64 (av + r : Nat))] ∧ Sat w0 w (prow g n c (P ++ L ++ [y] ++ S) :: C)) p
        ⟨0, p, by omega, by omega, by omega, .inl rfl, .inl hp, hF.sub ⟨rfl, rfl, rfl, rfl, rfl, trivial⟩, hS⟩ ?_
      clear hS hF
      rintro j a w ⟨i, r, rfl, hir, hrq, hi1, hr1, hF, hS⟩
      refine wp_seq_k fun K7 hK7 => ?_
      refine wp_seq_k fun K8 hK8 => ?_
      -- region 15
      refine wp_region_lit ?_
      refine s_pu hF rfl rfl rfl (pu_move (hF.ev rfl)) ?_; clear hF; intro a hF
      refine s_pu hF rfl rfl rfl (pu_move (hF.ev rfl)) ?_; clear hF; intro a hF
      refine s_pu hF rfl rfl rfl (pu_lss (hF.ev rfl) (hF.ev rfl)) ?_; clear hF; intro a hF
      refine s_done ?_
      refine hK8 _ _ ?_; clear hK8
      refine wp_cond_split (hF.ev rfl) (fun hc5 => ?_) (fun hc5 => ?_)
      · -- cond 5 true
        try simp only [decide_eq_true_eq, decide_eq_false_iff_not, Bool.not_eq_true', Bool.not_eq_false', Int.not_lt, Int.not_le, ne_eq, Decidable.not_not, Bool.or_eq_true, Bool.or_eq_false_iff, Bool.and_eq_true, Bool.and_eq_false_imp] at hc5
        obtain ⟨h, hh⟩ : ∃ h : Nat, (((av + i : Nat) : Int) + ((av + r : Nat) : Int)) / 2 = ((av + h : Nat) : Int) := ⟨(i + r) / 2, by omega⟩
        have hh1 : i ≤ h ∧ h < r := by omega
        obtain ⟨z, hz⟩ : ∃ z, L[h]? = some z := ⟨L[h]'(by omega), List.getElem?_eq_getElem _⟩
        have hbz := hB z (by simp [List.mem_of_getElem? hz])
        have hgz := hgl hz
        refine wp_skip ?_
        refine hK7 _ _ ?_; clear hK7
        refine wp_block ?_
        refine wp_seq_k fun K9 hK9 => ?_
        -- region 16
        refine wp_region_lit ?_
        refine s_pu hF rfl rfl rfl (pu_move (hF.ev rfl)) ?_; clear hF; intro a hF
        refine s_pu hF rfl rfl rfl (pu_move (hF.ev rfl)) ?_; clear hF; intro a hF
        refine s_pu hF rfl rfl rfl ((by first | exact pu_add64 (hF.ev rfl) (hF.ev rfl) (by omega) | exact pu_add (hF.ev rfl) (hF.ev rfl))) ?_; clear hF; intro a hF
        refine s_pu hF rfl rfl rfl ((by first | exact pu_convP it3 it64 (hF.ev rfl) rfl (by omega) (by omega) | exact pu_conv_int it3 it64 (hF.ev rfl))) ?_; clear hF; intro a hF
        refine s_pu hF rfl rfl rfl (pu_half (hF.ev rfl) (hF.ev rfl) rfl) ?_; clear hF; intro a hF
        refine s_pu hF rfl rfl rfl ((by first | exact pu_convP it64 it3 (hF.ev rfl) rfl (by omega) (by omega) | exact pu_conv_int it64 it3 (hF.ev rfl))) ?_; clear hF; intro a hF
        refine s_pu hF rfl rfl rfl (pu_assign (hF.ev rfl)) ?_; clear hF; intro a hF
        refine s_done ?_
        rw [hh] at hF
        refine hK9 _ _ ?_; clear hK9
        refine wp_seq_k fun K10 hK10 => ?_
        -- region 17
        refine d_start (S := (fun w => Sat w0 w _)) (ds := [9]) (ord := [(0, .pu), (1, .pu), (2, .pu), (3, .pu), (4, .tk), (5, .pu), (6, .pu), (7, .pu), (8, .tk), (9, .ls), (10, .pu), (11, .pu)]) mixed ⟨by kernel_rfl, fun _ d _ _ _ h => by cases d <;> exact h⟩ hS.drew fun hD => ?_
        replace hS := hS.drew; generalize w.drew = w at hS ⊢
        refine d_pu hD hF rfl rfl rfl rfl rfl (pu_move (hF.ev rfl)) ?_; clear hF; intro a hF
        refine d_pu hD hF rfl rfl rfl rfl rfl (pu_move (hF.ev rfl)) ?_; clear hF; intro a hF
        refine d_pu hD hF rfl rfl rfl rfl rfl (pu_move (hF.ev rfl)) ?_; clear hF; intro a hF
        refine d_pu hD hF rfl rfl rfl rfl rfl ((by first | exact pu_elem sl50 (hF.ev rfl) (hF.ev rfl) (by first | omega | simp) (by first | omega | (simp; done) | (simp; omega)) | exact pu_elemA sl50 (hF.ev rfl) (hF.ev rfl) (by omega) (by omega))) ?_; clear hF; intro a hF
        refine d_rd hD hF rfl rfl rfl rfl rfl hS (fun w hS => rd_loadN ag52 (hF.ev rfl) rfl (row_load (i := 0) hS rfl (by omega) (parts_at hgy))) ?_; clear hF; intro a hF
        refine d_pu hD hF rfl rfl rfl rfl rfl (pu_move (hF.ev rfl)) ?_; clear hF; intro a hF
        refine d_pu hD hF rfl rfl rfl rfl rfl (pu_move (hF.ev rfl)) ?_; clear hF; intro a hF
        refine d_pu hD hF rfl rfl rfl rfl rfl ((by first | exact pu_elem sl50 (hF.ev rfl) (hF.ev rfl) (by first | omega | simp) (by first | omega | (simp; done) | (simp; omega)) | exact pu_elemA sl50 (hF.ev rfl) (hF.ev rfl) (by omega) (by omega))) ?_; clear hF; intro a hF
        refine d_rd hD hF rfl rfl rfl rfl rfl hS (fun w hS => rd_loadN ag52 (hF.ev rfl) rfl (row_load (i := 0) hS rfl (by omega) (parts_at hgz))) ?_; clear hF; intro a hF
        refine l_en hD hF rfl rfl rfl rfl rfl (run_fn fk24 (hF.ev rfl) (hF.evs rfl)) (cmp_c (p := y) (q := z) hS hby hbz) ?_
        clear hS; rintro e w ⟨rfl, hS⟩
        refine ⟨_, rfl, ?_⟩; clear hF; intro a hF
        refine d_pu hD hF rfl rfl rfl rfl rfl (pu_lss (hF.ev rfl) (hF.ev rfl)) ?_; clear hF; intro a hF
        refine d_pu hD hF rfl rfl rfl rfl rfl (pu_not (hF.ev rfl)) ?_; clear hF; intro a hF
        refine d_done hD rfl ?_; clear hD
        refine hK10 _ _ ?_; clear hK10
        refine wp_cond_split (hF.ev rfl) (fun hc6 => ?_) (fun hc6 => ?_)
        · -- cond 6 true
          try simp only [decide_eq_true_eq, decide_eq_false_iff_not, Bool.not_eq_true', Bool.not_eq_false', Int.not_lt, Int.not_le, ne_eq, Decidable.not_not, Bool.or_eq_true, Bool.or_eq_false_iff, Bool.and_eq_true, Bool.and_eq_false_imp] at hc6
          -- region 18
          refine wp_region_lit ?_
          refine s_pu hF rfl rfl rfl (pu_move (hF.ev rfl)) ?_; clear hF; intro a hF
          refine s_pu hF rfl rfl rfl ((by first | exact pu_add64 (hF.ev rfl) (hF.ev rfl) (by omega) | exact pu_add (hF.ev rfl) (hF.ev rfl))) ?_; clear hF; intro a hF
          refine s_pu hF rfl rfl rfl (pu_assign (hF.ev rfl)) ?_; clear hF; intro a hF
          refine s_done ?_
          refine blk_normal ?_
          first
            | (have e9 : ((av + (h + 1) : Nat) : Int) = ((av + h : Nat) : Int) + 1 := by omega
               refine ⟨_, by omega, h + 1, r, rfl, by omega, hrq, .inr ⟨z, hz, by omega⟩, hr1, ?_, hS⟩
               rw [e9]
               exact hF.sub ⟨rfl, rfl, rfl, rfl, rfl, trivial⟩)
            | exact ⟨_, by omega, i, h, rfl, by omega, by omega, hi1, .inr ⟨z, hz, by omega⟩, hF.sub ⟨rfl, rfl, rfl, rfl, rfl, trivial⟩, hS⟩
        · -- cond 6 false
          try simp only [decide_eq_true_eq, decide_eq_false_iff_not, Bool.not_eq_true', Bool.not_eq_false', Int.not_lt, Int.not_le, ne_eq, Decidable.not_not, Bool.or_eq_true, Bool.or_eq_false_iff, Bool.and_eq_true, Bool.and_eq_false_imp] at hc6
          -- region 19
          refine wp_region_lit ?_
          refine s_pu hF rfl rfl rfl (pu_move (hF.ev rfl)) ?_; clear hF; intro a hF
          refine s_pu hF rfl rfl rfl (pu_assign (hF.ev rfl)) ?_; clear hF; intro a hF
          refine s_done ?_
          refine blk_normal ?_
          first
            | (have e9 : ((av + (h + 1) : Nat) : Int) = ((av + h : Nat) : Int) + 1 := by omega
               refine ⟨_, by omega, h + 1, r, rfl, by omega, hrq, .inr ⟨z, hz, by omega⟩, hr1, ?_, hS⟩
               rw [e9]
               exact hF.sub ⟨rfl, rfl, rfl, rfl, rfl, trivial⟩)
            | exact ⟨_, by omega, i, h, rfl, by omega, by omega, hi1, .inr ⟨z, hz, by omega⟩, hF.sub ⟨rfl, rfl, rfl, rfl, rfl, trivial⟩, hS⟩
      · -- cond 5 false
        try simp only [decide_eq_true_eq, decide_eq_false_iff_not, Bool.not_eq_true', Bool.not_eq_false', Int.not_lt, Int.not_le, ne_eq, Decidable.not_not, Bool.or_eq_true, Bool.or_eq_false_iff, Bool.and_eq_true, Bool.and_eq_false_imp] at hc5
        have hire : r = i := by omega
        subst hire
        refine wp_exit ?_
        refine then_exit ?_
        refine then_exit ?_
        refine blk_exit ?_
        refine hK6 _ _ ?_; clear hK6
        refine wp_seq_k fun K9 hK9 => ?_
        refine wp_seq_k fun K10 hK10 => ?_
        -- region 20
        refine wp_region_lit ?_
        refine s_pu hF rfl rfl rfl (pu_move (hF.ev rfl)) ?_; clear hF; intro a hF
        refine s_pu hF rfl rfl rfl (pu_assign (hF.ev rfl)) ?_; clear hF; intro a hF
        refine s_done ?_
        refine hK10 _ _ ?_; clear hK10
        refine wp_block ?_
        refine wp_ind (fun j a w => ∃ (t : Nat), j = t - r ∧ r ≤ t ∧ t ≤ p ∧
          Fr a 220 [(0, .slice (some ⟨g, 0, none⟩) n c), (14, .int .i64 (av + r : Nat)), (17, .int .i64 (av + t : Nat))] ∧ Sat w0 w (prow g n c (P ++ L.take t ++ y :: (L.drop t ++ S)) :: C)) (p - r)
          ⟨p, rfl, by omega, by omega, hF.sub ⟨rfl, rfl, rfl, trivial⟩, by rw [hp, List.take_length, List.drop_length]; simpa using hS⟩ ?_
        clear hS hF
        rintro j a w ⟨t, rfl, htr, htp, hF, hS⟩
        refine wp_seq_k fun K11 hK11 => ?_
        refine wp_seq_k fun K12 hK12 => ?_
        -- region 21
        refine wp_region_lit ?_
        refine s_pu hF rfl rfl rfl (pu_move (hF.ev rfl)) ?_; clear hF; intro a hF
        refine s_pu hF rfl rfl rfl (pu_move (hF.ev rfl)) ?_; clear hF; intro a hF
        refine s_pu hF rfl rfl rfl (pu_gtr (hF.ev rfl) (hF.ev rfl)) ?_; clear hF; intro a hF
        refine s_done ?_
        refine hK12 _ _ ?_; clear hK12
        refine wp_cond_split (hF.ev rfl) (fun hc7 => ?_) (fun hc7 => ?_)
        · -- cond 7 true
          try simp only [decide_eq_true_eq, decide_eq_false_iff_not, Bool.not_eq_true', Bool.not_eq_false', Int.not_lt, Int.not_le, ne_eq, Decidable.not_not, Bool.or_eq_true, Bool.or_eq_false_iff, Bool.and_eq_true, Bool.and_eq_false_imp] at hc7
          obtain ⟨t2, rfl⟩ : ∃ t2, t = t2 + 1 := ⟨t - 1, by omega⟩
          obtain ⟨z, hz⟩ : ∃ z, L[t2]? = some z := ⟨L[t2]'(by omega), List.getElem?_eq_getElem _⟩
          obtain ⟨hz1, hz2⟩ := take_snoc hz
          rw [hz1] at hS
          have htl : (L.take t2).length = t2 := by rw [List.length_take]; omega
          have hg1 : (P ++ (L.take t2 ++ [z]) ++ y :: (L.drop (t2 + 1) ++ S))[av + t2]? = some z := by
            rw [show P ++ (L.take t2 ++ [z]) ++ y :: (L.drop (t2 + 1) ++ S) = (P ++ L.take t2) ++ z :: (y :: (L.drop (t2 + 1) ++ S)) by simp, show av + t2 = (P ++ L.take t2).length by simp [hav, htl]]
            exact get_mid _ _ _
          have hg2 : (P ++ (L.take t2 ++ [z]) ++ y :: (L.drop (t2 + 1) ++ S))[av + (t2 + 1)]? = some y := by
            rw [show av + (t2 + 1) = (P ++ (L.take t2 ++ [z])).length by simp [hav, htl]]
            exact get_mid _ _ _
          have hk1 : ((av + (t2 + 1) : Nat) : Int) - 1 = ((av + t2 : Nat) : Int) := by omega
          have hxl := prow_len hS
          have hbn : av + (t2 + 1) < n := by omega
          refine wp_skip ?_
          refine hK11 _ _ ?_; clear hK11
          refine wp_seq_k fun K13 hK13 => ?_
          refine wp_block ?_
          -- region 23
          refine d_start (S := (fun w => Sat w0 w _)) (ds := [15, 17]) (ord := [(0, .pu), (1, .pu), (2, .pu), (3, .pu), (4, .pu), (5, .pu), (6, .pu), (7, .pu), (8, .pu), (9, .tk), (10, .pu), (11, .pu), (12, .pu), (13, .tk), (14, .pu), (15, .ls), (16, .pu), (17, .ls)]) mixed ⟨by kernel_rfl, fun _ d _ _ _ h => by cases d <;> exact h⟩ hS.drew fun hD => ?_
          replace hS := hS.drew; generalize w.drew = w at hS ⊢
          refine d_pu hD hF rfl rfl rfl rfl rfl (pu_move (hF.ev rfl)) ?_; clear hF; intro a hF
          refine d_pu hD hF rfl rfl rfl rfl rfl (pu_move (hF.ev rfl)) ?_; clear hF; intro a hF
          refine d_pu hD hF rfl rfl rfl rfl rfl (pu_move (hF.ev rfl)) ?_; clear hF; intro a hF
          refine d_pu hD hF rfl rfl rfl rfl rfl (pu_move (hF.ev rfl)) ?_; clear hF; intro a hF
          refine d_pu hD hF rfl rfl rfl rfl rfl ((by first | exact pu_sub64 (hF.ev rfl) (hF.ev rfl) (by omega) | exact pu_sub (hF.ev rfl) (hF.ev rfl))) ?_; clear hF; intro a hF
          refine d_pu hD hF rfl rfl rfl rfl rfl (pu_move (hF.ev rfl)) ?_; clear hF; intro a hF
          refine d_pu hD hF rfl rfl rfl rfl rfl (pu_move (hF.ev rfl)) ?_; clear hF; intro a hF
          refine d_pu hD hF rfl rfl rfl rfl rfl ((by first | exact pu_sub64 (hF.ev rfl) (hF.ev rfl) (by omega) | exact pu_sub (hF.ev rfl) (hF.ev rfl))) ?_; clear hF; intro a hF
          rw [hk1] at hF
          refine d_pu hD hF rfl rfl rfl rfl rfl ((by first | exact pu_elem sl50 (hF.ev rfl) (hF.ev rfl) (by first | omega | simp) (by first | omega | (simp; done) | (simp; omega)) | exact pu_elemA sl50 (hF.ev rfl) (hF.ev rfl) (by omega) (by omega))) ?_; clear hF; intro a hF
          refine d_rd hD hF rfl rfl rfl rfl rfl hS (fun w hS => rd_loadN ag52 (hF.ev rfl) rfl (row_load (i := 0) hS rfl (by omega) (parts_at hg1))) ?_; clear hF; intro a hF
          refine d_pu hD hF rfl rfl rfl rfl rfl (pu_move (hF.ev rfl)) ?_; clear hF; intro a hF
          refine d_pu hD hF rfl rfl rfl rfl rfl (pu_move (hF.ev rfl)) ?_; clear hF; intro a hF
          refine d_pu hD hF rfl rfl rfl rfl rfl ((by first | exact pu_elem sl50 (hF.ev rfl) (hF.ev rfl) (by first | omega | simp) (by first | omega | (simp; done) | (simp; omega)) | exact pu_elemA sl50 (hF.ev rfl) (hF.ev rfl) (by omega) (by omega))) ?_; clear hF; intro a hF
          refine d_rd hD hF rfl rfl rfl rfl rfl hS (fun w hS => rd_loadN ag52 (hF.ev rfl) rfl (row_load (i := 0) hS rfl (by omega) (parts_at hg2))) ?_; clear hF; intro a hF
          refine d_pu hD hF rfl rfl rfl rfl rfl ((by first | exact pu_elem sl50 (hF.ev rfl) (hF.ev rfl) (by first | omega | simp) (by first | omega | (simp; done) | (simp; omega)) | exact pu_elemA sl50 (hF.ev rfl) (hF.ev rfl) (by omega) (by omega))) ?_; clear hF; intro a hF
          refine l_rstoreN (k := av + (t2 + 1)) (vs := [_, _]) 0 hD hF rfl rfl rfl (hF.ev rfl) (hF.ev rfl) hS rfl rfl sz52 rfl rfl hbn ?_
          clear hS; intro w hS; (try simp only [upd, del] at hS)
          rw [parts_set (by omega)] at hS
          refine d_pu hD hF rfl rfl rfl rfl rfl ((by first | exact pu_elem sl50 (hF.ev rfl) (hF.ev rfl) (by first | omega | simp) (by first | omega | (simp; done) | (simp; omega)) | exact pu_elemA sl50 (hF.ev rfl) (hF.ev rfl) (by omega) (by omega))) ?_; clear hF; intro a hF
          refine l_rstoreN (k := av + t2) (vs := [_, _]) 0 hD hF rfl rfl rfl (hF.ev rfl) (hF.ev rfl) hS rfl rfl sz52 rfl rfl (by omega) ?_
          clear hS; intro w hS; (try simp only [upd, del] at hS)
          rw [parts_set (by rw [List.length_set]; omega)] at hS
          refine d_done hD rfl ?_; clear hD
          refine blk_normal ?_
          refine hK13 _ _ ?_; clear hK13
          -- region 22
          refine wp_region_lit ?_
          refine s_pu hF rfl rfl rfl (pu_move (hF.ev rfl)) ?_; clear hF; intro a hF
          refine s_pu hF rfl rfl rfl ((by first | exact pu_sub64 (hF.ev rfl) (hF.ev rfl) (by omega) | exact pu_sub (hF.ev rfl) (hF.ev rfl))) ?_; clear hF; intro a hF
          refine s_pu hF rfl rfl rfl (pu_assign (hF.ev rfl)) ?_; clear hF; intro a hF
          refine s_done ?_
          refine ⟨_, by omega, t2, rfl, by omega, by omega, ?_, ?_⟩
          · rw [← hk1] at hF ⊢
            exact hF.sub ⟨rfl, rfl, rfl, trivial⟩
          · have e1 : ((P ++ (L.take t2 ++ [z]) ++ y :: (L.drop (t2 + 1) ++ S)).set (av + (t2 + 1)) z).set (av + t2) y = P ++ L.take t2 ++ y :: (L.drop t2 ++ S) := by
              rw [show av + (t2 + 1) = (P ++ (L.take t2 ++ [z])).length by simp [hav, htl], set_mid]
              rw [show P ++ (L.take t2 ++ [z]) ++ z :: (L.drop (t2 + 1) ++ S) = (P ++ L.take t2) ++ z :: (z :: (L.drop (t2 + 1) ++ S)) by simp, show av + t2 = (P ++ L.take t2).length by simp [hav, htl], set_mid, hz2]
              simp
            rw [e1] at hS
            exact hS
        · -- cond 7 false
          try simp only [decide_eq_true_eq, decide_eq_false_iff_not, Bool.not_eq_true', Bool.not_eq_false', Int.not_lt, Int.not_le, ne_eq, Decidable.not_not, Bool.or_eq_true, Bool.or_eq_false_iff, Bool.and_eq_true, Bool.and_eq_false_imp] at hc7
          refine wp_exit ?_
          refine then_exit ?_
          refine then_exit ?_
          refine blk_exit ?_
          refine hK9 _ _ ?_; clear hK9
          refine wp_ret ?_
          refine then_ret ?_
          refine fin0r Try.results35 hF ?_
          have htr2 : t = r := by omega
          subst htr2
          refine ⟨rfl, L.take t ++ y :: L.drop t, ?_, put_behind hsL hyL hi1 hr1, by simpa using hS⟩
          have := (List.perm_middle (a := y) (l₁ := L.take t) (l₂ := L.drop t))
          rw [List.take_append_drop] at this
          exact this.trans (List.perm_append_comm (l₁ := [y]))
    · -- cond 4 false
      try simp only [decide_eq_true_eq, decide_eq_false_iff_not, Bool.not_eq_true', Bool.not_eq_false', Int.not_lt, Int.not_le, ne_eq, Decidable.not_not, Bool.or_eq_true, Bool.or_eq_false_iff, Bool.and_eq_true, Bool.and_eq_false_imp] at hc4
      refine wp_skip ?_
      refine hK2 _ _ ?_; clear hK2
      refine wp_seq_k fun K4 hK4 => ?_
      -- region 24
      refine wp_region_lit ?_
      refine s_pu hF rfl rfl rfl (pu_move (hF.ev rfl)) ?_; clear hF; intro a hF
      refine s_pu hF rfl rfl rfl (pu_move (hF.ev rfl)) ?_; clear hF; intro a hF
      refine s_pu hF rfl rfl rfl ((by first | exact pu_add64 (hF.ev rfl) (hF.ev rfl) (by omega) | exact pu_add (hF.ev rfl) (hF.ev rfl))) ?_; clear hF; intro a hF
      refine s_pu hF rfl rfl rfl ((by first | exact pu_convP it3 it64 (hF.ev rfl) rfl (by omega) (by omega) | exact pu_conv_int it3 it64 (hF.ev rfl))) ?_; clear hF; intro a hF
      refine s_pu hF rfl rfl rfl (pu_half (hF.ev rfl) (hF.ev rfl) rfl) ?_; clear hF; intro a hF
      refine s_pu hF rfl rfl rfl ((by first | exact pu_convP it64 it3 (hF.ev rfl) rfl (by omega) (by omega) | exact pu_conv_int it64 it3 (hF.ev rfl))) ?_; clear hF; intro a hF
      refine s_pu hF rfl rfl rfl (pu_assign (hF.ev rfl)) ?_; clear hF; intro a hF
      refine s_done ?_
      obtain ⟨md, hmd⟩ : ∃ md : Nat, md = (p + q) / 2 := ⟨_, rfl⟩
      rw [show ((av : Int) + ((av + p + q : Nat) : Int)) / 2 = ((av + md : Nat) : Int) by omega] at hF
      have hp2 : 2 ≤ p := by omega
      have hq2 : 2 ≤ q := by omega
      refine hK4 _ _ ?_; clear hK4
      refine wp_seq_k fun K5 hK5 => ?_
      -- region 25
      refine wp_region_lit ?_
      refine s_pu hF rfl rfl rfl (pu_move (hF.ev rfl)) ?_; clear hF; intro a hF
      refine s_pu hF rfl rfl rfl (pu_move (hF.ev rfl)) ?_; clear hF; intro a hF
      refine s_pu hF rfl rfl rfl ((by first | exact pu_add64 (hF.ev rfl) (hF.ev rfl) (by omega) | exact pu_add (hF.ev rfl) (hF.ev rfl))) ?_; clear hF; intro a hF
      refine s_pu hF rfl rfl rfl (pu_assign (hF.ev rfl)) ?_; clear hF; intro a hF
      refine s_done ?_
      refine hK5 _ _ ?_; clear hK5
      refine wp_seq_k fun K6 hK6 => ?_
      -- region 26
      refine wp_region_lit ?_
      refine s_pu hF rfl rfl rfl (pu_assign (hF.ev rfl)) ?_; clear hF; intro a hF
      refine s_pu hF rfl rfl rfl (pu_assign (hF.ev rfl)) ?_; clear hF; intro a hF
      refine s_done ?_
      refine hK6 _ _ ?_; clear hK6
      refine wp_seq_j (fun a w => ∃ (lo hi : Nat), lo = md - q ∧ hi = min p md ∧
        Fr a 220 [(0, .slice (some ⟨g, 0, none⟩) n c), (1, .int .i64 av), (2, .int .i64 (av + p : Nat)), (3, .int .i64 (av + p + q : Nat)), (4, .func (.func 24) #[] #[]), (18, .int .i64 (av + md : Nat)), (19, .int .i64 (((av + md : Nat) : Int) + ((av + p : Nat) : Int))), (20, .int .i64 (av + lo : Nat)), (21, .int .i64 (av + hi : Nat))] ∧
        Sat w0 w (prow g n c (P ++ L ++ R ++ S) :: C)) ?_ ?_
      · -- up to the join s31
        refine wp_seq_k fun K8 hK8 => ?_
        -- region 27
        refine wp_region_lit ?_
        refine s_pu hF rfl rfl rfl (pu_move (hF.ev rfl)) ?_; clear hF; intro a hF
        refine s_pu hF rfl rfl rfl (pu_move (hF.ev rfl)) ?_; clear hF; intro a hF
        refine s_pu hF rfl rfl rfl (pu_gtr (hF.ev rfl) (hF.ev rfl)) ?_; clear hF; intro a hF
        refine s_done ?_
        refine hK8 _ _ ?_; clear hK8
        refine wp_cond_split (hF.ev rfl) (fun hc8 => ?_) (fun hc8 => ?_)
        · -- cond 8 true
          try simp only [decide_eq_true_eq, decide_eq_false_iff_not, Bool.not_eq_true', Bool.not_eq_false', Int.not_lt, Int.not_le, ne_eq, Decidable.not_not, Bool.or_eq_true, Bool.or_eq_false_iff, Bool.and_eq_true, Bool.and_eq_false_imp] at hc8
          refine wp_seq_k fun K9 hK9 => ?_
          -- region 28
          refine wp_region_lit ?_
          refine s_pu hF rfl rfl rfl (pu_move (hF.ev rfl)) ?_; clear hF; intro a hF
          refine s_pu hF rfl rfl rfl (pu_move (hF.ev rfl)) ?_; clear hF; intro a hF
          refine s_pu hF rfl rfl rfl ((by first | exact pu_sub64 (hF.ev rfl) (hF.ev rfl) (by omega) | exact pu_sub (hF.ev rfl) (hF.ev rfl))) ?_; clear hF; intro a hF
          refine s_pu hF rfl rfl rfl (pu_assign (hF.ev rfl)) ?_; clear hF; intro a hF
          refine s_done ?_
          refine hK9 _ _ ?_; clear hK9
          -- region 29
          refine wp_region_lit ?_
          refine s_pu hF rfl rfl rfl (pu_move (hF.ev rfl)) ?_; clear hF; intro a hF
          refine s_pu hF rfl rfl rfl (pu_assign (hF.ev rfl)) ?_; clear hF; intro a hF
          refine s_done ?_
          first
            | (refine ⟨md - q, md, rfl, by omega, ?_, hS⟩
               rw [show ((av + (md - q) : Nat) : Int) = ((av + md : Nat) : Int) + ((av + p : Nat) : Int) - ((av + p + q : Nat) : Int) by omega]
               exact hF.sub ⟨rfl, rfl, rfl, rfl, rfl, rfl, rfl, rfl, rfl, trivial⟩)
            | (refine ⟨0, p, by omega, by omega, ?_, hS⟩
               exact hF.sub ⟨rfl, rfl, rfl, rfl, rfl, rfl, rfl, rfl, rfl, trivial⟩)
        · -- cond 8 false
          try simp only [decide_eq_true_eq, decide_eq_false_iff_not, Bool.not_eq_true', Bool.not_eq_false', Int.not_lt, Int.not_le, ne_eq, Decidable.not_not, Bool.or_eq_true, Bool.or_eq_false_iff, Bool.and_eq_true, Bool.and_eq_false_imp] at hc8
          refine wp_seq_k fun K9 hK9 => ?_
          -- region 30
          refine wp_region_lit ?_
          refine s_pu hF rfl rfl rfl (pu_move (hF.ev rfl)) ?_; clear hF; intro a hF
          refine s_pu hF rfl rfl rfl (pu_assign (hF.ev rfl)) ?_; clear hF; intro a hF
          refine s_done ?_
          refine hK9 _ _ ?_; clear hK9
          -- region 31
          refine wp_region_lit ?_
          refine s_pu hF rfl rfl rfl (pu_move (hF.ev rfl)) ?_; clear hF; intro a hF
          refine s_pu hF rfl rfl rfl (pu_assign (hF.ev rfl)) ?_; clear hF; intro a hF
          refine s_done ?_
          first
            | (refine ⟨md - q, md, rfl, by omega, ?_, hS⟩
               rw [show ((av + (md - q) : Nat) : Int) = ((av + md : Nat) : Int) + ((av + p : Nat) : Int) - ((av + p + q : Nat) : Int) by omega]
               exact hF.sub ⟨rfl, rfl, rfl, rfl, rfl, rfl, rfl, rfl, rfl, trivial⟩)
            | (refine ⟨0, p, by omega, by omega, ?_, hS⟩
               exact hF.sub ⟨rfl, rfl, rfl, rfl, rfl, rfl, rfl, rfl, rfl, trivial⟩)
      · -- behind the join s31
        clear hS hF
        rintro a w ⟨lo, hi, hlo, hhi, hF, hS⟩
        have hgl : ∀ {i : Nat} {z : Prt}, L[i]? = some z → (P ++ L ++ R ++ S)[av + i]? = some z := fun {i z} h => by
          have := at_app (U := P) (V := L ++ (R ++ S)) (at_app1 (V := R ++ S) h)
          rw [← hav] at this
          rw [show P ++ L ++ R ++ S = P ++ (L ++ (R ++ S)) by simp]
          exact this
        have hgr : ∀ {i : Nat} {z : Prt}, R[i]? = some z → (P ++ L ++ R ++ S)[av + p + i]? = some z := fun {i z} h => by
          have := at_app (U := P ++ L) (V := R ++ S) (at_app1 (V := S) h)
          rw [show (P ++ L).length = av + p by simp [hav, hp]] at this
          rw [show P ++ L ++ R ++ S = (P ++ L) ++ (R ++ S) by simp]
          exact this
        refine wp_seq_k fun K7 hK7 => ?_
        -- region 32
        refine wp_region_lit ?_
        refine s_pu hF rfl rfl rfl (pu_move (hF.ev rfl)) ?_; clear hF; intro a hF
        refine s_pu hF rfl rfl rfl ((by first | exact pu_sub64 (hF.ev rfl) (hF.ev rfl) (by omega) | exact pu_sub (hF.ev rfl) (hF.ev rfl))) ?_; clear hF; intro a hF
        refine s_pu hF rfl rfl rfl (pu_assign (hF.ev rfl)) ?_; clear hF; intro a hF
        refine s_done ?_
        refine hK7 _ _ ?_; clear hK7
        refine wp_seq_k fun K8 hK8 => ?_
        refine wp_block ?_
        refine wp_ind (fun j a w => ∃ (s r : Nat), j = r - s ∧ lo ≤ s ∧ s ≤ r ∧ r ≤ hi ∧ SymLo L R md lo s ∧ SymHi L R md hi r ∧
          Fr a 220 [(0, .slice (some ⟨g, 0, none⟩) n c), (1, .int .i64 av), (2, .int .i64 (av + p : Nat)), (3, .int .i64 (av + p + q : Nat)), (4, .func (.func 24) #[] #[]), (18, .int .i64 (av + md : Nat)), (19, .int .i64 (((av + md : Nat) : Int) + ((av + p : Nat) : Int))), (22, .int .i64 (((av + md : Nat) : Int) + ((av + p : Nat) : Int) - 1)), (20, .int .i64 (av + s : Nat)), (21, .int .i64 (av + r : Nat))] ∧
          Sat w0 w (prow g n c (P ++ L ++ R ++ S) :: C)) (hi - lo)
          ⟨lo, hi, rfl, by omega, by omega, by omega, .inl rfl, .inl rfl, hF.sub ⟨rfl, rfl, rfl, rfl, rfl, rfl, rfl, rfl, rfl, rfl, trivial⟩, hS⟩ ?_
        clear hS hF
        rintro j a w ⟨s, r, rfl, hls, hsr, hrh, hs1, hr1, hF, hS⟩
        refine wp_seq_k fun K9 hK9 => ?_
        refine wp_seq_k fun K10 hK10 => ?_
        -- region 33
        refine wp_region_lit ?_
        refine s_pu hF rfl rfl rfl (pu_move (hF.ev rfl)) ?_; clear hF; intro a hF
        refine s_pu hF rfl rfl rfl (pu_move (hF.ev rfl)) ?_; clear hF; intro a hF
        refine s_pu hF rfl rfl rfl (pu_lss (hF.ev rfl) (hF.ev rfl)) ?_; clear hF; intro a hF
        refine s_done ?_
        refine hK10 _ _ ?_; clear hK10
        refine wp_cond_split (hF.ev rfl) (fun hc9 => ?_) (fun hc9 => ?_)
        · -- cond 9 true
          try simp only [decide_eq_true_eq, decide_eq_false_iff_not, Bool.not_eq_true', Bool.not_eq_false', Int.not_lt, Int.not_le, ne_eq, Decidable.not_not, Bool.or_eq_true, Bool.or_eq_false_iff, Bool.and_eq_true, Bool.and_eq_false_imp] at hc9
          obtain ⟨h, hh⟩ : ∃ h : Nat, (((av + s : Nat) : Int) + ((av + r : Nat) : Int)) / 2 = ((av + h : Nat) : Int) := ⟨(s + r) / 2, by omega⟩
          have hh1 : s ≤ h ∧ h < r := by omega
          obtain ⟨zl, hzl⟩ : ∃ z, L[h]? = some z := ⟨L[h]'(by omega), List.getElem?_eq_getElem _⟩
          obtain ⟨zr, hzr⟩ : ∃ z, R[md - 1 - h]? = some z := ⟨R[md - 1 - h]'(by omega), List.getElem?_eq_getElem _⟩
          have hbl := hB zl (by simp [List.mem_of_getElem? hzl])
          have hbr := hB zr (by simp [List.mem_of_getElem? hzr])
          have hgzl := hgl hzl
          have hgzr := hgr hzr
          refine wp_skip ?_
          refine hK9 _ _ ?_; clear hK9
          refine wp_block ?_
          refine wp_seq_k fun K11 hK11 => ?_
          -- region 34
          refine wp_region_lit ?_
          refine s_pu hF rfl rfl rfl (pu_move (hF.ev rfl)) ?_; clear hF; intro a hF
          refine s_pu hF rfl rfl rfl (pu_move (hF.ev rfl)) ?_; clear hF; intro a hF
          refine s_pu hF rfl rfl rfl ((by first | exact pu_add64 (hF.ev rfl) (hF.ev rfl) (by omega) | exact pu_add (hF.ev rfl) (hF.ev rfl))) ?_; clear hF; intro a hF
          refine s_pu hF rfl rfl rfl ((by first | exact pu_convP it3 it64 (hF.ev rfl) rfl (by omega) (by omega) | exact pu_conv_int it3 it64 (hF.ev rfl))) ?_; clear hF; intro a hF
          refine s_pu hF rfl rfl rfl (pu_half (hF.ev rfl) (hF.ev rfl) rfl) ?_; clear hF; intro a hF
          refine s_pu hF rfl rfl rfl ((by first | exact pu_convP it64 it3 (hF.ev rfl) rfl (by omega) (by omega) | exact pu_conv_int it64 it3 (hF.ev rfl))) ?_; clear hF; intro a hF
          refine s_pu hF rfl rfl rfl (pu_assign (hF.ev rfl)) ?_; clear hF; intro a hF
          refine s_done ?_
          rw [hh] at hF
          refine hK11 _ _ ?_; clear hK11
          refine wp_seq_k fun K12 hK12 => ?_
          -- region 35
          refine d_start (S := (fun w => Sat w0 w _)) (ds := [11]) (ord := [(0, .pu), (1, .pu), (2, .pu), (3, .pu), (4, .pu), (5, .pu), (6, .tk), (7, .pu), (8, .pu), (9, .pu), (10, .tk), (11, .ls), (12, .pu), (13, .pu)]) mixed ⟨by kernel_rfl, fun _ d _ _ _ h => by cases d <;> exact h⟩ hS.drew fun hD => ?_
          replace hS := hS.drew; generalize w.drew = w at hS ⊢
          refine d_pu hD hF rfl rfl rfl rfl rfl (pu_move (hF.ev rfl)) ?_; clear hF; intro a hF
          refine d_pu hD hF rfl rfl rfl rfl rfl (pu_move (hF.ev rfl)) ?_; clear hF; intro a hF
          refine d_pu hD hF rfl rfl rfl rfl rfl (pu_move (hF.ev rfl)) ?_; clear hF; intro a hF
          refine d_pu hD hF rfl rfl rfl rfl rfl (pu_move (hF.ev rfl)) ?_; clear hF; intro a hF
          refine d_pu hD hF rfl rfl rfl rfl rfl ((by first | exact pu_sub64 (hF.ev rfl) (hF.ev rfl) (by omega) | exact pu_sub (hF.ev rfl) (hF.ev rfl))) ?_; clear hF; intro a hF
          rw [show ((av + md : Nat) : Int) + ((av + p : Nat) : Int) - 1 - ((av + h : Nat) : Int) = ((av + p + (md - 1 - h) : Nat) : Int) by omega] at hF
          refine d_pu hD hF rfl rfl rfl rfl rfl ((by first | exact pu_elem sl50 (hF.ev rfl) (hF.ev rfl) (by first | omega | simp) (by first | omega | (simp; done) | (simp; omega)) | exact pu_elemA sl50 (hF.ev rfl) (hF.ev rfl) (by omega) (by omega))) ?_; clear hF; intro a hF
          refine d_rd hD hF rfl rfl rfl rfl rfl hS (fun w hS => rd_loadN ag52 (hF.ev rfl) rfl (row_load (i := 0) hS rfl (by omega) (parts_at hgzr))) ?_; clear hF; intro a hF
          refine d_pu hD hF rfl rfl rfl rfl rfl (pu_move (hF.ev rfl)) ?_; clear hF; intro a hF
          refine d_pu hD hF rfl rfl rfl rfl rfl (pu_move (hF.ev rfl)) ?_; clear hF; intro a hF
          refine d_pu hD hF rfl rfl rfl rfl rfl ((by first | exact pu_elem sl50 (hF.ev rfl) (hF.ev rfl) (by first | omega | simp) (by first | omega | (simp; done) | (simp; omega)) | exact pu_elemA sl50 (hF.ev rfl) (hF.ev rfl) (by omega) (by omega))) ?_; clear hF; intro a hF
          refine d_rd hD hF rfl rfl rfl rfl rfl hS (fun w hS => rd_loadN ag52 (hF.ev rfl) rfl (row_load (i := 0) hS rfl (by omega) (parts_at hgzl))) ?_; clear hF; intro a hF
          refine l_en hD hF rfl rfl rfl rfl rfl (run_fn fk24 (hF.ev rfl) (hF.evs rfl)) (cmp_c (p := zr) (q := zl) hS hbr hbl) ?_
          clear hS; rintro e w ⟨rfl, hS⟩
          refine ⟨_, rfl, ?_⟩; clear hF; intro a hF
          refine d_pu hD hF rfl rfl rfl rfl rfl (pu_lss (hF.ev rfl) (hF.ev rfl)) ?_; clear hF; intro a hF
          refine d_pu hD hF rfl rfl rfl rfl rfl (pu_not (hF.ev rfl)) ?_; clear hF; intro a hF
          refine d_done hD rfl ?_; clear hD
          refine hK12 _ _ ?_; clear hK12
          refine wp_cond_split (hF.ev rfl) (fun hc10 => ?_) (fun hc10 => ?_)
          · -- cond 10 true
            try simp only [decide_eq_true_eq, decide_eq_false_iff_not, Bool.not_eq_true', Bool.not_eq_false', Int.not_lt, Int.not_le, ne_eq, Decidable.not_not, Bool.or_eq_true, Bool.or_eq_false_iff, Bool.and_eq_true, Bool.and_eq_false_imp] at hc10
            -- region 36
            refine wp_region_lit ?_
            refine s_pu hF rfl rfl rfl (pu_move (hF.ev rfl)) ?_; clear hF; intro a hF
            refine s_pu hF rfl rfl rfl ((by first | exact pu_add64 (hF.ev rfl) (hF.ev rfl) (by omega) | exact pu_add (hF.ev rfl) (hF.ev rfl))) ?_; clear hF; intro a hF
            refine s_pu hF rfl rfl rfl (pu_assign (hF.ev rfl)) ?_; clear hF; intro a hF
            refine s_done ?_
            refine blk_normal ?_
            first
              | (have e9 : ((av + (h + 1) : Nat) : Int) = ((av + h : Nat) : Int) + 1 := by omega
                 refine ⟨_, by omega, h + 1, r, rfl, by omega, by omega, hrh, .inr ⟨zl, zr, hzl, by rw [show md - (h + 1) = md - 1 - h by omega]; exact hzr, by omega, by omega⟩, hr1, ?_, hS⟩
                 rw [e9]
                 exact hF.sub ⟨rfl, rfl, rfl, rfl, rfl, rfl, rfl, rfl, rfl, rfl, trivial⟩)
              | exact ⟨_, by omega, s, h, rfl, hls, by omega, by omega, hs1, .inr ⟨zl, zr, hzl, hzr, by omega, by omega⟩, hF.sub ⟨rfl, rfl, rfl, rfl, rfl, rfl, rfl, rfl, rfl, rfl, trivial⟩, hS⟩
          · -- cond 10 false
            try simp only [decide_eq_true_eq, decide_eq_false_iff_not, Bool.not_eq_true', Bool.not_eq_false', Int.not_lt, Int.not_le, ne_eq, Decidable.not_not, Bool.or_eq_true, Bool.or_eq_false_iff, Bool.and_eq_true, Bool.and_eq_false_imp] at hc10
            -- region 37
            refine wp_region_lit ?_
            refine s_pu hF rfl rfl rfl (pu_move (hF.ev rfl)) ?_; clear hF; intro a hF
            refine s_pu hF rfl rfl rfl (pu_assign (hF.ev rfl)) ?_; clear hF; intro a hF
            refine s_done ?_
            refine blk_normal ?_
            first
              | (have e9 : ((av + (h + 1) : Nat) : Int) = ((av + h : Nat) : Int) + 1 := by omega
                 refine ⟨_, by omega, h + 1, r, rfl, by omega, by omega, hrh, .inr ⟨zl, zr, hzl, by rw [show md - (h + 1) = md - 1 - h by omega]; exact hzr, by omega, by omega⟩, hr1, ?_, hS⟩
                 rw [e9]
                 exact hF.sub ⟨rfl, rfl, rfl, rfl, rfl, rfl, rfl, rfl, rfl, rfl, trivial⟩)
              | exact ⟨_, by omega, s, h, rfl, hls, by omega, by omega, hs1, .inr ⟨zl, zr, hzl, hzr, by omega, by omega⟩, hF.sub ⟨rfl, rfl, rfl, rfl, rfl, rfl, rfl, rfl, rfl, rfl, trivial⟩, hS⟩
        · -- cond 9 false
          try simp only [decide_eq_true_eq, decide_eq_false_iff_not, Bool.not_eq_true', Bool.not_eq_false', Int.not_lt, Int.not_le, ne_eq, Decidable.not_not, Bool.or_eq_true, Bool.or_eq_false_iff, Bool.and_eq_true, Bool.and_eq_false_imp] at hc9
          have hsre : r = s := by omega
          subst hsre
          have hcr := sym_cross (s := r) (md := md) hsL hsR hX (by omega) (by rw [← hq, ← hlo]; exact hs1) (by rw [← hp, ← hhi]; exact hr1)
          clear hs1 hr1
          have t1 : (L.take r).length = r := by rw [List.length_take]; omega
          have t2 : (L.drop r).length = p - r := by rw [List.length_drop]; omega
          have t3 : (R.take (md - r)).length = md - r := by rw [List.length_take]; omega
          have t4 : (R.drop (md - r)).length = q - (md - r) := by rw [List.length_drop]; omega
          have hsplit : P ++ L ++ R ++ S = P ++ L.take r ++ L.drop r ++ R.take (md - r) ++ (R.drop (md - r) ++ S) := by
            have e1 : L = L.take r ++ L.drop r := (List.take_append_drop r L).symm
            have e2 : R = R.take (md - r) ++ R.drop (md - r) := (List.take_append_drop (md - r) R).symm
            conv => lhs; rw [e1, e2]
            simp only [List.append_assoc]
          rw [hsplit] at hS
          obtain ⟨L1, hL1⟩ : ∃ L1, L1 = L.take r := ⟨_, rfl⟩
          obtain ⟨L2, hL2⟩ : ∃ L2, L2 = L.drop r := ⟨_, rfl⟩
          obtain ⟨R1, hR1⟩ : ∃ R1, R1 = R.take (md - r) := ⟨_, rfl⟩
          obtain ⟨R2, hR2⟩ : ∃ R2, R2 = R.drop (md - r) := ⟨_, rfl⟩
          have hLL : L1 ++ L2 = L := by rw [hL1, hL2, List.take_append_drop]
          have hRR : R1 ++ R2 = R := by rw [hR1, hR2, List.take_append_drop]
          have g1 : Srt L1 := by rw [hL1]; exact hsL.take r
          have g2 : Srt L2 := by rw [hL2]; exact hsL.drop r
          have g3 : Srt R1 := by rw [hR1]; exact hsR.take _
          have g4 : Srt R2 := by rw [hR2]; exact hsR.drop _
          rw [← hL1, ← hL2, ← hR1, ← hR2] at hS
          rw [← hL1, ← hL2, ← hR1, ← hR2] at hcr
          rw [← hL1] at t1; rw [← hL2] at t2; rw [← hR1] at t3; rw [← hR2] at t4
          have x1 : Cross L1 R1 := fun x hx y hy => hX x (by rw [← hLL]; simp [hx]) y (by rw [← hRR]; simp [hy])
          have x2 : Cross L2 R2 := fun x hx y hy => hX x (by rw [← hLL]; simp [hx]) y (by rw [← hRR]; simp [hy])
          have y1 : Bd (L1 ++ R1) := fun z hz => hB z (by rw [← hLL, ← hRR]; simp only [List.mem_append] at hz ⊢; rcases hz with h | h <;> simp [h])
          have y2 : Bd (L2 ++ R2) := fun z hz => hB z (by rw [← hLL, ← hRR]; simp only [List.mem_append] at hz ⊢; rcases hz with h | h <;> simp [h])
          refine wp_exit ?_
          refine then_exit ?_
          refine then_exit ?_
          refine blk_exit ?_
          refine hK8 _ _ ?_; clear hK8
          refine wp_seq_k fun K11 hK11 => ?_
          -- region 38
          refine wp_region_lit ?_
          refine s_pu hF rfl rfl rfl (pu_move (hF.ev rfl)) ?_; clear hF; intro a hF
          refine s_pu hF rfl rfl rfl (pu_move (hF.ev rfl)) ?_; clear hF; intro a hF
          refine s_pu hF rfl rfl rfl ((by first | exact pu_sub64 (hF.ev rfl) (hF.ev rfl) (by omega) | exact pu_sub (hF.ev rfl) (hF.ev rfl))) ?_; clear hF; intro a hF
          refine s_pu hF rfl rfl rfl (pu_assign (hF.ev rfl)) ?_; clear hF; intro a hF
          refine s_done ?_
          rw [show ((av + md : Nat) : Int) + ((av + p : Nat) : Int) - ((av + r : Nat) : Int) = ((av + p + (md - r) : Nat) : Int) by omega] at hF
          refine hK11 _ _ ?_; clear hK11
          refine wp_seq_j (fun a w => Fr a 220 [(0, .slice (some ⟨g, 0, none⟩) n c), (1, .int .i64 av), (3, .int .i64 (av + p + q : Nat)), (4, .func (.func 24) #[] #[]), (18, .int .i64 (av + md : Nat)), (20, .int .i64 (av + r : Nat)), (24, .int .i64 (av + p + (md - r) : Nat))] ∧
            Sat w0 w (prow g n c (P ++ L1 ++ R1 ++ (L2 ++ R2 ++ S)) :: C)) ?_ ?_
          · -- up to the join s42
            refine wp_seq_k fun K13 hK13 => ?_
            -- region 39
            refine wp_region_lit ?_
            refine s_pu hF rfl rfl rfl (pu_move (hF.ev rfl)) ?_; clear hF; intro a hF
            refine s_pu hF rfl rfl rfl (pu_move (hF.ev rfl)) ?_; clear hF; intro a hF
            refine s_pu hF rfl rfl rfl (pu_lss (hF.ev rfl) (hF.ev rfl)) ?_; clear hF; intro a hF
            refine s_pu hF rfl rfl rfl (pu_move (hF.ev rfl)) ?_; clear hF; intro a hF
            refine fr_split hF (t := 181) rfl ?_ ?_
            · clear hF; intro hg181 hF   -- slot 181 true
              try simp only [decide_eq_true_eq, decide_eq_false_iff_not, Bool.not_eq_true', Bool.not_eq_false', Int.not_lt, Int.not_le, ne_eq, Decidable.not_not, Bool.or_eq_true, Bool.or_eq_false_iff, Bool.and_eq_true, Bool.and_eq_false_imp] at hg181
              refine s_pu hF rfl rfl rfl (pu_move (hF.ev rfl)) ?_; clear hF; intro a hF
              refine s_pu hF rfl rfl rfl (pu_move (hF.ev rfl)) ?_; clear hF; intro a hF
              refine s_pu hF rfl rfl rfl (pu_lss (hF.ev rfl) (hF.ev rfl)) ?_; clear hF; intro a hF
              refine s_pu hF rfl rfl rfl ((by first | exact pu_pick_t (hF.ev rfl) (hF.ev rfl) | exact pu_pick_f (hF.ev rfl) (hF.ev rfl) | exact pu_pick (hF.ev rfl) (hF.ev rfl) (hF.ev rfl))) ?_; clear hF; intro a hF
              refine s_done ?_
              refine hK13 _ _ ?_; clear hK13
              refine wp_cond_split (hF.ev rfl) (fun hc11 => ?_) (fun hc11 => ?_)
              · -- cond 11 true
                try simp only [decide_eq_true_eq, decide_eq_false_iff_not, Bool.not_eq_true', Bool.not_eq_false', Int.not_lt, Int.not_le, ne_eq, Decidable.not_not, Bool.or_eq_true, Bool.or_eq_false_iff, Bool.and_eq_true, Bool.and_eq_false_imp] at hc11
                -- region 40
                refine wp_region_lit ?_
                refine s_pu hF rfl rfl rfl (pu_move (hF.ev rfl)) ?_; clear hF; intro a hF
                refine s_pu hF rfl rfl rfl (pu_move (hF.ev rfl)) ?_; clear hF; intro a hF
                refine s_pu hF rfl rfl rfl (pu_move (hF.ev rfl)) ?_; clear hF; intro a hF
                refine s_pu hF rfl rfl rfl (pu_move (hF.ev rfl)) ?_; clear hF; intro a hF
                refine s_pu hF rfl rfl rfl (pu_move (hF.ev rfl)) ?_; clear hF; intro a hF
                refine s_en hF rfl rfl rfl (run_fn fk47 (hF.ev rfl) (hF.evs rfl)) ((by have z1 : av + r = (P ++ L1).length := (by simp [hav, t1]); have z2 : av + p = (P ++ L1 ++ L2).length := (by simp [hav, t1, t2] <;> omega); have z3 : av + p + (md - r) = (P ++ L1 ++ L2 ++ R1).length := (by simp [hav, t1, t2, t3] <;> omega); rw [z3, z2, z1]; exact rotate_c hS (by omega) (by omega) hn)) ?_
                clear hS; rintro e w ⟨rfl, hS⟩
                refine ⟨_, rfl, ?_⟩; clear hF; intro a hF
                refine s_done ?_
                first
                  | exact ⟨hF.sub ⟨rfl, rfl, rfl, rfl, rfl, rfl, rfl, trivial⟩, by simpa using hS⟩
                  | (rcases (by omega : r = p ∨ md = r) with h9 | h9
                     · have : L2 = [] := List.eq_nil_of_length_eq_zero (by omega)
                       subst this
                       exact ⟨hF.sub ⟨rfl, rfl, rfl, rfl, rfl, rfl, rfl, trivial⟩, by simpa using hS⟩
                     · have : R1 = [] := List.eq_nil_of_length_eq_zero (by omega)
                       subst this
                       exact ⟨hF.sub ⟨rfl, rfl, rfl, rfl, rfl, rfl, rfl, trivial⟩, by simpa using hS⟩)
              · -- cond 11 false
                try simp only [decide_eq_true_eq, decide_eq_false_iff_not, Bool.not_eq_true', Bool.not_eq_false', Int.not_lt, Int.not_le, ne_eq, Decidable.not_not, Bool.or_eq_true, Bool.or_eq_false_iff, Bool.and_eq_true, Bool.and_eq_false_imp] at hc11
                refine wp_skip ?_
                first
                  | exact ⟨hF.sub ⟨rfl, rfl, rfl, rfl, rfl, rfl, rfl, trivial⟩, by simpa using hS⟩
                  | (rcases (by omega : r = p ∨ md = r) with h9 | h9
                     · have : L2 = [] := List.eq_nil_of_length_eq_zero (by omega)
                       subst this
                       exact ⟨hF.sub ⟨rfl, rfl, rfl, rfl, rfl, rfl, rfl, trivial⟩, by simpa using hS⟩
                     · have : R1 = [] := List.eq_nil_of_length_eq_zero (by omega)
                       subst this
                       exact ⟨hF.sub ⟨rfl, rfl, rfl, rfl, rfl, rfl, rfl, trivial⟩, by simpa using hS⟩)
            · clear hF; intro hg181 hF   -- slot 181 false
              try simp only [decide_eq_true_eq, decide_eq_false_iff_not, Bool.not_eq_true', Bool.not_eq_false', Int.not_lt, Int.not_le, ne_eq, Decidable.not_not, Bool.or_eq_true, Bool.or_eq_false_iff, Bool.and_eq_true, Bool.and_eq_false_imp] at hg181
              refine s_no hF rfl rfl rfl ?_; clear hF; intro a hF
              refine s_no hF rfl rfl rfl ?_; clear hF; intro a hF
              refine s_no hF rfl rfl rfl ?_; clear hF; intro a hF
              refine s_pu hF rfl rfl rfl ((by first | exact pu_pick_t (hF.ev rfl) (hF.ev rfl) | exact pu_pick_f (hF.ev rfl) (hF.ev rfl) | exact pu_pick (hF.ev rfl) (hF.ev rfl) (hF.ev rfl))) ?_; clear hF; intro a hF
              refine s_done ?_
              refine hK13 _ _ ?_; clear hK13
              refine wp_cond_false (hF.ev rfl) ?_
              refine wp_skip ?_
              first
                | exact ⟨hF.sub ⟨rfl, rfl, rfl, rfl, rfl, rfl, rfl, trivial⟩, by simpa using hS⟩
                | (rcases (by omega : r = p ∨ md = r) with h9 | h9
                   · have : L2 = [] := List.eq_nil_of_length_eq_zero (by omega)
                     subst this
                     exact ⟨hF.sub ⟨rfl, rfl, rfl, rfl, rfl, rfl, rfl, trivial⟩, by simpa using hS⟩
                   · have : R1 = [] := List.eq_nil_of_length_eq_zero (by omega)
                     subst this
                     exact ⟨hF.sub ⟨rfl, rfl, rfl, rfl, rfl, rfl, rfl, trivial⟩, by simpa using hS⟩)
          · -- behind the join s42
            clear hS hF
            rintro a w ⟨hF, hS⟩
            refine wp_seq_j (fun a w => ∃ M1, M1.Perm (L1 ++ R1) ∧ Srt M1 ∧ Fr a 220 [(0, .slice (some ⟨g, 0, none⟩) n c), (3, .int .i64 (av + p + q : Nat)), (4, .func (.func 24) #[] #[]), (18, .int .i64 (av + md : Nat)), (24, .int .i64 (av + p + (md - r) : Nat))] ∧
              Sat w0 w (prow g n c (P ++ M1 ++ (L2 ++ R2 ++ S)) :: C)) ?_ ?_
            · -- up to the join s44
              refine wp_seq_k fun K13 hK13 => ?_
              -- region 41
              refine wp_region_lit ?_
              refine s_pu hF rfl rfl rfl (pu_move (hF.ev rfl)) ?_; clear hF; intro a hF
              refine s_pu hF rfl rfl rfl (pu_move (hF.ev rfl)) ?_; clear hF; intro a hF
              refine s_pu hF rfl rfl rfl (pu_lss (hF.ev rfl) (hF.ev rfl)) ?_; clear hF; intro a hF
              refine s_pu hF rfl rfl rfl (pu_move (hF.ev rfl)) ?_; clear hF; intro a hF
              refine fr_split hF (t := 195) rfl ?_ ?_
              · clear hF; intro hg195 hF   -- slot 195 true
                try simp only [decide_eq_true_eq, decide_eq_false_iff_not, Bool.not_eq_true', Bool.not_eq_false', Int.not_lt, Int.not_le, ne_eq, Decidable.not_not, Bool.or_eq_true, Bool.or_eq_false_iff, Bool.and_eq_true, Bool.and_eq_false_imp] at hg195
                refine s_pu hF rfl rfl rfl (pu_move (hF.ev rfl)) ?_; clear hF; intro a hF
                refine s_pu hF rfl rfl rfl (pu_move (hF.ev rfl)) ?_; clear hF; intro a hF
                refine s_pu hF rfl rfl rfl (pu_lss (hF.ev rfl) (hF.ev rfl)) ?_; clear hF; intro a hF
                refine s_pu hF rfl rfl rfl ((by first | exact pu_pick_t (hF.ev rfl) (hF.ev rfl) | exact pu_pick_f (hF.ev rfl) (hF.ev rfl) | exact pu_pick (hF.ev rfl) (hF.ev rfl) (hF.ev rfl))) ?_; clear hF; intro a hF
                refine s_done ?_
                refine hK13 _ _ ?_; clear hK13
                refine wp_cond_split (hF.ev rfl) (fun hc12 => ?_) (fun hc12 => ?_)
                · -- cond 12 true
                  try simp only [decide_eq_true_eq, decide_eq_false_iff_not, Bool.not_eq_true', Bool.not_eq_false', Int.not_lt, Int.not_le, ne_eq, Decidable.not_not, Bool.or_eq_true, Bool.or_eq_false_iff, Bool.and_eq_true, Bool.and_eq_false_imp] at hc12
                  -- region 42
                  refine wp_region_lit ?_
                  refine s_pu hF rfl rfl rfl (pu_move (hF.ev rfl)) ?_; clear hF; intro a hF
                  refine s_pu hF rfl rfl rfl (pu_move (hF.ev rfl)) ?_; clear hF; intro a hF
                  refine s_pu hF rfl rfl rfl (pu_move (hF.ev rfl)) ?_; clear hF; intro a hF
                  refine s_pu hF rfl rfl rfl (pu_move (hF.ev rfl)) ?_; clear hF; intro a hF
                  refine s_pu hF rfl rfl rfl (pu_move (hF.ev rfl)) ?_; clear hF; intro a hF
                  refine s_en hF rfl rfl rfl (run_fn fk35 (hF.ev rfl) (hF.evs rfl)) ((by have z2 : av + r = P.length + L1.length := (by omega); have z3 : av + md = P.length + L1.length + R1.length := (by omega); rw [z2, z3, hav]; exact ih md (by omega) hS (by omega) (by omega) (by omega) g1 g3 x1 y1 hn)) ?_
                  clear hS; rintro e w ⟨rfl, M1, hm1, hm2, hS⟩
                  refine ⟨_, rfl, ?_⟩; clear hF; intro a hF
                  refine s_done ?_
                  first
                    | exact ⟨M1, hm1, hm2, hF.sub ⟨rfl, rfl, rfl, rfl, rfl, trivial⟩, hS⟩
                    | (rcases (by omega : r = 0 ∨ r = md) with h9 | h9
                       · have : L1 = [] := List.eq_nil_of_length_eq_zero (by omega)
                         subst this
                         exact ⟨R1, .refl _, g3, hF.sub ⟨rfl, rfl, rfl, rfl, rfl, trivial⟩, by simpa using hS⟩
                       · have : R1 = [] := List.eq_nil_of_length_eq_zero (by omega)
                         subst this
                         exact ⟨L1, by simp, g1, hF.sub ⟨rfl, rfl, rfl, rfl, rfl, trivial⟩, by simpa using hS⟩)
                · -- cond 12 false
                  try simp only [decide_eq_true_eq, decide_eq_false_iff_not, Bool.not_eq_true', Bool.not_eq_false', Int.not_lt, Int.not_le, ne_eq, Decidable.not_not, Bool.or_eq_true, Bool.or_eq_false_iff, Bool.and_eq_true, Bool.and_eq_false_imp] at hc12
                  refine wp_skip ?_
                  first
                    | exact ⟨M1, hm1, hm2, hF.sub ⟨rfl, rfl, rfl, rfl, rfl, trivial⟩, hS⟩
                    | (rcases (by omega : r = 0 ∨ r = md) with h9 | h9
                       · have : L1 = [] := List.eq_nil_of_length_eq_zero (by omega)
                         subst this
                         exact ⟨R1, .refl _, g3, hF.sub ⟨rfl, rfl, rfl, rfl, rfl, trivial⟩, by simpa using hS⟩
                       · have : R1 = [] := List.eq_nil_of_length_eq_zero (by omega)
                         subst this
                         exact ⟨L1, by simp, g1, hF.sub ⟨rfl, rfl, rfl, rfl, rfl, trivial⟩, by simpa using hS⟩)
              · clear hF; intro hg195 hF   -- slot 195 false
                try simp only [decide_eq_true_eq, decide_eq_false_iff_not, Bool.not_eq_true', Bool.not_eq_false', Int.not_lt, Int.not_le, ne_eq, Decidable.not_not, Bool.or_eq_true, Bool.or_eq_false_iff, Bool.and_eq_true, Bool.and_eq_false_imp] at hg195
                refine s_no hF rfl rfl rfl ?_; clear hF; intro a hF
                refine s_no hF rfl rfl rfl ?_; clear hF; intro a hF
                refine s_no hF rfl rfl rfl ?_; clear hF; intro a hF
                refine s_pu hF rfl rfl rfl ((by first | exact pu_pick_t (hF.ev rfl) (hF.ev rfl) | exact pu_pick_f (hF.ev rfl) (hF.ev rfl) | exact pu_pick (hF.ev rfl) (hF.ev rfl) (hF.ev rfl))) ?_; clear hF; intro a hF
                refine s_done ?_
                refine hK13 _ _ ?_; clear hK13
                refine wp_cond_false (hF.ev rfl) ?_
                refine wp_skip ?_
                first
                  | exact ⟨M1, hm1, hm2, hF.sub ⟨rfl, rfl, rfl, rfl, rfl, trivial⟩, hS⟩
                  | (rcases (by omega : r = 0 ∨ r = md) with h9 | h9
                     · have : L1 = [] := List.eq_nil_of_length_eq_zero (by omega)
                       subst this
                       exact ⟨R1, .refl _, g3, hF.sub ⟨rfl, rfl, rfl, rfl, rfl, trivial⟩, by simpa using hS⟩
                     · have : R1 = [] := List.eq_nil_of_length_eq_zero (by omega)
                       subst this
                       exact ⟨L1, by simp, g1, hF.sub ⟨rfl, rfl, rfl, rfl, rfl, trivial⟩, by simpa using hS⟩)
            · -- behind the join s44
              clear hS hF
              rintro a w ⟨M1, hm1, hm2, hF, hS⟩
              have tm : M1.length = md := by rw [hm1.length_eq, List.length_append, t1, t3]; omega
              have hfin : ∀ M2 : List Prt, M2.Perm (L2 ++ R2) → Srt M2 → (M1 ++ M2).Perm (L ++ R) ∧ Srt (M1 ++ M2) := by
                intro M2 k1 k2
                refine ⟨?_, srt_app hm2 k2 (fun u hu v hv => hcr u (hm1.mem_iff.1 hu) v (k1.mem_iff.1 hv))⟩
                rw [← hLL, ← hRR]
                refine (hm1.append k1).trans ?_
                rw [List.append_assoc, List.append_assoc]
                refine List.Perm.append_left L1 ?_
                rw [← List.append_assoc, ← List.append_assoc]
                exact (List.perm_append_comm (l₁ := R1) (l₂ := L2)).append_right R2
              refine wp_seq_k fun K12 hK12 => ?_
              -- region 43
              refine wp_region_lit ?_
              refine s_pu hF rfl rfl rfl (pu_move (hF.ev rfl)) ?_; clear hF; intro a hF
              refine s_pu hF rfl rfl rfl (pu_move (hF.ev rfl)) ?_; clear hF; intro a hF
              refine s_pu hF rfl rfl rfl (pu_lss (hF.ev rfl) (hF.ev rfl)) ?_; clear hF; intro a hF
              refine s_pu hF rfl rfl rfl (pu_move (hF.ev rfl)) ?_; clear hF; intro a hF
              refine fr_split hF (t := 209) rfl ?_ ?_
              · clear hF; intro hg209 hF   -- slot 209 true
                try simp only [decide_eq_true_eq, decide_eq_false_iff_not, Bool.not_eq_true', Bool.not_eq_false', Int.not_lt, Int.not_le, ne_eq, Decidable.not_not, Bool.or_eq_true, Bool.or_eq_false_iff, Bool.and_eq_true, Bool.and_eq_false_imp] at hg209
                refine s_pu hF rfl rfl rfl (pu_move (hF.ev rfl)) ?_; clear hF; intro a hF
                refine s_pu hF rfl rfl rfl (pu_move (hF.ev rfl)) ?_; clear hF; intro a hF
                refine s_pu hF rfl rfl rfl (pu_lss (hF.ev rfl) (hF.ev rfl)) ?_; clear hF; intro a hF
                refine s_pu hF rfl rfl rfl ((by first | exact pu_pick_t (hF.ev rfl) (hF.ev rfl) | exact pu_pick_f (hF.ev rfl) (hF.ev rfl) | exact pu_pick (hF.ev rfl) (hF.ev rfl) (hF.ev rfl))) ?_; clear hF; intro a hF
                refine s_done ?_
                refine hK12 _ _ ?_; clear hK12
                refine wp_cond_split (hF.ev rfl) (fun hc13 => ?_) (fun hc13 => ?_)
                · -- cond 13 true
                  try simp only [decide_eq_true_eq, decide_eq_false_iff_not, Bool.not_eq_true', Bool.not_eq_false', Int.not_lt, Int.not_le, ne_eq, Decidable.not_not, Bool.or_eq_true, Bool.or_eq_false_iff, Bool.and_eq_true, Bool.and_eq_false_imp] at hc13
                  -- region 44
                  refine wp_region_lit ?_
                  refine s_pu hF rfl rfl rfl (pu_move (hF.ev rfl)) ?_; clear hF; intro a hF
                  refine s_pu hF rfl rfl rfl (pu_move (hF.ev rfl)) ?_; clear hF; intro a hF
                  refine s_pu hF rfl rfl rfl (pu_move (hF.ev rfl)) ?_; clear hF; intro a hF
                  refine s_pu hF rfl rfl rfl (pu_move (hF.ev rfl)) ?_; clear hF; intro a hF
                  refine s_pu hF rfl rfl rfl (pu_move (hF.ev rfl)) ?_; clear hF; intro a hF
                  refine s_en hF rfl rfl rfl (run_fn fk35 (hF.ev rfl) (hF.evs rfl)) ((by have z1 : av + md = (P ++ M1).length := (by rw [List.length_append]; omega); have z2 : av + p + (md - r) = (P ++ M1).length + L2.length := (by rw [List.length_append]; omega); have z3 : av + p + q = (P ++ M1).length + L2.length + R2.length := (by rw [List.length_append]; omega); rw [z3, z2, z1]; exact ih (p + q - md) (by omega) (P := P ++ M1) (by simpa using hS) (by omega) (by omega) (by omega) g2 g4 x2 y2 hn)) ?_
                  clear hS; rintro e w ⟨rfl, M2, hm3, hm4, hS⟩
                  refine ⟨_, rfl, ?_⟩; clear hF; intro a hF
                  refine s_done ?_
                  refine fin0 Try.results35 hF ?_
                  obtain ⟨k1, k2⟩ := hfin M2 hm3 hm4
                  exact ⟨rfl, M1 ++ M2, k1, k2, by simpa using hS⟩
                · -- cond 13 false
                  try simp only [decide_eq_true_eq, decide_eq_false_iff_not, Bool.not_eq_true', Bool.not_eq_false', Int.not_lt, Int.not_le, ne_eq, Decidable.not_not, Bool.or_eq_true, Bool.or_eq_false_iff, Bool.and_eq_true, Bool.and_eq_false_imp] at hc13
                  refine wp_skip ?_
                  refine fin0 Try.results35 hF ?_
                  rcases (by omega : md = p + (md - r) ∨ p + (md - r) = p + q) with h9 | h9
                  · have : L2 = [] := List.eq_nil_of_length_eq_zero (by omega)
                    subst this
                    obtain ⟨k1, k2⟩ := hfin R2 (by simp) g4
                    exact ⟨rfl, M1 ++ R2, k1, k2, by simpa using hS⟩
                  · have : R2 = [] := List.eq_nil_of_length_eq_zero (by omega)
                    subst this
                    obtain ⟨k1, k2⟩ := hfin L2 (by simp) g2
                    exact ⟨rfl, M1 ++ L2, k1, k2, by simpa using hS⟩
              · clear hF; intro hg209 hF   -- slot 209 false
                try simp only [decide_eq_true_eq, decide_eq_false_iff_not, Bool.not_eq_true', Bool.not_eq_false', Int.not_lt, Int.not_le, ne_eq, Decidable.not_not, Bool.or_eq_true, Bool.or_eq_false_iff, Bool.and_eq_true, Bool.and_eq_false_imp] at hg209
                refine s_no hF rfl rfl rfl ?_; clear hF; intro a hF
                refine s_no hF rfl rfl rfl ?_; clear hF; intro a hF
                refine s_no hF rfl rfl rfl ?_; clear hF; intro a hF
                refine s_pu hF rfl rfl rfl ((by first | exact pu_pick_t (hF.ev rfl) (hF.ev rfl) | exact pu_pick_f (hF.ev rfl) (hF.ev rfl) | exact pu_pick (hF.ev rfl) (hF.ev rfl) (hF.ev rfl))) ?_; clear hF; intro a hF
                refine s_done ?_
                refine hK12 _ _ ?_; clear hK12
                refine wp_cond_false (hF.ev rfl) ?_
                refine wp_skip ?_
                refine fin0 Try.results35 hF ?_
                rcases (by omega : md = p + (md - r) ∨ p + (md - r) = p + q) with h9 | h9
                · have : L2 = [] := List.eq_nil_of_length_eq_zero (by omega)
                  subst this
                  obtain ⟨k1, k2⟩ := hfin R2 (by simp) g4
                  exact ⟨rfl, M1 ++ R2, k1, k2, by simpa using hS⟩
                · have : R2 = [] := List.eq_nil_of_length_eq_zero (by omega)
                  subst this
                  obtain ⟨k1, k2⟩ := hfin L2 (by simp) g2
                  exact ⟨rfl, M1 ++ L2, k1, k2, by simpa using hS⟩
theorem sym_c : ∀ sz, SymOk sz := by
  intro sz
  induction sz using Nat.strongRecOn with
  | ind sz ih => exact sym_step sz ih
end Go.Proofs.Ytommaijibiipeaa
