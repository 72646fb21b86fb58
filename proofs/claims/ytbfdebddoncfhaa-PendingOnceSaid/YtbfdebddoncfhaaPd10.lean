import Derived.Test.YtbfdebddoncfhaaPd9
import Derived.Test.YtbfdebddoncfhaaMB
/-! The law's texts: are two messages, two requests the same? -/
namespace Go.Proofs.Ytbfdebddoncfhaa
open Go Go.RowKit Go.Proofs.Ytbfdebddoncfhaa.Sk
set_option linter.unusedVariables false
set_option linter.unusedSimpArgs false
set_option maxRecDepth 100000

/-- What a comparison says, down to depth k. -/
def SameOk (f k : Nat) : Prop := ∀ {w0 w W : World} {D : Nat → Prop} {C : List Chunk} {h1 h2 : Value} {ts us : List Tr}, RdN W D k h1 ts → RdN W D k h2 us → Keeps w0 C W D → Sat w0 w C →
  Calls Try.prog f #[h1, h2] w fun e w' => ∃ b : Bool, e = .returned (.bool b) ∧ (b = true ↔ ts = us) ∧ Sat w0 w' C
theorem tr_eq {t u : Tr} (h1 : t.tag = u.tag) (h2 : t.val = u.val) (h3 : t.kids = u.kids) : t = u := by
  cases t; cases u
  simp only [Tr.tag, Tr.val, Tr.kids] at h1 h2 h3
  subst h1; subst h2; subst h3
  rfl
theorem sameN_step (k : Nat) (ih : ∀ k', k = k' + 1 → SameOk 76 k') : SameOk 76 k := by
  intro w0 w W D C h1 h2 ts us hR1 hR2 hK hS
  obtain ⟨A1, c1, rfl, hb1⟩ := hR1.slice
  obtain ⟨A2, c2, rfl, hb2⟩ := hR2.slice
  refine enter Try.func76 rfl Try.ntmps76 (Nat.le_of_ble_eq_true rfl) fun a hF => ?_
  refine wp_seq_k fun K0 hK0 => ?_
  refine wp_region_lit ?_
  refine s_pu hF rfl rfl rfl (pu_assign (hF.ev rfl)) ?_; clear hF; intro a hF
  refine s_done ?_
  refine hK0 _ _ ?_; clear hK0
  refine wp_seq_k fun K1 hK1 => ?_
  refine wp_seq_k fun K2 hK2 => ?_
  refine wp_region_lit ?_
  refine s_pu hF rfl rfl rfl (pu_move (hF.ev rfl)) ?_; clear hF; intro a hF
  refine s_pu hF rfl rfl rfl (pu_len sl102 (hF.ev rfl)) ?_; clear hF; intro a hF
  refine s_pu hF rfl rfl rfl (pu_move (hF.ev rfl)) ?_; clear hF; intro a hF
  refine s_pu hF rfl rfl rfl (pu_len sl102 (hF.ev rfl)) ?_; clear hF; intro a hF
  refine s_pu hF rfl rfl rfl (pu_neq (hF.ev rfl) (hF.ev rfl)) ?_; clear hF; intro a hF
  refine s_done ?_
  refine hK2 _ _ ?_; clear hK2
  refine wp_cond_split (hF.ev rfl) (fun hc0 => ?_) (fun hc0 => ?_)
  · -- cond 0 true
    try simp only [decide_eq_true_eq, decide_eq_false_iff_not, Bool.not_eq_true', Bool.not_eq_false', Int.not_lt, Int.not_le, ne_eq, Decidable.not_not, Bool.or_eq_true, Bool.or_eq_false_iff, Bool.and_eq_true, Bool.and_eq_false_imp] at hc0
    refine wp_seq_k fun K3 hK3 => ?_
    refine wp_region_lit ?_
    refine s_pu hF rfl rfl rfl (pu_assign (hF.ev rfl)) ?_; clear hF; intro a hF
    refine s_done ?_
    refine hK3 _ _ ?_; clear hK3
    refine wp_ret ?_
    refine then_ret ?_
    refine fin1 Try.results76 hF rfl ?_
    refine ⟨_, rfl, ⟨(fun h => by cases h), fun h => ?_⟩, hS⟩
    subst h
    exact absurd rfl hc0
  · -- cond 0 false
    try simp only [decide_eq_true_eq, decide_eq_false_iff_not, Bool.not_eq_true', Bool.not_eq_false', Int.not_lt, Int.not_le, ne_eq, Decidable.not_not, Bool.or_eq_true, Bool.or_eq_false_iff, Bool.and_eq_true, Bool.and_eq_false_imp] at hc0
    refine wp_skip ?_
    refine hK1 _ _ ?_; clear hK1
    refine wp_seq_k fun K3 hK3 => ?_
    refine wp_seq_k fun K4 hK4 => ?_
    refine wp_region_lit ?_
    refine s_pu hF rfl rfl rfl (pu_assign (hF.ev rfl)) ?_; clear hF; intro a hF
    refine s_done ?_
    refine hK4 _ _ ?_; clear hK4
    refine wp_block ?_
    have hlen : ts.length = us.length := by omega
    refine wp_ind (fun j a w => ∃ (i : Nat), j = ts.length - i ∧ i ≤ ts.length ∧ ts.take i = us.take i ∧
      Fr a 57 [(0, .slice A1 ts.length c1), (1, .slice A2 us.length c2), (5, .int .i64 i)] ∧ Sat w0 w C) ts.length
      ⟨0, by omega, by omega, rfl, hF.sub ⟨rfl, rfl, rfl, trivial⟩, hS⟩ ?_
    clear hS hF
    rintro j a w ⟨i, rfl, hi, htk, hF, hS⟩
    refine wp_seq_k fun K5 hK5 => ?_
    refine wp_seq_k fun K6 hK6 => ?_
    refine wp_region_lit ?_
    refine s_pu hF rfl rfl rfl (pu_move (hF.ev rfl)) ?_; clear hF; intro a hF
    refine s_pu hF rfl rfl rfl (pu_move (hF.ev rfl)) ?_; clear hF; intro a hF
    refine s_pu hF rfl rfl rfl (pu_len sl102 (hF.ev rfl)) ?_; clear hF; intro a hF
    refine s_pu hF rfl rfl rfl (pu_lss (hF.ev rfl) (hF.ev rfl)) ?_; clear hF; intro a hF
    refine s_done ?_
    refine hK6 _ _ ?_; clear hK6
    refine wp_cond_split (hF.ev rfl) (fun hc1 => ?_) (fun hc1 => ?_)
    · -- cond 1 true
      try simp only [decide_eq_true_eq, decide_eq_false_iff_not, Bool.not_eq_true', Bool.not_eq_false', Int.not_lt, Int.not_le, ne_eq, Decidable.not_not, Bool.or_eq_true, Bool.or_eq_false_iff, Bool.and_eq_true, Bool.and_eq_false_imp] at hc1
      have hil : i < ts.length := by omega
      obtain ⟨t, ht⟩ : ∃ t, ts[i]? = some t := ⟨ts[i], List.getElem?_eq_getElem _⟩
      obtain ⟨u, hu⟩ : ∃ u, us[i]? = some u := ⟨us[i]'(by omega), List.getElem?_eq_getElem _⟩
      obtain ⟨x, hk1, k', rfl, rfl, hD1, hcc1, hRk1⟩ := hR1.at ht
      obtain ⟨y, hk2, k'', e, rfl, hD2, hcc2, hRk2⟩ := hR2.at hu
      obtain rfl : k'' = k' := by omega
      obtain ⟨kA, kc, rfl, _⟩ := hRk1.slice
      obtain ⟨kB, kd, rfl, _⟩ := hRk2.slice
      have hx : ∀ j v, [Value.int .i64 t.tag, .string t.val, .slice kA t.kids.length kc][j]? = some v → ∀ w, Sat w0 w C → w.cell? ((x.add ((i : Int).toNat * 3)).add j) = some v := fun j v hj w h => by
        rw [add_add, Int.toNat_natCast]
        exact hK.cell h hD1 (hcc1 j v hj)
      have hy : ∀ j v, [Value.int .i64 u.tag, .string u.val, .slice kB u.kids.length kd][j]? = some v → ∀ w, Sat w0 w C → w.cell? ((y.add ((i : Int).toNat * 3)).add j) = some v := fun j v hj w h => by
        rw [add_add, Int.toNat_natCast]
        exact hK.cell h hD2 (hcc2 j v hj)
      have hiu : i < us.length := by omega
      refine wp_skip ?_
      refine hK5 _ _ ?_; clear hK5
      refine wp_seq_k fun K7 hK7 => ?_
      refine wp_block ?_
      refine wp_seq_k fun K8 hK8 => ?_
      refine d_start (S := (fun w => Sat w0 w _)) (ds := [10]) (ord := [(0, .pu), (1, .pu), (2, .pu), (3, .pu), (4, .tk), (5, .pu), (6, .pu), (7, .pu), (8, .pu), (9, .tk), (10, .ls), (11, .pu)]) mixed ⟨by kernel_rfl, fun _ d _ _ _ h => by cases d <;> exact h⟩ hS.drew fun hD => ?_
      replace hS := hS.drew; generalize w.drew = w at hS ⊢
      refine d_pu hD hF rfl rfl rfl rfl rfl (pu_move (hF.ev rfl)) ?_; clear hF; intro a hF
      refine d_pu hD hF rfl rfl rfl rfl rfl (pu_move (hF.ev rfl)) ?_; clear hF; intro a hF
      refine d_pu hD hF rfl rfl rfl rfl rfl ((by exact pu_elemA sl102 (hF.ev rfl) (hF.ev rfl) (by omega) (by omega))) ?_; clear hF; intro a hF
      refine d_pu hD hF rfl rfl rfl rfl rfl ((by exact pu_fieldA fd133_2 (hF.ev rfl))) ?_; clear hF; intro a hF
      refine d_rd hD hF rfl rfl rfl rfl rfl hS (fun w hS => rd_load pl102 (hF.ev rfl) (hx 2 _ rfl w hS)) ?_; clear hF; intro a hF
      refine d_pu hD hF rfl rfl rfl rfl rfl (pu_move (hF.ev rfl)) ?_; clear hF; intro a hF
      refine d_pu hD hF rfl rfl rfl rfl rfl (pu_move (hF.ev rfl)) ?_; clear hF; intro a hF
      refine d_pu hD hF rfl rfl rfl rfl rfl ((by exact pu_elemA sl102 (hF.ev rfl) (hF.ev rfl) (by omega) (by omega))) ?_; clear hF; intro a hF
      refine d_pu hD hF rfl rfl rfl rfl rfl ((by exact pu_fieldA fd133_2 (hF.ev rfl))) ?_; clear hF; intro a hF
      refine d_rd hD hF rfl rfl rfl rfl rfl hS (fun w hS => rd_load pl102 (hF.ev rfl) (hy 2 _ rfl w hS)) ?_; clear hF; intro a hF
      refine l_en hD hF rfl rfl rfl rfl rfl (run_fn fk76 (hF.ev rfl) (hF.evs rfl)) (ih _ rfl hRk1 hRk2 hK hS) ?_
      clear hS; rintro e w ⟨bb, rfl, hbb, hS⟩
      refine ⟨_, rfl, ?_⟩; clear hF; intro a hF
      refine d_pu hD hF rfl rfl rfl rfl rfl (pu_assign (hF.ev rfl)) ?_; clear hF; intro a hF
      refine d_done hD rfl ?_; clear hD
      refine hK8 _ _ ?_; clear hK8
      refine wp_seq_k fun K9 hK9 => ?_
      refine d_start (S := (fun w => Sat w0 w _)) (ds := []) (ord := [(0, .pu), (1, .pu), (2, .pu), (3, .pu), (4, .pu), (5, .pu), (6, .pu), (7, .tk), (8, .pu), (9, .pu), (10, .pu), (11, .pu), (12, .tk), (13, .pu), (14, .pu), (15, .pu), (16, .pu), (17, .pu), (18, .pu), (19, .pu), (20, .tk), (21, .pu), (22, .pu), (23, .pu), (24, .pu), (25, .tk), (26, .pu), (27, .pu)]) mixed ⟨by kernel_rfl, fun _ d _ _ _ h => by cases d <;> exact h⟩ hS.drew fun hD => ?_
      replace hS := hS.drew; generalize w.drew = w at hS ⊢
      refine d_pu hD hF rfl rfl rfl rfl rfl (pu_move (hF.ev rfl)) ?_; clear hF; intro a hF
      refine d_pu hD hF rfl rfl rfl rfl rfl (pu_not (hF.ev rfl)) ?_; clear hF; intro a hF
      refine d_pu hD hF rfl rfl rfl rfl rfl (pu_move (hF.ev rfl)) ?_; clear hF; intro a hF
      refine fr_split hF (t := 31) rfl ?_ ?_
      · clear hF; intro hg31 hF   -- slot 31 true
        try simp only [decide_eq_true_eq, decide_eq_false_iff_not, Bool.not_eq_true', Bool.not_eq_false', Int.not_lt, Int.not_le, ne_eq, Decidable.not_not, Bool.or_eq_true, Bool.or_eq_false_iff, Bool.and_eq_true, Bool.and_eq_false_imp] at hg31
        refine d_no hD hF rfl rfl rfl rfl rfl ?_; clear hF; intro a hF
        refine d_no hD hF rfl rfl rfl rfl rfl ?_; clear hF; intro a hF
        refine d_no hD hF rfl rfl rfl rfl rfl ?_; clear hF; intro a hF
        refine d_no hD hF rfl rfl rfl rfl rfl ?_; clear hF; intro a hF
        refine d_nord hD hF rfl rfl rfl rfl rfl hS ?_; clear hF; intro a hF
        refine d_no hD hF rfl rfl rfl rfl rfl ?_; clear hF; intro a hF
        refine d_no hD hF rfl rfl rfl rfl rfl ?_; clear hF; intro a hF
        refine d_no hD hF rfl rfl rfl rfl rfl ?_; clear hF; intro a hF
        refine d_no hD hF rfl rfl rfl rfl rfl ?_; clear hF; intro a hF
        refine d_nord hD hF rfl rfl rfl rfl rfl hS ?_; clear hF; intro a hF
        refine d_no hD hF rfl rfl rfl rfl rfl ?_; clear hF; intro a hF
        refine d_pu hD hF rfl rfl rfl rfl rfl ((by exact pu_pick_t (hF.ev rfl) (hF.ev rfl))) ?_; clear hF; intro a hF
        refine d_pu hD hF rfl rfl rfl rfl rfl (pu_move (hF.ev rfl)) ?_; clear hF; intro a hF
        refine d_no hD hF rfl rfl rfl rfl rfl ?_; clear hF; intro a hF
        refine d_no hD hF rfl rfl rfl rfl rfl ?_; clear hF; intro a hF
        refine d_no hD hF rfl rfl rfl rfl rfl ?_; clear hF; intro a hF
        refine d_no hD hF rfl rfl rfl rfl rfl ?_; clear hF; intro a hF
        refine d_nord hD hF rfl rfl rfl rfl rfl hS ?_; clear hF; intro a hF
        refine d_no hD hF rfl rfl rfl rfl rfl ?_; clear hF; intro a hF
        refine d_no hD hF rfl rfl rfl rfl rfl ?_; clear hF; intro a hF
        refine d_no hD hF rfl rfl rfl rfl rfl ?_; clear hF; intro a hF
        refine d_no hD hF rfl rfl rfl rfl rfl ?_; clear hF; intro a hF
        refine d_nord hD hF rfl rfl rfl rfl rfl hS ?_; clear hF; intro a hF
        refine d_no hD hF rfl rfl rfl rfl rfl ?_; clear hF; intro a hF
        refine d_pu hD hF rfl rfl rfl rfl rfl ((by exact pu_pick_t (hF.ev rfl) (hF.ev rfl))) ?_; clear hF; intro a hF
        refine d_done hD rfl ?_; clear hD
        refine hK9 _ _ ?_; clear hK9
        refine wp_cond_true (hF.ev rfl) ?_
        refine wp_seq_k fun K10 hK10 => ?_
        refine wp_region_lit ?_
        refine s_pu hF rfl rfl rfl (pu_assign (hF.ev rfl)) ?_; clear hF; intro a hF
        refine s_done ?_
        refine hK10 _ _ ?_; clear hK10
        refine wp_ret ?_
        refine blk_ret ?_
        refine then_ret ?_
        refine then_ret ?_
        refine blk_ret ?_
        refine then_ret ?_
        refine fin1 Try.results76 hF rfl ?_
        refine ⟨_, rfl, ⟨(fun h => by cases h), fun h => ?_⟩, hS⟩
        subst h
        rw [ht] at hu
        cases hu
        have := hbb.2 rfl
        simp_all
      · clear hF; intro hg31 hF   -- slot 31 false
        try simp only [decide_eq_true_eq, decide_eq_false_iff_not, Bool.not_eq_true', Bool.not_eq_false', Int.not_lt, Int.not_le, ne_eq, Decidable.not_not, Bool.or_eq_true, Bool.or_eq_false_iff, Bool.and_eq_true, Bool.and_eq_false_imp] at hg31
        refine d_pu hD hF rfl rfl rfl rfl rfl (pu_move (hF.ev rfl)) ?_; clear hF; intro a hF
        refine d_pu hD hF rfl rfl rfl rfl rfl (pu_move (hF.ev rfl)) ?_; clear hF; intro a hF
        refine d_pu hD hF rfl rfl rfl rfl rfl ((by exact pu_elemA sl102 (hF.ev rfl) (hF.ev rfl) (by omega) (by omega))) ?_; clear hF; intro a hF
        refine d_pu hD hF rfl rfl rfl rfl rfl ((by exact pu_fieldA fd133_0 (hF.ev rfl))) ?_; clear hF; intro a hF
        refine d_rd hD hF rfl rfl rfl rfl rfl hS (fun w hS => rd_load pl3 (hF.ev rfl) (hx 0 _ rfl w hS)) ?_; clear hF; intro a hF
        refine d_pu hD hF rfl rfl rfl rfl rfl (pu_move (hF.ev rfl)) ?_; clear hF; intro a hF
        refine d_pu hD hF rfl rfl rfl rfl rfl (pu_move (hF.ev rfl)) ?_; clear hF; intro a hF
        refine d_pu hD hF rfl rfl rfl rfl rfl ((by exact pu_elemA sl102 (hF.ev rfl) (hF.ev rfl) (by omega) (by omega))) ?_; clear hF; intro a hF
        refine d_pu hD hF rfl rfl rfl rfl rfl ((by exact pu_fieldA fd133_0 (hF.ev rfl))) ?_; clear hF; intro a hF
        refine d_rd hD hF rfl rfl rfl rfl rfl hS (fun w hS => rd_load pl3 (hF.ev rfl) (hy 0 _ rfl w hS)) ?_; clear hF; intro a hF
        refine d_pu hD hF rfl rfl rfl rfl rfl (pu_neq (hF.ev rfl) (hF.ev rfl)) ?_; clear hF; intro a hF
        refine d_pu hD hF rfl rfl rfl rfl rfl ((by exact pu_pick_f (hF.ev rfl) (hF.ev rfl))) ?_; clear hF; intro a hF
        refine d_pu hD hF rfl rfl rfl rfl rfl (pu_move (hF.ev rfl)) ?_; clear hF; intro a hF
        refine fr_split hF (t := 44) rfl ?_ ?_
        · clear hF; intro hg44 hF   -- slot 44 true
          try simp only [decide_eq_true_eq, decide_eq_false_iff_not, Bool.not_eq_true', Bool.not_eq_false', Int.not_lt, Int.not_le, ne_eq, Decidable.not_not, Bool.or_eq_true, Bool.or_eq_false_iff, Bool.and_eq_true, Bool.and_eq_false_imp] at hg44
          refine d_no hD hF rfl rfl rfl rfl rfl ?_; clear hF; intro a hF
          refine d_no hD hF rfl rfl rfl rfl rfl ?_; clear hF; intro a hF
          refine d_no hD hF rfl rfl rfl rfl rfl ?_; clear hF; intro a hF
          refine d_no hD hF rfl rfl rfl rfl rfl ?_; clear hF; intro a hF
          refine d_nord hD hF rfl rfl rfl rfl rfl hS ?_; clear hF; intro a hF
          refine d_no hD hF rfl rfl rfl rfl rfl ?_; clear hF; intro a hF
          refine d_no hD hF rfl rfl rfl rfl rfl ?_; clear hF; intro a hF
          refine d_no hD hF rfl rfl rfl rfl rfl ?_; clear hF; intro a hF
          refine d_no hD hF rfl rfl rfl rfl rfl ?_; clear hF; intro a hF
          refine d_nord hD hF rfl rfl rfl rfl rfl hS ?_; clear hF; intro a hF
          refine d_no hD hF rfl rfl rfl rfl rfl ?_; clear hF; intro a hF
          refine d_pu hD hF rfl rfl rfl rfl rfl ((by exact pu_pick_t (hF.ev rfl) (hF.ev rfl))) ?_; clear hF; intro a hF
          refine d_done hD rfl ?_; clear hD
          refine hK9 _ _ ?_; clear hK9
          refine wp_cond_true (hF.ev rfl) ?_
          refine wp_seq_k fun K10 hK10 => ?_
          refine wp_region_lit ?_
          refine s_pu hF rfl rfl rfl (pu_assign (hF.ev rfl)) ?_; clear hF; intro a hF
          refine s_done ?_
          refine hK10 _ _ ?_; clear hK10
          refine wp_ret ?_
          refine blk_ret ?_
          refine then_ret ?_
          refine then_ret ?_
          refine blk_ret ?_
          refine then_ret ?_
          refine fin1 Try.results76 hF rfl ?_
          refine ⟨_, rfl, ⟨(fun h => by cases h), fun h => ?_⟩, hS⟩
          subst h
          rw [ht] at hu
          cases hu
          simp_all
        · clear hF; intro hg44 hF   -- slot 44 false
          try simp only [decide_eq_true_eq, decide_eq_false_iff_not, Bool.not_eq_true', Bool.not_eq_false', Int.not_lt, Int.not_le, ne_eq, Decidable.not_not, Bool.or_eq_true, Bool.or_eq_false_iff, Bool.and_eq_true, Bool.and_eq_false_imp] at hg44
          refine d_pu hD hF rfl rfl rfl rfl rfl (pu_move (hF.ev rfl)) ?_; clear hF; intro a hF
          refine d_pu hD hF rfl rfl rfl rfl rfl (pu_move (hF.ev rfl)) ?_; clear hF; intro a hF
          refine d_pu hD hF rfl rfl rfl rfl rfl ((by exact pu_elemA sl102 (hF.ev rfl) (hF.ev rfl) (by omega) (by omega))) ?_; clear hF; intro a hF
          refine d_pu hD hF rfl rfl rfl rfl rfl ((by exact pu_fieldA fd133_1 (hF.ev rfl))) ?_; clear hF; intro a hF
          refine d_rd hD hF rfl rfl rfl rfl rfl hS (fun w hS => rd_load pl9 (hF.ev rfl) (hx 1 _ rfl w hS)) ?_; clear hF; intro a hF
          refine d_pu hD hF rfl rfl rfl rfl rfl (pu_move (hF.ev rfl)) ?_; clear hF; intro a hF
          refine d_pu hD hF rfl rfl rfl rfl rfl (pu_move (hF.ev rfl)) ?_; clear hF; intro a hF
          refine d_pu hD hF rfl rfl rfl rfl rfl ((by exact pu_elemA sl102 (hF.ev rfl) (hF.ev rfl) (by omega) (by omega))) ?_; clear hF; intro a hF
          refine d_pu hD hF rfl rfl rfl rfl rfl ((by exact pu_fieldA fd133_1 (hF.ev rfl))) ?_; clear hF; intro a hF
          refine d_rd hD hF rfl rfl rfl rfl rfl hS (fun w hS => rd_load pl9 (hF.ev rfl) (hy 1 _ rfl w hS)) ?_; clear hF; intro a hF
          refine d_pu hD hF rfl rfl rfl rfl rfl (pu_sneq (hF.ev rfl) (hF.ev rfl)) ?_; clear hF; intro a hF
          refine d_pu hD hF rfl rfl rfl rfl rfl ((by exact pu_pick_f (hF.ev rfl) (hF.ev rfl))) ?_; clear hF; intro a hF
          refine d_done hD rfl ?_; clear hD
          refine hK9 _ _ ?_; clear hK9
          refine wp_cond_split (hF.ev rfl) (fun hc2 => ?_) (fun hc2 => ?_)
          · -- cond 2 true
            try simp only [decide_eq_true_eq, decide_eq_false_iff_not, Bool.not_eq_true', Bool.not_eq_false', Int.not_lt, Int.not_le, ne_eq, Decidable.not_not, Bool.or_eq_true, Bool.or_eq_false_iff, Bool.and_eq_true, Bool.and_eq_false_imp] at hc2
            refine wp_seq_k fun K10 hK10 => ?_
            refine wp_region_lit ?_
            refine s_pu hF rfl rfl rfl (pu_assign (hF.ev rfl)) ?_; clear hF; intro a hF
            refine s_done ?_
            refine hK10 _ _ ?_; clear hK10
            refine wp_ret ?_
            refine blk_ret ?_
            refine then_ret ?_
            refine then_ret ?_
            refine blk_ret ?_
            refine then_ret ?_
            refine fin1 Try.results76 hF rfl ?_
            refine ⟨_, rfl, ⟨(fun h => by cases h), fun h => ?_⟩, hS⟩
            subst h
            rw [ht] at hu
            cases hu
            simp_all
          · -- cond 2 false
            try simp only [decide_eq_true_eq, decide_eq_false_iff_not, Bool.not_eq_true', Bool.not_eq_false', Int.not_lt, Int.not_le, ne_eq, Decidable.not_not, Bool.or_eq_true, Bool.or_eq_false_iff, Bool.and_eq_true, Bool.and_eq_false_imp] at hc2
            refine wp_skip ?_
            refine blk_normal ?_
            refine hK7 _ _ ?_; clear hK7
            refine wp_region_lit ?_
            refine s_pu hF rfl rfl rfl (pu_move (hF.ev rfl)) ?_; clear hF; intro a hF
            refine s_pu hF rfl rfl rfl ((by exact pu_add64 (hF.ev rfl) (hF.ev rfl) (by omega))) ?_; clear hF; intro a hF
            refine s_pu hF rfl rfl rfl (pu_assign (hF.ev rfl)) ?_; clear hF; intro a hF
            refine s_done ?_
            refine ⟨_, by omega, i + 1, rfl, by omega, ?_, hF.sub ⟨rfl, rfl, rfl, trivial⟩, hS⟩
            rw [List.take_add_one, List.take_add_one, htk, ht, hu]
            have : t = u := tr_eq (by simp_all) (by simp_all) (by simp_all)
            rw [this]
    · -- cond 1 false
      try simp only [decide_eq_true_eq, decide_eq_false_iff_not, Bool.not_eq_true', Bool.not_eq_false', Int.not_lt, Int.not_le, ne_eq, Decidable.not_not, Bool.or_eq_true, Bool.or_eq_false_iff, Bool.and_eq_true, Bool.and_eq_false_imp] at hc1
      refine wp_exit ?_
      refine then_exit ?_
      refine then_exit ?_
      refine blk_exit ?_
      refine hK3 _ _ ?_; clear hK3
      refine wp_seq_k fun K7 hK7 => ?_
      refine wp_region_lit ?_
      refine s_pu hF rfl rfl rfl (pu_assign (hF.ev rfl)) ?_; clear hF; intro a hF
      refine s_done ?_
      refine hK7 _ _ ?_; clear hK7
      refine wp_ret ?_
      refine fin1 Try.results76 hF rfl ?_
      have hil : i = ts.length := by omega
      subst hil
      refine ⟨_, rfl, ⟨fun _ => ?_, fun _ => rfl⟩, hS⟩
      rw [List.take_length] at htk
      rw [htk, hlen, List.take_length]
theorem sameF_step (k : Nat) (ih : ∀ k', k = k' + 1 → SameOk 76 k') : SameOk 67 k := by
  intro w0 w W D C h1 h2 ts us hR1 hR2 hK hS
  obtain ⟨A1, c1, rfl, hb1⟩ := hR1.slice
  obtain ⟨A2, c2, rfl, hb2⟩ := hR2.slice
  refine enter Try.func67 rfl Try.ntmps67 (Nat.le_of_ble_eq_true rfl) fun a hF => ?_
  refine wp_seq_k fun K0 hK0 => ?_
  refine wp_region_lit ?_
  refine s_pu hF rfl rfl rfl (pu_assign (hF.ev rfl)) ?_; clear hF; intro a hF
  refine s_done ?_
  refine hK0 _ _ ?_; clear hK0
  refine wp_seq_k fun K1 hK1 => ?_
  refine wp_seq_k fun K2 hK2 => ?_
  refine wp_region_lit ?_
  refine s_pu hF rfl rfl rfl (pu_move (hF.ev rfl)) ?_; clear hF; intro a hF
  refine s_pu hF rfl rfl rfl (pu_len sl31 (hF.ev rfl)) ?_; clear hF; intro a hF
  refine s_pu hF rfl rfl rfl (pu_move (hF.ev rfl)) ?_; clear hF; intro a hF
  refine s_pu hF rfl rfl rfl (pu_len sl31 (hF.ev rfl)) ?_; clear hF; intro a hF
  refine s_pu hF rfl rfl rfl (pu_neq (hF.ev rfl) (hF.ev rfl)) ?_; clear hF; intro a hF
  refine s_done ?_
  refine hK2 _ _ ?_; clear hK2
  refine wp_cond_split (hF.ev rfl) (fun hc0 => ?_) (fun hc0 => ?_)
  · -- cond 0 true
    try simp only [decide_eq_true_eq, decide_eq_false_iff_not, Bool.not_eq_true', Bool.not_eq_false', Int.not_lt, Int.not_le, ne_eq, Decidable.not_not, Bool.or_eq_true, Bool.or_eq_false_iff, Bool.and_eq_true, Bool.and_eq_false_imp] at hc0
    refine wp_seq_k fun K3 hK3 => ?_
    refine wp_region_lit ?_
    refine s_pu hF rfl rfl rfl (pu_assign (hF.ev rfl)) ?_; clear hF; intro a hF
    refine s_done ?_
    refine hK3 _ _ ?_; clear hK3
    refine wp_ret ?_
    refine then_ret ?_
    refine fin1 Try.results67 hF rfl ?_
    refine ⟨_, rfl, ⟨(fun h => by cases h), fun h => ?_⟩, hS⟩
    subst h
    exact absurd rfl hc0
  · -- cond 0 false
    try simp only [decide_eq_true_eq, decide_eq_false_iff_not, Bool.not_eq_true', Bool.not_eq_false', Int.not_lt, Int.not_le, ne_eq, Decidable.not_not, Bool.or_eq_true, Bool.or_eq_false_iff, Bool.and_eq_true, Bool.and_eq_false_imp] at hc0
    refine wp_skip ?_
    refine hK1 _ _ ?_; clear hK1
    refine wp_seq_k fun K3 hK3 => ?_
    refine wp_seq_k fun K4 hK4 => ?_
    refine wp_region_lit ?_
    refine s_pu hF rfl rfl rfl (pu_assign (hF.ev rfl)) ?_; clear hF; intro a hF
    refine s_done ?_
    refine hK4 _ _ ?_; clear hK4
    refine wp_block ?_
    have hlen : ts.length = us.length := by omega
    refine wp_ind (fun j a w => ∃ (i : Nat), j = ts.length - i ∧ i ≤ ts.length ∧ ts.take i = us.take i ∧
      Fr a 57 [(0, .slice A1 ts.length c1), (1, .slice A2 us.length c2), (5, .int .i64 i)] ∧ Sat w0 w C) ts.length
      ⟨0, by omega, by omega, rfl, hF.sub ⟨rfl, rfl, rfl, trivial⟩, hS⟩ ?_
    clear hS hF
    rintro j a w ⟨i, rfl, hi, htk, hF, hS⟩
    refine wp_seq_k fun K5 hK5 => ?_
    refine wp_seq_k fun K6 hK6 => ?_
    refine wp_region_lit ?_
    refine s_pu hF rfl rfl rfl (pu_move (hF.ev rfl)) ?_; clear hF; intro a hF
    refine s_pu hF rfl rfl rfl (pu_move (hF.ev rfl)) ?_; clear hF; intro a hF
    refine s_pu hF rfl rfl rfl (pu_len sl31 (hF.ev rfl)) ?_; clear hF; intro a hF
    refine s_pu hF rfl rfl rfl (pu_lss (hF.ev rfl) (hF.ev rfl)) ?_; clear hF; intro a hF
    refine s_done ?_
    refine hK6 _ _ ?_; clear hK6
    refine wp_cond_split (hF.ev rfl) (fun hc1 => ?_) (fun hc1 => ?_)
    · -- cond 1 true
      try simp only [decide_eq_true_eq, decide_eq_false_iff_not, Bool.not_eq_true', Bool.not_eq_false', Int.not_lt, Int.not_le, ne_eq, Decidable.not_not, Bool.or_eq_true, Bool.or_eq_false_iff, Bool.and_eq_true, Bool.and_eq_false_imp] at hc1
      have hil : i < ts.length := by omega
      obtain ⟨t, ht⟩ : ∃ t, ts[i]? = some t := ⟨ts[i], List.getElem?_eq_getElem _⟩
      obtain ⟨u, hu⟩ : ∃ u, us[i]? = some u := ⟨us[i]'(by omega), List.getElem?_eq_getElem _⟩
      obtain ⟨x, hk1, k', rfl, rfl, hD1, hcc1, hRk1⟩ := hR1.at ht
      obtain ⟨y, hk2, k'', e, rfl, hD2, hcc2, hRk2⟩ := hR2.at hu
      obtain rfl : k'' = k' := by omega
      obtain ⟨kA, kc, rfl, _⟩ := hRk1.slice
      obtain ⟨kB, kd, rfl, _⟩ := hRk2.slice
      have hx : ∀ j v, [Value.int .i64 t.tag, .string t.val, .slice kA t.kids.length kc][j]? = some v → ∀ w, Sat w0 w C → w.cell? ((x.add ((i : Int).toNat * 3)).add j) = some v := fun j v hj w h => by
        rw [add_add, Int.toNat_natCast]
        exact hK.cell h hD1 (hcc1 j v hj)
      have hy : ∀ j v, [Value.int .i64 u.tag, .string u.val, .slice kB u.kids.length kd][j]? = some v → ∀ w, Sat w0 w C → w.cell? ((y.add ((i : Int).toNat * 3)).add j) = some v := fun j v hj w h => by
        rw [add_add, Int.toNat_natCast]
        exact hK.cell h hD2 (hcc2 j v hj)
      have hiu : i < us.length := by omega
      refine wp_skip ?_
      refine hK5 _ _ ?_; clear hK5
      refine wp_seq_k fun K7 hK7 => ?_
      refine wp_block ?_
      refine wp_seq_k fun K8 hK8 => ?_
      refine d_start (S := (fun w => Sat w0 w _)) (ds := [10]) (ord := [(0, .pu), (1, .pu), (2, .pu), (3, .pu), (4, .tk), (5, .pu), (6, .pu), (7, .pu), (8, .pu), (9, .tk), (10, .ls), (11, .pu)]) mixed ⟨by kernel_rfl, fun _ d _ _ _ h => by cases d <;> exact h⟩ hS.drew fun hD => ?_
      replace hS := hS.drew; generalize w.drew = w at hS ⊢
      refine d_pu hD hF rfl rfl rfl rfl rfl (pu_move (hF.ev rfl)) ?_; clear hF; intro a hF
      refine d_pu hD hF rfl rfl rfl rfl rfl (pu_move (hF.ev rfl)) ?_; clear hF; intro a hF
      refine d_pu hD hF rfl rfl rfl rfl rfl ((by exact pu_elemA sl31 (hF.ev rfl) (hF.ev rfl) (by omega) (by omega))) ?_; clear hF; intro a hF
      refine d_pu hD hF rfl rfl rfl rfl rfl ((by exact pu_fieldA fd104_2 (hF.ev rfl))) ?_; clear hF; intro a hF
      refine d_rd hD hF rfl rfl rfl rfl rfl hS (fun w hS => rd_load pl102 (hF.ev rfl) (hx 2 _ rfl w hS)) ?_; clear hF; intro a hF
      refine d_pu hD hF rfl rfl rfl rfl rfl (pu_move (hF.ev rfl)) ?_; clear hF; intro a hF
      refine d_pu hD hF rfl rfl rfl rfl rfl (pu_move (hF.ev rfl)) ?_; clear hF; intro a hF
      refine d_pu hD hF rfl rfl rfl rfl rfl ((by exact pu_elemA sl31 (hF.ev rfl) (hF.ev rfl) (by omega) (by omega))) ?_; clear hF; intro a hF
      refine d_pu hD hF rfl rfl rfl rfl rfl ((by exact pu_fieldA fd104_2 (hF.ev rfl))) ?_; clear hF; intro a hF
      refine d_rd hD hF rfl rfl rfl rfl rfl hS (fun w hS => rd_load pl102 (hF.ev rfl) (hy 2 _ rfl w hS)) ?_; clear hF; intro a hF
      refine l_en hD hF rfl rfl rfl rfl rfl (run_fn fk76 (hF.ev rfl) (hF.evs rfl)) (ih _ rfl hRk1 hRk2 hK hS) ?_
      clear hS; rintro e w ⟨bb, rfl, hbb, hS⟩
      refine ⟨_, rfl, ?_⟩; clear hF; intro a hF
      refine d_pu hD hF rfl rfl rfl rfl rfl (pu_assign (hF.ev rfl)) ?_; clear hF; intro a hF
      refine d_done hD rfl ?_; clear hD
      refine hK8 _ _ ?_; clear hK8
      refine wp_seq_k fun K9 hK9 => ?_
      refine d_start (S := (fun w => Sat w0 w _)) (ds := []) (ord := [(0, .pu), (1, .pu), (2, .pu), (3, .pu), (4, .pu), (5, .pu), (6, .pu), (7, .tk), (8, .pu), (9, .pu), (10, .pu), (11, .pu), (12, .tk), (13, .pu), (14, .pu), (15, .pu), (16, .pu), (17, .pu), (18, .pu), (19, .pu), (20, .tk), (21, .pu), (22, .pu), (23, .pu), (24, .pu), (25, .tk), (26, .pu), (27, .pu)]) mixed ⟨by kernel_rfl, fun _ d _ _ _ h => by cases d <;> exact h⟩ hS.drew fun hD => ?_
      replace hS := hS.drew; generalize w.drew = w at hS ⊢
      refine d_pu hD hF rfl rfl rfl rfl rfl (pu_move (hF.ev rfl)) ?_; clear hF; intro a hF
      refine d_pu hD hF rfl rfl rfl rfl rfl (pu_not (hF.ev rfl)) ?_; clear hF; intro a hF
      refine d_pu hD hF rfl rfl rfl rfl rfl (pu_move (hF.ev rfl)) ?_; clear hF; intro a hF
      refine fr_split hF (t := 31) rfl ?_ ?_
      · clear hF; intro hg31 hF   -- slot 31 true
        try simp only [decide_eq_true_eq, decide_eq_false_iff_not, Bool.not_eq_true', Bool.not_eq_false', Int.not_lt, Int.not_le, ne_eq, Decidable.not_not, Bool.or_eq_true, Bool.or_eq_false_iff, Bool.and_eq_true, Bool.and_eq_false_imp] at hg31
        refine d_no hD hF rfl rfl rfl rfl rfl ?_; clear hF; intro a hF
        refine d_no hD hF rfl rfl rfl rfl rfl ?_; clear hF; intro a hF
        refine d_no hD hF rfl rfl rfl rfl rfl ?_; clear hF; intro a hF
        refine d_no hD hF rfl rfl rfl rfl rfl ?_; clear hF; intro a hF
        refine d_nord hD hF rfl rfl rfl rfl rfl hS ?_; clear hF; intro a hF
        refine d_no hD hF rfl rfl rfl rfl rfl ?_; clear hF; intro a hF
        refine d_no hD hF rfl rfl rfl rfl rfl ?_; clear hF; intro a hF
        refine d_no hD hF rfl rfl rfl rfl rfl ?_; clear hF; intro a hF
        refine d_no hD hF rfl rfl rfl rfl rfl ?_; clear hF; intro a hF
        refine d_nord hD hF rfl rfl rfl rfl rfl hS ?_; clear hF; intro a hF
        refine d_no hD hF rfl rfl rfl rfl rfl ?_; clear hF; intro a hF
        refine d_pu hD hF rfl rfl rfl rfl rfl ((by exact pu_pick_t (hF.ev rfl) (hF.ev rfl))) ?_; clear hF; intro a hF
        refine d_pu hD hF rfl rfl rfl rfl rfl (pu_move (hF.ev rfl)) ?_; clear hF; intro a hF
        refine d_no hD hF rfl rfl rfl rfl rfl ?_; clear hF; intro a hF
        refine d_no hD hF rfl rfl rfl rfl rfl ?_; clear hF; intro a hF
        refine d_no hD hF rfl rfl rfl rfl rfl ?_; clear hF; intro a hF
        refine d_no hD hF rfl rfl rfl rfl rfl ?_; clear hF; intro a hF
        refine d_nord hD hF rfl rfl rfl rfl rfl hS ?_; clear hF; intro a hF
        refine d_no hD hF rfl rfl rfl rfl rfl ?_; clear hF; intro a hF
        refine d_no hD hF rfl rfl rfl rfl rfl ?_; clear hF; intro a hF
        refine d_no hD hF rfl rfl rfl rfl rfl ?_; clear hF; intro a hF
        refine d_no hD hF rfl rfl rfl rfl rfl ?_; clear hF; intro a hF
        refine d_nord hD hF rfl rfl rfl rfl rfl hS ?_; clear hF; intro a hF
        refine d_no hD hF rfl rfl rfl rfl rfl ?_; clear hF; intro a hF
        refine d_pu hD hF rfl rfl rfl rfl rfl ((by exact pu_pick_t (hF.ev rfl) (hF.ev rfl))) ?_; clear hF; intro a hF
        refine d_done hD rfl ?_; clear hD
        refine hK9 _ _ ?_; clear hK9
        refine wp_cond_true (hF.ev rfl) ?_
        refine wp_seq_k fun K10 hK10 => ?_
        refine wp_region_lit ?_
        refine s_pu hF rfl rfl rfl (pu_assign (hF.ev rfl)) ?_; clear hF; intro a hF
        refine s_done ?_
        refine hK10 _ _ ?_; clear hK10
        refine wp_ret ?_
        refine blk_ret ?_
        refine then_ret ?_
        refine then_ret ?_
        refine blk_ret ?_
        refine then_ret ?_
        refine fin1 Try.results67 hF rfl ?_
        refine ⟨_, rfl, ⟨(fun h => by cases h), fun h => ?_⟩, hS⟩
        subst h
        rw [ht] at hu
        cases hu
        have := hbb.2 rfl
        simp_all
      · clear hF; intro hg31 hF   -- slot 31 false
        try simp only [decide_eq_true_eq, decide_eq_false_iff_not, Bool.not_eq_true', Bool.not_eq_false', Int.not_lt, Int.not_le, ne_eq, Decidable.not_not, Bool.or_eq_true, Bool.or_eq_false_iff, Bool.and_eq_true, Bool.and_eq_false_imp] at hg31
        refine d_pu hD hF rfl rfl rfl rfl rfl (pu_move (hF.ev rfl)) ?_; clear hF; intro a hF
        refine d_pu hD hF rfl rfl rfl rfl rfl (pu_move (hF.ev rfl)) ?_; clear hF; intro a hF
        refine d_pu hD hF rfl rfl rfl rfl rfl ((by exact pu_elemA sl31 (hF.ev rfl) (hF.ev rfl) (by omega) (by omega))) ?_; clear hF; intro a hF
        refine d_pu hD hF rfl rfl rfl rfl rfl ((by exact pu_fieldA fd104_0 (hF.ev rfl))) ?_; clear hF; intro a hF
        refine d_rd hD hF rfl rfl rfl rfl rfl hS (fun w hS => rd_load pl3 (hF.ev rfl) (hx 0 _ rfl w hS)) ?_; clear hF; intro a hF
        refine d_pu hD hF rfl rfl rfl rfl rfl (pu_move (hF.ev rfl)) ?_; clear hF; intro a hF
        refine d_pu hD hF rfl rfl rfl rfl rfl (pu_move (hF.ev rfl)) ?_; clear hF; intro a hF
        refine d_pu hD hF rfl rfl rfl rfl rfl ((by exact pu_elemA sl31 (hF.ev rfl) (hF.ev rfl) (by omega) (by omega))) ?_; clear hF; intro a hF
        refine d_pu hD hF rfl rfl rfl rfl rfl ((by exact pu_fieldA fd104_0 (hF.ev rfl))) ?_; clear hF; intro a hF
        refine d_rd hD hF rfl rfl rfl rfl rfl hS (fun w hS => rd_load pl3 (hF.ev rfl) (hy 0 _ rfl w hS)) ?_; clear hF; intro a hF
        refine d_pu hD hF rfl rfl rfl rfl rfl (pu_neq (hF.ev rfl) (hF.ev rfl)) ?_; clear hF; intro a hF
        refine d_pu hD hF rfl rfl rfl rfl rfl ((by exact pu_pick_f (hF.ev rfl) (hF.ev rfl))) ?_; clear hF; intro a hF
        refine d_pu hD hF rfl rfl rfl rfl rfl (pu_move (hF.ev rfl)) ?_; clear hF; intro a hF
        refine fr_split hF (t := 44) rfl ?_ ?_
        · clear hF; intro hg44 hF   -- slot 44 true
          try simp only [decide_eq_true_eq, decide_eq_false_iff_not, Bool.not_eq_true', Bool.not_eq_false', Int.not_lt, Int.not_le, ne_eq, Decidable.not_not, Bool.or_eq_true, Bool.or_eq_false_iff, Bool.and_eq_true, Bool.and_eq_false_imp] at hg44
          refine d_no hD hF rfl rfl rfl rfl rfl ?_; clear hF; intro a hF
          refine d_no hD hF rfl rfl rfl rfl rfl ?_; clear hF; intro a hF
          refine d_no hD hF rfl rfl rfl rfl rfl ?_; clear hF; intro a hF
          refine d_no hD hF rfl rfl rfl rfl rfl ?_; clear hF; intro a hF
          refine d_nord hD hF rfl rfl rfl rfl rfl hS ?_; clear hF; intro a hF
          refine d_no hD hF rfl rfl rfl rfl rfl ?_; clear hF; intro a hF
          refine d_no hD hF rfl rfl rfl rfl rfl ?_; clear hF; intro a hF
          refine d_no hD hF rfl rfl rfl rfl rfl ?_; clear hF; intro a hF
          refine d_no hD hF rfl rfl rfl rfl rfl ?_; clear hF; intro a hF
          refine d_nord hD hF rfl rfl rfl rfl rfl hS ?_; clear hF; intro a hF
          refine d_no hD hF rfl rfl rfl rfl rfl ?_; clear hF; intro a hF
          refine d_pu hD hF rfl rfl rfl rfl rfl ((by exact pu_pick_t (hF.ev rfl) (hF.ev rfl))) ?_; clear hF; intro a hF
          refine d_done hD rfl ?_; clear hD
          refine hK9 _ _ ?_; clear hK9
          refine wp_cond_true (hF.ev rfl) ?_
          refine wp_seq_k fun K10 hK10 => ?_
          refine wp_region_lit ?_
          refine s_pu hF rfl rfl rfl (pu_assign (hF.ev rfl)) ?_; clear hF; intro a hF
          refine s_done ?_
          refine hK10 _ _ ?_; clear hK10
          refine wp_ret ?_
          refine blk_ret ?_
          refine then_ret ?_
          refine then_ret ?_
          refine blk_ret ?_
          refine then_ret ?_
          refine fin1 Try.results67 hF rfl ?_
          refine ⟨_, rfl, ⟨(fun h => by cases h), fun h => ?_⟩, hS⟩
          subst h
          rw [ht] at hu
          cases hu
          simp_all
        · clear hF; intro hg44 hF   -- slot 44 false
          try simp only [decide_eq_true_eq, decide_eq_false_iff_not, Bool.not_eq_true', Bool.not_eq_false', Int.not_lt, Int.not_le, ne_eq, Decidable.not_not, Bool.or_eq_true, Bool.or_eq_false_iff, Bool.and_eq_true, Bool.and_eq_false_imp] at hg44
          refine d_pu hD hF rfl rfl rfl rfl rfl (pu_move (hF.ev rfl)) ?_; clear hF; intro a hF
          refine d_pu hD hF rfl rfl rfl rfl rfl (pu_move (hF.ev rfl)) ?_; clear hF; intro a hF
          refine d_pu hD hF rfl rfl rfl rfl rfl ((by exact pu_elemA sl31 (hF.ev rfl) (hF.ev rfl) (by omega) (by omega))) ?_; clear hF; intro a hF
          refine d_pu hD hF rfl rfl rfl rfl rfl ((by exact pu_fieldA fd104_1 (hF.ev rfl))) ?_; clear hF; intro a hF
          refine d_rd hD hF rfl rfl rfl rfl rfl hS (fun w hS => rd_load pl9 (hF.ev rfl) (hx 1 _ rfl w hS)) ?_; clear hF; intro a hF
          refine d_pu hD hF rfl rfl rfl rfl rfl (pu_move (hF.ev rfl)) ?_; clear hF; intro a hF
          refine d_pu hD hF rfl rfl rfl rfl rfl (pu_move (hF.ev rfl)) ?_; clear hF; intro a hF
          refine d_pu hD hF rfl rfl rfl rfl rfl ((by exact pu_elemA sl31 (hF.ev rfl) (hF.ev rfl) (by omega) (by omega))) ?_; clear hF; intro a hF
          refine d_pu hD hF rfl rfl rfl rfl rfl ((by exact pu_fieldA fd104_1 (hF.ev rfl))) ?_; clear hF; intro a hF
          refine d_rd hD hF rfl rfl rfl rfl rfl hS (fun w hS => rd_load pl9 (hF.ev rfl) (hy 1 _ rfl w hS)) ?_; clear hF; intro a hF
          refine d_pu hD hF rfl rfl rfl rfl rfl (pu_sneq (hF.ev rfl) (hF.ev rfl)) ?_; clear hF; intro a hF
          refine d_pu hD hF rfl rfl rfl rfl rfl ((by exact pu_pick_f (hF.ev rfl) (hF.ev rfl))) ?_; clear hF; intro a hF
          refine d_done hD rfl ?_; clear hD
          refine hK9 _ _ ?_; clear hK9
          refine wp_cond_split (hF.ev rfl) (fun hc2 => ?_) (fun hc2 => ?_)
          · -- cond 2 true
            try simp only [decide_eq_true_eq, decide_eq_false_iff_not, Bool.not_eq_true', Bool.not_eq_false', Int.not_lt, Int.not_le, ne_eq, Decidable.not_not, Bool.or_eq_true, Bool.or_eq_false_iff, Bool.and_eq_true, Bool.and_eq_false_imp] at hc2
            refine wp_seq_k fun K10 hK10 => ?_
            refine wp_region_lit ?_
            refine s_pu hF rfl rfl rfl (pu_assign (hF.ev rfl)) ?_; clear hF; intro a hF
            refine s_done ?_
            refine hK10 _ _ ?_; clear hK10
            refine wp_ret ?_
            refine blk_ret ?_
            refine then_ret ?_
            refine then_ret ?_
            refine blk_ret ?_
            refine then_ret ?_
            refine fin1 Try.results67 hF rfl ?_
            refine ⟨_, rfl, ⟨(fun h => by cases h), fun h => ?_⟩, hS⟩
            subst h
            rw [ht] at hu
            cases hu
            simp_all
          · -- cond 2 false
            try simp only [decide_eq_true_eq, decide_eq_false_iff_not, Bool.not_eq_true', Bool.not_eq_false', Int.not_lt, Int.not_le, ne_eq, Decidable.not_not, Bool.or_eq_true, Bool.or_eq_false_iff, Bool.and_eq_true, Bool.and_eq_false_imp] at hc2
            refine wp_skip ?_
            refine blk_normal ?_
            refine hK7 _ _ ?_; clear hK7
            refine wp_region_lit ?_
            refine s_pu hF rfl rfl rfl (pu_move (hF.ev rfl)) ?_; clear hF; intro a hF
            refine s_pu hF rfl rfl rfl ((by exact pu_add64 (hF.ev rfl) (hF.ev rfl) (by omega))) ?_; clear hF; intro a hF
            refine s_pu hF rfl rfl rfl (pu_assign (hF.ev rfl)) ?_; clear hF; intro a hF
            refine s_done ?_
            refine ⟨_, by omega, i + 1, rfl, by omega, ?_, hF.sub ⟨rfl, rfl, rfl, trivial⟩, hS⟩
            rw [List.take_add_one, List.take_add_one, htk, ht, hu]
            have : t = u := tr_eq (by simp_all) (by simp_all) (by simp_all)
            rw [this]
    · -- cond 1 false
      try simp only [decide_eq_true_eq, decide_eq_false_iff_not, Bool.not_eq_true', Bool.not_eq_false', Int.not_lt, Int.not_le, ne_eq, Decidable.not_not, Bool.or_eq_true, Bool.or_eq_false_iff, Bool.and_eq_true, Bool.and_eq_false_imp] at hc1
      refine wp_exit ?_
      refine then_exit ?_
      refine then_exit ?_
      refine blk_exit ?_
      refine hK3 _ _ ?_; clear hK3
      refine wp_seq_k fun K7 hK7 => ?_
      refine wp_region_lit ?_
      refine s_pu hF rfl rfl rfl (pu_assign (hF.ev rfl)) ?_; clear hF; intro a hF
      refine s_done ?_
      refine hK7 _ _ ?_; clear hK7
      refine wp_ret ?_
      refine fin1 Try.results67 hF rfl ?_
      have hil : i = ts.length := by omega
      subst hil
      refine ⟨_, rfl, ⟨fun _ => ?_, fun _ => rfl⟩, hS⟩
      rw [List.take_length] at htk
      rw [htk, hlen, List.take_length]
theorem sameN_c : ∀ k, SameOk 76 k
  | 0 => sameN_step 0 (fun k' h => by cases h)
  | k + 1 => sameN_step (k + 1) (fun k' h => by cases h; exact sameN_c k)
theorem sameF_c (k : Nat) : SameOk 67 k := sameF_step k (fun k' _ => sameN_c k')
end Go.Proofs.Ytbfdebddoncfhaa
