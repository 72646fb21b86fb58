import Derived.Test.YtbfdebddoncfhaaPd10
import Derived.Test.YtbfdebddoncfhaaMC
/-! The law's texts: Same, same, pick, request, its. -/
namespace Go.Proofs.Ytbfdebddoncfhaa
open Go Go.RowKit Go.Proofs.Ytbfdebddoncfhaa.Sk
set_option linter.unusedVariables false
set_option linter.unusedSimpArgs false
set_option maxRecDepth 100000

theorem key_eq (x y : PKey) (w : World) : (Op.equal 30 x.val y.val).run Try.prog w = .ok (decide (x = y)) w :=
  struct_eq PKey.sc Try.underlying30 (by kernel_rfl) (fun x => by kernel_rfl) (fun x y => by simp [PKey.sc, likeAll, Sc.like]) (fun x y h => by
    obtain ⟨a, b, c, d, e⟩ := x
    obtain ⟨a', b', c', d', e'⟩ := y
    simp [PKey.sc] at h
    obtain ⟨rfl, rfl, rfl, rfl, rfl⟩ := h
    rfl) x y w
theorem msame_c (k : Nat) {w0 w W : World} {D : Nat → Prop} {C : List Chunk} {m1 m2 : ByteArray} {h1 h2 : Value} {ts us : List Tr} (hR1 : RdN W D k h1 ts) (hR2 : RdN W D k h2 us) (hK : Keeps w0 C W D) (hS : Sat w0 w C) :
    Calls Try.prog 51 #[.agg #[.string m1, h1], .agg #[.string m2, h2]] w fun e w' => ∃ b : Bool, e = .returned (.bool b) ∧ (b = true ↔ ts = us ∧ m1 = m2) ∧ Sat w0 w' C := by
  obtain ⟨A1, c1, rfl, hb1⟩ := hR1.slice
  obtain ⟨A2, c2, rfl, hb2⟩ := hR2.slice
  refine enter Try.func51 rfl Try.ntmps51 (Nat.le_of_ble_eq_true rfl) fun a hF => ?_
  refine wp_seq_k fun K0 hK0 => ?_
  refine wp_region_lit ?_
  refine s_newp hF rfl rfl rfl (ef_box (cs := #[_, _]) (hF.ev rfl) rfl) hS ?_; clear hF hS; intro b2 w hS a hF
  refine s_newp hF rfl rfl rfl (ef_box (cs := #[_, _]) (hF.ev rfl) rfl) hS ?_; clear hF hS; intro b3 w hS a hF
  refine s_pu hF rfl rfl rfl (pu_assign (hF.ev rfl)) ?_; clear hF; intro a hF
  refine s_done ?_
  refine hK0 _ _ ?_; clear hK0
  refine wp_seq_k fun K1 hK1 => ?_
  refine wp_region_lit ?_
  refine s_pu hF rfl rfl rfl ((by exact pu_field fd33_1 (hF.ev rfl))) ?_; clear hF; intro a hF
  refine s_rd hF rfl rfl rfl (by exact rd_load pl31 (hF.ev rfl) (hS.cellL (i := 1) rfl rfl)) ?_; clear hF; intro a hF
  refine s_pu hF rfl rfl rfl ((by exact pu_field fd33_1 (hF.ev rfl))) ?_; clear hF; intro a hF
  refine s_rd hF rfl rfl rfl (by exact rd_load pl31 (hF.ev rfl) (hS.cellL (i := 0) rfl rfl)) ?_; clear hF; intro a hF
  refine s_en hF rfl rfl rfl (run_fn fk67 (hF.ev rfl) (hF.evs rfl)) (sameF_c k hR1 hR2 (hK.sub (fun w h => h.tail.tail)) hS) ?_
  clear hS; rintro e w ⟨bb, rfl, hbb, hS⟩
  refine ⟨_, rfl, ?_⟩; clear hF; intro a hF
  refine s_pu hF rfl rfl rfl (pu_assign (hF.ev rfl)) ?_; clear hF; intro a hF
  refine s_done ?_
  refine hK1 _ _ ?_; clear hK1
  refine wp_seq_k fun K2 hK2 => ?_
  refine wp_region_lit ?_
  refine s_pu hF rfl rfl rfl (pu_move (hF.ev rfl)) ?_; clear hF; intro a hF
  refine s_pu hF rfl rfl rfl (pu_move (hF.ev rfl)) ?_; clear hF; intro a hF
  refine fr_split hF (t := 12) rfl ?_ ?_
  · clear hF; intro hg12 hF   -- slot 12 true
    refine s_pu hF rfl rfl rfl ((by exact pu_field fd33_0 (hF.ev rfl))) ?_; clear hF; intro a hF
    refine s_rd hF rfl rfl rfl (by exact rd_load pl9 (hF.ev rfl) (hS.cellL (i := 1) rfl rfl)) ?_; clear hF; intro a hF
    refine s_pu hF rfl rfl rfl ((by exact pu_field fd33_0 (hF.ev rfl))) ?_; clear hF; intro a hF
    refine s_rd hF rfl rfl rfl (by exact rd_load pl9 (hF.ev rfl) (hS.cellL (i := 0) rfl rfl)) ?_; clear hF; intro a hF
    refine s_pu hF rfl rfl rfl (pu_seql (hF.ev rfl) (hF.ev rfl)) ?_; clear hF; intro a hF
    refine s_pu hF rfl rfl rfl ((by exact pu_pick_t (hF.ev rfl) (hF.ev rfl))) ?_; clear hF; intro a hF
    refine s_pu hF rfl rfl rfl (pu_assign (hF.ev rfl)) ?_; clear hF; intro a hF
    refine s_done ?_
    refine hK2 _ _ ?_; clear hK2
    refine wp_ret ?_
    refine fin1 Try.results51 hF rfl ?_
    refine ⟨_, rfl, ?_, hS.tail.tail⟩
    simp_all
  · clear hF; intro hg12 hF   -- slot 12 false
    refine s_no hF rfl rfl rfl ?_; clear hF; intro a hF
    refine s_no hF rfl rfl rfl ?_; clear hF; intro a hF
    refine s_no hF rfl rfl rfl ?_; clear hF; intro a hF
    refine s_no hF rfl rfl rfl ?_; clear hF; intro a hF
    refine s_no hF rfl rfl rfl ?_; clear hF; intro a hF
    refine s_pu hF rfl rfl rfl ((by exact pu_pick_f (hF.ev rfl) (hF.ev rfl))) ?_; clear hF; intro a hF
    refine s_pu hF rfl rfl rfl (pu_assign (hF.ev rfl)) ?_; clear hF; intro a hF
    refine s_done ?_
    refine hK2 _ _ ?_; clear hK2
    refine wp_ret ?_
    refine fin1 Try.results51 hF rfl ?_
    refine ⟨_, rfl, ?_, hS.tail.tail⟩
    simp_all
theorem same_c (k : Nat) {w0 w W : World} {D : Nat → Prop} {C : List Chunk} {p q : Pnd} {h h' : Value × Value} (hR1 : RdN W D k h.1 p.f1) (hR2 : RdN W D k h.2 p.f2) (hR3 : RdN W D k h'.1 q.f1) (hR4 : RdN W D k h'.2 q.f2) (hK : Keeps w0 C W D) (hS : Sat w0 w C) :
    Calls Try.prog 35 #[p.value h, q.value h'] w fun e w' => ∃ b : Bool, e = .returned (.bool b) ∧ (b = true ↔ p = q) ∧ Sat w0 w' C := by
  obtain ⟨A1, c1, e1, hb1⟩ := hR1.slice
  obtain ⟨A2, c2, e2, hb2⟩ := hR2.slice
  obtain ⟨A3, c3, e3, hb3⟩ := hR3.slice
  obtain ⟨A4, c4, e4, hb4⟩ := hR4.slice
  obtain ⟨x1, x2⟩ := h
  obtain ⟨x3, x4⟩ := h'
  simp only at e1 e2 e3 e4
  subst e1 e2 e3 e4
  unfold Pnd.value
  refine enter Try.func35 rfl Try.ntmps35 (Nat.le_of_ble_eq_true rfl) fun a hF => ?_
  refine wp_seq_k fun K0 hK0 => ?_
  refine wp_region_lit ?_
  refine s_newp hF rfl rfl rfl (ef_box (cs := #[_, _, _, _, _, _, _, _, _, _, _, _]) (hF.ev rfl) rfl) hS ?_; clear hF hS; intro b2 w hS a hF
  refine s_newp hF rfl rfl rfl (ef_box (cs := #[_, _, _, _, _, _, _, _, _, _, _, _]) (hF.ev rfl) rfl) hS ?_; clear hF hS; intro b3 w hS a hF
  refine s_pu hF rfl rfl rfl (pu_assign (hF.ev rfl)) ?_; clear hF; intro a hF
  refine s_done ?_
  refine hK0 _ _ ?_; clear hK0
  refine wp_seq_k fun K1 hK1 => ?_
  refine wp_region_lit ?_
  refine s_pu hF rfl rfl rfl ((by exact pu_field fd35_4 (hF.ev rfl))) ?_; clear hF; intro a hF
  refine s_rd hF rfl rfl rfl (by exact rd_loadB (i := 1) (vs := [_, _]) ag33 (hF.ev rfl) hS rfl rfl) ?_; clear hF; intro a hF
  refine s_pu hF rfl rfl rfl ((by exact pu_field fd35_4 (hF.ev rfl))) ?_; clear hF; intro a hF
  refine s_rd hF rfl rfl rfl (by exact rd_loadB (i := 0) (vs := [_, _]) ag33 (hF.ev rfl) hS rfl rfl) ?_; clear hF; intro a hF
  refine s_en hF rfl rfl rfl (run_fn fk51 (hF.ev rfl) (hF.evs rfl)) (msame_c k hR1 hR3 (hK.sub (fun w h => h.tail.tail)) hS) ?_
  clear hS; rintro e w ⟨b1, rfl, hb1', hS⟩
  refine ⟨_, rfl, ?_⟩; clear hF; intro a hF
  refine s_pu hF rfl rfl rfl (pu_assign (hF.ev rfl)) ?_; clear hF; intro a hF
  refine s_done ?_
  refine hK1 _ _ ?_; clear hK1
  refine wp_seq_k fun K2 hK2 => ?_
  refine wp_region_lit ?_
  refine s_pu hF rfl rfl rfl ((by exact pu_field fd35_5 (hF.ev rfl))) ?_; clear hF; intro a hF
  refine s_rd hF rfl rfl rfl (by exact rd_loadB (i := 1) (vs := [_, _]) ag33 (hF.ev rfl) hS rfl rfl) ?_; clear hF; intro a hF
  refine s_pu hF rfl rfl rfl ((by exact pu_field fd35_5 (hF.ev rfl))) ?_; clear hF; intro a hF
  refine s_rd hF rfl rfl rfl (by exact rd_loadB (i := 0) (vs := [_, _]) ag33 (hF.ev rfl) hS rfl rfl) ?_; clear hF; intro a hF
  refine s_en hF rfl rfl rfl (run_fn fk51 (hF.ev rfl) (hF.evs rfl)) (msame_c k hR2 hR4 (hK.sub (fun w h => h.tail.tail)) hS) ?_
  clear hS; rintro e w ⟨b2, rfl, hb2', hS⟩
  refine ⟨_, rfl, ?_⟩; clear hF; intro a hF
  refine s_pu hF rfl rfl rfl (pu_assign (hF.ev rfl)) ?_; clear hF; intro a hF
  refine s_done ?_
  refine hK2 _ _ ?_; clear hK2
  refine wp_seq_k fun K3 hK3 => ?_
  refine wp_region_lit ?_
  refine s_pu hF rfl rfl rfl (pu_move (hF.ev rfl)) ?_; clear hF; intro a hF
  refine s_pu hF rfl rfl rfl (pu_move (hF.ev rfl)) ?_; clear hF; intro a hF
  refine fr_split hF (t := 18) rfl ?_ ?_
  · clear hF; intro hg18 hF   -- slot 18 true
    refine s_pu hF rfl rfl rfl (pu_move (hF.ev rfl)) ?_; clear hF; intro a hF
    refine s_pu hF rfl rfl rfl ((by exact pu_pick_t (hF.ev rfl) (hF.ev rfl))) ?_; clear hF; intro a hF
    refine s_pu hF rfl rfl rfl (pu_move (hF.ev rfl)) ?_; clear hF; intro a hF
    refine fr_split hF (t := 21) rfl ?_ ?_
    · clear hF; intro hg21 hF   -- slot 21 true
      refine s_pu hF rfl rfl rfl ((by exact pu_field fd35_0 (hF.ev rfl))) ?_; clear hF; intro a hF
      refine s_rd hF rfl rfl rfl (by exact rd_loadB (i := 1) (vs := [_, _, _, _, _]) ag30 (hF.ev rfl) hS rfl rfl) ?_; clear hF; intro a hF
      refine s_pu hF rfl rfl rfl ((by exact pu_field fd35_0 (hF.ev rfl))) ?_; clear hF; intro a hF
      refine s_rd hF rfl rfl rfl (by exact rd_loadB (i := 0) (vs := [_, _, _, _, _]) ag30 (hF.ev rfl) hS rfl rfl) ?_; clear hF; intro a hF
      refine s_pu hF rfl rfl rfl (pu_aeq (by kernel_rfl) (hF.ev rfl) (hF.ev rfl) (key_eq p.key q.key)) ?_; clear hF; intro a hF
      refine s_pu hF rfl rfl rfl ((by exact pu_pick_t (hF.ev rfl) (hF.ev rfl))) ?_; clear hF; intro a hF
      refine s_pu hF rfl rfl rfl (pu_move (hF.ev rfl)) ?_; clear hF; intro a hF
      refine fr_split hF (t := 28) rfl ?_ ?_
      · clear hF; intro hg28 hF   -- slot 28 true
        try simp only [decide_eq_true_eq, decide_eq_false_iff_not, Bool.not_eq_true', Bool.not_eq_false', Int.not_lt, Int.not_le, ne_eq, Decidable.not_not, Bool.or_eq_true, Bool.or_eq_false_iff, Bool.and_eq_true, Bool.and_eq_false_imp] at hg28
        refine s_pu hF rfl rfl rfl ((by exact pu_field fd35_1 (hF.ev rfl))) ?_; clear hF; intro a hF
        refine s_rd hF rfl rfl rfl (by exact rd_load pl3 (hF.ev rfl) (hS.cellL (i := 1) rfl rfl)) ?_; clear hF; intro a hF
        refine s_pu hF rfl rfl rfl ((by exact pu_field fd35_1 (hF.ev rfl))) ?_; clear hF; intro a hF
        refine s_rd hF rfl rfl rfl (by exact rd_load pl3 (hF.ev rfl) (hS.cellL (i := 0) rfl rfl)) ?_; clear hF; intro a hF
        refine s_pu hF rfl rfl rfl (pu_eql (hF.ev rfl) (hF.ev rfl)) ?_; clear hF; intro a hF
        refine s_pu hF rfl rfl rfl ((by exact pu_pick_t (hF.ev rfl) (hF.ev rfl))) ?_; clear hF; intro a hF
        refine s_pu hF rfl rfl rfl (pu_move (hF.ev rfl)) ?_; clear hF; intro a hF
        refine fr_split hF (t := 35) rfl ?_ ?_
        · clear hF; intro hg35 hF   -- slot 35 true
          try simp only [decide_eq_true_eq, decide_eq_false_iff_not, Bool.not_eq_true', Bool.not_eq_false', Int.not_lt, Int.not_le, ne_eq, Decidable.not_not, Bool.or_eq_true, Bool.or_eq_false_iff, Bool.and_eq_true, Bool.and_eq_false_imp] at hg35
          refine s_pu hF rfl rfl rfl ((by exact pu_field fd35_2 (hF.ev rfl))) ?_; clear hF; intro a hF
          refine s_rd hF rfl rfl rfl (by exact rd_load pl3 (hF.ev rfl) (hS.cellL (i := 1) rfl rfl)) ?_; clear hF; intro a hF
          refine s_pu hF rfl rfl rfl ((by exact pu_field fd35_2 (hF.ev rfl))) ?_; clear hF; intro a hF
          refine s_rd hF rfl rfl rfl (by exact rd_load pl3 (hF.ev rfl) (hS.cellL (i := 0) rfl rfl)) ?_; clear hF; intro a hF
          refine s_pu hF rfl rfl rfl (pu_eql (hF.ev rfl) (hF.ev rfl)) ?_; clear hF; intro a hF
          refine s_pu hF rfl rfl rfl ((by exact pu_pick_t (hF.ev rfl) (hF.ev rfl))) ?_; clear hF; intro a hF
          refine s_pu hF rfl rfl rfl (pu_move (hF.ev rfl)) ?_; clear hF; intro a hF
          refine fr_split hF (t := 42) rfl ?_ ?_
          · clear hF; intro hg42 hF   -- slot 42 true
            try simp only [decide_eq_true_eq, decide_eq_false_iff_not, Bool.not_eq_true', Bool.not_eq_false', Int.not_lt, Int.not_le, ne_eq, Decidable.not_not, Bool.or_eq_true, Bool.or_eq_false_iff, Bool.and_eq_true, Bool.and_eq_false_imp] at hg42
            refine s_pu hF rfl rfl rfl ((by exact pu_field fd35_3 (hF.ev rfl))) ?_; clear hF; intro a hF
            refine s_rd hF rfl rfl rfl (by exact rd_load pl3 (hF.ev rfl) (hS.cellL (i := 1) rfl rfl)) ?_; clear hF; intro a hF
            refine s_pu hF rfl rfl rfl ((by exact pu_field fd35_3 (hF.ev rfl))) ?_; clear hF; intro a hF
            refine s_rd hF rfl rfl rfl (by exact rd_load pl3 (hF.ev rfl) (hS.cellL (i := 0) rfl rfl)) ?_; clear hF; intro a hF
            refine s_pu hF rfl rfl rfl (pu_eql (hF.ev rfl) (hF.ev rfl)) ?_; clear hF; intro a hF
            refine s_pu hF rfl rfl rfl ((by exact pu_pick_t (hF.ev rfl) (hF.ev rfl))) ?_; clear hF; intro a hF
            refine s_pu hF rfl rfl rfl (pu_assign (hF.ev rfl)) ?_; clear hF; intro a hF
            refine s_done ?_
            refine hK3 _ _ ?_; clear hK3
            refine wp_ret ?_
            refine fin1 Try.results35 hF rfl ?_
            refine ⟨_, rfl, ?_, hS.tail.tail⟩
            obtain ⟨pk, pf, pt, pn, pm1, pf1, pm2, pf2⟩ := p
            obtain ⟨qk, qf, qt, qn, qm1, qf1, qm2, qf2⟩ := q
            simp only [Pnd.mk.injEq] at *
            simp_all
            try grind
          · clear hF; intro hg42 hF   -- slot 42 false
            try simp only [decide_eq_true_eq, decide_eq_false_iff_not, Bool.not_eq_true', Bool.not_eq_false', Int.not_lt, Int.not_le, ne_eq, Decidable.not_not, Bool.or_eq_true, Bool.or_eq_false_iff, Bool.and_eq_true, Bool.and_eq_false_imp] at hg42
            refine s_no hF rfl rfl rfl ?_; clear hF; intro a hF
            refine s_no hF rfl rfl rfl ?_; clear hF; intro a hF
            refine s_no hF rfl rfl rfl ?_; clear hF; intro a hF
            refine s_no hF rfl rfl rfl ?_; clear hF; intro a hF
            refine s_no hF rfl rfl rfl ?_; clear hF; intro a hF
            refine s_pu hF rfl rfl rfl ((by exact pu_pick_f (hF.ev rfl) (hF.ev rfl))) ?_; clear hF; intro a hF
            refine s_pu hF rfl rfl rfl (pu_assign (hF.ev rfl)) ?_; clear hF; intro a hF
            refine s_done ?_
            refine hK3 _ _ ?_; clear hK3
            refine wp_ret ?_
            refine fin1 Try.results35 hF rfl ?_
            refine ⟨_, rfl, ?_, hS.tail.tail⟩
            obtain ⟨pk, pf, pt, pn, pm1, pf1, pm2, pf2⟩ := p
            obtain ⟨qk, qf, qt, qn, qm1, qf1, qm2, qf2⟩ := q
            simp only [Pnd.mk.injEq] at *
            simp_all
            try grind
        · clear hF; intro hg35 hF   -- slot 35 false
          try simp only [decide_eq_true_eq, decide_eq_false_iff_not, Bool.not_eq_true', Bool.not_eq_false', Int.not_lt, Int.not_le, ne_eq, Decidable.not_not, Bool.or_eq_true, Bool.or_eq_false_iff, Bool.and_eq_true, Bool.and_eq_false_imp] at hg35
          refine s_no hF rfl rfl rfl ?_; clear hF; intro a hF
          refine s_no hF rfl rfl rfl ?_; clear hF; intro a hF
          refine s_no hF rfl rfl rfl ?_; clear hF; intro a hF
          refine s_no hF rfl rfl rfl ?_; clear hF; intro a hF
          refine s_no hF rfl rfl rfl ?_; clear hF; intro a hF
          refine s_pu hF rfl rfl rfl ((by exact pu_pick_f (hF.ev rfl) (hF.ev rfl))) ?_; clear hF; intro a hF
          refine s_pu hF rfl rfl rfl (pu_move (hF.ev rfl)) ?_; clear hF; intro a hF
          refine s_no hF rfl rfl rfl ?_; clear hF; intro a hF
          refine s_no hF rfl rfl rfl ?_; clear hF; intro a hF
          refine s_no hF rfl rfl rfl ?_; clear hF; intro a hF
          refine s_no hF rfl rfl rfl ?_; clear hF; intro a hF
          refine s_no hF rfl rfl rfl ?_; clear hF; intro a hF
          refine s_pu hF rfl rfl rfl ((by exact pu_pick_f (hF.ev rfl) (hF.ev rfl))) ?_; clear hF; intro a hF
          refine s_pu hF rfl rfl rfl (pu_assign (hF.ev rfl)) ?_; clear hF; intro a hF
          refine s_done ?_
          refine hK3 _ _ ?_; clear hK3
          refine wp_ret ?_
          refine fin1 Try.results35 hF rfl ?_
          refine ⟨_, rfl, ?_, hS.tail.tail⟩
          obtain ⟨pk, pf, pt, pn, pm1, pf1, pm2, pf2⟩ := p
          obtain ⟨qk, qf, qt, qn, qm1, qf1, qm2, qf2⟩ := q
          simp only [Pnd.mk.injEq] at *
          simp_all
          try grind
      · clear hF; intro hg28 hF   -- slot 28 false
        try simp only [decide_eq_true_eq, decide_eq_false_iff_not, Bool.not_eq_true', Bool.not_eq_false', Int.not_lt, Int.not_le, ne_eq, Decidable.not_not, Bool.or_eq_true, Bool.or_eq_false_iff, Bool.and_eq_true, Bool.and_eq_false_imp] at hg28
        refine s_no hF rfl rfl rfl ?_; clear hF; intro a hF
        refine s_no hF rfl rfl rfl ?_; clear hF; intro a hF
        refine s_no hF rfl rfl rfl ?_; clear hF; intro a hF
        refine s_no hF rfl rfl rfl ?_; clear hF; intro a hF
        refine s_no hF rfl rfl rfl ?_; clear hF; intro a hF
        refine s_pu hF rfl rfl rfl ((by exact pu_pick_f (hF.ev rfl) (hF.ev rfl))) ?_; clear hF; intro a hF
        refine s_pu hF rfl rfl rfl (pu_move (hF.ev rfl)) ?_; clear hF; intro a hF
        refine s_no hF rfl rfl rfl ?_; clear hF; intro a hF
        refine s_no hF rfl rfl rfl ?_; clear hF; intro a hF
        refine s_no hF rfl rfl rfl ?_; clear hF; intro a hF
        refine s_no hF rfl rfl rfl ?_; clear hF; intro a hF
        refine s_no hF rfl rfl rfl ?_; clear hF; intro a hF
        refine s_pu hF rfl rfl rfl ((by exact pu_pick_f (hF.ev rfl) (hF.ev rfl))) ?_; clear hF; intro a hF
        refine s_pu hF rfl rfl rfl (pu_move (hF.ev rfl)) ?_; clear hF; intro a hF
        refine s_no hF rfl rfl rfl ?_; clear hF; intro a hF
        refine s_no hF rfl rfl rfl ?_; clear hF; intro a hF
        refine s_no hF rfl rfl rfl ?_; clear hF; intro a hF
        refine s_no hF rfl rfl rfl ?_; clear hF; intro a hF
        refine s_no hF rfl rfl rfl ?_; clear hF; intro a hF
        refine s_pu hF rfl rfl rfl ((by exact pu_pick_f (hF.ev rfl) (hF.ev rfl))) ?_; clear hF; intro a hF
        refine s_pu hF rfl rfl rfl (pu_assign (hF.ev rfl)) ?_; clear hF; intro a hF
        refine s_done ?_
        refine hK3 _ _ ?_; clear hK3
        refine wp_ret ?_
        refine fin1 Try.results35 hF rfl ?_
        refine ⟨_, rfl, ?_, hS.tail.tail⟩
        obtain ⟨pk, pf, pt, pn, pm1, pf1, pm2, pf2⟩ := p
        obtain ⟨qk, qf, qt, qn, qm1, qf1, qm2, qf2⟩ := q
        simp only [Pnd.mk.injEq] at *
        simp_all
        try grind
    · clear hF; intro hg21 hF   -- slot 21 false
      refine s_no hF rfl rfl rfl ?_; clear hF; intro a hF
      refine s_no hF rfl rfl rfl ?_; clear hF; intro a hF
      refine s_no hF rfl rfl rfl ?_; clear hF; intro a hF
      refine s_no hF rfl rfl rfl ?_; clear hF; intro a hF
      refine s_no hF rfl rfl rfl ?_; clear hF; intro a hF
      refine s_pu hF rfl rfl rfl ((by exact pu_pick_f (hF.ev rfl) (hF.ev rfl))) ?_; clear hF; intro a hF
      refine s_pu hF rfl rfl rfl (pu_move (hF.ev rfl)) ?_; clear hF; intro a hF
      refine s_no hF rfl rfl rfl ?_; clear hF; intro a hF
      refine s_no hF rfl rfl rfl ?_; clear hF; intro a hF
      refine s_no hF rfl rfl rfl ?_; clear hF; intro a hF
      refine s_no hF rfl rfl rfl ?_; clear hF; intro a hF
      refine s_no hF rfl rfl rfl ?_; clear hF; intro a hF
      refine s_pu hF rfl rfl rfl ((by exact pu_pick_f (hF.ev rfl) (hF.ev rfl))) ?_; clear hF; intro a hF
      refine s_pu hF rfl rfl rfl (pu_move (hF.ev rfl)) ?_; clear hF; intro a hF
      refine s_no hF rfl rfl rfl ?_; clear hF; intro a hF
      refine s_no hF rfl rfl rfl ?_; clear hF; intro a hF
      refine s_no hF rfl rfl rfl ?_; clear hF; intro a hF
      refine s_no hF rfl rfl rfl ?_; clear hF; intro a hF
      refine s_no hF rfl rfl rfl ?_; clear hF; intro a hF
      refine s_pu hF rfl rfl rfl ((by exact pu_pick_f (hF.ev rfl) (hF.ev rfl))) ?_; clear hF; intro a hF
      refine s_pu hF rfl rfl rfl (pu_move (hF.ev rfl)) ?_; clear hF; intro a hF
      refine s_no hF rfl rfl rfl ?_; clear hF; intro a hF
      refine s_no hF rfl rfl rfl ?_; clear hF; intro a hF
      refine s_no hF rfl rfl rfl ?_; clear hF; intro a hF
      refine s_no hF rfl rfl rfl ?_; clear hF; intro a hF
      refine s_no hF rfl rfl rfl ?_; clear hF; intro a hF
      refine s_pu hF rfl rfl rfl ((by exact pu_pick_f (hF.ev rfl) (hF.ev rfl))) ?_; clear hF; intro a hF
      refine s_pu hF rfl rfl rfl (pu_assign (hF.ev rfl)) ?_; clear hF; intro a hF
      refine s_done ?_
      refine hK3 _ _ ?_; clear hK3
      refine wp_ret ?_
      refine fin1 Try.results35 hF rfl ?_
      refine ⟨_, rfl, ?_, hS.tail.tail⟩
      obtain ⟨pk, pf, pt, pn, pm1, pf1, pm2, pf2⟩ := p
      obtain ⟨qk, qf, qt, qn, qm1, qf1, qm2, qf2⟩ := q
      simp only [Pnd.mk.injEq] at *
      simp_all
      try grind
  · clear hF; intro hg18 hF   -- slot 18 false
    refine s_no hF rfl rfl rfl ?_; clear hF; intro a hF
    refine s_pu hF rfl rfl rfl ((by exact pu_pick_f (hF.ev rfl) (hF.ev rfl))) ?_; clear hF; intro a hF
    refine s_pu hF rfl rfl rfl (pu_move (hF.ev rfl)) ?_; clear hF; intro a hF
    refine s_no hF rfl rfl rfl ?_; clear hF; intro a hF
    refine s_no hF rfl rfl rfl ?_; clear hF; intro a hF
    refine s_no hF rfl rfl rfl ?_; clear hF; intro a hF
    refine s_no hF rfl rfl rfl ?_; clear hF; intro a hF
    refine s_no hF rfl rfl rfl ?_; clear hF; intro a hF
    refine s_pu hF rfl rfl rfl ((by exact pu_pick_f (hF.ev rfl) (hF.ev rfl))) ?_; clear hF; intro a hF
    refine s_pu hF rfl rfl rfl (pu_move (hF.ev rfl)) ?_; clear hF; intro a hF
    refine s_no hF rfl rfl rfl ?_; clear hF; intro a hF
    refine s_no hF rfl rfl rfl ?_; clear hF; intro a hF
    refine s_no hF rfl rfl rfl ?_; clear hF; intro a hF
    refine s_no hF rfl rfl rfl ?_; clear hF; intro a hF
    refine s_no hF rfl rfl rfl ?_; clear hF; intro a hF
    refine s_pu hF rfl rfl rfl ((by exact pu_pick_f (hF.ev rfl) (hF.ev rfl))) ?_; clear hF; intro a hF
    refine s_pu hF rfl rfl rfl (pu_move (hF.ev rfl)) ?_; clear hF; intro a hF
    refine s_no hF rfl rfl rfl ?_; clear hF; intro a hF
    refine s_no hF rfl rfl rfl ?_; clear hF; intro a hF
    refine s_no hF rfl rfl rfl ?_; clear hF; intro a hF
    refine s_no hF rfl rfl rfl ?_; clear hF; intro a hF
    refine s_no hF rfl rfl rfl ?_; clear hF; intro a hF
    refine s_pu hF rfl rfl rfl ((by exact pu_pick_f (hF.ev rfl) (hF.ev rfl))) ?_; clear hF; intro a hF
    refine s_pu hF rfl rfl rfl (pu_move (hF.ev rfl)) ?_; clear hF; intro a hF
    refine s_no hF rfl rfl rfl ?_; clear hF; intro a hF
    refine s_no hF rfl rfl rfl ?_; clear hF; intro a hF
    refine s_no hF rfl rfl rfl ?_; clear hF; intro a hF
    refine s_no hF rfl rfl rfl ?_; clear hF; intro a hF
    refine s_no hF rfl rfl rfl ?_; clear hF; intro a hF
    refine s_pu hF rfl rfl rfl ((by exact pu_pick_f (hF.ev rfl) (hF.ev rfl))) ?_; clear hF; intro a hF
    refine s_pu hF rfl rfl rfl (pu_assign (hF.ev rfl)) ?_; clear hF; intro a hF
    refine s_done ?_
    refine hK3 _ _ ?_; clear hK3
    refine wp_ret ?_
    refine fin1 Try.results35 hF rfl ?_
    refine ⟨_, rfl, ?_, hS.tail.tail⟩
    obtain ⟨pk, pf, pt, pn, pm1, pf1, pm2, pf2⟩ := p
    obtain ⟨qk, qf, qt, qn, qm1, qf1, qm2, qf2⟩ := q
    simp only [Pnd.mk.injEq] at *
    simp_all
    try grind
theorem mes_rd {w : World} {k : Nat} {p : Pnd} {h : Value × Value} {f : Frag} (hf : (mesC k h p).holds f) (hg : ∀ i o, f i = some o → w.heap[i]? = some o) : RdN w (fun b => f b ≠ none) k h.1 p.f1 ∧ RdN w (fun b => f b ≠ none) k h.2 p.f2 := by
  have hm : Made [nodesC 133 k 104 h.1 p.f1, nodesC 133 k 104 h.2 p.f2] f := hf
  obtain ⟨g1, hg1, hs1⟩ := made_get (i := 0) hm rfl
  obtain ⟨g2, hg2, hs2⟩ := made_get (i := 1) hm rfl
  have key : ∀ g : Frag, (∀ b o, g b = some o → f b = some o) → ∀ b, g b ≠ none → f b ≠ none := fun g hs b hb hn => by
    cases hgb : g b with
    | none => exact hb hgb
    | some o => rw [hs b o hgb] at hn; cases hn
  exact ⟨(nodes_rd hg1 (fun i o h => hg i o (hs1 i o h))).mono (key g1 hs1), (nodes_rd hg2 (fun i o h => hg i o (hs2 i o h))).mono (key g2 hs2)⟩
theorem same_own (k : Nat) {w0 w : World} {C : List Chunk} {p q : Pnd} {h h' : Value × Value} (hS : Sat w0 w (mesC k h p :: mesC k h' q :: C)) :
    Calls Try.prog 35 #[p.value h, q.value h'] w fun e w' => ∃ b : Bool, e = .returned (.bool b) ∧ (b = true ↔ p = q) ∧ Sat w0 w' (mesC k h p :: mesC k h' q :: C) := by
  obtain ⟨f1, hf1, hS, hg1⟩ := hS.exact
  obtain ⟨f2, hf2, hS, hg2⟩ := (hS.front 1 rfl).exact
  have hS : Sat w0 w (exactC f2 :: exactC f1 :: C) := hS
  obtain ⟨hR1, hR2⟩ := mes_rd hf1 hg1
  obtain ⟨hR3, hR4⟩ := mes_rd hf2 hg2
  have hK : Keeps w0 (exactC f2 :: exactC f1 :: C) w (fun b => f1 b ≠ none ∨ f2 b ≠ none) := by
    intro w' h b hb
    rcases hb with hb | hb
    · exact keeps_exact (i := 1) hg1 rfl w' h b hb
    · exact keeps_exact (i := 0) hg2 rfl w' h b hb
  refine (same_c k (hR1.mono fun _ h => .inl h) (hR2.mono fun _ h => .inl h) (hR3.mono fun _ h => .inr h) (hR4.mono fun _ h => .inr h) hK hS).mono ?_
  rintro e w' ⟨b, rfl, hb, h⟩
  exact ⟨b, rfl, hb, ((h.unexact hf2).front 1 rfl).unexact hf1⟩
theorem pick_c {w0 w : World} {F : List Chunk} {c n : Int} (hS : Sat w0 w F) (hn : 1 ≤ n) (hc0 : -9223372036854775808 ≤ c) (hc1 : c ≤ 9223372036854775807) :
    Calls Try.prog 7 #[.int .i64 c, .int .i64 n] w fun e w' => ∃ p : Nat, p = ((if c < 0 then -(c + 1) else c) % n).toNat ∧ (p : Int) < n ∧ e = .returned (.int .i64 p) ∧ Sat w0 w' F := by
  have key : ∀ x : Int, 0 ≤ x → x.tmod n = ((x % n).toNat : Int) ∧ ((x % n).toNat : Int) < n := fun x hx => by
    have h1 := Int.emod_nonneg x (show n ≠ 0 by omega)
    have h2 := Int.emod_lt_of_pos x (show 0 < n by omega)
    rw [Int.tmod_eq_emod_of_nonneg hx]
    omega
  refine enter Try.func7 rfl Try.ntmps7 (Nat.le_of_ble_eq_true rfl) fun a hF => ?_
  refine wp_seq_k fun K0 hK0 => ?_
  refine wp_region_lit ?_
  refine s_pu hF rfl rfl rfl (pu_assign (hF.ev rfl)) ?_; clear hF; intro a hF
  refine s_done ?_
  refine hK0 _ _ ?_; clear hK0
  refine wp_seq_k fun K1 hK1 => ?_
  refine wp_seq_k fun K2 hK2 => ?_
  refine wp_region_lit ?_
  refine s_pu hF rfl rfl rfl (pu_move (hF.ev rfl)) ?_; clear hF; intro a hF
  refine s_pu hF rfl rfl rfl (pu_lss (hF.ev rfl) (hF.ev rfl)) ?_; clear hF; intro a hF
  refine s_done ?_
  refine hK2 _ _ ?_; clear hK2
  refine wp_cond_split (hF.ev rfl) (fun hc0 => ?_) (fun hc0 => ?_)
  · -- cond 0 true
    try simp only [decide_eq_true_eq, decide_eq_false_iff_not, Bool.not_eq_true', Bool.not_eq_false', Int.not_lt, Int.not_le, ne_eq, Decidable.not_not, Bool.or_eq_true, Bool.or_eq_false_iff, Bool.and_eq_true, Bool.and_eq_false_imp] at hc0
    refine wp_region_lit ?_
    refine s_pu hF rfl rfl rfl (pu_move (hF.ev rfl)) ?_; clear hF; intro a hF
    refine s_pu hF rfl rfl rfl ((by exact pu_add64 (hF.ev rfl) (hF.ev rfl) (by omega))) ?_; clear hF; intro a hF
    refine s_pu hF rfl rfl rfl (pu_neg (hF.ev rfl) (by omega)) ?_; clear hF; intro a hF
    refine s_pu hF rfl rfl rfl (pu_assign (hF.ev rfl)) ?_; clear hF; intro a hF
    refine s_done ?_
    refine hK1 _ _ ?_; clear hK1
    refine wp_seq_k fun K3 hK3 => ?_
    refine wp_region_lit ?_
    refine s_pu hF rfl rfl rfl (pu_move (hF.ev rfl)) ?_; clear hF; intro a hF
    refine s_pu hF rfl rfl rfl (pu_move (hF.ev rfl)) ?_; clear hF; intro a hF
    refine s_pu hF rfl rfl rfl (pu_rem64 (hF.ev rfl) (hF.ev rfl) (by omega)) ?_; clear hF; intro a hF
    refine s_pu hF rfl rfl rfl (pu_assign (hF.ev rfl)) ?_; clear hF; intro a hF
    refine s_done ?_
    refine hK3 _ _ ?_; clear hK3
    refine wp_ret ?_
    refine fin1 Try.results7 hF rfl ?_
    have h0 : 0 ≤ -(c + 1) := by omega
    obtain ⟨h1, h2⟩ := key _ h0
    exact ⟨_, by rw [if_pos (by omega)], h2, by rw [← h1, Int.tmod_eq_emod_of_nonneg h0], hS⟩
  · -- cond 0 false
    try simp only [decide_eq_true_eq, decide_eq_false_iff_not, Bool.not_eq_true', Bool.not_eq_false', Int.not_lt, Int.not_le, ne_eq, Decidable.not_not, Bool.or_eq_true, Bool.or_eq_false_iff, Bool.and_eq_true, Bool.and_eq_false_imp] at hc0
    refine wp_skip ?_
    refine hK1 _ _ ?_; clear hK1
    refine wp_seq_k fun K3 hK3 => ?_
    refine wp_region_lit ?_
    refine s_pu hF rfl rfl rfl (pu_move (hF.ev rfl)) ?_; clear hF; intro a hF
    refine s_pu hF rfl rfl rfl (pu_move (hF.ev rfl)) ?_; clear hF; intro a hF
    refine s_pu hF rfl rfl rfl (pu_rem64 (hF.ev rfl) (hF.ev rfl) (by omega)) ?_; clear hF; intro a hF
    refine s_pu hF rfl rfl rfl (pu_assign (hF.ev rfl)) ?_; clear hF; intro a hF
    refine s_done ?_
    refine hK3 _ _ ?_; clear hK3
    refine wp_ret ?_
    refine fin1 Try.results7 hF rfl ?_
    have h0 : 0 ≤ c := by omega
    obtain ⟨h1, h2⟩ := key _ h0
    exact ⟨_, by rw [if_neg (by omega)], h2, by rw [← h1, Int.tmod_eq_emod_of_nonneg h0], hS⟩
end Go.Proofs.Ytbfdebddoncfhaa
