import Derived.Test.YtgnepnjicmgkaaaSa11
/-! SafOnce: the walk. -/
namespace Go.Proofs.Ytgnepnjicmgkaaa
open Go Go.RowKit Go.Proofs.Ytgnepnjicmgkaaa.Sk
set_option linter.unusedVariables false
set_option linter.unusedSimpArgs false
set_option maxRecDepth 100000

theorem on_next5 {m r t N put f c sent done dead : Nat} {under : Bool} {ticks : Int} (h : On m t N put f c sent done dead under ticks) (hz : Siz m r t) (hd : dead + 1 ≤ 10000) :
    ((onQ m r t f c sent under ticks [] dead).next true = (onQ m r t f c sent under ticks [] dead, none)) ∨
    ((0 < c ∧ sent < t) ∧ sent = 0 ∧ (onQ m r t f c sent under ticks [] dead).next true = (onQ m r t f c (sent + 1) true 0 [] dead, some (txt f, []))) ∨
    ((0 < c ∧ sent < t) ∧ 0 < sent ∧ (onQ m r t f c sent under ticks [] dead).next true = (onQ m r t f c (sent + 1) true 0 [] dead, some (txt f ++ rr, []))) ∨
    (sent = t ∧ c = 1 ∧ (onQ m r t f c sent under ticks [] dead).next true = (onQ m r t (f + 1) 0 0 false 0 [(f : Int)] (dead + 1), none)) ∨
    (sent = t ∧ 2 ≤ c ∧ (onQ m r t f c sent under ticks [] dead).next true = (onQ m r t (f + 1) (c - 1) 1 true 0 [(f : Int)] (dead + 1), some (txt (f + 1), []))) := by
  rcases on_next h hz hd with h1 | ⟨h1, h2, h3⟩ | h1 | h1
  · exact .inl h1
  · rcases Nat.eq_zero_or_pos sent with h0 | h0
    · rw [if_pos h0] at h3; exact .inr (.inl ⟨⟨h1, h2⟩, h0, h3⟩)
    · rw [if_neg (by omega)] at h3; exact .inr (.inr (.inl ⟨⟨h1, h2⟩, h0, h3⟩))
  · exact .inr (.inr (.inr (.inl h1)))
  · exact .inr (.inr (.inr (.inr h1)))
theorem rd_nil {W : World} {D : Nat → Prop} : RdN W D 0 (.slice none 0 0) [] := ⟨rfl, _, _, rfl⟩
theorem put_nil {w0 w : World} {F : List Chunk} {g : Nat} {Q : Que} {ad : Adv} (h1 : ad.f1 = []) (h2 : ad.f2 = []) (hS : Sat w0 w (queueC 0 g Q :: F)) (hmost : Q.most ≤ 10000) :
    Calls Try.prog 9 #[.pointer (some ⟨g, 0, none⟩), ad.value (.slice none 0 0, .slice none 0 0)] w fun e w' => e = .returned (.int .i64 (Q.put ad).2) ∧ Sat w0 w' (queueC 0 g (Q.put ad).1 :: F) :=
  put_c 0 (W := w) (D := fun _ => False) (by rw [h1]; exact rd_nil) (by rw [h2]; exact rd_nil) (fun _ _ _ h => h.elim) hS hmost

theorem safOnce_walk (W : World) (x0 : Int) (hx0 : (Lit.int .i64 x0).wf = true) (x1 : Int) (hx1 : (Lit.int .i64 x1).wf = true) (x2 : Int) (hx2 : (Lit.int .i64 x2).wf = true)
    (a3 : Option Addr) (l3 q3 : Nat) (z3 : List Int) (h3 : IsRow .i64 W a3 l3 q3 z3) (_ : l3 * 8 ≤ 140737488351232) :
    Calls Try.prog 5 #[.int .i64 x0, .int .i64 x1, .int .i64 x2, .slice a3 l3 q3] W fun e w' => e = .returned (.bool true) ∧ Below W.heap.size W w' := by
  have hx0 := wf64 hx0
  have hx1 := wf64 hx1
  have hx2 := wf64 hx2
  have hz3 := h3.ints
  have hr1 : ByteArray.size ⟨#[114]⟩ = 1 := rfl
  have hS0 := sat_whole W
  obtain ⟨w, hw⟩ : ∃ w, w = W := ⟨_, rfl⟩
  have hS : Sat W w [whole W] := by rw [hw]; exact hS0
  rw [show Calls Try.prog 5 #[.int .i64 x0, .int .i64 x1, .int .i64 x2, .slice a3 l3 q3] W = Calls Try.prog 5 #[.int .i64 x0, .int .i64 x1, .int .i64 x2, .slice a3 l3 q3] w by rw [hw]]
  clear hw hS0
  refine enter Try.func5 rfl Try.ntmps5 (Nat.le_of_ble_eq_true rfl) fun a hF => ?_
  refine wp_seq_k fun K0 hK0 => ?_
  -- region 0
  refine wp_region_lit ?_
  refine s_pu hF rfl rfl rfl (pu_assign (hF.ev rfl)) ?_; clear hF; intro a hF
  refine s_done ?_
  refine hK0 _ _ ?_; clear hK0
  refine wp_seq_k fun K1 hK1 => ?_
  -- region 1
  refine wp_region_lit ?_
  refine s_en hF rfl rfl rfl (run_fn fk6 (hF.ev rfl) (hF.evs rfl)) (examples_c hS) ?_
  clear hS; rintro e w ⟨rfl, hS⟩
  refine ⟨_, rfl, ?_⟩; clear hF; intro a hF
  refine s_pu hF rfl rfl rfl (pu_assign (hF.ev rfl)) ?_; clear hF; intro a hF
  refine s_done ?_
  refine hK1 _ _ ?_; clear hK1
  refine wp_seq_k fun K2 hK2 => ?_
  -- region 2
  refine wp_region_lit ?_
  refine s_pu hF rfl rfl rfl (pu_move (hF.ev rfl)) ?_; clear hF; intro a hF
  refine s_en hF rfl rfl rfl (run_fn fk7 (hF.ev rfl) (hF.evs rfl)) (pick_c hS (by omega) hx0.1 hx0.2) ?_
  clear hS; rintro e w ⟨pm, _, hpm, rfl, hS⟩
  refine ⟨_, rfl, ?_⟩; clear hF; intro a hF
  refine s_pu hF rfl rfl rfl ((by first | exact pu_add64 (hF.ev rfl) (hF.ev rfl) (by omega) | exact pu_add (hF.ev rfl) (hF.ev rfl))) ?_; clear hF; intro a hF
  refine s_pu hF rfl rfl rfl (pu_assign (hF.ev rfl)) ?_; clear hF; intro a hF
  refine s_done ?_
  refine hK2 _ _ ?_; clear hK2
  refine wp_seq_k fun K3 hK3 => ?_
  -- region 3
  refine wp_region_lit ?_
  refine s_pu hF rfl rfl rfl (pu_move (hF.ev rfl)) ?_; clear hF; intro a hF
  refine s_en hF rfl rfl rfl (run_fn fk7 (hF.ev rfl) (hF.evs rfl)) (pick_c hS (by omega) hx1.1 hx1.2) ?_
  clear hS; rintro e w ⟨pr, _, hpr, rfl, hS⟩
  refine ⟨_, rfl, ?_⟩; clear hF; intro a hF
  refine s_pu hF rfl rfl rfl ((by first | exact pu_add64 (hF.ev rfl) (hF.ev rfl) (by omega) | exact pu_add (hF.ev rfl) (hF.ev rfl))) ?_; clear hF; intro a hF
  refine s_pu hF rfl rfl rfl (pu_assign (hF.ev rfl)) ?_; clear hF; intro a hF
  refine s_done ?_
  refine hK3 _ _ ?_; clear hK3
  refine wp_seq_k fun K4 hK4 => ?_
  -- region 4
  refine wp_region_lit ?_
  refine s_pu hF rfl rfl rfl (pu_move (hF.ev rfl)) ?_; clear hF; intro a hF
  refine s_en hF rfl rfl rfl (run_fn fk7 (hF.ev rfl) (hF.evs rfl)) (pick_c hS (by omega) hx2.1 hx2.2) ?_
  clear hS; rintro e w ⟨pt, _, hpt, rfl, hS⟩
  refine ⟨_, rfl, ?_⟩; clear hF; intro a hF
  refine s_pu hF rfl rfl rfl ((by first | exact pu_add64 (hF.ev rfl) (hF.ev rfl) (by omega) | exact pu_add (hF.ev rfl) (hF.ev rfl))) ?_; clear hF; intro a hF
  refine s_pu hF rfl rfl rfl (pu_assign (hF.ev rfl)) ?_; clear hF; intro a hF
  refine s_done ?_
  refine hK4 _ _ ?_; clear hK4
  refine wp_seq_k fun K5 hK5 => ?_
  -- region 5
  refine wp_region_lit ?_
  obtain ⟨m, hm⟩ : ∃ m : Nat, (m : Int) = 1 + (pm : Int) := ⟨pm + 1, by omega⟩
  obtain ⟨r, hr⟩ : ∃ r : Nat, (r : Int) = 1 + (pr : Int) := ⟨pr + 1, by omega⟩
  obtain ⟨t, ht⟩ : ∃ t : Nat, (t : Int) = 1 + (pt : Int) := ⟨pt + 1, by omega⟩
  rw [← hm, ← hr, ← ht] at hF
  have hZ : Siz m r t := ⟨by omega, by omega, by omega, by omega, by omega, by omega⟩
  refine s_pu hF rfl rfl rfl (pu_move (hF.ev rfl)) ?_; clear hF; intro a hF
  refine s_pu hF rfl rfl rfl (pu_move (hF.ev rfl)) ?_; clear hF; intro a hF
  refine s_pu hF rfl rfl rfl (pu_move (hF.ev rfl)) ?_; clear hF; intro a hF
  refine s_en hF rfl rfl rfl (run_fn fk8 (hF.ev rfl) (hF.evs rfl)) (new_c (k := 0) hS (by unfold newOk; omega)) ?_
  clear hS; rintro e w ⟨g, rfl, hS⟩
  refine ⟨_, rfl, ?_⟩; clear hF; intro a hF
  refine s_pu hF rfl rfl rfl (pu_move (hF.ev rfl)) ?_; clear hF; intro a hF
  refine s_pu hF rfl rfl rfl (pu_extract (hF.ev rfl) rfl) ?_; clear hF; intro a hF
  refine s_pu hF rfl rfl rfl (pu_extract (hF.ev rfl) rfl) ?_; clear hF; intro a hF
  refine s_pu hF rfl rfl rfl (pu_assign (hF.ev rfl)) ?_; clear hF; intro a hF
  refine s_pu hF rfl rfl rfl (pu_assign (hF.ev rfl)) ?_; clear hF; intro a hF
  refine s_done ?_
  refine hK5 _ _ ?_; clear hK5
  refine wp_seq_k fun K6 hK6 => ?_
  refine wp_seq_k fun K7 hK7 => ?_
  -- region 6
  refine wp_region_lit ?_
  refine s_pu hF rfl rfl rfl (pu_move (hF.ev rfl)) ?_; clear hF; intro a hF
  refine s_pu hF rfl rfl rfl (pu_not (hF.ev rfl)) ?_; clear hF; intro a hF
  refine s_pu hF rfl rfl rfl (pu_move (hF.ev rfl)) ?_; clear hF; intro a hF
  refine s_pu hF rfl rfl rfl (pu_move (hF.ev rfl)) ?_; clear hF; intro a hF
  refine s_pu hF rfl rfl rfl (pu_neq (hF.ev rfl) (hF.ev rfl)) ?_; clear hF; intro a hF
  refine s_pu hF rfl rfl rfl ((by first | exact pu_pick_t (hF.ev rfl) (hF.ev rfl) | exact pu_pick_f (hF.ev rfl) (hF.ev rfl) | exact pu_pick (hF.ev rfl) (hF.ev rfl) (hF.ev rfl))) ?_; clear hF; intro a hF
  refine s_pu hF rfl rfl rfl (pu_move (hF.ev rfl)) ?_; clear hF; intro a hF
  refine s_pu hF rfl rfl rfl (pu_move (hF.ev rfl)) ?_; clear hF; intro a hF
  refine s_pu hF rfl rfl rfl (pu_peq Try.underlying24 (hF.ev rfl) (hF.ev rfl)) ?_; clear hF; intro a hF
  refine s_pu hF rfl rfl rfl ((by first | exact pu_pick_t (hF.ev rfl) (hF.ev rfl) | exact pu_pick_f (hF.ev rfl) (hF.ev rfl) | exact pu_pick (hF.ev rfl) (hF.ev rfl) (hF.ev rfl))) ?_; clear hF; intro a hF
  refine s_done ?_
  refine hK7 _ _ ?_; clear hK7
  refine wp_cond_false (hF.ev rfl) ?_
  refine wp_skip ?_
  refine hK6 _ _ ?_; clear hK6
  refine wp_seq_k fun K8 hK8 => ?_
  -- region 8
  refine wp_region_lit ?_
  refine s_pu hF rfl rfl rfl (pu_assign (hF.ev rfl)) ?_; clear hF; intro a hF
  refine s_done ?_
  refine hK8 _ _ ?_; clear hK8
  refine wp_seq_k fun K9 hK9 => ?_
  -- region 9
  refine wp_region_lit ?_
  refine s_pu hF rfl rfl rfl (pu_assign (hF.ev rfl)) ?_; clear hF; intro a hF
  refine s_done ?_
  refine hK9 _ _ ?_; clear hK9
  refine wp_seq_k fun K10 hK10 => ?_
  -- region 10
  refine wp_region_lit ?_
  refine s_pu hF rfl rfl rfl (pu_assign (hF.ev rfl)) ?_; clear hF; intro a hF
  refine s_done ?_
  refine hK10 _ _ ?_; clear hK10
  refine wp_seq_k fun K11 hK11 => ?_
  -- region 11
  refine wp_region_lit ?_
  refine s_pu hF rfl rfl rfl (pu_assign (hF.ev rfl)) ?_; clear hF; intro a hF
  refine s_done ?_
  refine hK11 _ _ ?_; clear hK11
  refine wp_seq_k fun K12 hK12 => ?_
  -- region 12
  refine wp_region_lit ?_
  refine s_pu hF rfl rfl rfl (pu_assign (hF.ev rfl)) ?_; clear hF; intro a hF
  refine s_done ?_
  refine hK12 _ _ ?_; clear hK12
  refine wp_seq_k fun K13 hK13 => ?_
  refine wp_seq_k fun K14 hK14 => ?_
  -- region 13
  refine wp_region_lit ?_
  refine s_pu hF rfl rfl rfl (pu_assign (hF.ev rfl)) ?_; clear hF; intro a hF
  refine s_done ?_
  refine hK14 _ _ ?_; clear hK14
  refine wp_block ?_
  refine wp_ind (fun j a w => ∃ (i put f c sent done dead : Nat) (under : Bool) (ticks : Int), j = 400 - i ∧ On m t i put f c sent done dead under ticks ∧
    Fr a 263 [(3, .slice a3 l3 q3), (10, .int .i64 m), (11, .int .i64 r), (12, .int .i64 t), (13, .pointer (some ⟨g, 0, none⟩)), (15, .int .i64 put), (16, .int .i64 f), (17, .int .i64 sent), (18, .int .i64 done), (19, .int .i64 dead), (20, .int .i64 i)] ∧
    Sat W w [queueC 0 g (onQ m r t f c sent under ticks [] dead), whole W]) 400
    ⟨0, 0, 1, 0, 0, 0, 0, false, 0, rfl, ⟨rfl, rfl, by omega, by simp, by omega, by omega, by omega, by omega⟩, hF.sub ⟨rfl, rfl, rfl, rfl, rfl, rfl, rfl, rfl, rfl, rfl, rfl, trivial⟩, hS⟩ ?_
  clear hS hF
  rintro j a w ⟨i, put, f, c, sent, done, dead, under, ticks, rfl, hO, hF, hS⟩
  refine wp_seq_k fun K15 hK15 => ?_
  refine wp_seq_k fun K16 hK16 => ?_
  -- region 14
  refine wp_region_lit ?_
  refine s_pu hF rfl rfl rfl (pu_move (hF.ev rfl)) ?_; clear hF; intro a hF
  refine s_pu hF rfl rfl rfl (pu_move (hF.ev rfl)) ?_; clear hF; intro a hF
  refine s_pu hF rfl rfl rfl (pu_len sl38 (hF.ev rfl)) ?_; clear hF; intro a hF
  refine s_pu hF rfl rfl rfl (pu_lss (hF.ev rfl) (hF.ev rfl)) ?_; clear hF; intro a hF
  refine s_pu hF rfl rfl rfl (pu_move (hF.ev rfl)) ?_; clear hF; intro a hF
  refine fr_split hF (t := 64) rfl ?_ ?_
  · clear hF; intro hg64 hF   -- slot 64 true
    try simp only [decide_eq_true_eq, decide_eq_false_iff_not, Bool.not_eq_true', Bool.not_eq_false', Int.not_lt, Int.not_le, ne_eq, Decidable.not_not, Bool.or_eq_true, Bool.or_eq_false_iff, Bool.and_eq_true, Bool.and_eq_false_imp] at hg64
    refine s_pu hF rfl rfl rfl (pu_move (hF.ev rfl)) ?_; clear hF; intro a hF
    refine s_pu hF rfl rfl rfl (pu_lss (hF.ev rfl) (hF.ev rfl)) ?_; clear hF; intro a hF
    refine s_pu hF rfl rfl rfl ((by first | exact pu_pick_t (hF.ev rfl) (hF.ev rfl) | exact pu_pick_f (hF.ev rfl) (hF.ev rfl) | exact pu_pick (hF.ev rfl) (hF.ev rfl) (hF.ev rfl))) ?_; clear hF; intro a hF
    refine s_done ?_
    refine hK16 _ _ ?_; clear hK16
    refine wp_cond_split (hF.ev rfl) (fun hc1 => ?_) (fun hc1 => ?_)
    · -- cond 1 true
      try simp only [decide_eq_true_eq, decide_eq_false_iff_not, Bool.not_eq_true', Bool.not_eq_false', Int.not_lt, Int.not_le, ne_eq, Decidable.not_not, Bool.or_eq_true, Bool.or_eq_false_iff, Bool.and_eq_true, Bool.and_eq_false_imp] at hc1
      obtain ⟨x, rfl, hv, hb⟩ := hz3.at_ i (by omega)
      have hv1 : w.cell? (x.add ((i : Int).toNat * 1)) = some (.int .i64 (z3.getD i 0)) := by
        rw [Int.toNat_natCast, Nat.mul_one]
        exact hS.whole_at (i := 1) rfl hv
      have hi : i < 400 := by omega
      obtain ⟨o1, o2, o3, o4, o5, o6, o7, o8⟩ := id hO
      obtain ⟨y1, y2, y3, y4, y5, y6⟩ := id hZ
      refine wp_skip ?_
      refine hK15 _ _ ?_; clear hK15
      refine wp_seq_k fun K17 hK17 => ?_
      refine wp_block ?_
      refine wp_seq_j (fun a w => ∃ (put f c sent done dead : Nat) (under : Bool) (ticks : Int), On m t (i + 1) put f c sent done dead under ticks ∧
        Fr a 263 [(3, .slice (some x) l3 q3), (10, .int .i64 m), (11, .int .i64 r), (12, .int .i64 t), (13, .pointer (some ⟨g, 0, none⟩)), (15, .int .i64 put), (16, .int .i64 f), (17, .int .i64 sent), (18, .int .i64 done), (19, .int .i64 dead), (20, .int .i64 i)] ∧
        Sat W w [queueC 0 g (onQ m r t f c sent under ticks [] dead), whole W]) ?_ ?_
      · -- up to the join s19
        refine wp_seq_k fun K19 hK19 => ?_
        -- region 16
        refine wp_region_lit ?_
        refine s_pu hF rfl rfl rfl (pu_move (hF.ev rfl)) ?_; clear hF; intro a hF
        refine s_pu hF rfl rfl rfl (pu_move (hF.ev rfl)) ?_; clear hF; intro a hF
        refine s_pu hF rfl rfl rfl ((by first | exact pu_elem sl38 (hF.ev rfl) (hF.ev rfl) (by first | omega | simp) (by first | omega | (simp; done) | (simp; omega)) | exact pu_elemA sl38 (hF.ev rfl) (hF.ev rfl) (by omega) (by omega))) ?_; clear hF; intro a hF
        refine s_rd hF rfl rfl rfl (by first | exact rd_load pl3 (hF.ev rfl) (by assumption) | exact rd_load pl3 (hF.ev rfl) (hS.cellL (i := 0) rfl rfl) | exact rd_load pl3 (hF.ev rfl) (hS.cellL (i := 1) rfl rfl) | exact rd_load pl3 (hF.ev rfl) (hS.cellL (i := 2) rfl rfl) | exact rd_load pl3 (hF.ev rfl) (hS.cellL (i := 3) rfl rfl) | exact rd_load pl3 (hF.ev rfl) (hS.cellL (i := 4) rfl rfl) | exact rd_load pl3 (hF.ev rfl) (hS.cell (i := 0) rfl (by assumption)) | exact rd_load pl3 (hF.ev rfl) (hS.cell (i := 1) rfl (by assumption)) | exact rd_load pl3 (hF.ev rfl) (hS.cell (i := 2) rfl (by assumption)) | exact rd_load pl3 (hF.ev rfl) (hS.cell (i := 3) rfl (by assumption)) | exact rd_load pl3 (hF.ev rfl) (hS.cell (i := 4) rfl (by assumption)) | exact rd_load pl3 (hF.ev rfl) (row_at (i := 0) hS rfl (by first | assumption | rfl)) | exact rd_load pl3 (hF.ev rfl) (row_at0 (i := 0) hS rfl (by first | assumption | rfl)) | exact rd_load pl3 (hF.ev rfl) (row_at (i := 1) hS rfl (by first | assumption | rfl)) | exact rd_load pl3 (hF.ev rfl) (row_at0 (i := 1) hS rfl (by first | assumption | rfl)) | exact rd_load pl3 (hF.ev rfl) (row_at (i := 2) hS rfl (by first | assumption | rfl)) | exact rd_load pl3 (hF.ev rfl) (row_at0 (i := 2) hS rfl (by first | assumption | rfl)) | exact rd_load pl3 (hF.ev rfl) (row_at (i := 3) hS rfl (by first | assumption | rfl)) | exact rd_load pl3 (hF.ev rfl) (row_at0 (i := 3) hS rfl (by first | assumption | rfl)) | exact rd_load pl3 (hF.ev rfl) (row_at (i := 4) hS rfl (by first | assumption | rfl)) | exact rd_load pl3 (hF.ev rfl) (row_at0 (i := 4) hS rfl (by first | assumption | rfl))) ?_; clear hF; intro a hF
        refine s_en hF rfl rfl rfl (run_fn fk7 (hF.ev rfl) (hF.evs rfl)) (pick_c hS (by omega) hb.1 hb.2) ?_
        clear hS; rintro e w ⟨p, _, hp, rfl, hS⟩
        refine ⟨_, rfl, ?_⟩; clear hF; intro a hF
        refine s_done ?_
        refine hK19 _ _ ?_; clear hK19
        refine wp_block ?_
        refine wp_seq_k fun K20 hK20 => ?_
        -- region 21
        refine wp_region_lit ?_
        refine s_pu hF rfl rfl rfl (pu_eql (hF.ev rfl) (hF.ev rfl)) ?_; clear hF; intro a hF
        refine s_pu hF rfl rfl rfl (pu_assign (hF.ev rfl)) ?_; clear hF; intro a hF
        refine s_done ?_
        refine hK20 _ _ ?_; clear hK20
        refine wp_cond_split (hF.ev rfl) (fun hc2 => ?_) (fun hc2 => ?_)
        · -- cond 2 true
          try simp only [decide_eq_true_eq, decide_eq_false_iff_not, Bool.not_eq_true', Bool.not_eq_false', Int.not_lt, Int.not_le, ne_eq, Decidable.not_not, Bool.or_eq_true, Bool.or_eq_false_iff, Bool.and_eq_true, Bool.and_eq_false_imp] at hc2
          refine wp_seq_k fun K21 hK21 => ?_
          -- region 22
          refine wp_region_lit ?_
          refine s_pu hF rfl rfl rfl (pu_move (hF.ev rfl)) ?_; clear hF; intro a hF
          refine s_pu hF rfl rfl rfl ((by first | exact pu_add64 (hF.ev rfl) (hF.ev rfl) (by omega) | exact pu_add (hF.ev rfl) (hF.ev rfl))) ?_; clear hF; intro a hF
          refine s_pu hF rfl rfl rfl (pu_assign (hF.ev rfl)) ?_; clear hF; intro a hF
          refine s_done ?_
          rw [show (put : Int) + 1 = ((f + c : Nat) : Int) from by omega] at hF
          refine hK21 _ _ ?_; clear hK21
          refine wp_seq_k fun K22 hK22 => ?_
          -- region 23
          rcases Nat.lt_or_ge c m with hcm | hcm
          · -- room
            -- region 23
            refine wp_region_lit ?_
            refine s_pu hF rfl rfl rfl (pu_move (hF.ev rfl)) ?_; clear hF; intro a hF
            refine s_pu hF rfl rfl rfl (pu_move (hF.ev rfl)) ?_; clear hF; intro a hF
            refine s_pu hF rfl rfl rfl (pu_move (hF.ev rfl)) ?_; clear hF; intro a hF
            refine s_en hF rfl rfl rfl (run_fn fk25 (hF.ev rfl) (hF.evs rfl)) (text_c hS (by omega)) ?_
            clear hS; rintro e w ⟨rfl, hsz1, hS⟩
            refine ⟨_, rfl, ?_⟩; clear hF; intro a hF
            refine s_pu hF rfl rfl rfl ((pu_build st31 (hF.evp rfl) rfl rfl : Pu _ _ _ (.agg #[_, _]))) ?_; clear hF; intro a hF
            refine s_pu hF rfl rfl rfl (pu_move (hF.ev rfl)) ?_; clear hF; intro a hF
            refine s_en hF rfl rfl rfl (run_fn fk25 (hF.ev rfl) (hF.evs rfl)) (text_c hS (by omega)) ?_
            clear hS; rintro e w ⟨rfl, hsz2, hS⟩
            refine ⟨_, rfl, ?_⟩; clear hF; intro a hF
            refine s_pu hF rfl rfl rfl (pu_sadd (hF.ev rfl) (hF.ev rfl) (by omega)) ?_; clear hF; intro a hF
            refine s_pu hF rfl rfl rfl ((pu_build st31 (hF.evp rfl) rfl rfl : Pu _ _ _ (.agg #[_, _]))) ?_; clear hF; intro a hF
            refine s_pu hF rfl rfl rfl ((pu_build st33 (hF.evp rfl) rfl rfl : Pu _ _ _ (.agg #[_, _, _, _, _, _]))) ?_; clear hF; intro a hF
            refine s_en hF rfl rfl rfl (run_fn fk9 (hF.ev rfl) (hF.evs rfl)) (put_nil (ad := advN (f + c)) rfl rfl hS (by simp only [onQ]; omega)) ?_
            clear hS; rintro e w ⟨rfl, hS⟩
            rw [on_put hcm] at hS ⊢
            refine ⟨_, rfl, ?_⟩; clear hF; intro a hF
            refine s_pu hF rfl rfl rfl (pu_assign (hF.ev rfl)) ?_; clear hF; intro a hF
            refine s_done ?_
            refine hK22 _ _ ?_; clear hK22
            refine wp_seq_k fun K23 hK23 => ?_
            refine wp_seq_k fun K24 hK24 => ?_
            -- region 24
            refine wp_region_lit ?_
            refine s_pu hF rfl rfl rfl (pu_move (hF.ev rfl)) ?_; clear hF; intro a hF
            refine s_pu hF rfl rfl rfl (pu_eql (hF.ev rfl) (hF.ev rfl)) ?_; clear hF; intro a hF
            refine s_pu hF rfl rfl rfl (pu_move (hF.ev rfl)) ?_; clear hF; intro a hF
            refine s_pu hF rfl rfl rfl ((by first | exact pu_add64 (hF.ev rfl) (hF.ev rfl) (by omega) | exact pu_add (hF.ev rfl) (hF.ev rfl))) ?_; clear hF; intro a hF
            refine s_pu hF rfl rfl rfl (pu_move (hF.ev rfl)) ?_; clear hF; intro a hF
            refine s_pu hF rfl rfl rfl ((by first | exact pu_sub64 (hF.ev rfl) (hF.ev rfl) (by omega) | exact pu_sub (hF.ev rfl) (hF.ev rfl))) ?_; clear hF; intro a hF
            refine s_pu hF rfl rfl rfl (pu_move (hF.ev rfl)) ?_; clear hF; intro a hF
            refine s_pu hF rfl rfl rfl (pu_lss (hF.ev rfl) (hF.ev rfl)) ?_; clear hF; intro a hF
            rw [show decide ((put : Int) + 1 - f < m) = true from by simp; omega] at hF
            refine s_pu hF rfl rfl rfl (pu_bne Try.underlying4 (hF.ev rfl) (hF.ev rfl)) ?_; clear hF; intro a hF
            refine s_pu hF rfl rfl rfl (pu_move (hF.ev rfl)) ?_; clear hF; intro a hF
            refine s_pu hF rfl rfl rfl (pu_move (hF.ev rfl)) ?_; clear hF; intro a hF
            refine s_pu hF rfl rfl rfl (pu_neq (hF.ev rfl) (hF.ev rfl)) ?_; clear hF; intro a hF
            refine s_pu hF rfl rfl rfl (pu_move (hF.ev rfl)) ?_; clear hF; intro a hF
            refine s_no hF rfl rfl rfl ?_; clear hF; intro a hF
            refine s_no hF rfl rfl rfl ?_; clear hF; intro a hF
            refine s_pu hF rfl rfl rfl ((by first | exact pu_pick_t (hF.ev rfl) (hF.ev rfl) | exact pu_pick_f (hF.ev rfl) (hF.ev rfl) | exact pu_pick (hF.ev rfl) (hF.ev rfl) (hF.ev rfl))) ?_; clear hF; intro a hF
            refine s_pu hF rfl rfl rfl ((by first | exact pu_pick_t (hF.ev rfl) (hF.ev rfl) | exact pu_pick_f (hF.ev rfl) (hF.ev rfl) | exact pu_pick (hF.ev rfl) (hF.ev rfl) (hF.ev rfl))) ?_; clear hF; intro a hF
            refine s_done ?_
            refine hK24 _ _ ?_; clear hK24
            refine wp_cond_false (hF.ev rfl) ?_
            refine wp_skip ?_
            refine hK23 _ _ ?_; clear hK23
            refine wp_seq_k fun K25 hK25 => ?_
            -- region 26
            refine wp_region_lit ?_
            refine s_pu hF rfl rfl rfl (pu_move (hF.ev rfl)) ?_; clear hF; intro a hF
            refine s_pu hF rfl rfl rfl (pu_eql (hF.ev rfl) (hF.ev rfl)) ?_; clear hF; intro a hF
            refine s_done ?_
            refine hK25 _ _ ?_; clear hK25
            refine wp_cond_true (hF.ev rfl) ?_
            -- region 27
            refine wp_region_lit ?_
            refine s_pu hF rfl rfl rfl (pu_move (hF.ev rfl)) ?_; clear hF; intro a hF
            refine s_pu hF rfl rfl rfl (pu_assign (hF.ev rfl)) ?_; clear hF; intro a hF
            refine s_done ?_
            refine blk_normal ?_
            exact ⟨f + c, f, c + 1, sent, done, dead, under, ticks, ⟨by omega, by omega, o3, o4, o5, o6, by omega, by omega⟩, hF.sub ⟨rfl, rfl, rfl, rfl, rfl, rfl, rfl, rfl, rfl, rfl, rfl, trivial⟩, hS⟩
          · -- full
            -- region 23
            refine wp_region_lit ?_
            refine s_pu hF rfl rfl rfl (pu_move (hF.ev rfl)) ?_; clear hF; intro a hF
            refine s_pu hF rfl rfl rfl (pu_move (hF.ev rfl)) ?_; clear hF; intro a hF
            refine s_pu hF rfl rfl rfl (pu_move (hF.ev rfl)) ?_; clear hF; intro a hF
            refine s_en hF rfl rfl rfl (run_fn fk25 (hF.ev rfl) (hF.evs rfl)) (text_c hS (by omega)) ?_
            clear hS; rintro e w ⟨rfl, hsz1, hS⟩
            refine ⟨_, rfl, ?_⟩; clear hF; intro a hF
            refine s_pu hF rfl rfl rfl ((pu_build st31 (hF.evp rfl) rfl rfl : Pu _ _ _ (.agg #[_, _]))) ?_; clear hF; intro a hF
            refine s_pu hF rfl rfl rfl (pu_move (hF.ev rfl)) ?_; clear hF; intro a hF
            refine s_en hF rfl rfl rfl (run_fn fk25 (hF.ev rfl) (hF.evs rfl)) (text_c hS (by omega)) ?_
            clear hS; rintro e w ⟨rfl, hsz2, hS⟩
            refine ⟨_, rfl, ?_⟩; clear hF; intro a hF
            refine s_pu hF rfl rfl rfl (pu_sadd (hF.ev rfl) (hF.ev rfl) (by omega)) ?_; clear hF; intro a hF
            refine s_pu hF rfl rfl rfl ((pu_build st31 (hF.evp rfl) rfl rfl : Pu _ _ _ (.agg #[_, _]))) ?_; clear hF; intro a hF
            refine s_pu hF rfl rfl rfl ((pu_build st33 (hF.evp rfl) rfl rfl : Pu _ _ _ (.agg #[_, _, _, _, _, _]))) ?_; clear hF; intro a hF
            refine s_en hF rfl rfl rfl (run_fn fk9 (hF.ev rfl) (hF.evs rfl)) (put_nil (ad := advN (f + c)) rfl rfl hS (by simp only [onQ]; omega)) ?_
            clear hS; rintro e w ⟨rfl, hS⟩
            rw [on_put_full hcm] at hS ⊢
            refine ⟨_, rfl, ?_⟩; clear hF; intro a hF
            refine s_pu hF rfl rfl rfl (pu_assign (hF.ev rfl)) ?_; clear hF; intro a hF
            refine s_done ?_
            refine hK22 _ _ ?_; clear hK22
            refine wp_seq_k fun K23 hK23 => ?_
            refine wp_seq_k fun K24 hK24 => ?_
            -- region 24
            refine wp_region_lit ?_
            refine s_pu hF rfl rfl rfl (pu_move (hF.ev rfl)) ?_; clear hF; intro a hF
            refine s_pu hF rfl rfl rfl (pu_eql (hF.ev rfl) (hF.ev rfl)) ?_; clear hF; intro a hF
            refine s_pu hF rfl rfl rfl (pu_move (hF.ev rfl)) ?_; clear hF; intro a hF
            refine s_pu hF rfl rfl rfl ((by first | exact pu_add64 (hF.ev rfl) (hF.ev rfl) (by omega) | exact pu_add (hF.ev rfl) (hF.ev rfl))) ?_; clear hF; intro a hF
            refine s_pu hF rfl rfl rfl (pu_move (hF.ev rfl)) ?_; clear hF; intro a hF
            refine s_pu hF rfl rfl rfl ((by first | exact pu_sub64 (hF.ev rfl) (hF.ev rfl) (by omega) | exact pu_sub (hF.ev rfl) (hF.ev rfl))) ?_; clear hF; intro a hF
            refine s_pu hF rfl rfl rfl (pu_move (hF.ev rfl)) ?_; clear hF; intro a hF
            refine s_pu hF rfl rfl rfl (pu_lss (hF.ev rfl) (hF.ev rfl)) ?_; clear hF; intro a hF
            rw [show decide ((put : Int) + 1 - f < m) = false from by simp; omega] at hF
            refine s_pu hF rfl rfl rfl (pu_bne Try.underlying4 (hF.ev rfl) (hF.ev rfl)) ?_; clear hF; intro a hF
            refine s_pu hF rfl rfl rfl (pu_move (hF.ev rfl)) ?_; clear hF; intro a hF
            refine s_pu hF rfl rfl rfl (pu_move (hF.ev rfl)) ?_; clear hF; intro a hF
            refine s_pu hF rfl rfl rfl (pu_neq (hF.ev rfl) (hF.ev rfl)) ?_; clear hF; intro a hF
            refine s_pu hF rfl rfl rfl (pu_move (hF.ev rfl)) ?_; clear hF; intro a hF
            refine s_pu hF rfl rfl rfl (pu_move (hF.ev rfl)) ?_; clear hF; intro a hF
            refine s_pu hF rfl rfl rfl (pu_neq (hF.ev rfl) (hF.ev rfl)) ?_; clear hF; intro a hF
            refine s_pu hF rfl rfl rfl ((by first | exact pu_pick_t (hF.ev rfl) (hF.ev rfl) | exact pu_pick_f (hF.ev rfl) (hF.ev rfl) | exact pu_pick (hF.ev rfl) (hF.ev rfl) (hF.ev rfl))) ?_; clear hF; intro a hF
            refine s_pu hF rfl rfl rfl ((by first | exact pu_pick_t (hF.ev rfl) (hF.ev rfl) | exact pu_pick_f (hF.ev rfl) (hF.ev rfl) | exact pu_pick (hF.ev rfl) (hF.ev rfl) (hF.ev rfl))) ?_; clear hF; intro a hF
            refine s_done ?_
            refine hK24 _ _ ?_; clear hK24
            refine wp_cond_false (hF.ev rfl) ?_
            refine wp_skip ?_
            refine hK23 _ _ ?_; clear hK23
            refine wp_seq_k fun K25 hK25 => ?_
            -- region 26
            refine wp_region_lit ?_
            refine s_pu hF rfl rfl rfl (pu_move (hF.ev rfl)) ?_; clear hF; intro a hF
            refine s_pu hF rfl rfl rfl (pu_eql (hF.ev rfl) (hF.ev rfl)) ?_; clear hF; intro a hF
            refine s_done ?_
            refine hK25 _ _ ?_; clear hK25
            refine wp_cond_false (hF.ev rfl) ?_
            refine wp_skip ?_
            refine blk_normal ?_
            exact ⟨put, f, c, sent, done, dead, under, ticks, ⟨by omega, by omega, o3, o4, o5, o6, by omega, by omega⟩, hF.sub ⟨rfl, rfl, rfl, rfl, rfl, rfl, rfl, rfl, rfl, rfl, rfl, trivial⟩, hS⟩
        · -- cond 2 false
          try simp only [decide_eq_true_eq, decide_eq_false_iff_not, Bool.not_eq_true', Bool.not_eq_false', Int.not_lt, Int.not_le, ne_eq, Decidable.not_not, Bool.or_eq_true, Bool.or_eq_false_iff, Bool.and_eq_true, Bool.and_eq_false_imp] at hc2
          refine wp_seq_j (fun a w => ∃ (b : Bool), (b = true → (p : Int) = 1 ∨ (p : Int) = 2) ∧ (b = false → ¬ ((p : Int) = 1) ∧ ¬ ((p : Int) = 2)) ∧
            Fr a 263 [(3, .slice (some x) l3 q3), (10, .int .i64 m), (11, .int .i64 r), (12, .int .i64 t), (13, .pointer (some ⟨g, 0, none⟩)), (15, .int .i64 put), (16, .int .i64 f), (17, .int .i64 sent), (18, .int .i64 done), (19, .int .i64 dead), (20, .int .i64 i), (74, .int .i64 p), (116, .bool b)] ∧
            Sat W w [queueC 0 g (onQ m r t f c sent under ticks [] dead), whole W]) ?_ ?_
          · -- up to the join s28
            refine wp_seq_k fun K22 hK22 => ?_
            -- region 28
            refine wp_region_lit ?_
            refine s_pu hF rfl rfl rfl (pu_eql (hF.ev rfl) (hF.ev rfl)) ?_; clear hF; intro a hF
            refine s_pu hF rfl rfl rfl (pu_assign (hF.ev rfl)) ?_; clear hF; intro a hF
            refine s_done ?_
            refine hK22 _ _ ?_; clear hK22
            refine wp_cond_split (hF.ev rfl) (fun hc5 => ?_) (fun hc5 => ?_)
            · -- cond 5 true
              try simp only [decide_eq_true_eq, decide_eq_false_iff_not, Bool.not_eq_true', Bool.not_eq_false', Int.not_lt, Int.not_le, ne_eq, Decidable.not_not, Bool.or_eq_true, Bool.or_eq_false_iff, Bool.and_eq_true, Bool.and_eq_false_imp] at hc5
              refine wp_skip ?_
              first
              | exact ⟨true, fun _ => .inl hc5, fun h => (by cases h), (by rw [decide_eq_true hc5] at hF; exact hF.sub ⟨rfl, rfl, rfl, rfl, rfl, rfl, rfl, rfl, rfl, rfl, rfl, rfl, rfl, trivial⟩), hS⟩
              | exact ⟨_, fun h => .inr (of_decide_eq_true h), fun h => ⟨hc5, of_decide_eq_false h⟩, hF.sub ⟨rfl, rfl, rfl, rfl, rfl, rfl, rfl, rfl, rfl, rfl, rfl, rfl, rfl, trivial⟩, hS⟩
            · -- cond 5 false
              try simp only [decide_eq_true_eq, decide_eq_false_iff_not, Bool.not_eq_true', Bool.not_eq_false', Int.not_lt, Int.not_le, ne_eq, Decidable.not_not, Bool.or_eq_true, Bool.or_eq_false_iff, Bool.and_eq_true, Bool.and_eq_false_imp] at hc5
              -- region 29
              refine wp_region_lit ?_
              refine s_pu hF rfl rfl rfl (pu_eql (hF.ev rfl) (hF.ev rfl)) ?_; clear hF; intro a hF
              refine s_pu hF rfl rfl rfl (pu_assign (hF.ev rfl)) ?_; clear hF; intro a hF
              refine s_done ?_
              first
              | exact ⟨true, fun _ => .inl hc5, fun h => (by cases h), (by rw [decide_eq_true hc5] at hF; exact hF.sub ⟨rfl, rfl, rfl, rfl, rfl, rfl, rfl, rfl, rfl, rfl, rfl, rfl, rfl, trivial⟩), hS⟩
              | exact ⟨_, fun h => .inr (of_decide_eq_true h), fun h => ⟨hc5, of_decide_eq_false h⟩, hF.sub ⟨rfl, rfl, rfl, rfl, rfl, rfl, rfl, rfl, rfl, rfl, rfl, rfl, rfl, trivial⟩, hS⟩
          · -- behind the join s28
            clear hS hF hv1
            rintro a w ⟨b, hbt, hbf, hF, hS⟩
            refine wp_cond_split (hF.ev rfl) (fun hc6 => ?_) (fun hc6 => ?_)
            · -- cond 6 true
              try simp only [decide_eq_true_eq, decide_eq_false_iff_not, Bool.not_eq_true', Bool.not_eq_false', Int.not_lt, Int.not_le, ne_eq, Decidable.not_not, Bool.or_eq_true, Bool.or_eq_false_iff, Bool.and_eq_true, Bool.and_eq_false_imp] at hc6
              refine wp_seq_k fun K21 hK21 => ?_
              -- region 30
              rcases on_next5 hO hZ (by omega) with hN | ⟨hN0, hN1, hN⟩ | ⟨hN0, hN1, hN⟩ | ⟨hN0, hN1, hN⟩ | ⟨hN0, hN1, hN⟩
              · -- a
                -- region 30
                refine wp_region_lit ?_
                refine s_pu hF rfl rfl rfl (pu_move (hF.ev rfl)) ?_; clear hF; intro a hF
                refine s_en hF rfl rfl rfl (run_fn fk11 (hF.ev rfl) (hF.evs rfl)) (next_c 0 hS (hO.ok hZ (by omega)) (by show (0 + (onL f c).length + 2) * 8 ≤ _; rw [onL_len]; omega)) ?_
                clear hS; rintro e w ⟨h, rfl, ⟨_, _, _, rfl⟩, hS⟩
                rw [hN] at hS ⊢
                refine ⟨_, rfl, ?_⟩; clear hF; intro a hF
                refine s_pu hF rfl rfl rfl (pu_move (hF.ev rfl)) ?_; clear hF; intro a hF
                refine s_pu hF rfl rfl rfl (pu_extract (hF.ev rfl) rfl) ?_; clear hF; intro a hF
                refine s_pu hF rfl rfl rfl (pu_extract (hF.ev rfl) rfl) ?_; clear hF; intro a hF
                refine s_newp hF rfl rfl rfl (ef_alloc (cs := #[_, _]) ze31 rfl) hS ?_; clear hF hS; intro b23 w hS a hF
                (first | (refine s_store (vs := [_, _]) (cs' := #[_, _]) 0 hF rfl (hF.ev rfl) (hF.ev rfl) hS rfl rfl sz31 (by first | rfl | (simp only [List.all_cons, List.all_nil, Value.oneCell', Bool.and_true, Bool.true_and]; assumption) | (simp [Value.oneCell', *]; done)) (by first | exact Nat.le_of_ble_eq_true rfl | (simp [Value.cells]; omega)) rfl ?_) | (refine s_store (vs := [_, _]) (cs' := #[_, _]) 1 hF rfl (hF.ev rfl) (hF.ev rfl) hS rfl rfl sz31 (by first | rfl | (simp only [List.all_cons, List.all_nil, Value.oneCell', Bool.and_true, Bool.true_and]; assumption) | (simp [Value.oneCell', *]; done)) (by first | exact Nat.le_of_ble_eq_true rfl | (simp [Value.cells]; omega)) rfl ?_) | (refine s_store (vs := [_, _]) (cs' := #[_, _]) 2 hF rfl (hF.ev rfl) (hF.ev rfl) hS rfl rfl sz31 (by first | rfl | (simp only [List.all_cons, List.all_nil, Value.oneCell', Bool.and_true, Bool.true_and]; assumption) | (simp [Value.oneCell', *]; done)) (by first | exact Nat.le_of_ble_eq_true rfl | (simp [Value.cells]; omega)) rfl ?_) | (refine s_store (vs := [_, _]) (cs' := #[_, _]) 3 hF rfl (hF.ev rfl) (hF.ev rfl) hS rfl rfl sz31 (by first | rfl | (simp only [List.all_cons, List.all_nil, Value.oneCell', Bool.and_true, Bool.true_and]; assumption) | (simp [Value.oneCell', *]; done)) (by first | exact Nat.le_of_ble_eq_true rfl | (simp [Value.cells]; omega)) rfl ?_) | (refine s_store (vs := [_, _]) (cs' := #[_, _]) 4 hF rfl (hF.ev rfl) (hF.ev rfl) hS rfl rfl sz31 (by first | rfl | (simp only [List.all_cons, List.all_nil, Value.oneCell', Bool.and_true, Bool.true_and]; assumption) | (simp [Value.oneCell', *]; done)) (by first | exact Nat.le_of_ble_eq_true rfl | (simp [Value.cells]; omega)) rfl ?_) | (refine s_store (vs := [_, _]) (cs' := _) 0 hF rfl (hF.ev rfl) (hF.ev rfl) hS rfl rfl sz31 (by first | rfl | (simp only [List.all_cons, List.all_nil, Value.oneCell', Bool.and_true, Bool.true_and]; assumption) | (simp [Value.oneCell', *]; done)) (by first | exact Nat.le_of_ble_eq_true rfl | (simp [Value.cells]; omega)) rfl ?_) | (refine s_store (vs := [_, _]) (cs' := _) 1 hF rfl (hF.ev rfl) (hF.ev rfl) hS rfl rfl sz31 (by first | rfl | (simp only [List.all_cons, List.all_nil, Value.oneCell', Bool.and_true, Bool.true_and]; assumption) | (simp [Value.oneCell', *]; done)) (by first | exact Nat.le_of_ble_eq_true rfl | (simp [Value.cells]; omega)) rfl ?_) | (refine s_store (vs := [_, _]) (cs' := _) 2 hF rfl (hF.ev rfl) (hF.ev rfl) hS rfl rfl sz31 (by first | rfl | (simp only [List.all_cons, List.all_nil, Value.oneCell', Bool.and_true, Bool.true_and]; assumption) | (simp [Value.oneCell', *]; done)) (by first | exact Nat.le_of_ble_eq_true rfl | (simp [Value.cells]; omega)) rfl ?_) | (refine s_store (vs := [_, _]) (cs' := _) 3 hF rfl (hF.ev rfl) (hF.ev rfl) hS rfl rfl sz31 (by first | rfl | (simp only [List.all_cons, List.all_nil, Value.oneCell', Bool.and_true, Bool.true_and]; assumption) | (simp [Value.oneCell', *]; done)) (by first | exact Nat.le_of_ble_eq_true rfl | (simp [Value.cells]; omega)) rfl ?_) | (refine s_store (vs := [_, _]) (cs' := _) 4 hF rfl (hF.ev rfl) (hF.ev rfl) hS rfl rfl sz31 (by first | rfl | (simp only [List.all_cons, List.all_nil, Value.oneCell', Bool.and_true, Bool.true_and]; assumption) | (simp [Value.oneCell', *]; done)) (by first | exact Nat.le_of_ble_eq_true rfl | (simp [Value.cells]; omega)) rfl ?_))
                clear hS; intro w hS; (try simp only [upd, del] at hS)
                refine s_pu hF rfl rfl rfl (pu_assign (hF.ev rfl)) ?_; clear hF; intro a hF
                refine s_done ?_
                refine hK21 _ _ ?_; clear hK21
                refine wp_seq_k fun K22 hK22 => ?_
                -- region 31
                refine wp_region_lit ?_
                refine s_pu hF rfl rfl rfl (pu_move (hF.ev rfl)) ?_; clear hF; intro a hF
                refine s_en hF rfl rfl rfl (run_fn fk14 (hF.ev rfl) (hF.evs rfl)) (at_place 1 hS rfl (fun h => gone_c h)) ?_
                clear hS; rintro e w ⟨gp, gq, rfl, hS⟩
                refine ⟨_, rfl, ?_⟩; clear hF; intro a hF
                refine s_pu hF rfl rfl rfl (pu_assign (hF.ev rfl)) ?_; clear hF; intro a hF
                refine s_done ?_
                refine hK22 _ _ ?_; clear hK22
                refine wp_seq_k fun K23 hK23 => ?_
                refine wp_seq_k fun K24 hK24 => ?_
                -- region 32
                refine wp_region_lit ?_
                refine s_pu hF rfl rfl rfl (pu_assign (hF.ev rfl)) ?_; clear hF; intro a hF
                refine s_done ?_
                refine hK24 _ _ ?_; clear hK24
                refine wp_block ?_
                replace hS := hS.tail
                refine wp_ind (fun j a w => Fr a 263 [(3, .slice (some x) l3 q3), (10, .int .i64 m), (11, .int .i64 r), (12, .int .i64 t), (13, .pointer (some ⟨g, 0, none⟩)), (15, .int .i64 put), (16, .int .i64 f), (17, .int .i64 sent), (18, .int .i64 done), (19, .int .i64 dead), (20, .int .i64 i), (23, .pointer (some ⟨b23, 0, none⟩)), (24, .bool false), (25, .slice gp 0 gq), (26, .int .i64 0)] ∧
                  Sat W w [queueC 0 g (onQ m r t f c sent under ticks [] dead), .obj b23 (.cells #[.string .empty, _] 31 (0, 0)), whole W]) 0
                  ⟨hF.sub ⟨rfl, rfl, rfl, rfl, rfl, rfl, rfl, rfl, rfl, rfl, rfl, rfl, rfl, rfl, rfl, trivial⟩, hS⟩ ?_
                clear hS hF
                rintro j a w ⟨hF, hS⟩
                refine wp_seq_k fun K25 hK25 => ?_
                refine wp_seq_k fun K26 hK26 => ?_
                -- region 33
                refine wp_region_lit ?_
                refine s_pu hF rfl rfl rfl (pu_move (hF.ev rfl)) ?_; clear hF; intro a hF
                refine s_pu hF rfl rfl rfl (pu_move (hF.ev rfl)) ?_; clear hF; intro a hF
                refine s_pu hF rfl rfl rfl (pu_len sl38 (hF.ev rfl)) ?_; clear hF; intro a hF
                refine s_pu hF rfl rfl rfl (pu_lss (hF.ev rfl) (hF.ev rfl)) ?_; clear hF; intro a hF
                refine s_done ?_
                refine hK26 _ _ ?_; clear hK26
                refine wp_cond_split (hF.ev rfl) (fun hc7 => ?_) (fun hc7 => ?_)
                · -- cond 7 true
                  try simp only [decide_eq_true_eq, decide_eq_false_iff_not, Bool.not_eq_true', Bool.not_eq_false', Int.not_lt, Int.not_le, ne_eq, Decidable.not_not, Bool.or_eq_true, Bool.or_eq_false_iff, Bool.and_eq_true, Bool.and_eq_false_imp] at hc7
                  omega
                · -- cond 7 false
                  try simp only [decide_eq_true_eq, decide_eq_false_iff_not, Bool.not_eq_true', Bool.not_eq_false', Int.not_lt, Int.not_le, ne_eq, Decidable.not_not, Bool.or_eq_true, Bool.or_eq_false_iff, Bool.and_eq_true, Bool.and_eq_false_imp] at hc7
                  refine wp_exit ?_
                  refine then_exit ?_
                  refine then_exit ?_
                  refine blk_exit ?_
                  refine hK23 _ _ ?_; clear hK23
                  refine wp_seq_k fun K27 hK27 => ?_
                  -- region 40
                  refine wp_region_lit ?_
                  refine s_pu hF rfl rfl rfl (pu_move (hF.ev rfl)) ?_; clear hF; intro a hF
                  refine s_done ?_
                  refine hK27 _ _ ?_; clear hK27
                  refine wp_cond_false (hF.ev rfl) ?_
                  refine wp_skip ?_
                  refine blk_normal ?_
                  exact ⟨put, f, c, sent, done, dead, under, ticks, ⟨by omega, by omega, o3, o4, o5, o6, by omega, by omega⟩, hF.sub ⟨rfl, rfl, rfl, rfl, rfl, rfl, rfl, rfl, rfl, rfl, rfl, trivial⟩, hS.drop 1⟩
              · -- b0
                -- region 30
                refine wp_region_lit ?_
                refine s_pu hF rfl rfl rfl (pu_move (hF.ev rfl)) ?_; clear hF; intro a hF
                refine s_en hF rfl rfl rfl (run_fn fk11 (hF.ev rfl) (hF.evs rfl)) (next_c 0 hS (hO.ok hZ (by omega)) (by show (0 + (onL f c).length + 2) * 8 ≤ _; rw [onL_len]; omega)) ?_
                clear hS; rintro e w ⟨h, rfl, ⟨_, _, _, rfl⟩, hS⟩
                rw [hN] at hS ⊢
                refine ⟨_, rfl, ?_⟩; clear hF; intro a hF
                refine s_pu hF rfl rfl rfl (pu_move (hF.ev rfl)) ?_; clear hF; intro a hF
                refine s_pu hF rfl rfl rfl (pu_extract (hF.ev rfl) rfl) ?_; clear hF; intro a hF
                refine s_pu hF rfl rfl rfl (pu_extract (hF.ev rfl) rfl) ?_; clear hF; intro a hF
                refine s_newp hF rfl rfl rfl (ef_alloc (cs := #[_, _]) ze31 rfl) hS ?_; clear hF hS; intro b23 w hS a hF
                (first | (refine s_store (vs := [_, _]) (cs' := #[_, _]) 0 hF rfl (hF.ev rfl) (hF.ev rfl) hS rfl rfl sz31 (by first | rfl | (simp only [List.all_cons, List.all_nil, Value.oneCell', Bool.and_true, Bool.true_and]; assumption) | (simp [Value.oneCell', *]; done)) (by first | exact Nat.le_of_ble_eq_true rfl | (simp [Value.cells]; omega)) rfl ?_) | (refine s_store (vs := [_, _]) (cs' := #[_, _]) 1 hF rfl (hF.ev rfl) (hF.ev rfl) hS rfl rfl sz31 (by first | rfl | (simp only [List.all_cons, List.all_nil, Value.oneCell', Bool.and_true, Bool.true_and]; assumption) | (simp [Value.oneCell', *]; done)) (by first | exact Nat.le_of_ble_eq_true rfl | (simp [Value.cells]; omega)) rfl ?_) | (refine s_store (vs := [_, _]) (cs' := #[_, _]) 2 hF rfl (hF.ev rfl) (hF.ev rfl) hS rfl rfl sz31 (by first | rfl | (simp only [List.all_cons, List.all_nil, Value.oneCell', Bool.and_true, Bool.true_and]; assumption) | (simp [Value.oneCell', *]; done)) (by first | exact Nat.le_of_ble_eq_true rfl | (simp [Value.cells]; omega)) rfl ?_) | (refine s_store (vs := [_, _]) (cs' := #[_, _]) 3 hF rfl (hF.ev rfl) (hF.ev rfl) hS rfl rfl sz31 (by first | rfl | (simp only [List.all_cons, List.all_nil, Value.oneCell', Bool.and_true, Bool.true_and]; assumption) | (simp [Value.oneCell', *]; done)) (by first | exact Nat.le_of_ble_eq_true rfl | (simp [Value.cells]; omega)) rfl ?_) | (refine s_store (vs := [_, _]) (cs' := #[_, _]) 4 hF rfl (hF.ev rfl) (hF.ev rfl) hS rfl rfl sz31 (by first | rfl | (simp only [List.all_cons, List.all_nil, Value.oneCell', Bool.and_true, Bool.true_and]; assumption) | (simp [Value.oneCell', *]; done)) (by first | exact Nat.le_of_ble_eq_true rfl | (simp [Value.cells]; omega)) rfl ?_) | (refine s_store (vs := [_, _]) (cs' := _) 0 hF rfl (hF.ev rfl) (hF.ev rfl) hS rfl rfl sz31 (by first | rfl | (simp only [List.all_cons, List.all_nil, Value.oneCell', Bool.and_true, Bool.true_and]; assumption) | (simp [Value.oneCell', *]; done)) (by first | exact Nat.le_of_ble_eq_true rfl | (simp [Value.cells]; omega)) rfl ?_) | (refine s_store (vs := [_, _]) (cs' := _) 1 hF rfl (hF.ev rfl) (hF.ev rfl) hS rfl rfl sz31 (by first | rfl | (simp only [List.all_cons, List.all_nil, Value.oneCell', Bool.and_true, Bool.true_and]; assumption) | (simp [Value.oneCell', *]; done)) (by first | exact Nat.le_of_ble_eq_true rfl | (simp [Value.cells]; omega)) rfl ?_) | (refine s_store (vs := [_, _]) (cs' := _) 2 hF rfl (hF.ev rfl) (hF.ev rfl) hS rfl rfl sz31 (by first | rfl | (simp only [List.all_cons, List.all_nil, Value.oneCell', Bool.and_true, Bool.true_and]; assumption) | (simp [Value.oneCell', *]; done)) (by first | exact Nat.le_of_ble_eq_true rfl | (simp [Value.cells]; omega)) rfl ?_) | (refine s_store (vs := [_, _]) (cs' := _) 3 hF rfl (hF.ev rfl) (hF.ev rfl) hS rfl rfl sz31 (by first | rfl | (simp only [List.all_cons, List.all_nil, Value.oneCell', Bool.and_true, Bool.true_and]; assumption) | (simp [Value.oneCell', *]; done)) (by first | exact Nat.le_of_ble_eq_true rfl | (simp [Value.cells]; omega)) rfl ?_) | (refine s_store (vs := [_, _]) (cs' := _) 4 hF rfl (hF.ev rfl) (hF.ev rfl) hS rfl rfl sz31 (by first | rfl | (simp only [List.all_cons, List.all_nil, Value.oneCell', Bool.and_true, Bool.true_and]; assumption) | (simp [Value.oneCell', *]; done)) (by first | exact Nat.le_of_ble_eq_true rfl | (simp [Value.cells]; omega)) rfl ?_))
                clear hS; intro w hS; (try simp only [upd, del] at hS)
                refine s_pu hF rfl rfl rfl (pu_assign (hF.ev rfl)) ?_; clear hF; intro a hF
                refine s_done ?_
                refine hK21 _ _ ?_; clear hK21
                refine wp_seq_k fun K22 hK22 => ?_
                -- region 31
                refine wp_region_lit ?_
                refine s_pu hF rfl rfl rfl (pu_move (hF.ev rfl)) ?_; clear hF; intro a hF
                refine s_en hF rfl rfl rfl (run_fn fk14 (hF.ev rfl) (hF.evs rfl)) (at_place 2 hS rfl (fun h => gone_c h)) ?_
                clear hS; rintro e w ⟨gp, gq, rfl, hS⟩
                refine ⟨_, rfl, ?_⟩; clear hF; intro a hF
                refine s_pu hF rfl rfl rfl (pu_assign (hF.ev rfl)) ?_; clear hF; intro a hF
                refine s_done ?_
                refine hK22 _ _ ?_; clear hK22
                refine wp_seq_k fun K23 hK23 => ?_
                refine wp_seq_k fun K24 hK24 => ?_
                -- region 32
                refine wp_region_lit ?_
                refine s_pu hF rfl rfl rfl (pu_assign (hF.ev rfl)) ?_; clear hF; intro a hF
                refine s_done ?_
                refine hK24 _ _ ?_; clear hK24
                refine wp_block ?_
                replace hS := hS.tail.drop 2
                refine wp_ind (fun j a w => Fr a 263 [(3, .slice (some x) l3 q3), (10, .int .i64 m), (11, .int .i64 r), (12, .int .i64 t), (13, .pointer (some ⟨g, 0, none⟩)), (15, .int .i64 put), (16, .int .i64 f), (17, .int .i64 sent), (18, .int .i64 done), (19, .int .i64 dead), (20, .int .i64 i), (23, .pointer (some ⟨b23, 0, none⟩)), (24, .bool true), (25, .slice gp 0 gq), (26, .int .i64 0)] ∧
                  Sat W w [queueC 0 g (onQ m r t f c (sent + 1) true 0 [] dead), .obj b23 (.cells #[.string (txt f), _] 31 (0, 0)), whole W]) 0
                  ⟨hF.sub ⟨rfl, rfl, rfl, rfl, rfl, rfl, rfl, rfl, rfl, rfl, rfl, rfl, rfl, rfl, rfl, trivial⟩, hS⟩ ?_
                clear hS hF
                rintro j a w ⟨hF, hS⟩
                refine wp_seq_k fun K25 hK25 => ?_
                refine wp_seq_k fun K26 hK26 => ?_
                -- region 33
                refine wp_region_lit ?_
                refine s_pu hF rfl rfl rfl (pu_move (hF.ev rfl)) ?_; clear hF; intro a hF
                refine s_pu hF rfl rfl rfl (pu_move (hF.ev rfl)) ?_; clear hF; intro a hF
                refine s_pu hF rfl rfl rfl (pu_len sl38 (hF.ev rfl)) ?_; clear hF; intro a hF
                refine s_pu hF rfl rfl rfl (pu_lss (hF.ev rfl) (hF.ev rfl)) ?_; clear hF; intro a hF
                refine s_done ?_
                refine hK26 _ _ ?_; clear hK26
                refine wp_cond_split (hF.ev rfl) (fun hc7 => ?_) (fun hc7 => ?_)
                · -- cond 7 true
                  try simp only [decide_eq_true_eq, decide_eq_false_iff_not, Bool.not_eq_true', Bool.not_eq_false', Int.not_lt, Int.not_le, ne_eq, Decidable.not_not, Bool.or_eq_true, Bool.or_eq_false_iff, Bool.and_eq_true, Bool.and_eq_false_imp] at hc7
                  omega
                · -- cond 7 false
                  try simp only [decide_eq_true_eq, decide_eq_false_iff_not, Bool.not_eq_true', Bool.not_eq_false', Int.not_lt, Int.not_le, ne_eq, Decidable.not_not, Bool.or_eq_true, Bool.or_eq_false_iff, Bool.and_eq_true, Bool.and_eq_false_imp] at hc7
                  refine wp_exit ?_
                  refine then_exit ?_
                  refine then_exit ?_
                  refine blk_exit ?_
                  refine hK23 _ _ ?_; clear hK23
                  refine wp_seq_k fun K27 hK27 => ?_
                  -- region 40
                  refine wp_region_lit ?_
                  refine s_pu hF rfl rfl rfl (pu_move (hF.ev rfl)) ?_; clear hF; intro a hF
                  refine s_done ?_
                  refine hK27 _ _ ?_; clear hK27
                  refine wp_cond_true (hF.ev rfl) ?_
                  refine wp_seq_k fun K28 hK28 => ?_
                  -- region 41
                  refine wp_region_lit ?_
                  refine s_pu hF rfl rfl rfl (pu_move (hF.ev rfl)) ?_; clear hF; intro a hF
                  refine s_pu hF rfl rfl rfl ((by first | exact pu_add64 (hF.ev rfl) (hF.ev rfl) (by omega) | exact pu_add (hF.ev rfl) (hF.ev rfl))) ?_; clear hF; intro a hF
                  refine s_pu hF rfl rfl rfl (pu_assign (hF.ev rfl)) ?_; clear hF; intro a hF
                  refine s_done ?_
                  refine hK28 _ _ ?_; clear hK28
                  refine wp_seq_k fun K29 hK29 => ?_
                  -- region 42
                  refine wp_region_lit ?_
                  refine s_pu hF rfl rfl rfl (pu_move (hF.ev rfl)) ?_; clear hF; intro a hF
                  refine s_en hF rfl rfl rfl (run_fn fk25 (hF.ev rfl) (hF.evs rfl)) (text_c hS (by omega)) ?_
                  clear hS; rintro e w ⟨rfl, hsz1, hS⟩
                  refine ⟨_, rfl, ?_⟩; clear hF; intro a hF
                  refine s_pu hF rfl rfl rfl (pu_assign (hF.ev rfl)) ?_; clear hF; intro a hF
                  refine s_done ?_
                  refine hK29 _ _ ?_; clear hK29
                  refine wp_seq_k fun K30 hK30 => ?_
                  refine wp_seq_k fun K31 hK31 => ?_
                  -- region 43
                  refine wp_region_lit ?_
                  refine s_pu hF rfl rfl rfl (pu_move (hF.ev rfl)) ?_; clear hF; intro a hF
                  refine s_pu hF rfl rfl rfl (pu_gtr (hF.ev rfl) (hF.ev rfl)) ?_; clear hF; intro a hF
                  refine s_done ?_
                  refine hK31 _ _ ?_; clear hK31
                  refine wp_cond_split (hF.ev rfl) (fun hc10 => ?_) (fun hc10 => ?_)
                  · -- cond 10 true
                    try simp only [decide_eq_true_eq, decide_eq_false_iff_not, Bool.not_eq_true', Bool.not_eq_false', Int.not_lt, Int.not_le, ne_eq, Decidable.not_not, Bool.or_eq_true, Bool.or_eq_false_iff, Bool.and_eq_true, Bool.and_eq_false_imp] at hc10
                    omega
                  · -- cond 10 false
                    try simp only [decide_eq_true_eq, decide_eq_false_iff_not, Bool.not_eq_true', Bool.not_eq_false', Int.not_lt, Int.not_le, ne_eq, Decidable.not_not, Bool.or_eq_true, Bool.or_eq_false_iff, Bool.and_eq_true, Bool.and_eq_false_imp] at hc10
                    refine wp_skip ?_
                    refine hK30 _ _ ?_; clear hK30
                    refine wp_seq_k fun K32 hK32 => ?_
                    -- region 45
                    refine wp_region_lit ?_
                    refine s_pu hF rfl rfl rfl (pu_move (hF.ev rfl)) ?_; clear hF; intro a hF
                    refine s_pu hF rfl rfl rfl (pu_move (hF.ev rfl)) ?_; clear hF; intro a hF
                    refine s_pu hF rfl rfl rfl (pu_gtr (hF.ev rfl) (hF.ev rfl)) ?_; clear hF; intro a hF
                    refine s_pu hF rfl rfl rfl (pu_move (hF.ev rfl)) ?_; clear hF; intro a hF
                    refine fr_split hF (t := 159) rfl ?_ ?_
                    · clear hF; intro hg159 hF   -- slot 159 true
                      try simp only [decide_eq_true_eq, decide_eq_false_iff_not, Bool.not_eq_true', Bool.not_eq_false', Int.not_lt, Int.not_le, ne_eq, Decidable.not_not, Bool.or_eq_true, Bool.or_eq_false_iff, Bool.and_eq_true, Bool.and_eq_false_imp] at hg159
                      omega
                    · clear hF; intro hg159 hF   -- slot 159 false
                      try simp only [decide_eq_true_eq, decide_eq_false_iff_not, Bool.not_eq_true', Bool.not_eq_false', Int.not_lt, Int.not_le, ne_eq, Decidable.not_not, Bool.or_eq_true, Bool.or_eq_false_iff, Bool.and_eq_true, Bool.and_eq_false_imp] at hg159
                      refine s_pu hF rfl rfl rfl (pu_move (hF.ev rfl)) ?_; clear hF; intro a hF
                      refine s_pu hF rfl rfl rfl (pu_move (hF.ev rfl)) ?_; clear hF; intro a hF
                      refine s_pu hF rfl rfl rfl (pu_gtr (hF.ev rfl) (hF.ev rfl)) ?_; clear hF; intro a hF
                      refine s_pu hF rfl rfl rfl ((by first | exact pu_pick_t (hF.ev rfl) (hF.ev rfl) | exact pu_pick_f (hF.ev rfl) (hF.ev rfl) | exact pu_pick (hF.ev rfl) (hF.ev rfl) (hF.ev rfl))) ?_; clear hF; intro a hF
                      refine s_pu hF rfl rfl rfl (pu_move (hF.ev rfl)) ?_; clear hF; intro a hF
                      refine fr_split hF (t := 164) rfl ?_ ?_
                      · clear hF; intro hg164 hF   -- slot 164 true
                        try simp only [decide_eq_true_eq, decide_eq_false_iff_not, Bool.not_eq_true', Bool.not_eq_false', Int.not_lt, Int.not_le, ne_eq, Decidable.not_not, Bool.or_eq_true, Bool.or_eq_false_iff, Bool.and_eq_true, Bool.and_eq_false_imp] at hg164
                        first | omega | (simp at hg164; omega)
                      · clear hF; intro hg164 hF   -- slot 164 false
                        try simp only [decide_eq_true_eq, decide_eq_false_iff_not, Bool.not_eq_true', Bool.not_eq_false', Int.not_lt, Int.not_le, ne_eq, Decidable.not_not, Bool.or_eq_true, Bool.or_eq_false_iff, Bool.and_eq_true, Bool.and_eq_false_imp] at hg164
                        refine s_pu hF rfl rfl rfl (pu_field fd31_0 (hF.ev rfl)) ?_; clear hF; intro a hF
                        refine s_rd hF rfl rfl rfl (by first | exact rd_load pl9 (hF.ev rfl) (by assumption) | exact rd_load pl9 (hF.ev rfl) (hS.cellL (i := 0) rfl rfl) | exact rd_load pl9 (hF.ev rfl) (hS.cellL (i := 1) rfl rfl) | exact rd_load pl9 (hF.ev rfl) (hS.cellL (i := 2) rfl rfl) | exact rd_load pl9 (hF.ev rfl) (hS.cellL (i := 3) rfl rfl) | exact rd_load pl9 (hF.ev rfl) (hS.cellL (i := 4) rfl rfl) | exact rd_load pl9 (hF.ev rfl) (hS.cell (i := 0) rfl (by assumption)) | exact rd_load pl9 (hF.ev rfl) (hS.cell (i := 1) rfl (by assumption)) | exact rd_load pl9 (hF.ev rfl) (hS.cell (i := 2) rfl (by assumption)) | exact rd_load pl9 (hF.ev rfl) (hS.cell (i := 3) rfl (by assumption)) | exact rd_load pl9 (hF.ev rfl) (hS.cell (i := 4) rfl (by assumption)) | exact rd_load pl9 (hF.ev rfl) (row_at (i := 0) hS rfl (by first | assumption | rfl)) | exact rd_load pl9 (hF.ev rfl) (row_at0 (i := 0) hS rfl (by first | assumption | rfl)) | exact rd_load pl9 (hF.ev rfl) (row_at (i := 1) hS rfl (by first | assumption | rfl)) | exact rd_load pl9 (hF.ev rfl) (row_at0 (i := 1) hS rfl (by first | assumption | rfl)) | exact rd_load pl9 (hF.ev rfl) (row_at (i := 2) hS rfl (by first | assumption | rfl)) | exact rd_load pl9 (hF.ev rfl) (row_at0 (i := 2) hS rfl (by first | assumption | rfl)) | exact rd_load pl9 (hF.ev rfl) (row_at (i := 3) hS rfl (by first | assumption | rfl)) | exact rd_load pl9 (hF.ev rfl) (row_at0 (i := 3) hS rfl (by first | assumption | rfl)) | exact rd_load pl9 (hF.ev rfl) (row_at (i := 4) hS rfl (by first | assumption | rfl)) | exact rd_load pl9 (hF.ev rfl) (row_at0 (i := 4) hS rfl (by first | assumption | rfl))) ?_; clear hF; intro a hF
                        refine s_pu hF rfl rfl rfl (pu_move (hF.ev rfl)) ?_; clear hF; intro a hF
                        refine s_pu hF rfl rfl rfl (pu_sneq (hF.ev rfl) (hF.ev rfl)) ?_; clear hF; intro a hF
                        refine s_pu hF rfl rfl rfl ((by first | exact pu_pick_t (hF.ev rfl) (hF.ev rfl) | exact pu_pick_f (hF.ev rfl) (hF.ev rfl) | exact pu_pick (hF.ev rfl) (hF.ev rfl) (hF.ev rfl))) ?_; clear hF; intro a hF
                        refine s_done ?_
                        refine hK32 _ _ ?_; clear hK32
                        refine wp_cond_split (hF.ev rfl) (fun hc11 => ?_) (fun hc11 => ?_)
                        · -- cond 11 true
                          try simp only [decide_eq_true_eq, decide_eq_false_iff_not, Bool.not_eq_true', Bool.not_eq_false', Int.not_lt, Int.not_le, ne_eq, Decidable.not_not, Bool.or_eq_true, Bool.or_eq_false_iff, Bool.and_eq_true, Bool.and_eq_false_imp] at hc11
                          first | exact absurd rfl hc11 | exact absurd trivial hc11
                        · -- cond 11 false
                          try simp only [decide_eq_true_eq, decide_eq_false_iff_not, Bool.not_eq_true', Bool.not_eq_false', Int.not_lt, Int.not_le, ne_eq, Decidable.not_not, Bool.or_eq_true, Bool.or_eq_false_iff, Bool.and_eq_true, Bool.and_eq_false_imp] at hc11
                          refine wp_skip ?_
                          refine blk_normal ?_
                          exact ⟨put, f, c, sent + 1, done, dead, true, 0, ⟨by omega, by omega, by omega, fun _ => by omega, by omega, by omega, by omega, by omega⟩, hF.sub ⟨rfl, rfl, rfl, rfl, rfl, rfl, rfl, rfl, rfl, rfl, rfl, trivial⟩, hS.drop 1⟩
              · -- b1
                -- region 30
                refine wp_region_lit ?_
                refine s_pu hF rfl rfl rfl (pu_move (hF.ev rfl)) ?_; clear hF; intro a hF
                refine s_en hF rfl rfl rfl (run_fn fk11 (hF.ev rfl) (hF.evs rfl)) (next_c 0 hS (hO.ok hZ (by omega)) (by show (0 + (onL f c).length + 2) * 8 ≤ _; rw [onL_len]; omega)) ?_
                clear hS; rintro e w ⟨h, rfl, ⟨_, _, _, rfl⟩, hS⟩
                rw [hN] at hS ⊢
                refine ⟨_, rfl, ?_⟩; clear hF; intro a hF
                refine s_pu hF rfl rfl rfl (pu_move (hF.ev rfl)) ?_; clear hF; intro a hF
                refine s_pu hF rfl rfl rfl (pu_extract (hF.ev rfl) rfl) ?_; clear hF; intro a hF
                refine s_pu hF rfl rfl rfl (pu_extract (hF.ev rfl) rfl) ?_; clear hF; intro a hF
                refine s_newp hF rfl rfl rfl (ef_alloc (cs := #[_, _]) ze31 rfl) hS ?_; clear hF hS; intro b23 w hS a hF
                (first | (refine s_store (vs := [_, _]) (cs' := #[_, _]) 0 hF rfl (hF.ev rfl) (hF.ev rfl) hS rfl rfl sz31 (by first | rfl | (simp only [List.all_cons, List.all_nil, Value.oneCell', Bool.and_true, Bool.true_and]; assumption) | (simp [Value.oneCell', *]; done)) (by first | exact Nat.le_of_ble_eq_true rfl | (simp [Value.cells]; omega)) rfl ?_) | (refine s_store (vs := [_, _]) (cs' := #[_, _]) 1 hF rfl (hF.ev rfl) (hF.ev rfl) hS rfl rfl sz31 (by first | rfl | (simp only [List.all_cons, List.all_nil, Value.oneCell', Bool.and_true, Bool.true_and]; assumption) | (simp [Value.oneCell', *]; done)) (by first | exact Nat.le_of_ble_eq_true rfl | (simp [Value.cells]; omega)) rfl ?_) | (refine s_store (vs := [_, _]) (cs' := #[_, _]) 2 hF rfl (hF.ev rfl) (hF.ev rfl) hS rfl rfl sz31 (by first | rfl | (simp only [List.all_cons, List.all_nil, Value.oneCell', Bool.and_true, Bool.true_and]; assumption) | (simp [Value.oneCell', *]; done)) (by first | exact Nat.le_of_ble_eq_true rfl | (simp [Value.cells]; omega)) rfl ?_) | (refine s_store (vs := [_, _]) (cs' := #[_, _]) 3 hF rfl (hF.ev rfl) (hF.ev rfl) hS rfl rfl sz31 (by first | rfl | (simp only [List.all_cons, List.all_nil, Value.oneCell', Bool.and_true, Bool.true_and]; assumption) | (simp [Value.oneCell', *]; done)) (by first | exact Nat.le_of_ble_eq_true rfl | (simp [Value.cells]; omega)) rfl ?_) | (refine s_store (vs := [_, _]) (cs' := #[_, _]) 4 hF rfl (hF.ev rfl) (hF.ev rfl) hS rfl rfl sz31 (by first | rfl | (simp only [List.all_cons, List.all_nil, Value.oneCell', Bool.and_true, Bool.true_and]; assumption) | (simp [Value.oneCell', *]; done)) (by first | exact Nat.le_of_ble_eq_true rfl | (simp [Value.cells]; omega)) rfl ?_) | (refine s_store (vs := [_, _]) (cs' := _) 0 hF rfl (hF.ev rfl) (hF.ev rfl) hS rfl rfl sz31 (by first | rfl | (simp only [List.all_cons, List.all_nil, Value.oneCell', Bool.and_true, Bool.true_and]; assumption) | (simp [Value.oneCell', *]; done)) (by first | exact Nat.le_of_ble_eq_true rfl | (simp [Value.cells]; omega)) rfl ?_) | (refine s_store (vs := [_, _]) (cs' := _) 1 hF rfl (hF.ev rfl) (hF.ev rfl) hS rfl rfl sz31 (by first | rfl | (simp only [List.all_cons, List.all_nil, Value.oneCell', Bool.and_true, Bool.true_and]; assumption) | (simp [Value.oneCell', *]; done)) (by first | exact Nat.le_of_ble_eq_true rfl | (simp [Value.cells]; omega)) rfl ?_) | (refine s_store (vs := [_, _]) (cs' := _) 2 hF rfl (hF.ev rfl) (hF.ev rfl) hS rfl rfl sz31 (by first | rfl | (simp only [List.all_cons, List.all_nil, Value.oneCell', Bool.and_true, Bool.true_and]; assumption) | (simp [Value.oneCell', *]; done)) (by first | exact Nat.le_of_ble_eq_true rfl | (simp [Value.cells]; omega)) rfl ?_) | (refine s_store (vs := [_, _]) (cs' := _) 3 hF rfl (hF.ev rfl) (hF.ev rfl) hS rfl rfl sz31 (by first | rfl | (simp only [List.all_cons, List.all_nil, Value.oneCell', Bool.and_true, Bool.true_and]; assumption) | (simp [Value.oneCell', *]; done)) (by first | exact Nat.le_of_ble_eq_true rfl | (simp [Value.cells]; omega)) rfl ?_) | (refine s_store (vs := [_, _]) (cs' := _) 4 hF rfl (hF.ev rfl) (hF.ev rfl) hS rfl rfl sz31 (by first | rfl | (simp only [List.all_cons, List.all_nil, Value.oneCell', Bool.and_true, Bool.true_and]; assumption) | (simp [Value.oneCell', *]; done)) (by first | exact Nat.le_of_ble_eq_true rfl | (simp [Value.cells]; omega)) rfl ?_))
                clear hS; intro w hS; (try simp only [upd, del] at hS)
                refine s_pu hF rfl rfl rfl (pu_assign (hF.ev rfl)) ?_; clear hF; intro a hF
                refine s_done ?_
                refine hK21 _ _ ?_; clear hK21
                refine wp_seq_k fun K22 hK22 => ?_
                -- region 31
                refine wp_region_lit ?_
                refine s_pu hF rfl rfl rfl (pu_move (hF.ev rfl)) ?_; clear hF; intro a hF
                refine s_en hF rfl rfl rfl (run_fn fk14 (hF.ev rfl) (hF.evs rfl)) (at_place 2 hS rfl (fun h => gone_c h)) ?_
                clear hS; rintro e w ⟨gp, gq, rfl, hS⟩
                refine ⟨_, rfl, ?_⟩; clear hF; intro a hF
                refine s_pu hF rfl rfl rfl (pu_assign (hF.ev rfl)) ?_; clear hF; intro a hF
                refine s_done ?_
                refine hK22 _ _ ?_; clear hK22
                refine wp_seq_k fun K23 hK23 => ?_
                refine wp_seq_k fun K24 hK24 => ?_
                -- region 32
                refine wp_region_lit ?_
                refine s_pu hF rfl rfl rfl (pu_assign (hF.ev rfl)) ?_; clear hF; intro a hF
                refine s_done ?_
                refine hK24 _ _ ?_; clear hK24
                refine wp_block ?_
                replace hS := hS.tail.drop 2
                refine wp_ind (fun j a w => Fr a 263 [(3, .slice (some x) l3 q3), (10, .int .i64 m), (11, .int .i64 r), (12, .int .i64 t), (13, .pointer (some ⟨g, 0, none⟩)), (15, .int .i64 put), (16, .int .i64 f), (17, .int .i64 sent), (18, .int .i64 done), (19, .int .i64 dead), (20, .int .i64 i), (23, .pointer (some ⟨b23, 0, none⟩)), (24, .bool true), (25, .slice gp 0 gq), (26, .int .i64 0)] ∧
                  Sat W w [queueC 0 g (onQ m r t f c (sent + 1) true 0 [] dead), .obj b23 (.cells #[.string (txt f ++ rr), _] 31 (0, 0)), whole W]) 0
                  ⟨hF.sub ⟨rfl, rfl, rfl, rfl, rfl, rfl, rfl, rfl, rfl, rfl, rfl, rfl, rfl, rfl, rfl, trivial⟩, hS⟩ ?_
                clear hS hF
                rintro j a w ⟨hF, hS⟩
                refine wp_seq_k fun K25 hK25 => ?_
                refine wp_seq_k fun K26 hK26 => ?_
                -- region 33
                refine wp_region_lit ?_
                refine s_pu hF rfl rfl rfl (pu_move (hF.ev rfl)) ?_; clear hF; intro a hF
                refine s_pu hF rfl rfl rfl (pu_move (hF.ev rfl)) ?_; clear hF; intro a hF
                refine s_pu hF rfl rfl rfl (pu_len sl38 (hF.ev rfl)) ?_; clear hF; intro a hF
                refine s_pu hF rfl rfl rfl (pu_lss (hF.ev rfl) (hF.ev rfl)) ?_; clear hF; intro a hF
                refine s_done ?_
                refine hK26 _ _ ?_; clear hK26
                refine wp_cond_split (hF.ev rfl) (fun hc7 => ?_) (fun hc7 => ?_)
                · -- cond 7 true
                  try simp only [decide_eq_true_eq, decide_eq_false_iff_not, Bool.not_eq_true', Bool.not_eq_false', Int.not_lt, Int.not_le, ne_eq, Decidable.not_not, Bool.or_eq_true, Bool.or_eq_false_iff, Bool.and_eq_true, Bool.and_eq_false_imp] at hc7
                  omega
                · -- cond 7 false
                  try simp only [decide_eq_true_eq, decide_eq_false_iff_not, Bool.not_eq_true', Bool.not_eq_false', Int.not_lt, Int.not_le, ne_eq, Decidable.not_not, Bool.or_eq_true, Bool.or_eq_false_iff, Bool.and_eq_true, Bool.and_eq_false_imp] at hc7
                  refine wp_exit ?_
                  refine then_exit ?_
                  refine then_exit ?_
                  refine blk_exit ?_
                  refine hK23 _ _ ?_; clear hK23
                  refine wp_seq_k fun K27 hK27 => ?_
                  -- region 40
                  refine wp_region_lit ?_
                  refine s_pu hF rfl rfl rfl (pu_move (hF.ev rfl)) ?_; clear hF; intro a hF
                  refine s_done ?_
                  refine hK27 _ _ ?_; clear hK27
                  refine wp_cond_true (hF.ev rfl) ?_
                  refine wp_seq_k fun K28 hK28 => ?_
                  -- region 41
                  refine wp_region_lit ?_
                  refine s_pu hF rfl rfl rfl (pu_move (hF.ev rfl)) ?_; clear hF; intro a hF
                  refine s_pu hF rfl rfl rfl ((by first | exact pu_add64 (hF.ev rfl) (hF.ev rfl) (by omega) | exact pu_add (hF.ev rfl) (hF.ev rfl))) ?_; clear hF; intro a hF
                  refine s_pu hF rfl rfl rfl (pu_assign (hF.ev rfl)) ?_; clear hF; intro a hF
                  refine s_done ?_
                  refine hK28 _ _ ?_; clear hK28
                  refine wp_seq_k fun K29 hK29 => ?_
                  -- region 42
                  refine wp_region_lit ?_
                  refine s_pu hF rfl rfl rfl (pu_move (hF.ev rfl)) ?_; clear hF; intro a hF
                  refine s_en hF rfl rfl rfl (run_fn fk25 (hF.ev rfl) (hF.evs rfl)) (text_c hS (by omega)) ?_
                  clear hS; rintro e w ⟨rfl, hsz1, hS⟩
                  refine ⟨_, rfl, ?_⟩; clear hF; intro a hF
                  refine s_pu hF rfl rfl rfl (pu_assign (hF.ev rfl)) ?_; clear hF; intro a hF
                  refine s_done ?_
                  refine hK29 _ _ ?_; clear hK29
                  refine wp_seq_k fun K30 hK30 => ?_
                  refine wp_seq_k fun K31 hK31 => ?_
                  -- region 43
                  refine wp_region_lit ?_
                  refine s_pu hF rfl rfl rfl (pu_move (hF.ev rfl)) ?_; clear hF; intro a hF
                  refine s_pu hF rfl rfl rfl (pu_gtr (hF.ev rfl) (hF.ev rfl)) ?_; clear hF; intro a hF
                  refine s_done ?_
                  refine hK31 _ _ ?_; clear hK31
                  refine wp_cond_split (hF.ev rfl) (fun hc10 => ?_) (fun hc10 => ?_)
                  · -- cond 10 true
                    try simp only [decide_eq_true_eq, decide_eq_false_iff_not, Bool.not_eq_true', Bool.not_eq_false', Int.not_lt, Int.not_le, ne_eq, Decidable.not_not, Bool.or_eq_true, Bool.or_eq_false_iff, Bool.and_eq_true, Bool.and_eq_false_imp] at hc10
                    -- region 44
                    refine wp_region_lit ?_
                    refine s_pu hF rfl rfl rfl (pu_move (hF.ev rfl)) ?_; clear hF; intro a hF
                    refine s_pu hF rfl rfl rfl (pu_sadd (hF.ev rfl) (hF.ev rfl) (by omega)) ?_; clear hF; intro a hF
                    refine s_pu hF rfl rfl rfl (pu_assign (hF.ev rfl)) ?_; clear hF; intro a hF
                    refine s_done ?_
                    refine hK30 _ _ ?_; clear hK30
                    refine wp_seq_k fun K32 hK32 => ?_
                    -- region 45
                    refine wp_region_lit ?_
                    refine s_pu hF rfl rfl rfl (pu_move (hF.ev rfl)) ?_; clear hF; intro a hF
                    refine s_pu hF rfl rfl rfl (pu_move (hF.ev rfl)) ?_; clear hF; intro a hF
                    refine s_pu hF rfl rfl rfl (pu_gtr (hF.ev rfl) (hF.ev rfl)) ?_; clear hF; intro a hF
                    refine s_pu hF rfl rfl rfl (pu_move (hF.ev rfl)) ?_; clear hF; intro a hF
                    refine fr_split hF (t := 159) rfl ?_ ?_
                    · clear hF; intro hg159 hF   -- slot 159 true
                      try simp only [decide_eq_true_eq, decide_eq_false_iff_not, Bool.not_eq_true', Bool.not_eq_false', Int.not_lt, Int.not_le, ne_eq, Decidable.not_not, Bool.or_eq_true, Bool.or_eq_false_iff, Bool.and_eq_true, Bool.and_eq_false_imp] at hg159
                      omega
                    · clear hF; intro hg159 hF   -- slot 159 false
                      try simp only [decide_eq_true_eq, decide_eq_false_iff_not, Bool.not_eq_true', Bool.not_eq_false', Int.not_lt, Int.not_le, ne_eq, Decidable.not_not, Bool.or_eq_true, Bool.or_eq_false_iff, Bool.and_eq_true, Bool.and_eq_false_imp] at hg159
                      refine s_pu hF rfl rfl rfl (pu_move (hF.ev rfl)) ?_; clear hF; intro a hF
                      refine s_pu hF rfl rfl rfl (pu_move (hF.ev rfl)) ?_; clear hF; intro a hF
                      refine s_pu hF rfl rfl rfl (pu_gtr (hF.ev rfl) (hF.ev rfl)) ?_; clear hF; intro a hF
                      refine s_pu hF rfl rfl rfl ((by first | exact pu_pick_t (hF.ev rfl) (hF.ev rfl) | exact pu_pick_f (hF.ev rfl) (hF.ev rfl) | exact pu_pick (hF.ev rfl) (hF.ev rfl) (hF.ev rfl))) ?_; clear hF; intro a hF
                      refine s_pu hF rfl rfl rfl (pu_move (hF.ev rfl)) ?_; clear hF; intro a hF
                      refine fr_split hF (t := 164) rfl ?_ ?_
                      · clear hF; intro hg164 hF   -- slot 164 true
                        try simp only [decide_eq_true_eq, decide_eq_false_iff_not, Bool.not_eq_true', Bool.not_eq_false', Int.not_lt, Int.not_le, ne_eq, Decidable.not_not, Bool.or_eq_true, Bool.or_eq_false_iff, Bool.and_eq_true, Bool.and_eq_false_imp] at hg164
                        first | omega | (simp at hg164; omega)
                      · clear hF; intro hg164 hF   -- slot 164 false
                        try simp only [decide_eq_true_eq, decide_eq_false_iff_not, Bool.not_eq_true', Bool.not_eq_false', Int.not_lt, Int.not_le, ne_eq, Decidable.not_not, Bool.or_eq_true, Bool.or_eq_false_iff, Bool.and_eq_true, Bool.and_eq_false_imp] at hg164
                        refine s_pu hF rfl rfl rfl (pu_field fd31_0 (hF.ev rfl)) ?_; clear hF; intro a hF
                        refine s_rd hF rfl rfl rfl (by first | exact rd_load pl9 (hF.ev rfl) (by assumption) | exact rd_load pl9 (hF.ev rfl) (hS.cellL (i := 0) rfl rfl) | exact rd_load pl9 (hF.ev rfl) (hS.cellL (i := 1) rfl rfl) | exact rd_load pl9 (hF.ev rfl) (hS.cellL (i := 2) rfl rfl) | exact rd_load pl9 (hF.ev rfl) (hS.cellL (i := 3) rfl rfl) | exact rd_load pl9 (hF.ev rfl) (hS.cellL (i := 4) rfl rfl) | exact rd_load pl9 (hF.ev rfl) (hS.cell (i := 0) rfl (by assumption)) | exact rd_load pl9 (hF.ev rfl) (hS.cell (i := 1) rfl (by assumption)) | exact rd_load pl9 (hF.ev rfl) (hS.cell (i := 2) rfl (by assumption)) | exact rd_load pl9 (hF.ev rfl) (hS.cell (i := 3) rfl (by assumption)) | exact rd_load pl9 (hF.ev rfl) (hS.cell (i := 4) rfl (by assumption)) | exact rd_load pl9 (hF.ev rfl) (row_at (i := 0) hS rfl (by first | assumption | rfl)) | exact rd_load pl9 (hF.ev rfl) (row_at0 (i := 0) hS rfl (by first | assumption | rfl)) | exact rd_load pl9 (hF.ev rfl) (row_at (i := 1) hS rfl (by first | assumption | rfl)) | exact rd_load pl9 (hF.ev rfl) (row_at0 (i := 1) hS rfl (by first | assumption | rfl)) | exact rd_load pl9 (hF.ev rfl) (row_at (i := 2) hS rfl (by first | assumption | rfl)) | exact rd_load pl9 (hF.ev rfl) (row_at0 (i := 2) hS rfl (by first | assumption | rfl)) | exact rd_load pl9 (hF.ev rfl) (row_at (i := 3) hS rfl (by first | assumption | rfl)) | exact rd_load pl9 (hF.ev rfl) (row_at0 (i := 3) hS rfl (by first | assumption | rfl)) | exact rd_load pl9 (hF.ev rfl) (row_at (i := 4) hS rfl (by first | assumption | rfl)) | exact rd_load pl9 (hF.ev rfl) (row_at0 (i := 4) hS rfl (by first | assumption | rfl))) ?_; clear hF; intro a hF
                        refine s_pu hF rfl rfl rfl (pu_move (hF.ev rfl)) ?_; clear hF; intro a hF
                        refine s_pu hF rfl rfl rfl (pu_sneq (hF.ev rfl) (hF.ev rfl)) ?_; clear hF; intro a hF
                        refine s_pu hF rfl rfl rfl ((by first | exact pu_pick_t (hF.ev rfl) (hF.ev rfl) | exact pu_pick_f (hF.ev rfl) (hF.ev rfl) | exact pu_pick (hF.ev rfl) (hF.ev rfl) (hF.ev rfl))) ?_; clear hF; intro a hF
                        refine s_done ?_
                        refine hK32 _ _ ?_; clear hK32
                        refine wp_cond_split (hF.ev rfl) (fun hc11 => ?_) (fun hc11 => ?_)
                        · -- cond 11 true
                          try simp only [decide_eq_true_eq, decide_eq_false_iff_not, Bool.not_eq_true', Bool.not_eq_false', Int.not_lt, Int.not_le, ne_eq, Decidable.not_not, Bool.or_eq_true, Bool.or_eq_false_iff, Bool.and_eq_true, Bool.and_eq_false_imp] at hc11
                          first | exact absurd rfl hc11 | exact absurd trivial hc11
                        · -- cond 11 false
                          try simp only [decide_eq_true_eq, decide_eq_false_iff_not, Bool.not_eq_true', Bool.not_eq_false', Int.not_lt, Int.not_le, ne_eq, Decidable.not_not, Bool.or_eq_true, Bool.or_eq_false_iff, Bool.and_eq_true, Bool.and_eq_false_imp] at hc11
                          refine wp_skip ?_
                          refine blk_normal ?_
                          exact ⟨put, f, c, sent + 1, done, dead, true, 0, ⟨by omega, by omega, by omega, fun _ => by omega, by omega, by omega, by omega, by omega⟩, hF.sub ⟨rfl, rfl, rfl, rfl, rfl, rfl, rfl, rfl, rfl, rfl, rfl, trivial⟩, hS.drop 1⟩
                  · -- cond 10 false
                    try simp only [decide_eq_true_eq, decide_eq_false_iff_not, Bool.not_eq_true', Bool.not_eq_false', Int.not_lt, Int.not_le, ne_eq, Decidable.not_not, Bool.or_eq_true, Bool.or_eq_false_iff, Bool.and_eq_true, Bool.and_eq_false_imp] at hc10
                    omega
              · -- c
                -- region 30
                refine wp_region_lit ?_
                refine s_pu hF rfl rfl rfl (pu_move (hF.ev rfl)) ?_; clear hF; intro a hF
                refine s_en hF rfl rfl rfl (run_fn fk11 (hF.ev rfl) (hF.evs rfl)) (next_c 0 hS (hO.ok hZ (by omega)) (by show (0 + (onL f c).length + 2) * 8 ≤ _; rw [onL_len]; omega)) ?_
                clear hS; rintro e w ⟨h, rfl, ⟨_, _, _, rfl⟩, hS⟩
                rw [hN] at hS ⊢
                refine ⟨_, rfl, ?_⟩; clear hF; intro a hF
                refine s_pu hF rfl rfl rfl (pu_move (hF.ev rfl)) ?_; clear hF; intro a hF
                refine s_pu hF rfl rfl rfl (pu_extract (hF.ev rfl) rfl) ?_; clear hF; intro a hF
                refine s_pu hF rfl rfl rfl (pu_extract (hF.ev rfl) rfl) ?_; clear hF; intro a hF
                refine s_newp hF rfl rfl rfl (ef_alloc (cs := #[_, _]) ze31 rfl) hS ?_; clear hF hS; intro b23 w hS a hF
                (first | (refine s_store (vs := [_, _]) (cs' := #[_, _]) 0 hF rfl (hF.ev rfl) (hF.ev rfl) hS rfl rfl sz31 (by first | rfl | (simp only [List.all_cons, List.all_nil, Value.oneCell', Bool.and_true, Bool.true_and]; assumption) | (simp [Value.oneCell', *]; done)) (by first | exact Nat.le_of_ble_eq_true rfl | (simp [Value.cells]; omega)) rfl ?_) | (refine s_store (vs := [_, _]) (cs' := #[_, _]) 1 hF rfl (hF.ev rfl) (hF.ev rfl) hS rfl rfl sz31 (by first | rfl | (simp only [List.all_cons, List.all_nil, Value.oneCell', Bool.and_true, Bool.true_and]; assumption) | (simp [Value.oneCell', *]; done)) (by first | exact Nat.le_of_ble_eq_true rfl | (simp [Value.cells]; omega)) rfl ?_) | (refine s_store (vs := [_, _]) (cs' := #[_, _]) 2 hF rfl (hF.ev rfl) (hF.ev rfl) hS rfl rfl sz31 (by first | rfl | (simp only [List.all_cons, List.all_nil, Value.oneCell', Bool.and_true, Bool.true_and]; assumption) | (simp [Value.oneCell', *]; done)) (by first | exact Nat.le_of_ble_eq_true rfl | (simp [Value.cells]; omega)) rfl ?_) | (refine s_store (vs := [_, _]) (cs' := #[_, _]) 3 hF rfl (hF.ev rfl) (hF.ev rfl) hS rfl rfl sz31 (by first | rfl | (simp only [List.all_cons, List.all_nil, Value.oneCell', Bool.and_true, Bool.true_and]; assumption) | (simp [Value.oneCell', *]; done)) (by first | exact Nat.le_of_ble_eq_true rfl | (simp [Value.cells]; omega)) rfl ?_) | (refine s_store (vs := [_, _]) (cs' := #[_, _]) 4 hF rfl (hF.ev rfl) (hF.ev rfl) hS rfl rfl sz31 (by first | rfl | (simp only [List.all_cons, List.all_nil, Value.oneCell', Bool.and_true, Bool.true_and]; assumption) | (simp [Value.oneCell', *]; done)) (by first | exact Nat.le_of_ble_eq_true rfl | (simp [Value.cells]; omega)) rfl ?_) | (refine s_store (vs := [_, _]) (cs' := _) 0 hF rfl (hF.ev rfl) (hF.ev rfl) hS rfl rfl sz31 (by first | rfl | (simp only [List.all_cons, List.all_nil, Value.oneCell', Bool.and_true, Bool.true_and]; assumption) | (simp [Value.oneCell', *]; done)) (by first | exact Nat.le_of_ble_eq_true rfl | (simp [Value.cells]; omega)) rfl ?_) | (refine s_store (vs := [_, _]) (cs' := _) 1 hF rfl (hF.ev rfl) (hF.ev rfl) hS rfl rfl sz31 (by first | rfl | (simp only [List.all_cons, List.all_nil, Value.oneCell', Bool.and_true, Bool.true_and]; assumption) | (simp [Value.oneCell', *]; done)) (by first | exact Nat.le_of_ble_eq_true rfl | (simp [Value.cells]; omega)) rfl ?_) | (refine s_store (vs := [_, _]) (cs' := _) 2 hF rfl (hF.ev rfl) (hF.ev rfl) hS rfl rfl sz31 (by first | rfl | (simp only [List.all_cons, List.all_nil, Value.oneCell', Bool.and_true, Bool.true_and]; assumption) | (simp [Value.oneCell', *]; done)) (by first | exact Nat.le_of_ble_eq_true rfl | (simp [Value.cells]; omega)) rfl ?_) | (refine s_store (vs := [_, _]) (cs' := _) 3 hF rfl (hF.ev rfl) (hF.ev rfl) hS rfl rfl sz31 (by first | rfl | (simp only [List.all_cons, List.all_nil, Value.oneCell', Bool.and_true, Bool.true_and]; assumption) | (simp [Value.oneCell', *]; done)) (by first | exact Nat.le_of_ble_eq_true rfl | (simp [Value.cells]; omega)) rfl ?_) | (refine s_store (vs := [_, _]) (cs' := _) 4 hF rfl (hF.ev rfl) (hF.ev rfl) hS rfl rfl sz31 (by first | rfl | (simp only [List.all_cons, List.all_nil, Value.oneCell', Bool.and_true, Bool.true_and]; assumption) | (simp [Value.oneCell', *]; done)) (by first | exact Nat.le_of_ble_eq_true rfl | (simp [Value.cells]; omega)) rfl ?_))
                clear hS; intro w hS; (try simp only [upd, del] at hS)
                refine s_pu hF rfl rfl rfl (pu_assign (hF.ev rfl)) ?_; clear hF; intro a hF
                refine s_done ?_
                refine hK21 _ _ ?_; clear hK21
                refine wp_seq_k fun K22 hK22 => ?_
                -- region 31
                refine wp_region_lit ?_
                refine s_pu hF rfl rfl rfl (pu_move (hF.ev rfl)) ?_; clear hF; intro a hF
                refine s_en hF rfl rfl rfl (run_fn fk14 (hF.ev rfl) (hF.evs rfl)) (at_place 1 hS rfl (fun h => gone_c h)) ?_
                clear hS; rintro e w ⟨gp, gq, rfl, hS⟩
                refine ⟨_, rfl, ?_⟩; clear hF; intro a hF
                refine s_pu hF rfl rfl rfl (pu_assign (hF.ev rfl)) ?_; clear hF; intro a hF
                refine s_done ?_
                refine hK22 _ _ ?_; clear hK22
                refine wp_seq_k fun K23 hK23 => ?_
                refine wp_seq_k fun K24 hK24 => ?_
                -- region 32
                refine wp_region_lit ?_
                refine s_pu hF rfl rfl rfl (pu_assign (hF.ev rfl)) ?_; clear hF; intro a hF
                refine s_done ?_
                refine hK24 _ _ ?_; clear hK24
                refine wp_block ?_
                obtain ⟨gg, rfl⟩ := row_some (i := 0) hS rfl (by simp [onQ])
                refine wp_ind (fun j a w => ∃ kk : Nat, j = 1 - kk ∧ kk ≤ 1 ∧ Fr a 263 [(3, .slice (some x) l3 q3), (10, .int .i64 m), (11, .int .i64 r), (12, .int .i64 t), (13, .pointer (some ⟨g, 0, none⟩)), (15, .int .i64 put), (16, .int .i64 (f + kk : Nat)), (17, .int .i64 (if kk = 0 then sent else 0 : Nat)), (18, .int .i64 done), (19, .int .i64 (dead + kk : Nat)), (20, .int .i64 i), (23, .pointer (some ⟨b23, 0, none⟩)), (24, .bool false), (25, .slice (some ⟨gg, 0, none⟩) 1 gq), (26, .int .i64 kk)] ∧
                  Sat W w [rowC 3 1 (.slice (some ⟨gg, 0, none⟩) 1 gq) 1 [.int .i64 f], queueC 0 g (onQ m r t (f + 1) 0 0 false 0 [] (dead + 1)), .obj b23 (.cells #[.string .empty, _] 31 (0, 0)), whole W]) 1
                  ⟨0, by omega, by omega, hF.sub ⟨rfl, rfl, rfl, rfl, rfl, rfl, rfl, rfl, rfl, rfl, rfl, rfl, rfl, rfl, rfl, trivial⟩, hS⟩ ?_
                clear hS hF
                rintro j a w ⟨kk, rfl, hkk, hF, hS⟩
                refine wp_seq_k fun K25 hK25 => ?_
                refine wp_seq_k fun K26 hK26 => ?_
                -- region 33
                refine wp_region_lit ?_
                refine s_pu hF rfl rfl rfl (pu_move (hF.ev rfl)) ?_; clear hF; intro a hF
                refine s_pu hF rfl rfl rfl (pu_move (hF.ev rfl)) ?_; clear hF; intro a hF
                refine s_pu hF rfl rfl rfl (pu_len sl38 (hF.ev rfl)) ?_; clear hF; intro a hF
                refine s_pu hF rfl rfl rfl (pu_lss (hF.ev rfl) (hF.ev rfl)) ?_; clear hF; intro a hF
                refine s_done ?_
                refine hK26 _ _ ?_; clear hK26
                refine wp_cond_split (hF.ev rfl) (fun hc7 => ?_) (fun hc7 => ?_)
                · -- cond 7 true
                  try simp only [decide_eq_true_eq, decide_eq_false_iff_not, Bool.not_eq_true', Bool.not_eq_false', Int.not_lt, Int.not_le, ne_eq, Decidable.not_not, Bool.or_eq_true, Bool.or_eq_false_iff, Bool.and_eq_true, Bool.and_eq_false_imp] at hc7
                  have hk0 : kk = 0 := by omega
                  subst hk0
                  have hrow := row_at0 (i := 0) hS rfl (v := .int .i64 (f : Int)) rfl
                  refine wp_skip ?_
                  refine hK25 _ _ ?_; clear hK25
                  refine wp_seq_k fun K27 hK27 => ?_
                  refine wp_block ?_
                  refine wp_seq_k fun K28 hK28 => ?_
                  refine wp_seq_k fun K29 hK29 => ?_
                  -- region 35
                  refine wp_region_lit ?_
                  refine s_pu hF rfl rfl rfl (pu_move (hF.ev rfl)) ?_; clear hF; intro a hF
                  refine s_pu hF rfl rfl rfl (pu_move (hF.ev rfl)) ?_; clear hF; intro a hF
                  refine s_pu hF rfl rfl rfl ((by first | exact pu_elem sl38 (hF.ev rfl) (hF.ev rfl) (by first | omega | simp) (by first | omega | (simp; done) | (simp; omega)) | exact pu_elemA sl38 (hF.ev rfl) (hF.ev rfl) (by omega) (by omega))) ?_; clear hF; intro a hF
                  refine s_rd hF rfl rfl rfl (by first | exact rd_load pl3 (hF.ev rfl) (by assumption) | exact rd_load pl3 (hF.ev rfl) (hS.cellL (i := 0) rfl rfl) | exact rd_load pl3 (hF.ev rfl) (hS.cellL (i := 1) rfl rfl) | exact rd_load pl3 (hF.ev rfl) (hS.cellL (i := 2) rfl rfl) | exact rd_load pl3 (hF.ev rfl) (hS.cellL (i := 3) rfl rfl) | exact rd_load pl3 (hF.ev rfl) (hS.cellL (i := 4) rfl rfl) | exact rd_load pl3 (hF.ev rfl) (hS.cell (i := 0) rfl (by assumption)) | exact rd_load pl3 (hF.ev rfl) (hS.cell (i := 1) rfl (by assumption)) | exact rd_load pl3 (hF.ev rfl) (hS.cell (i := 2) rfl (by assumption)) | exact rd_load pl3 (hF.ev rfl) (hS.cell (i := 3) rfl (by assumption)) | exact rd_load pl3 (hF.ev rfl) (hS.cell (i := 4) rfl (by assumption)) | exact rd_load pl3 (hF.ev rfl) (row_at (i := 0) hS rfl (by first | assumption | rfl)) | exact rd_load pl3 (hF.ev rfl) (row_at0 (i := 0) hS rfl (by first | assumption | rfl)) | exact rd_load pl3 (hF.ev rfl) (row_at (i := 1) hS rfl (by first | assumption | rfl)) | exact rd_load pl3 (hF.ev rfl) (row_at0 (i := 1) hS rfl (by first | assumption | rfl)) | exact rd_load pl3 (hF.ev rfl) (row_at (i := 2) hS rfl (by first | assumption | rfl)) | exact rd_load pl3 (hF.ev rfl) (row_at0 (i := 2) hS rfl (by first | assumption | rfl)) | exact rd_load pl3 (hF.ev rfl) (row_at (i := 3) hS rfl (by first | assumption | rfl)) | exact rd_load pl3 (hF.ev rfl) (row_at0 (i := 3) hS rfl (by first | assumption | rfl)) | exact rd_load pl3 (hF.ev rfl) (row_at (i := 4) hS rfl (by first | assumption | rfl)) | exact rd_load pl3 (hF.ev rfl) (row_at0 (i := 4) hS rfl (by first | assumption | rfl))) ?_; clear hF; intro a hF
                  refine s_pu hF rfl rfl rfl (pu_move (hF.ev rfl)) ?_; clear hF; intro a hF
                  refine s_pu hF rfl rfl rfl (pu_neq (hF.ev rfl) (hF.ev rfl)) ?_; clear hF; intro a hF
                  refine s_pu hF rfl rfl rfl (pu_move (hF.ev rfl)) ?_; clear hF; intro a hF
                  refine fr_split hF (t := 138) rfl ?_ ?_
                  · clear hF; intro hg138 hF   -- slot 138 true
                    try simp only [decide_eq_true_eq, decide_eq_false_iff_not, Bool.not_eq_true', Bool.not_eq_false', Int.not_lt, Int.not_le, ne_eq, Decidable.not_not, Bool.or_eq_true, Bool.or_eq_false_iff, Bool.and_eq_true, Bool.and_eq_false_imp] at hg138
                    first | exact absurd rfl hg138 | exact absurd trivial hg138 | omega
                  · clear hF; intro hg138 hF   -- slot 138 false
                    try simp only [decide_eq_true_eq, decide_eq_false_iff_not, Bool.not_eq_true', Bool.not_eq_false', Int.not_lt, Int.not_le, ne_eq, Decidable.not_not, Bool.or_eq_true, Bool.or_eq_false_iff, Bool.and_eq_true, Bool.and_eq_false_imp] at hg138
                    refine s_pu hF rfl rfl rfl (pu_move (hF.ev rfl)) ?_; clear hF; intro a hF
                    refine s_pu hF rfl rfl rfl (pu_move (hF.ev rfl)) ?_; clear hF; intro a hF
                    refine s_pu hF rfl rfl rfl (pu_neq (hF.ev rfl) (hF.ev rfl)) ?_; clear hF; intro a hF
                    refine s_pu hF rfl rfl rfl ((by first | exact pu_pick_t (hF.ev rfl) (hF.ev rfl) | exact pu_pick_f (hF.ev rfl) (hF.ev rfl) | exact pu_pick (hF.ev rfl) (hF.ev rfl) (hF.ev rfl))) ?_; clear hF; intro a hF
                    refine s_done ?_
                    refine hK29 _ _ ?_; clear hK29
                    refine wp_cond_split (hF.ev rfl) (fun hc8 => ?_) (fun hc8 => ?_)
                    · -- cond 8 true
                      try simp only [decide_eq_true_eq, decide_eq_false_iff_not, Bool.not_eq_true', Bool.not_eq_false', Int.not_lt, Int.not_le, ne_eq, Decidable.not_not, Bool.or_eq_true, Bool.or_eq_false_iff, Bool.and_eq_true, Bool.and_eq_false_imp] at hc8
                      simp at hc8
                      omega
                    · -- cond 8 false
                      try simp only [decide_eq_true_eq, decide_eq_false_iff_not, Bool.not_eq_true', Bool.not_eq_false', Int.not_lt, Int.not_le, ne_eq, Decidable.not_not, Bool.or_eq_true, Bool.or_eq_false_iff, Bool.and_eq_true, Bool.and_eq_false_imp] at hc8
                      refine wp_skip ?_
                      refine hK28 _ _ ?_; clear hK28
                      refine wp_seq_k fun K30 hK30 => ?_
                      -- region 37
                      refine wp_region_lit ?_
                      refine s_pu hF rfl rfl rfl (pu_move (hF.ev rfl)) ?_; clear hF; intro a hF
                      refine s_pu hF rfl rfl rfl ((by first | exact pu_add64 (hF.ev rfl) (hF.ev rfl) (by omega) | exact pu_add (hF.ev rfl) (hF.ev rfl))) ?_; clear hF; intro a hF
                      refine s_pu hF rfl rfl rfl (pu_assign (hF.ev rfl)) ?_; clear hF; intro a hF
                      refine s_done ?_
                      refine hK30 _ _ ?_; clear hK30
                      refine wp_seq_k fun K31 hK31 => ?_
                      -- region 38
                      refine wp_region_lit ?_
                      refine s_pu hF rfl rfl rfl (pu_assign (hF.ev rfl)) ?_; clear hF; intro a hF
                      refine s_done ?_
                      refine hK31 _ _ ?_; clear hK31
                      -- region 39
                      refine wp_region_lit ?_
                      refine s_pu hF rfl rfl rfl (pu_move (hF.ev rfl)) ?_; clear hF; intro a hF
                      refine s_pu hF rfl rfl rfl ((by first | exact pu_add64 (hF.ev rfl) (hF.ev rfl) (by omega) | exact pu_add (hF.ev rfl) (hF.ev rfl))) ?_; clear hF; intro a hF
                      refine s_pu hF rfl rfl rfl (pu_assign (hF.ev rfl)) ?_; clear hF; intro a hF
                      refine s_done ?_
                      refine blk_normal ?_
                      refine hK27 _ _ ?_; clear hK27
                      -- region 34
                      refine wp_region_lit ?_
                      refine s_pu hF rfl rfl rfl (pu_move (hF.ev rfl)) ?_; clear hF; intro a hF
                      refine s_pu hF rfl rfl rfl ((by first | exact pu_add64 (hF.ev rfl) (hF.ev rfl) (by omega) | exact pu_add (hF.ev rfl) (hF.ev rfl))) ?_; clear hF; intro a hF
                      refine s_pu hF rfl rfl rfl (pu_assign (hF.ev rfl)) ?_; clear hF; intro a hF
                      refine s_done ?_
                      refine ⟨_, by omega, 1, rfl, by omega, hF.sub ⟨rfl, rfl, rfl, rfl, rfl, rfl, rfl, rfl, rfl, rfl, rfl, rfl, rfl, rfl, rfl, trivial⟩, hS⟩
                · -- cond 7 false
                  try simp only [decide_eq_true_eq, decide_eq_false_iff_not, Bool.not_eq_true', Bool.not_eq_false', Int.not_lt, Int.not_le, ne_eq, Decidable.not_not, Bool.or_eq_true, Bool.or_eq_false_iff, Bool.and_eq_true, Bool.and_eq_false_imp] at hc7
                  have hk1 : kk = 1 := by omega
                  subst hk1
                  refine wp_exit ?_
                  refine then_exit ?_
                  refine then_exit ?_
                  refine blk_exit ?_
                  refine hK23 _ _ ?_; clear hK23
                  refine wp_seq_k fun K27 hK27 => ?_
                  -- region 40
                  refine wp_region_lit ?_
                  refine s_pu hF rfl rfl rfl (pu_move (hF.ev rfl)) ?_; clear hF; intro a hF
                  refine s_done ?_
                  refine hK27 _ _ ?_; clear hK27
                  refine wp_cond_false (hF.ev rfl) ?_
                  refine wp_skip ?_
                  refine blk_normal ?_
                  exact ⟨put, f + 1, 0, 0, done, dead + 1, false, 0, ⟨by omega, by omega, by omega, (fun h => by cases h), by omega, by omega, by omega, by omega⟩, hF.sub ⟨rfl, rfl, rfl, rfl, rfl, rfl, rfl, rfl, rfl, rfl, rfl, trivial⟩, hS.tail.drop 1⟩
              · -- d
                -- region 30
                refine wp_region_lit ?_
                refine s_pu hF rfl rfl rfl (pu_move (hF.ev rfl)) ?_; clear hF; intro a hF
                refine s_en hF rfl rfl rfl (run_fn fk11 (hF.ev rfl) (hF.evs rfl)) (next_c 0 hS (hO.ok hZ (by omega)) (by show (0 + (onL f c).length + 2) * 8 ≤ _; rw [onL_len]; omega)) ?_
                clear hS; rintro e w ⟨h, rfl, ⟨_, _, _, rfl⟩, hS⟩
                rw [hN] at hS ⊢
                refine ⟨_, rfl, ?_⟩; clear hF; intro a hF
                refine s_pu hF rfl rfl rfl (pu_move (hF.ev rfl)) ?_; clear hF; intro a hF
                refine s_pu hF rfl rfl rfl (pu_extract (hF.ev rfl) rfl) ?_; clear hF; intro a hF
                refine s_pu hF rfl rfl rfl (pu_extract (hF.ev rfl) rfl) ?_; clear hF; intro a hF
                refine s_newp hF rfl rfl rfl (ef_alloc (cs := #[_, _]) ze31 rfl) hS ?_; clear hF hS; intro b23 w hS a hF
                (first | (refine s_store (vs := [_, _]) (cs' := #[_, _]) 0 hF rfl (hF.ev rfl) (hF.ev rfl) hS rfl rfl sz31 (by first | rfl | (simp only [List.all_cons, List.all_nil, Value.oneCell', Bool.and_true, Bool.true_and]; assumption) | (simp [Value.oneCell', *]; done)) (by first | exact Nat.le_of_ble_eq_true rfl | (simp [Value.cells]; omega)) rfl ?_) | (refine s_store (vs := [_, _]) (cs' := #[_, _]) 1 hF rfl (hF.ev rfl) (hF.ev rfl) hS rfl rfl sz31 (by first | rfl | (simp only [List.all_cons, List.all_nil, Value.oneCell', Bool.and_true, Bool.true_and]; assumption) | (simp [Value.oneCell', *]; done)) (by first | exact Nat.le_of_ble_eq_true rfl | (simp [Value.cells]; omega)) rfl ?_) | (refine s_store (vs := [_, _]) (cs' := #[_, _]) 2 hF rfl (hF.ev rfl) (hF.ev rfl) hS rfl rfl sz31 (by first | rfl | (simp only [List.all_cons, List.all_nil, Value.oneCell', Bool.and_true, Bool.true_and]; assumption) | (simp [Value.oneCell', *]; done)) (by first | exact Nat.le_of_ble_eq_true rfl | (simp [Value.cells]; omega)) rfl ?_) | (refine s_store (vs := [_, _]) (cs' := #[_, _]) 3 hF rfl (hF.ev rfl) (hF.ev rfl) hS rfl rfl sz31 (by first | rfl | (simp only [List.all_cons, List.all_nil, Value.oneCell', Bool.and_true, Bool.true_and]; assumption) | (simp [Value.oneCell', *]; done)) (by first | exact Nat.le_of_ble_eq_true rfl | (simp [Value.cells]; omega)) rfl ?_) | (refine s_store (vs := [_, _]) (cs' := #[_, _]) 4 hF rfl (hF.ev rfl) (hF.ev rfl) hS rfl rfl sz31 (by first | rfl | (simp only [List.all_cons, List.all_nil, Value.oneCell', Bool.and_true, Bool.true_and]; assumption) | (simp [Value.oneCell', *]; done)) (by first | exact Nat.le_of_ble_eq_true rfl | (simp [Value.cells]; omega)) rfl ?_) | (refine s_store (vs := [_, _]) (cs' := _) 0 hF rfl (hF.ev rfl) (hF.ev rfl) hS rfl rfl sz31 (by first | rfl | (simp only [List.all_cons, List.all_nil, Value.oneCell', Bool.and_true, Bool.true_and]; assumption) | (simp [Value.oneCell', *]; done)) (by first | exact Nat.le_of_ble_eq_true rfl | (simp [Value.cells]; omega)) rfl ?_) | (refine s_store (vs := [_, _]) (cs' := _) 1 hF rfl (hF.ev rfl) (hF.ev rfl) hS rfl rfl sz31 (by first | rfl | (simp only [List.all_cons, List.all_nil, Value.oneCell', Bool.and_true, Bool.true_and]; assumption) | (simp [Value.oneCell', *]; done)) (by first | exact Nat.le_of_ble_eq_true rfl | (simp [Value.cells]; omega)) rfl ?_) | (refine s_store (vs := [_, _]) (cs' := _) 2 hF rfl (hF.ev rfl) (hF.ev rfl) hS rfl rfl sz31 (by first | rfl | (simp only [List.all_cons, List.all_nil, Value.oneCell', Bool.and_true, Bool.true_and]; assumption) | (simp [Value.oneCell', *]; done)) (by first | exact Nat.le_of_ble_eq_true rfl | (simp [Value.cells]; omega)) rfl ?_) | (refine s_store (vs := [_, _]) (cs' := _) 3 hF rfl (hF.ev rfl) (hF.ev rfl) hS rfl rfl sz31 (by first | rfl | (simp only [List.all_cons, List.all_nil, Value.oneCell', Bool.and_true, Bool.true_and]; assumption) | (simp [Value.oneCell', *]; done)) (by first | exact Nat.le_of_ble_eq_true rfl | (simp [Value.cells]; omega)) rfl ?_) | (refine s_store (vs := [_, _]) (cs' := _) 4 hF rfl (hF.ev rfl) (hF.ev rfl) hS rfl rfl sz31 (by first | rfl | (simp only [List.all_cons, List.all_nil, Value.oneCell', Bool.and_true, Bool.true_and]; assumption) | (simp [Value.oneCell', *]; done)) (by first | exact Nat.le_of_ble_eq_true rfl | (simp [Value.cells]; omega)) rfl ?_))
                clear hS; intro w hS; (try simp only [upd, del] at hS)
                refine s_pu hF rfl rfl rfl (pu_assign (hF.ev rfl)) ?_; clear hF; intro a hF
                refine s_done ?_
                refine hK21 _ _ ?_; clear hK21
                refine wp_seq_k fun K22 hK22 => ?_
                -- region 31
                refine wp_region_lit ?_
                refine s_pu hF rfl rfl rfl (pu_move (hF.ev rfl)) ?_; clear hF; intro a hF
                refine s_en hF rfl rfl rfl (run_fn fk14 (hF.ev rfl) (hF.evs rfl)) (at_place 2 hS rfl (fun h => gone_c h)) ?_
                clear hS; rintro e w ⟨gp, gq, rfl, hS⟩
                refine ⟨_, rfl, ?_⟩; clear hF; intro a hF
                refine s_pu hF rfl rfl rfl (pu_assign (hF.ev rfl)) ?_; clear hF; intro a hF
                refine s_done ?_
                refine hK22 _ _ ?_; clear hK22
                refine wp_seq_k fun K23 hK23 => ?_
                refine wp_seq_k fun K24 hK24 => ?_
                -- region 32
                refine wp_region_lit ?_
                refine s_pu hF rfl rfl rfl (pu_assign (hF.ev rfl)) ?_; clear hF; intro a hF
                refine s_done ?_
                refine hK24 _ _ ?_; clear hK24
                refine wp_block ?_
                obtain ⟨gg, rfl⟩ := row_some (i := 0) hS rfl (by simp [onQ])
                replace hS := hS.drop 3
                refine wp_ind (fun j a w => ∃ kk : Nat, j = 1 - kk ∧ kk ≤ 1 ∧ Fr a 263 [(3, .slice (some x) l3 q3), (10, .int .i64 m), (11, .int .i64 r), (12, .int .i64 t), (13, .pointer (some ⟨g, 0, none⟩)), (15, .int .i64 put), (16, .int .i64 (f + kk : Nat)), (17, .int .i64 (if kk = 0 then sent else 0 : Nat)), (18, .int .i64 done), (19, .int .i64 (dead + kk : Nat)), (20, .int .i64 i), (23, .pointer (some ⟨b23, 0, none⟩)), (24, .bool true), (25, .slice (some ⟨gg, 0, none⟩) 1 gq), (26, .int .i64 kk)] ∧
                  Sat W w [rowC 3 1 (.slice (some ⟨gg, 0, none⟩) 1 gq) 1 [.int .i64 f], queueC 0 g (onQ m r t (f + 1) (c - 1) 1 true 0 [] (dead + 1)), .obj b23 (.cells #[.string (txt (f + 1)), _] 31 (0, 0)), whole W]) 1
                  ⟨0, by omega, by omega, hF.sub ⟨rfl, rfl, rfl, rfl, rfl, rfl, rfl, rfl, rfl, rfl, rfl, rfl, rfl, rfl, rfl, trivial⟩, hS⟩ ?_
                clear hS hF
                rintro j a w ⟨kk, rfl, hkk, hF, hS⟩
                refine wp_seq_k fun K25 hK25 => ?_
                refine wp_seq_k fun K26 hK26 => ?_
                -- region 33
                refine wp_region_lit ?_
                refine s_pu hF rfl rfl rfl (pu_move (hF.ev rfl)) ?_; clear hF; intro a hF
                refine s_pu hF rfl rfl rfl (pu_move (hF.ev rfl)) ?_; clear hF; intro a hF
                refine s_pu hF rfl rfl rfl (pu_len sl38 (hF.ev rfl)) ?_; clear hF; intro a hF
                refine s_pu hF rfl rfl rfl (pu_lss (hF.ev rfl) (hF.ev rfl)) ?_; clear hF; intro a hF
                refine s_done ?_
                refine hK26 _ _ ?_; clear hK26
                refine wp_cond_split (hF.ev rfl) (fun hc7 => ?_) (fun hc7 => ?_)
                · -- cond 7 true
                  try simp only [decide_eq_true_eq, decide_eq_false_iff_not, Bool.not_eq_true', Bool.not_eq_false', Int.not_lt, Int.not_le, ne_eq, Decidable.not_not, Bool.or_eq_true, Bool.or_eq_false_iff, Bool.and_eq_true, Bool.and_eq_false_imp] at hc7
                  have hk0 : kk = 0 := by omega
                  subst hk0
                  have hrow := row_at0 (i := 0) hS rfl (v := .int .i64 (f : Int)) rfl
                  refine wp_skip ?_
                  refine hK25 _ _ ?_; clear hK25
                  refine wp_seq_k fun K27 hK27 => ?_
                  refine wp_block ?_
                  refine wp_seq_k fun K28 hK28 => ?_
                  refine wp_seq_k fun K29 hK29 => ?_
                  -- region 35
                  refine wp_region_lit ?_
                  refine s_pu hF rfl rfl rfl (pu_move (hF.ev rfl)) ?_; clear hF; intro a hF
                  refine s_pu hF rfl rfl rfl (pu_move (hF.ev rfl)) ?_; clear hF; intro a hF
                  refine s_pu hF rfl rfl rfl ((by first | exact pu_elem sl38 (hF.ev rfl) (hF.ev rfl) (by first | omega | simp) (by first | omega | (simp; done) | (simp; omega)) | exact pu_elemA sl38 (hF.ev rfl) (hF.ev rfl) (by omega) (by omega))) ?_; clear hF; intro a hF
                  refine s_rd hF rfl rfl rfl (by first | exact rd_load pl3 (hF.ev rfl) (by assumption) | exact rd_load pl3 (hF.ev rfl) (hS.cellL (i := 0) rfl rfl) | exact rd_load pl3 (hF.ev rfl) (hS.cellL (i := 1) rfl rfl) | exact rd_load pl3 (hF.ev rfl) (hS.cellL (i := 2) rfl rfl) | exact rd_load pl3 (hF.ev rfl) (hS.cellL (i := 3) rfl rfl) | exact rd_load pl3 (hF.ev rfl) (hS.cellL (i := 4) rfl rfl) | exact rd_load pl3 (hF.ev rfl) (hS.cell (i := 0) rfl (by assumption)) | exact rd_load pl3 (hF.ev rfl) (hS.cell (i := 1) rfl (by assumption)) | exact rd_load pl3 (hF.ev rfl) (hS.cell (i := 2) rfl (by assumption)) | exact rd_load pl3 (hF.ev rfl) (hS.cell (i := 3) rfl (by assumption)) | exact rd_load pl3 (hF.ev rfl) (hS.cell (i := 4) rfl (by assumption)) | exact rd_load pl3 (hF.ev rfl) (row_at (i := 0) hS rfl (by first | assumption | rfl)) | exact rd_load pl3 (hF.ev rfl) (row_at0 (i := 0) hS rfl (by first | assumption | rfl)) | exact rd_load pl3 (hF.ev rfl) (row_at (i := 1) hS rfl (by first | assumption | rfl)) | exact rd_load pl3 (hF.ev rfl) (row_at0 (i := 1) hS rfl (by first | assumption | rfl)) | exact rd_load pl3 (hF.ev rfl) (row_at (i := 2) hS rfl (by first | assumption | rfl)) | exact rd_load pl3 (hF.ev rfl) (row_at0 (i := 2) hS rfl (by first | assumption | rfl)) | exact rd_load pl3 (hF.ev rfl) (row_at (i := 3) hS rfl (by first | assumption | rfl)) | exact rd_load pl3 (hF.ev rfl) (row_at0 (i := 3) hS rfl (by first | assumption | rfl)) | exact rd_load pl3 (hF.ev rfl) (row_at (i := 4) hS rfl (by first | assumption | rfl)) | exact rd_load pl3 (hF.ev rfl) (row_at0 (i := 4) hS rfl (by first | assumption | rfl))) ?_; clear hF; intro a hF
                  refine s_pu hF rfl rfl rfl (pu_move (hF.ev rfl)) ?_; clear hF; intro a hF
                  refine s_pu hF rfl rfl rfl (pu_neq (hF.ev rfl) (hF.ev rfl)) ?_; clear hF; intro a hF
                  refine s_pu hF rfl rfl rfl (pu_move (hF.ev rfl)) ?_; clear hF; intro a hF
                  refine fr_split hF (t := 138) rfl ?_ ?_
                  · clear hF; intro hg138 hF   -- slot 138 true
                    try simp only [decide_eq_true_eq, decide_eq_false_iff_not, Bool.not_eq_true', Bool.not_eq_false', Int.not_lt, Int.not_le, ne_eq, Decidable.not_not, Bool.or_eq_true, Bool.or_eq_false_iff, Bool.and_eq_true, Bool.and_eq_false_imp] at hg138
                    first | exact absurd rfl hg138 | exact absurd trivial hg138 | omega
                  · clear hF; intro hg138 hF   -- slot 138 false
                    try simp only [decide_eq_true_eq, decide_eq_false_iff_not, Bool.not_eq_true', Bool.not_eq_false', Int.not_lt, Int.not_le, ne_eq, Decidable.not_not, Bool.or_eq_true, Bool.or_eq_false_iff, Bool.and_eq_true, Bool.and_eq_false_imp] at hg138
                    refine s_pu hF rfl rfl rfl (pu_move (hF.ev rfl)) ?_; clear hF; intro a hF
                    refine s_pu hF rfl rfl rfl (pu_move (hF.ev rfl)) ?_; clear hF; intro a hF
                    refine s_pu hF rfl rfl rfl (pu_neq (hF.ev rfl) (hF.ev rfl)) ?_; clear hF; intro a hF
                    refine s_pu hF rfl rfl rfl ((by first | exact pu_pick_t (hF.ev rfl) (hF.ev rfl) | exact pu_pick_f (hF.ev rfl) (hF.ev rfl) | exact pu_pick (hF.ev rfl) (hF.ev rfl) (hF.ev rfl))) ?_; clear hF; intro a hF
                    refine s_done ?_
                    refine hK29 _ _ ?_; clear hK29
                    refine wp_cond_split (hF.ev rfl) (fun hc8 => ?_) (fun hc8 => ?_)
                    · -- cond 8 true
                      try simp only [decide_eq_true_eq, decide_eq_false_iff_not, Bool.not_eq_true', Bool.not_eq_false', Int.not_lt, Int.not_le, ne_eq, Decidable.not_not, Bool.or_eq_true, Bool.or_eq_false_iff, Bool.and_eq_true, Bool.and_eq_false_imp] at hc8
                      simp at hc8
                      omega
                    · -- cond 8 false
                      try simp only [decide_eq_true_eq, decide_eq_false_iff_not, Bool.not_eq_true', Bool.not_eq_false', Int.not_lt, Int.not_le, ne_eq, Decidable.not_not, Bool.or_eq_true, Bool.or_eq_false_iff, Bool.and_eq_true, Bool.and_eq_false_imp] at hc8
                      refine wp_skip ?_
                      refine hK28 _ _ ?_; clear hK28
                      refine wp_seq_k fun K30 hK30 => ?_
                      -- region 37
                      refine wp_region_lit ?_
                      refine s_pu hF rfl rfl rfl (pu_move (hF.ev rfl)) ?_; clear hF; intro a hF
                      refine s_pu hF rfl rfl rfl ((by first | exact pu_add64 (hF.ev rfl) (hF.ev rfl) (by omega) | exact pu_add (hF.ev rfl) (hF.ev rfl))) ?_; clear hF; intro a hF
                      refine s_pu hF rfl rfl rfl (pu_assign (hF.ev rfl)) ?_; clear hF; intro a hF
                      refine s_done ?_
                      refine hK30 _ _ ?_; clear hK30
                      refine wp_seq_k fun K31 hK31 => ?_
                      -- region 38
                      refine wp_region_lit ?_
                      refine s_pu hF rfl rfl rfl (pu_assign (hF.ev rfl)) ?_; clear hF; intro a hF
                      refine s_done ?_
                      refine hK31 _ _ ?_; clear hK31
                      -- region 39
                      refine wp_region_lit ?_
                      refine s_pu hF rfl rfl rfl (pu_move (hF.ev rfl)) ?_; clear hF; intro a hF
                      refine s_pu hF rfl rfl rfl ((by first | exact pu_add64 (hF.ev rfl) (hF.ev rfl) (by omega) | exact pu_add (hF.ev rfl) (hF.ev rfl))) ?_; clear hF; intro a hF
                      refine s_pu hF rfl rfl rfl (pu_assign (hF.ev rfl)) ?_; clear hF; intro a hF
                      refine s_done ?_
                      refine blk_normal ?_
                      refine hK27 _ _ ?_; clear hK27
                      -- region 34
                      refine wp_region_lit ?_
                      refine s_pu hF rfl rfl rfl (pu_move (hF.ev rfl)) ?_; clear hF; intro a hF
                      refine s_pu hF rfl rfl rfl ((by first | exact pu_add64 (hF.ev rfl) (hF.ev rfl) (by omega) | exact pu_add (hF.ev rfl) (hF.ev rfl))) ?_; clear hF; intro a hF
                      refine s_pu hF rfl rfl rfl (pu_assign (hF.ev rfl)) ?_; clear hF; intro a hF
                      refine s_done ?_
                      refine ⟨_, by omega, 1, rfl, by omega, hF.sub ⟨rfl, rfl, rfl, rfl, rfl, rfl, rfl, rfl, rfl, rfl, rfl, rfl, rfl, rfl, rfl, trivial⟩, hS⟩
                · -- cond 7 false
                  try simp only [decide_eq_true_eq, decide_eq_false_iff_not, Bool.not_eq_true', Bool.not_eq_false', Int.not_lt, Int.not_le, ne_eq, Decidable.not_not, Bool.or_eq_true, Bool.or_eq_false_iff, Bool.and_eq_true, Bool.and_eq_false_imp] at hc7
                  have hk1 : kk = 1 := by omega
                  subst hk1
                  have hi0 : (if (1 : Nat) = 0 then sent else 0) = 0 := rfl
                  rw [hi0] at hF
                  refine wp_exit ?_
                  refine then_exit ?_
                  refine then_exit ?_
                  refine blk_exit ?_
                  refine hK23 _ _ ?_; clear hK23
                  refine wp_seq_k fun K27 hK27 => ?_
                  -- region 40
                  refine wp_region_lit ?_
                  refine s_pu hF rfl rfl rfl (pu_move (hF.ev rfl)) ?_; clear hF; intro a hF
                  refine s_done ?_
                  refine hK27 _ _ ?_; clear hK27
                  refine wp_cond_true (hF.ev rfl) ?_
                  refine wp_seq_k fun K28 hK28 => ?_
                  -- region 41
                  refine wp_region_lit ?_
                  refine s_pu hF rfl rfl rfl (pu_move (hF.ev rfl)) ?_; clear hF; intro a hF
                  refine s_pu hF rfl rfl rfl ((by first | exact pu_add64 (hF.ev rfl) (hF.ev rfl) (by omega) | exact pu_add (hF.ev rfl) (hF.ev rfl))) ?_; clear hF; intro a hF
                  refine s_pu hF rfl rfl rfl (pu_assign (hF.ev rfl)) ?_; clear hF; intro a hF
                  refine s_done ?_
                  refine hK28 _ _ ?_; clear hK28
                  refine wp_seq_k fun K29 hK29 => ?_
                  -- region 42
                  refine wp_region_lit ?_
                  refine s_pu hF rfl rfl rfl (pu_move (hF.ev rfl)) ?_; clear hF; intro a hF
                  refine s_en hF rfl rfl rfl (run_fn fk25 (hF.ev rfl) (hF.evs rfl)) (text_c hS (by omega)) ?_
                  clear hS; rintro e w ⟨rfl, hsz1, hS⟩
                  refine ⟨_, rfl, ?_⟩; clear hF; intro a hF
                  refine s_pu hF rfl rfl rfl (pu_assign (hF.ev rfl)) ?_; clear hF; intro a hF
                  refine s_done ?_
                  refine hK29 _ _ ?_; clear hK29
                  refine wp_seq_k fun K30 hK30 => ?_
                  refine wp_seq_k fun K31 hK31 => ?_
                  -- region 43
                  refine wp_region_lit ?_
                  refine s_pu hF rfl rfl rfl (pu_move (hF.ev rfl)) ?_; clear hF; intro a hF
                  refine s_pu hF rfl rfl rfl (pu_gtr (hF.ev rfl) (hF.ev rfl)) ?_; clear hF; intro a hF
                  refine s_done ?_
                  refine hK31 _ _ ?_; clear hK31
                  refine wp_cond_split (hF.ev rfl) (fun hc10 => ?_) (fun hc10 => ?_)
                  · -- cond 10 true
                    try simp only [decide_eq_true_eq, decide_eq_false_iff_not, Bool.not_eq_true', Bool.not_eq_false', Int.not_lt, Int.not_le, ne_eq, Decidable.not_not, Bool.or_eq_true, Bool.or_eq_false_iff, Bool.and_eq_true, Bool.and_eq_false_imp] at hc10
                    omega
                  · -- cond 10 false
                    try simp only [decide_eq_true_eq, decide_eq_false_iff_not, Bool.not_eq_true', Bool.not_eq_false', Int.not_lt, Int.not_le, ne_eq, Decidable.not_not, Bool.or_eq_true, Bool.or_eq_false_iff, Bool.and_eq_true, Bool.and_eq_false_imp] at hc10
                    refine wp_skip ?_
                    refine hK30 _ _ ?_; clear hK30
                    refine wp_seq_k fun K32 hK32 => ?_
                    -- region 45
                    refine wp_region_lit ?_
                    refine s_pu hF rfl rfl rfl (pu_move (hF.ev rfl)) ?_; clear hF; intro a hF
                    refine s_pu hF rfl rfl rfl (pu_move (hF.ev rfl)) ?_; clear hF; intro a hF
                    refine s_pu hF rfl rfl rfl (pu_gtr (hF.ev rfl) (hF.ev rfl)) ?_; clear hF; intro a hF
                    refine s_pu hF rfl rfl rfl (pu_move (hF.ev rfl)) ?_; clear hF; intro a hF
                    refine fr_split hF (t := 159) rfl ?_ ?_
                    · clear hF; intro hg159 hF   -- slot 159 true
                      try simp only [decide_eq_true_eq, decide_eq_false_iff_not, Bool.not_eq_true', Bool.not_eq_false', Int.not_lt, Int.not_le, ne_eq, Decidable.not_not, Bool.or_eq_true, Bool.or_eq_false_iff, Bool.and_eq_true, Bool.and_eq_false_imp] at hg159
                      omega
                    · clear hF; intro hg159 hF   -- slot 159 false
                      try simp only [decide_eq_true_eq, decide_eq_false_iff_not, Bool.not_eq_true', Bool.not_eq_false', Int.not_lt, Int.not_le, ne_eq, Decidable.not_not, Bool.or_eq_true, Bool.or_eq_false_iff, Bool.and_eq_true, Bool.and_eq_false_imp] at hg159
                      refine s_pu hF rfl rfl rfl (pu_move (hF.ev rfl)) ?_; clear hF; intro a hF
                      refine s_pu hF rfl rfl rfl (pu_move (hF.ev rfl)) ?_; clear hF; intro a hF
                      refine s_pu hF rfl rfl rfl (pu_gtr (hF.ev rfl) (hF.ev rfl)) ?_; clear hF; intro a hF
                      refine s_pu hF rfl rfl rfl ((by first | exact pu_pick_t (hF.ev rfl) (hF.ev rfl) | exact pu_pick_f (hF.ev rfl) (hF.ev rfl) | exact pu_pick (hF.ev rfl) (hF.ev rfl) (hF.ev rfl))) ?_; clear hF; intro a hF
                      refine s_pu hF rfl rfl rfl (pu_move (hF.ev rfl)) ?_; clear hF; intro a hF
                      refine fr_split hF (t := 164) rfl ?_ ?_
                      · clear hF; intro hg164 hF   -- slot 164 true
                        try simp only [decide_eq_true_eq, decide_eq_false_iff_not, Bool.not_eq_true', Bool.not_eq_false', Int.not_lt, Int.not_le, ne_eq, Decidable.not_not, Bool.or_eq_true, Bool.or_eq_false_iff, Bool.and_eq_true, Bool.and_eq_false_imp] at hg164
                        first | omega | (simp at hg164; omega)
                      · clear hF; intro hg164 hF   -- slot 164 false
                        try simp only [decide_eq_true_eq, decide_eq_false_iff_not, Bool.not_eq_true', Bool.not_eq_false', Int.not_lt, Int.not_le, ne_eq, Decidable.not_not, Bool.or_eq_true, Bool.or_eq_false_iff, Bool.and_eq_true, Bool.and_eq_false_imp] at hg164
                        refine s_pu hF rfl rfl rfl (pu_field fd31_0 (hF.ev rfl)) ?_; clear hF; intro a hF
                        refine s_rd hF rfl rfl rfl (by first | exact rd_load pl9 (hF.ev rfl) (by assumption) | exact rd_load pl9 (hF.ev rfl) (hS.cellL (i := 0) rfl rfl) | exact rd_load pl9 (hF.ev rfl) (hS.cellL (i := 1) rfl rfl) | exact rd_load pl9 (hF.ev rfl) (hS.cellL (i := 2) rfl rfl) | exact rd_load pl9 (hF.ev rfl) (hS.cellL (i := 3) rfl rfl) | exact rd_load pl9 (hF.ev rfl) (hS.cellL (i := 4) rfl rfl) | exact rd_load pl9 (hF.ev rfl) (hS.cell (i := 0) rfl (by assumption)) | exact rd_load pl9 (hF.ev rfl) (hS.cell (i := 1) rfl (by assumption)) | exact rd_load pl9 (hF.ev rfl) (hS.cell (i := 2) rfl (by assumption)) | exact rd_load pl9 (hF.ev rfl) (hS.cell (i := 3) rfl (by assumption)) | exact rd_load pl9 (hF.ev rfl) (hS.cell (i := 4) rfl (by assumption)) | exact rd_load pl9 (hF.ev rfl) (row_at (i := 0) hS rfl (by first | assumption | rfl)) | exact rd_load pl9 (hF.ev rfl) (row_at0 (i := 0) hS rfl (by first | assumption | rfl)) | exact rd_load pl9 (hF.ev rfl) (row_at (i := 1) hS rfl (by first | assumption | rfl)) | exact rd_load pl9 (hF.ev rfl) (row_at0 (i := 1) hS rfl (by first | assumption | rfl)) | exact rd_load pl9 (hF.ev rfl) (row_at (i := 2) hS rfl (by first | assumption | rfl)) | exact rd_load pl9 (hF.ev rfl) (row_at0 (i := 2) hS rfl (by first | assumption | rfl)) | exact rd_load pl9 (hF.ev rfl) (row_at (i := 3) hS rfl (by first | assumption | rfl)) | exact rd_load pl9 (hF.ev rfl) (row_at0 (i := 3) hS rfl (by first | assumption | rfl)) | exact rd_load pl9 (hF.ev rfl) (row_at (i := 4) hS rfl (by first | assumption | rfl)) | exact rd_load pl9 (hF.ev rfl) (row_at0 (i := 4) hS rfl (by first | assumption | rfl))) ?_; clear hF; intro a hF
                        refine s_pu hF rfl rfl rfl (pu_move (hF.ev rfl)) ?_; clear hF; intro a hF
                        refine s_pu hF rfl rfl rfl (pu_sneq (hF.ev rfl) (hF.ev rfl)) ?_; clear hF; intro a hF
                        refine s_pu hF rfl rfl rfl ((by first | exact pu_pick_t (hF.ev rfl) (hF.ev rfl) | exact pu_pick_f (hF.ev rfl) (hF.ev rfl) | exact pu_pick (hF.ev rfl) (hF.ev rfl) (hF.ev rfl))) ?_; clear hF; intro a hF
                        refine s_done ?_
                        refine hK32 _ _ ?_; clear hK32
                        refine wp_cond_split (hF.ev rfl) (fun hc11 => ?_) (fun hc11 => ?_)
                        · -- cond 11 true
                          try simp only [decide_eq_true_eq, decide_eq_false_iff_not, Bool.not_eq_true', Bool.not_eq_false', Int.not_lt, Int.not_le, ne_eq, Decidable.not_not, Bool.or_eq_true, Bool.or_eq_false_iff, Bool.and_eq_true, Bool.and_eq_false_imp] at hc11
                          first | exact absurd rfl hc11 | exact absurd trivial hc11
                        · -- cond 11 false
                          try simp only [decide_eq_true_eq, decide_eq_false_iff_not, Bool.not_eq_true', Bool.not_eq_false', Int.not_lt, Int.not_le, ne_eq, Decidable.not_not, Bool.or_eq_true, Bool.or_eq_false_iff, Bool.and_eq_true, Bool.and_eq_false_imp] at hc11
                          refine wp_skip ?_
                          refine blk_normal ?_
                          exact ⟨put, f + 1, c - 1, 1, done, dead + 1, true, 0, ⟨by omega, by omega, by omega, fun _ => by omega, by omega, by omega, by omega, by omega⟩, hF.sub ⟨rfl, rfl, rfl, rfl, rfl, rfl, rfl, rfl, rfl, rfl, rfl, trivial⟩, hS.tail.drop 1⟩
            · -- cond 6 false
              try simp only [decide_eq_true_eq, decide_eq_false_iff_not, Bool.not_eq_true', Bool.not_eq_false', Int.not_lt, Int.not_le, ne_eq, Decidable.not_not, Bool.or_eq_true, Bool.or_eq_false_iff, Bool.and_eq_true, Bool.and_eq_false_imp] at hc6
              refine wp_seq_k fun K21 hK21 => ?_
              -- region 47
              refine wp_region_lit ?_
              refine s_pu hF rfl rfl rfl (pu_eql (hF.ev rfl) (hF.ev rfl)) ?_; clear hF; intro a hF
              refine s_pu hF rfl rfl rfl (pu_assign (hF.ev rfl)) ?_; clear hF; intro a hF
              refine s_done ?_
              refine hK21 _ _ ?_; clear hK21
              refine wp_cond_split (hF.ev rfl) (fun hc12 => ?_) (fun hc12 => ?_)
              · -- cond 12 true
                try simp only [decide_eq_true_eq, decide_eq_false_iff_not, Bool.not_eq_true', Bool.not_eq_false', Int.not_lt, Int.not_le, ne_eq, Decidable.not_not, Bool.or_eq_true, Bool.or_eq_false_iff, Bool.and_eq_true, Bool.and_eq_false_imp] at hc12
                refine wp_seq_k fun K22 hK22 => ?_
                -- region 48
                refine wp_region_lit ?_
                refine s_pu hF rfl rfl rfl (pu_assign (hF.ev rfl)) ?_; clear hF; intro a hF
                refine s_done ?_
                refine hK22 _ _ ?_; clear hK22
                refine wp_block ?_
                refine wp_ind (fun j a w => ∃ (kk : Nat) (tk : Int), j = r - kk ∧ kk ≤ r ∧ 0 ≤ tk ∧ tk ≤ 100000 ∧ Fr a 263 [(3, .slice (some x) l3 q3), (10, .int .i64 m), (11, .int .i64 r), (12, .int .i64 t), (13, .pointer (some ⟨g, 0, none⟩)), (15, .int .i64 put), (16, .int .i64 f), (17, .int .i64 sent), (18, .int .i64 done), (19, .int .i64 dead), (20, .int .i64 i), (28, .int .i64 kk)] ∧
                  Sat W w [queueC 0 g (onQ m r t f c sent under tk [] dead), whole W]) r
                  ⟨0, ticks, by omega, by omega, o5, o6, hF.sub ⟨rfl, rfl, rfl, rfl, rfl, rfl, rfl, rfl, rfl, rfl, rfl, rfl, trivial⟩, hS⟩ ?_
                clear hS hF
                rintro j a w ⟨kk, tk, rfl, hkk, htk0, htk1, hF, hS⟩
                refine wp_seq_k fun K23 hK23 => ?_
                refine wp_seq_k fun K24 hK24 => ?_
                -- region 49
                refine wp_region_lit ?_
                refine s_pu hF rfl rfl rfl (pu_move (hF.ev rfl)) ?_; clear hF; intro a hF
                refine s_pu hF rfl rfl rfl (pu_move (hF.ev rfl)) ?_; clear hF; intro a hF
                refine s_pu hF rfl rfl rfl (pu_lss (hF.ev rfl) (hF.ev rfl)) ?_; clear hF; intro a hF
                refine s_done ?_
                refine hK24 _ _ ?_; clear hK24
                refine wp_cond_split (hF.ev rfl) (fun hc13 => ?_) (fun hc13 => ?_)
                · -- cond 13 true
                  try simp only [decide_eq_true_eq, decide_eq_false_iff_not, Bool.not_eq_true', Bool.not_eq_false', Int.not_lt, Int.not_le, ne_eq, Decidable.not_not, Bool.or_eq_true, Bool.or_eq_false_iff, Bool.and_eq_true, Bool.and_eq_false_imp] at hc13
                  refine wp_skip ?_
                  refine hK23 _ _ ?_; clear hK23
                  refine wp_seq_k fun K25 hK25 => ?_
                  refine wp_block ?_
                  -- region 51
                  refine wp_region_lit ?_
                  refine s_pu hF rfl rfl rfl (pu_move (hF.ev rfl)) ?_; clear hF; intro a hF
                  refine s_en hF rfl rfl rfl (run_fn fk13 (hF.ev rfl) (hF.evs rfl)) (tick_c hS htk0 htk1) ?_
                  clear hS; rintro e w ⟨rfl, hS⟩
                  refine ⟨_, rfl, ?_⟩; clear hF; intro a hF
                  refine s_done ?_
                  refine blk_normal ?_
                  refine hK25 _ _ ?_; clear hK25
                  -- region 50
                  refine wp_region_lit ?_
                  refine s_pu hF rfl rfl rfl (pu_move (hF.ev rfl)) ?_; clear hF; intro a hF
                  refine s_pu hF rfl rfl rfl ((by first | exact pu_add64 (hF.ev rfl) (hF.ev rfl) (by omega) | exact pu_add (hF.ev rfl) (hF.ev rfl))) ?_; clear hF; intro a hF
                  refine s_pu hF rfl rfl rfl (pu_assign (hF.ev rfl)) ?_; clear hF; intro a hF
                  refine s_done ?_
                  exact ⟨_, by omega, kk + 1, min (tk + 1) r, rfl, by omega, by omega, by omega, hF.sub ⟨rfl, rfl, rfl, rfl, rfl, rfl, rfl, rfl, rfl, rfl, rfl, rfl, trivial⟩, hS⟩
                · -- cond 13 false
                  try simp only [decide_eq_true_eq, decide_eq_false_iff_not, Bool.not_eq_true', Bool.not_eq_false', Int.not_lt, Int.not_le, ne_eq, Decidable.not_not, Bool.or_eq_true, Bool.or_eq_false_iff, Bool.and_eq_true, Bool.and_eq_false_imp] at hc13
                  refine wp_exit ?_
                  refine then_exit ?_
                  refine then_exit ?_
                  refine blk_exit ?_
                  refine blk_normal ?_
                  first
                  | exact ⟨put, f, c, sent, done, dead, under, tk, ⟨by omega, by omega, o3, o4, htk0, htk1, by omega, by omega⟩, hF.sub ⟨rfl, rfl, rfl, rfl, rfl, rfl, rfl, rfl, rfl, rfl, rfl, trivial⟩, hS⟩
                  | exact ⟨put, f, c, sent, done, dead, under, min (ticks + 1) r, ⟨by omega, by omega, o3, o4, by omega, by omega, by omega, by omega⟩, hF.sub ⟨rfl, rfl, rfl, rfl, rfl, rfl, rfl, rfl, rfl, rfl, rfl, trivial⟩, hS⟩
                  | exact ⟨put, f, c, sent, done, dead, false, ticks, ⟨by omega, by omega, o3, (fun h => by cases h), o5, o6, by omega, by omega⟩, hF.sub ⟨rfl, rfl, rfl, rfl, rfl, rfl, rfl, rfl, rfl, rfl, rfl, trivial⟩, hS⟩
              · -- cond 12 false
                try simp only [decide_eq_true_eq, decide_eq_false_iff_not, Bool.not_eq_true', Bool.not_eq_false', Int.not_lt, Int.not_le, ne_eq, Decidable.not_not, Bool.or_eq_true, Bool.or_eq_false_iff, Bool.and_eq_true, Bool.and_eq_false_imp] at hc12
                refine wp_seq_k fun K22 hK22 => ?_
                -- region 52
                refine wp_region_lit ?_
                refine s_pu hF rfl rfl rfl (pu_eql (hF.ev rfl) (hF.ev rfl)) ?_; clear hF; intro a hF
                refine s_pu hF rfl rfl rfl (pu_assign (hF.ev rfl)) ?_; clear hF; intro a hF
                refine s_done ?_
                refine hK22 _ _ ?_; clear hK22
                refine wp_cond_split (hF.ev rfl) (fun hc14 => ?_) (fun hc14 => ?_)
                · -- cond 14 true
                  try simp only [decide_eq_true_eq, decide_eq_false_iff_not, Bool.not_eq_true', Bool.not_eq_false', Int.not_lt, Int.not_le, ne_eq, Decidable.not_not, Bool.or_eq_true, Bool.or_eq_false_iff, Bool.and_eq_true, Bool.and_eq_false_imp] at hc14
                  -- region 53
                  refine wp_region_lit ?_
                  refine s_pu hF rfl rfl rfl (pu_move (hF.ev rfl)) ?_; clear hF; intro a hF
                  refine s_en hF rfl rfl rfl (run_fn fk13 (hF.ev rfl) (hF.evs rfl)) (tick_c hS o5 o6) ?_
                  clear hS; rintro e w ⟨rfl, hS⟩
                  refine ⟨_, rfl, ?_⟩; clear hF; intro a hF
                  refine s_done ?_
                  refine blk_normal ?_
                  first
                  | exact ⟨put, f, c, sent, done, dead, under, tk, ⟨by omega, by omega, o3, o4, htk0, htk1, by omega, by omega⟩, hF.sub ⟨rfl, rfl, rfl, rfl, rfl, rfl, rfl, rfl, rfl, rfl, rfl, trivial⟩, hS⟩
                  | exact ⟨put, f, c, sent, done, dead, under, min (ticks + 1) r, ⟨by omega, by omega, o3, o4, by omega, by omega, by omega, by omega⟩, hF.sub ⟨rfl, rfl, rfl, rfl, rfl, rfl, rfl, rfl, rfl, rfl, rfl, trivial⟩, hS⟩
                  | exact ⟨put, f, c, sent, done, dead, false, ticks, ⟨by omega, by omega, o3, (fun h => by cases h), o5, o6, by omega, by omega⟩, hF.sub ⟨rfl, rfl, rfl, rfl, rfl, rfl, rfl, rfl, rfl, rfl, rfl, trivial⟩, hS⟩
                · -- cond 14 false
                  try simp only [decide_eq_true_eq, decide_eq_false_iff_not, Bool.not_eq_true', Bool.not_eq_false', Int.not_lt, Int.not_le, ne_eq, Decidable.not_not, Bool.or_eq_true, Bool.or_eq_false_iff, Bool.and_eq_true, Bool.and_eq_false_imp] at hc14
                  refine wp_seq_k fun K23 hK23 => ?_
                  -- region 54
                  refine wp_region_lit ?_
                  refine s_pu hF rfl rfl rfl (pu_eql (hF.ev rfl) (hF.ev rfl)) ?_; clear hF; intro a hF
                  refine s_pu hF rfl rfl rfl (pu_assign (hF.ev rfl)) ?_; clear hF; intro a hF
                  refine s_done ?_
                  refine hK23 _ _ ?_; clear hK23
                  refine wp_cond_split (hF.ev rfl) (fun hc15 => ?_) (fun hc15 => ?_)
                  · -- cond 15 true
                    try simp only [decide_eq_true_eq, decide_eq_false_iff_not, Bool.not_eq_true', Bool.not_eq_false', Int.not_lt, Int.not_le, ne_eq, Decidable.not_not, Bool.or_eq_true, Bool.or_eq_false_iff, Bool.and_eq_true, Bool.and_eq_false_imp] at hc15
                    refine wp_seq_k fun K24 hK24 => ?_
                    -- region 55
                    cases hans : (under && decide (0 < c))
                    · -- n
                      -- region 55
                      refine wp_region_lit ?_
                      refine s_pu hF rfl rfl rfl (pu_move (hF.ev rfl)) ?_; clear hF; intro a hF
                      refine s_pu hF rfl rfl rfl (pu_move (hF.ev rfl)) ?_; clear hF; intro a hF
                      refine s_en hF rfl rfl rfl (run_fn fk26 (hF.ev rfl) (hF.evs rfl)) (answer_c 0 hS) ?_
                      clear hS; rintro e w ⟨rfl, hS⟩
                      rw [on_answers rfl, hans] at hS ⊢
                      rw [if_neg (by simp)] at hS
                      refine ⟨_, rfl, ?_⟩; clear hF; intro a hF
                      refine s_pu hF rfl rfl rfl (pu_assign (hF.ev rfl)) ?_; clear hF; intro a hF
                      refine s_done ?_
                      refine hK24 _ _ ?_; clear hK24
                      refine wp_seq_k fun K25 hK25 => ?_
                      refine wp_seq_k fun K26 hK26 => ?_
                      -- region 56
                      refine wp_region_lit ?_
                      refine s_pu hF rfl rfl rfl (pu_move (hF.ev rfl)) ?_; clear hF; intro a hF
                      refine s_pu hF rfl rfl rfl (pu_move (hF.ev rfl)) ?_; clear hF; intro a hF
                      refine s_no hF rfl rfl rfl ?_; clear hF; intro a hF
                      refine s_no hF rfl rfl rfl ?_; clear hF; intro a hF
                      refine s_no hF rfl rfl rfl ?_; clear hF; intro a hF
                      refine s_no hF rfl rfl rfl ?_; clear hF; intro a hF
                      refine s_no hF rfl rfl rfl ?_; clear hF; intro a hF
                      refine s_no hF rfl rfl rfl ?_; clear hF; intro a hF
                      refine s_no hF rfl rfl rfl ?_; clear hF; intro a hF
                      refine s_pu hF rfl rfl rfl ((by first | exact pu_pick_t (hF.ev rfl) (hF.ev rfl) | exact pu_pick_f (hF.ev rfl) (hF.ev rfl) | exact pu_pick (hF.ev rfl) (hF.ev rfl) (hF.ev rfl))) ?_; clear hF; intro a hF
                      refine s_done ?_
                      refine hK26 _ _ ?_; clear hK26
                      refine wp_cond_false (hF.ev rfl) ?_
                      refine wp_skip ?_
                      refine hK25 _ _ ?_; clear hK25
                      refine wp_seq_k fun K27 hK27 => ?_
                      -- region 58
                      refine wp_region_lit ?_
                      refine s_pu hF rfl rfl rfl (pu_move (hF.ev rfl)) ?_; clear hF; intro a hF
                      refine s_done ?_
                      refine hK27 _ _ ?_; clear hK27
                      refine wp_cond_false (hF.ev rfl) ?_
                      refine wp_skip ?_
                      refine blk_normal ?_
                      exact ⟨put, f, c, sent, done, dead, under, ticks, ⟨by omega, by omega, o3, o4, o5, o6, by omega, by omega⟩, hF.sub ⟨rfl, rfl, rfl, rfl, rfl, rfl, rfl, rfl, rfl, rfl, rfl, trivial⟩, hS⟩
                    · -- y
                      -- region 55
                      refine wp_region_lit ?_
                      refine s_pu hF rfl rfl rfl (pu_move (hF.ev rfl)) ?_; clear hF; intro a hF
                      refine s_pu hF rfl rfl rfl (pu_move (hF.ev rfl)) ?_; clear hF; intro a hF
                      refine s_en hF rfl rfl rfl (run_fn fk26 (hF.ev rfl) (hF.evs rfl)) (answer_c 0 hS) ?_
                      clear hS; rintro e w ⟨rfl, hS⟩
                      rw [on_answers rfl, hans] at hS ⊢
                      rw [Bool.and_eq_true, decide_eq_true_eq] at hans
                      rw [if_pos rfl, on_drop hans.2] at hS
                      have ho4 := o4 hans.1
                      have hans2 := hans.2
                      refine ⟨_, rfl, ?_⟩; clear hF; intro a hF
                      refine s_pu hF rfl rfl rfl (pu_assign (hF.ev rfl)) ?_; clear hF; intro a hF
                      refine s_done ?_
                      refine hK24 _ _ ?_; clear hK24
                      refine wp_seq_k fun K25 hK25 => ?_
                      refine wp_seq_k fun K26 hK26 => ?_
                      -- region 56
                      refine wp_region_lit ?_
                      refine s_pu hF rfl rfl rfl (pu_move (hF.ev rfl)) ?_; clear hF; intro a hF
                      refine s_pu hF rfl rfl rfl (pu_move (hF.ev rfl)) ?_; clear hF; intro a hF
                      refine s_pu hF rfl rfl rfl (pu_move (hF.ev rfl)) ?_; clear hF; intro a hF
                      refine s_pu hF rfl rfl rfl (pu_move (hF.ev rfl)) ?_; clear hF; intro a hF
                      refine s_pu hF rfl rfl rfl (pu_gtr (hF.ev rfl) (hF.ev rfl)) ?_; clear hF; intro a hF
                      refine s_pu hF rfl rfl rfl (pu_move (hF.ev rfl)) ?_; clear hF; intro a hF
                      refine fr_split hF (t := 193) rfl ?_ ?_
                      · clear hF; intro hg193 hF   -- slot 193 true
                        try simp only [decide_eq_true_eq, decide_eq_false_iff_not, Bool.not_eq_true', Bool.not_eq_false', Int.not_lt, Int.not_le, ne_eq, Decidable.not_not, Bool.or_eq_true, Bool.or_eq_false_iff, Bool.and_eq_true, Bool.and_eq_false_imp] at hg193
                        omega
                      · clear hF; intro hg193 hF   -- slot 193 false
                        try simp only [decide_eq_true_eq, decide_eq_false_iff_not, Bool.not_eq_true', Bool.not_eq_false', Int.not_lt, Int.not_le, ne_eq, Decidable.not_not, Bool.or_eq_true, Bool.or_eq_false_iff, Bool.and_eq_true, Bool.and_eq_false_imp] at hg193
                        refine s_pu hF rfl rfl rfl (pu_move (hF.ev rfl)) ?_; clear hF; intro a hF
                        refine s_pu hF rfl rfl rfl (pu_eql (hF.ev rfl) (hF.ev rfl)) ?_; clear hF; intro a hF
                        refine s_pu hF rfl rfl rfl ((by first | exact pu_pick_t (hF.ev rfl) (hF.ev rfl) | exact pu_pick_f (hF.ev rfl) (hF.ev rfl) | exact pu_pick (hF.ev rfl) (hF.ev rfl) (hF.ev rfl))) ?_; clear hF; intro a hF
                        refine s_pu hF rfl rfl rfl ((by first | exact pu_pick_t (hF.ev rfl) (hF.ev rfl) | exact pu_pick_f (hF.ev rfl) (hF.ev rfl) | exact pu_pick (hF.ev rfl) (hF.ev rfl) (hF.ev rfl))) ?_; clear hF; intro a hF
                        refine s_done ?_
                        refine hK26 _ _ ?_; clear hK26
                        refine wp_cond_split (hF.ev rfl) (fun hc16 => ?_) (fun hc16 => ?_)
                        · -- cond 16 true
                          try simp only [decide_eq_true_eq, decide_eq_false_iff_not, Bool.not_eq_true', Bool.not_eq_false', Int.not_lt, Int.not_le, ne_eq, Decidable.not_not, Bool.or_eq_true, Bool.or_eq_false_iff, Bool.and_eq_true, Bool.and_eq_false_imp] at hc16
                          omega
                        · -- cond 16 false
                          try simp only [decide_eq_true_eq, decide_eq_false_iff_not, Bool.not_eq_true', Bool.not_eq_false', Int.not_lt, Int.not_le, ne_eq, Decidable.not_not, Bool.or_eq_true, Bool.or_eq_false_iff, Bool.and_eq_true, Bool.and_eq_false_imp] at hc16
                          refine wp_skip ?_
                          refine hK25 _ _ ?_; clear hK25
                          refine wp_seq_k fun K27 hK27 => ?_
                          -- region 58
                          refine wp_region_lit ?_
                          refine s_pu hF rfl rfl rfl (pu_move (hF.ev rfl)) ?_; clear hF; intro a hF
                          refine s_done ?_
                          refine hK27 _ _ ?_; clear hK27
                          refine wp_cond_true (hF.ev rfl) ?_
                          refine wp_seq_k fun K28 hK28 => ?_
                          -- region 59
                          refine wp_region_lit ?_
                          refine s_pu hF rfl rfl rfl (pu_move (hF.ev rfl)) ?_; clear hF; intro a hF
                          refine s_pu hF rfl rfl rfl ((by first | exact pu_add64 (hF.ev rfl) (hF.ev rfl) (by omega) | exact pu_add (hF.ev rfl) (hF.ev rfl))) ?_; clear hF; intro a hF
                          refine s_pu hF rfl rfl rfl (pu_assign (hF.ev rfl)) ?_; clear hF; intro a hF
                          refine s_done ?_
                          refine hK28 _ _ ?_; clear hK28
                          refine wp_seq_k fun K29 hK29 => ?_
                          -- region 60
                          refine wp_region_lit ?_
                          refine s_pu hF rfl rfl rfl (pu_assign (hF.ev rfl)) ?_; clear hF; intro a hF
                          refine s_done ?_
                          refine hK29 _ _ ?_; clear hK29
                          -- region 61
                          refine wp_region_lit ?_
                          refine s_pu hF rfl rfl rfl (pu_move (hF.ev rfl)) ?_; clear hF; intro a hF
                          refine s_pu hF rfl rfl rfl ((by first | exact pu_add64 (hF.ev rfl) (hF.ev rfl) (by omega) | exact pu_add (hF.ev rfl) (hF.ev rfl))) ?_; clear hF; intro a hF
                          refine s_pu hF rfl rfl rfl (pu_assign (hF.ev rfl)) ?_; clear hF; intro a hF
                          refine s_done ?_
                          refine blk_normal ?_
                          exact ⟨put, f + 1, c - 1, 0, done + 1, dead, false, 0, ⟨by omega, by omega, by omega, (fun h => by cases h), by omega, by omega, by omega, by omega⟩, hF.sub ⟨rfl, rfl, rfl, rfl, rfl, rfl, rfl, rfl, rfl, rfl, rfl, trivial⟩, hS⟩
                  · -- cond 15 false
                    try simp only [decide_eq_true_eq, decide_eq_false_iff_not, Bool.not_eq_true', Bool.not_eq_false', Int.not_lt, Int.not_le, ne_eq, Decidable.not_not, Bool.or_eq_true, Bool.or_eq_false_iff, Bool.and_eq_true, Bool.and_eq_false_imp] at hc15
                    refine wp_seq_k fun K24 hK24 => ?_
                    -- region 17
                    refine wp_region_lit ?_
                    refine s_pu hF rfl rfl rfl (pu_move (hF.ev rfl)) ?_; clear hF; intro a hF
                    refine s_en hF rfl rfl rfl (run_fn fk27 (hF.ev rfl) (hF.evs rfl)) (break_c hS) ?_
                    clear hS; rintro e w ⟨rfl, hS⟩
                    refine ⟨_, rfl, ?_⟩; clear hF; intro a hF
                    refine s_done ?_
                    refine hK24 _ _ ?_; clear hK24
                    refine wp_seq_k fun K25 hK25 => ?_
                    -- region 18
                    refine wp_region_lit ?_
                    refine s_pu hF rfl rfl rfl (pu_move (hF.ev rfl)) ?_; clear hF; intro a hF
                    refine s_pu hF rfl rfl rfl (pu_move (hF.ev rfl)) ?_; clear hF; intro a hF
                    refine s_en hF rfl rfl rfl (run_fn fk26 (hF.ev rfl) (hF.evs rfl)) (answer_c 0 (Q := onQ m r t f c sent false ticks [] dead) hS) ?_
                    clear hS; rintro e w ⟨rfl, hS⟩
                    rw [on_answers rfl, Bool.false_and] at hS ⊢
                    rw [if_neg (by simp)] at hS
                    refine ⟨_, rfl, ?_⟩; clear hF; intro a hF
                    refine s_pu hF rfl rfl rfl (pu_assign (hF.ev rfl)) ?_; clear hF; intro a hF
                    refine s_done ?_
                    refine hK25 _ _ ?_; clear hK25
                    refine wp_seq_k fun K26 hK26 => ?_
                    -- region 19
                    refine wp_region_lit ?_
                    refine s_pu hF rfl rfl rfl (pu_move (hF.ev rfl)) ?_; clear hF; intro a hF
                    refine s_done ?_
                    refine hK26 _ _ ?_; clear hK26
                    refine wp_cond_false (hF.ev rfl) ?_
                    refine wp_skip ?_
                    refine blk_normal ?_
                    first
                    | exact ⟨put, f, c, sent, done, dead, under, tk, ⟨by omega, by omega, o3, o4, htk0, htk1, by omega, by omega⟩, hF.sub ⟨rfl, rfl, rfl, rfl, rfl, rfl, rfl, rfl, rfl, rfl, rfl, trivial⟩, hS⟩
                    | exact ⟨put, f, c, sent, done, dead, under, min (ticks + 1) r, ⟨by omega, by omega, o3, o4, by omega, by omega, by omega, by omega⟩, hF.sub ⟨rfl, rfl, rfl, rfl, rfl, rfl, rfl, rfl, rfl, rfl, rfl, trivial⟩, hS⟩
                    | exact ⟨put, f, c, sent, done, dead, false, ticks, ⟨by omega, by omega, o3, (fun h => by cases h), o5, o6, by omega, by omega⟩, hF.sub ⟨rfl, rfl, rfl, rfl, rfl, rfl, rfl, rfl, rfl, rfl, rfl, trivial⟩, hS⟩
      · -- behind the join s19
        clear hS hF hO o1 o2 o3 o4 o5 o6 o7 o8 hv1 put f c sent done dead under ticks
        rintro a w ⟨put, f, c, sent, done, dead, under, ticks, hO, hF, hS⟩
        obtain ⟨o1, o2, o3, o4, o5, o6, o7, o8⟩ := id hO
        have hll : (onQ m r t f c sent under ticks [] dead).l.length = c := onL_len
        refine wp_seq_k fun K18 hK18 => ?_
        -- region 62
        refine wp_region_lit ?_
        refine s_pu hF rfl rfl rfl (pu_move (hF.ev rfl)) ?_; clear hF; intro a hF
        refine s_en hF rfl rfl rfl (run_fn fk23 (hF.ev rfl) (hF.evs rfl)) (all_list 0 hS (by rw [hll]; omega)) ?_
        clear hS; rintro e w ⟨lA, lc, rfl, hS⟩
        rw [hll] at hS ⊢
        refine ⟨_, rfl, ?_⟩; clear hF; intro a hF
        refine s_pu hF rfl rfl rfl (pu_assign (hF.ev rfl)) ?_; clear hF; intro a hF
        refine s_done ?_
        refine hK18 _ _ ?_; clear hK18
        refine wp_seq_k fun K19 hK19 => ?_
        refine wp_seq_k fun K20 hK20 => ?_
        -- region 63
        refine wp_region_lit ?_
        refine s_pu hF rfl rfl rfl (pu_move (hF.ev rfl)) ?_; clear hF; intro a hF
        refine s_en hF rfl rfl rfl (run_fn fk12 (hF.ev rfl) (hF.evs rfl)) (at_place 1 hS rfl (fun h => len_c h)) ?_
        clear hS; rintro e w ⟨rfl, hS⟩
        rw [hll]
        refine ⟨_, rfl, ?_⟩; clear hF; intro a hF
        refine s_pu hF rfl rfl rfl (pu_move (hF.ev rfl)) ?_; clear hF; intro a hF
        refine s_pu hF rfl rfl rfl ((by first | exact pu_add64 (hF.ev rfl) (hF.ev rfl) (by omega) | exact pu_add (hF.ev rfl) (hF.ev rfl))) ?_; clear hF; intro a hF
        refine s_pu hF rfl rfl rfl (pu_move (hF.ev rfl)) ?_; clear hF; intro a hF
        refine s_pu hF rfl rfl rfl ((by first | exact pu_sub64 (hF.ev rfl) (hF.ev rfl) (by omega) | exact pu_sub (hF.ev rfl) (hF.ev rfl))) ?_; clear hF; intro a hF
        refine s_pu hF rfl rfl rfl (pu_neq (hF.ev rfl) (hF.ev rfl)) ?_; clear hF; intro a hF
        refine s_pu hF rfl rfl rfl (pu_move (hF.ev rfl)) ?_; clear hF; intro a hF
        refine fr_split hF (t := 212) rfl ?_ ?_
        · clear hF; intro hg212 hF   -- slot 212 true
          try simp only [decide_eq_true_eq, decide_eq_false_iff_not, Bool.not_eq_true', Bool.not_eq_false', Int.not_lt, Int.not_le, ne_eq, Decidable.not_not, Bool.or_eq_true, Bool.or_eq_false_iff, Bool.and_eq_true, Bool.and_eq_false_imp] at hg212
          omega
        · clear hF; intro hg212 hF   -- slot 212 false
          try simp only [decide_eq_true_eq, decide_eq_false_iff_not, Bool.not_eq_true', Bool.not_eq_false', Int.not_lt, Int.not_le, ne_eq, Decidable.not_not, Bool.or_eq_true, Bool.or_eq_false_iff, Bool.and_eq_true, Bool.and_eq_false_imp] at hg212
          refine s_pu hF rfl rfl rfl (pu_move (hF.ev rfl)) ?_; clear hF; intro a hF
          refine s_pu hF rfl rfl rfl (pu_len sl41 (hF.ev rfl)) ?_; clear hF; intro a hF
          refine s_pu hF rfl rfl rfl (pu_move (hF.ev rfl)) ?_; clear hF; intro a hF
          refine s_en hF rfl rfl rfl (run_fn fk12 (hF.ev rfl) (hF.evs rfl)) (len_c hS) ?_
          clear hS; rintro e w ⟨rfl, hS⟩
          rw [hll]
          refine ⟨_, rfl, ?_⟩; clear hF; intro a hF
          refine s_pu hF rfl rfl rfl (pu_neq (hF.ev rfl) (hF.ev rfl)) ?_; clear hF; intro a hF
          refine s_pu hF rfl rfl rfl ((by first | exact pu_pick_t (hF.ev rfl) (hF.ev rfl) | exact pu_pick_f (hF.ev rfl) (hF.ev rfl) | exact pu_pick (hF.ev rfl) (hF.ev rfl) (hF.ev rfl))) ?_; clear hF; intro a hF
          refine s_pu hF rfl rfl rfl (pu_move (hF.ev rfl)) ?_; clear hF; intro a hF
          refine fr_split hF (t := 219) rfl ?_ ?_
          · clear hF; intro hg219 hF   -- slot 219 true
            try simp only [decide_eq_true_eq, decide_eq_false_iff_not, Bool.not_eq_true', Bool.not_eq_false', Int.not_lt, Int.not_le, ne_eq, Decidable.not_not, Bool.or_eq_true, Bool.or_eq_false_iff, Bool.and_eq_true, Bool.and_eq_false_imp] at hg219
            first | exact absurd rfl hg219 | exact absurd trivial hg219
          · clear hF; intro hg219 hF   -- slot 219 false
            try simp only [decide_eq_true_eq, decide_eq_false_iff_not, Bool.not_eq_true', Bool.not_eq_false', Int.not_lt, Int.not_le, ne_eq, Decidable.not_not, Bool.or_eq_true, Bool.or_eq_false_iff, Bool.and_eq_true, Bool.and_eq_false_imp] at hg219
            refine s_pu hF rfl rfl rfl (pu_move (hF.ev rfl)) ?_; clear hF; intro a hF
            refine s_en hF rfl rfl rfl (run_fn fk15 (hF.ev rfl) (hF.evs rfl)) (dead_c hS) ?_
            clear hS; rintro e w ⟨rfl, hS⟩
            refine ⟨_, rfl, ?_⟩; clear hF; intro a hF
            refine s_pu hF rfl rfl rfl (pu_move (hF.ev rfl)) ?_; clear hF; intro a hF
            refine s_pu hF rfl rfl rfl (pu_neq (hF.ev rfl) (hF.ev rfl)) ?_; clear hF; intro a hF
            refine s_pu hF rfl rfl rfl ((by first | exact pu_pick_t (hF.ev rfl) (hF.ev rfl) | exact pu_pick_f (hF.ev rfl) (hF.ev rfl) | exact pu_pick (hF.ev rfl) (hF.ev rfl) (hF.ev rfl))) ?_; clear hF; intro a hF
            refine s_pu hF rfl rfl rfl (pu_move (hF.ev rfl)) ?_; clear hF; intro a hF
            refine fr_split hF (t := 225) rfl ?_ ?_
            · clear hF; intro hg225 hF   -- slot 225 true
              try simp only [decide_eq_true_eq, decide_eq_false_iff_not, Bool.not_eq_true', Bool.not_eq_false', Int.not_lt, Int.not_le, ne_eq, Decidable.not_not, Bool.or_eq_true, Bool.or_eq_false_iff, Bool.and_eq_true, Bool.and_eq_false_imp] at hg225
              first | exact absurd rfl hg225 | exact absurd trivial hg225
            · clear hF; intro hg225 hF   -- slot 225 false
              try simp only [decide_eq_true_eq, decide_eq_false_iff_not, Bool.not_eq_true', Bool.not_eq_false', Int.not_lt, Int.not_le, ne_eq, Decidable.not_not, Bool.or_eq_true, Bool.or_eq_false_iff, Bool.and_eq_true, Bool.and_eq_false_imp] at hg225
              refine s_pu hF rfl rfl rfl (pu_move (hF.ev rfl)) ?_; clear hF; intro a hF
              refine s_pu hF rfl rfl rfl (pu_move (hF.ev rfl)) ?_; clear hF; intro a hF
              refine s_pu hF rfl rfl rfl ((by first | exact pu_add64 (hF.ev rfl) (hF.ev rfl) (by omega) | exact pu_add (hF.ev rfl) (hF.ev rfl))) ?_; clear hF; intro a hF
              refine s_pu hF rfl rfl rfl (pu_move (hF.ev rfl)) ?_; clear hF; intro a hF
              refine s_en hF rfl rfl rfl (run_fn fk12 (hF.ev rfl) (hF.evs rfl)) (len_c hS) ?_
              clear hS; rintro e w ⟨rfl, hS⟩
              rw [hll]
              refine ⟨_, rfl, ?_⟩; clear hF; intro a hF
              refine s_pu hF rfl rfl rfl ((by first | exact pu_add64 (hF.ev rfl) (hF.ev rfl) (by omega) | exact pu_add (hF.ev rfl) (hF.ev rfl))) ?_; clear hF; intro a hF
              refine s_pu hF rfl rfl rfl (pu_move (hF.ev rfl)) ?_; clear hF; intro a hF
              refine s_pu hF rfl rfl rfl (pu_neq (hF.ev rfl) (hF.ev rfl)) ?_; clear hF; intro a hF
              refine s_pu hF rfl rfl rfl ((by first | exact pu_pick_t (hF.ev rfl) (hF.ev rfl) | exact pu_pick_f (hF.ev rfl) (hF.ev rfl) | exact pu_pick (hF.ev rfl) (hF.ev rfl) (hF.ev rfl))) ?_; clear hF; intro a hF
              refine s_done ?_
              refine hK20 _ _ ?_; clear hK20
              refine wp_cond_split (hF.ev rfl) (fun hc19 => ?_) (fun hc19 => ?_)
              · -- cond 19 true
                try simp only [decide_eq_true_eq, decide_eq_false_iff_not, Bool.not_eq_true', Bool.not_eq_false', Int.not_lt, Int.not_le, ne_eq, Decidable.not_not, Bool.or_eq_true, Bool.or_eq_false_iff, Bool.and_eq_true, Bool.and_eq_false_imp] at hc19
                omega
              · -- cond 19 false
                try simp only [decide_eq_true_eq, decide_eq_false_iff_not, Bool.not_eq_true', Bool.not_eq_false', Int.not_lt, Int.not_le, ne_eq, Decidable.not_not, Bool.or_eq_true, Bool.or_eq_false_iff, Bool.and_eq_true, Bool.and_eq_false_imp] at hc19
                refine wp_skip ?_
                refine hK19 _ _ ?_; clear hK19
                refine wp_seq_k fun K21 hK21 => ?_
                -- region 65
                refine wp_region_lit ?_
                refine s_pu hF rfl rfl rfl (pu_assign (hF.ev rfl)) ?_; clear hF; intro a hF
                refine s_done ?_
                refine hK21 _ _ ?_; clear hK21
                refine wp_block ?_
                obtain ⟨hs, hls, hS⟩ := list_open.1 (hS.front 1 rfl)
                replace hS := (hS.perm (List.perm_middle (l₁ := advsC 0 hs (onQ m r t f c sent under ticks [] dead).l)).symm).right
                rw [hll] at hS hls
                refine wp_ind (fun j a w => ∃ (kk : Nat), j = c - kk ∧ kk ≤ c ∧
                  Fr a 263 [(3, .slice (some x) l3 q3), (10, .int .i64 m), (11, .int .i64 r), (12, .int .i64 t), (13, .pointer (some ⟨g, 0, none⟩)), (15, .int .i64 put), (16, .int .i64 f), (17, .int .i64 sent), (18, .int .i64 done), (19, .int .i64 dead), (20, .int .i64 i), (31, .slice lA c lc), (32, .int .i64 kk)] ∧
                  Sat W w [rowC 33 6 (.slice lA c lc) c (advCells (onL f c) hs), queueC 0 g (onQ m r t f c sent under ticks [] dead), whole W]) c
                  ⟨0, by omega, by omega, hF.sub ⟨rfl, rfl, rfl, rfl, rfl, rfl, rfl, rfl, rfl, rfl, rfl, rfl, rfl, trivial⟩, hS⟩ ?_
                clear hS hF
                rintro j a w ⟨kk, rfl, hkk, hF, hS⟩
                refine wp_seq_k fun K22 hK22 => ?_
                refine wp_seq_k fun K23 hK23 => ?_
                -- region 66
                refine wp_region_lit ?_
                refine s_pu hF rfl rfl rfl (pu_move (hF.ev rfl)) ?_; clear hF; intro a hF
                refine s_pu hF rfl rfl rfl (pu_move (hF.ev rfl)) ?_; clear hF; intro a hF
                refine s_pu hF rfl rfl rfl (pu_len sl41 (hF.ev rfl)) ?_; clear hF; intro a hF
                refine s_pu hF rfl rfl rfl (pu_lss (hF.ev rfl) (hF.ev rfl)) ?_; clear hF; intro a hF
                refine s_done ?_
                refine hK23 _ _ ?_; clear hK23
                refine wp_cond_split (hF.ev rfl) (fun hc20 => ?_) (fun hc20 => ?_)
                · -- cond 20 true
                  try simp only [decide_eq_true_eq, decide_eq_false_iff_not, Bool.not_eq_true', Bool.not_eq_false', Int.not_lt, Int.not_le, ne_eq, Decidable.not_not, Bool.or_eq_true, Bool.or_eq_false_iff, Bool.and_eq_true, Bool.and_eq_false_imp] at hc20
                  have hkc : kk < c := by omega
                  have hx := onL_get (f := f) hkc
                  obtain ⟨px, hpx⟩ : ∃ px, hs[kk]? = some px := ⟨hs[kk]'(by omega), List.getElem?_eq_getElem _⟩
                  obtain ⟨gh, rfl⟩ := row_some (i := 0) hS rfl (by omega)
                  have hcc := advCells_at hx hpx
                  refine wp_skip ?_
                  refine hK22 _ _ ?_; clear hK22
                  refine wp_seq_k fun K24 hK24 => ?_
                  refine wp_block ?_
                  refine wp_seq_k fun K25 hK25 => ?_
                  -- region 68
                  refine d_start (S := (fun w => Sat W w _)) (ds := []) (ord := [(0, .pu), (1, .pu), (2, .pu), (3, .pu), (4, .tk), (5, .pu), (6, .pu), (7, .pu), (8, .pu), (9, .pu), (10, .pu), (11, .pu), (12, .pu), (13, .pu), (14, .pu), (15, .tk), (16, .pu), (17, .pu), (18, .pu), (19, .on), (20, .pu), (21, .pu)]) mixed ⟨by kernel_rfl, fun _ d _ _ _ h => by cases d <;> exact h⟩ hS.drew fun hD => ?_
                  replace hS := hS.drew; generalize w.drew = w at hS ⊢
                  refine d_pu hD hF rfl rfl rfl rfl rfl (pu_move (hF.ev rfl)) ?_; clear hF; intro a hF
                  refine d_pu hD hF rfl rfl rfl rfl rfl (pu_move (hF.ev rfl)) ?_; clear hF; intro a hF
                  refine d_pu hD hF rfl rfl rfl rfl rfl ((by first | exact pu_elem sl41 (hF.ev rfl) (hF.ev rfl) (by first | omega | simp) (by first | omega | (simp; done) | (simp; omega)) | exact pu_elemA sl41 (hF.ev rfl) (hF.ev rfl) (by omega) (by omega))) ?_; clear hF; intro a hF
                  refine d_pu hD hF rfl rfl rfl rfl rfl (pu_field fd33_1 (hF.ev rfl)) ?_; clear hF; intro a hF
                  refine d_rd hD hF rfl rfl rfl rfl rfl hS (fun w hS => rd_load pl3 (hF.ev rfl) (row_load (i := 0) hS rfl (by omega) hcc 1 _ rfl)) ?_; clear hF; intro a hF
                  refine d_pu hD hF rfl rfl rfl rfl rfl (pu_move (hF.ev rfl)) ?_; clear hF; intro a hF
                  refine d_pu hD hF rfl rfl rfl rfl rfl (pu_move (hF.ev rfl)) ?_; clear hF; intro a hF
                  refine d_pu hD hF rfl rfl rfl rfl rfl ((by first | exact pu_add64 (hF.ev rfl) (hF.ev rfl) (by omega) | exact pu_add (hF.ev rfl) (hF.ev rfl))) ?_; clear hF; intro a hF
                  refine d_pu hD hF rfl rfl rfl rfl rfl (pu_neq (hF.ev rfl) (hF.ev rfl)) ?_; clear hF; intro a hF
                  refine d_pu hD hF rfl rfl rfl rfl rfl (pu_move (hF.ev rfl)) ?_; clear hF; intro a hF
                  refine fr_split hF (t := 250) rfl ?_ ?_
                  · clear hF; intro hg250 hF   -- slot 250 true
                    try simp only [decide_eq_true_eq, decide_eq_false_iff_not, Bool.not_eq_true', Bool.not_eq_false', Int.not_lt, Int.not_le, ne_eq, Decidable.not_not, Bool.or_eq_true, Bool.or_eq_false_iff, Bool.and_eq_true, Bool.and_eq_false_imp] at hg250
                    exact absurd (by simp [advN]) hg250
                  · clear hF; intro hg250 hF   -- slot 250 false
                    try simp only [decide_eq_true_eq, decide_eq_false_iff_not, Bool.not_eq_true', Bool.not_eq_false', Int.not_lt, Int.not_le, ne_eq, Decidable.not_not, Bool.or_eq_true, Bool.or_eq_false_iff, Bool.and_eq_true, Bool.and_eq_false_imp] at hg250
                    refine d_pu hD hF rfl rfl rfl rfl rfl (pu_move (hF.ev rfl)) ?_; clear hF; intro a hF
                    refine d_pu hD hF rfl rfl rfl rfl rfl (pu_move (hF.ev rfl)) ?_; clear hF; intro a hF
                    refine d_pu hD hF rfl rfl rfl rfl rfl ((by first | exact pu_elem sl41 (hF.ev rfl) (hF.ev rfl) (by first | omega | simp) (by first | omega | (simp; done) | (simp; omega)) | exact pu_elemA sl41 (hF.ev rfl) (hF.ev rfl) (by omega) (by omega))) ?_; clear hF; intro a hF
                    refine d_pu hD hF rfl rfl rfl rfl rfl (pu_field fd33_2 (hF.ev rfl)) ?_; clear hF; intro a hF
                    refine d_pu hD hF rfl rfl rfl rfl rfl (pu_field fd31_0 (hF.ev rfl)) ?_; clear hF; intro a hF
                    refine d_rd hD hF rfl rfl rfl rfl rfl hS (fun w hS => rd_load pl9 (hF.ev rfl) (row_load (i := 0) hS rfl (by omega) hcc 2 _ rfl)) ?_; clear hF; intro a hF
                    refine d_pu hD hF rfl rfl rfl rfl rfl (pu_move (hF.ev rfl)) ?_; clear hF; intro a hF
                    refine d_pu hD hF rfl rfl rfl rfl rfl (pu_move (hF.ev rfl)) ?_; clear hF; intro a hF
                    refine d_pu hD hF rfl rfl rfl rfl rfl ((by first | exact pu_add64 (hF.ev rfl) (hF.ev rfl) (by omega) | exact pu_add (hF.ev rfl) (hF.ev rfl))) ?_; clear hF; intro a hF
                    rw [show (f : Int) + kk = ((f + kk : Nat) : Int) from by omega] at hF
                    refine d_en hD hF rfl rfl rfl rfl rfl (run_fn fk25 (hF.ev rfl) (hF.evs rfl)) (text_c hS (by omega)) ?_
                    clear hS; rintro e w ⟨rfl, hsz1, hS⟩
                    refine ⟨_, rfl, hS, ?_⟩; clear hF; intro a hF
                    refine d_pu hD hF rfl rfl rfl rfl rfl (pu_sneq (hF.ev rfl) (hF.ev rfl)) ?_; clear hF; intro a hF
                    refine d_pu hD hF rfl rfl rfl rfl rfl ((by first | exact pu_pick_t (hF.ev rfl) (hF.ev rfl) | exact pu_pick_f (hF.ev rfl) (hF.ev rfl) | exact pu_pick (hF.ev rfl) (hF.ev rfl) (hF.ev rfl))) ?_; clear hF; intro a hF
                    refine d_done hD rfl ?_; clear hD
                    refine hK25 _ _ ?_; clear hK25
                    refine wp_cond_split (hF.ev rfl) (fun hc21 => ?_) (fun hc21 => ?_)
                    · -- cond 21 true
                      try simp only [decide_eq_true_eq, decide_eq_false_iff_not, Bool.not_eq_true', Bool.not_eq_false', Int.not_lt, Int.not_le, ne_eq, Decidable.not_not, Bool.or_eq_true, Bool.or_eq_false_iff, Bool.and_eq_true, Bool.and_eq_false_imp] at hc21
                      exact absurd rfl hc21
                    · -- cond 21 false
                      try simp only [decide_eq_true_eq, decide_eq_false_iff_not, Bool.not_eq_true', Bool.not_eq_false', Int.not_lt, Int.not_le, ne_eq, Decidable.not_not, Bool.or_eq_true, Bool.or_eq_false_iff, Bool.and_eq_true, Bool.and_eq_false_imp] at hc21
                      refine wp_skip ?_
                      refine blk_normal ?_
                      refine hK24 _ _ ?_; clear hK24
                      -- region 67
                      refine wp_region_lit ?_
                      refine s_pu hF rfl rfl rfl (pu_move (hF.ev rfl)) ?_; clear hF; intro a hF
                      refine s_pu hF rfl rfl rfl ((by first | exact pu_add64 (hF.ev rfl) (hF.ev rfl) (by omega) | exact pu_add (hF.ev rfl) (hF.ev rfl))) ?_; clear hF; intro a hF
                      refine s_pu hF rfl rfl rfl (pu_assign (hF.ev rfl)) ?_; clear hF; intro a hF
                      refine s_done ?_
                      exact ⟨_, by omega, kk + 1, rfl, by omega, hF.sub ⟨rfl, rfl, rfl, rfl, rfl, rfl, rfl, rfl, rfl, rfl, rfl, rfl, rfl, trivial⟩, hS⟩
                · -- cond 20 false
                  try simp only [decide_eq_true_eq, decide_eq_false_iff_not, Bool.not_eq_true', Bool.not_eq_false', Int.not_lt, Int.not_le, ne_eq, Decidable.not_not, Bool.or_eq_true, Bool.or_eq_false_iff, Bool.and_eq_true, Bool.and_eq_false_imp] at hc20
                  refine wp_exit ?_
                  refine then_exit ?_
                  refine then_exit ?_
                  refine blk_exit ?_
                  refine blk_normal ?_
                  refine hK17 _ _ ?_; clear hK17
                  -- region 15
                  refine wp_region_lit ?_
                  refine s_pu hF rfl rfl rfl (pu_move (hF.ev rfl)) ?_; clear hF; intro a hF
                  refine s_pu hF rfl rfl rfl ((by first | exact pu_add64 (hF.ev rfl) (hF.ev rfl) (by omega) | exact pu_add (hF.ev rfl) (hF.ev rfl))) ?_; clear hF; intro a hF
                  refine s_pu hF rfl rfl rfl (pu_assign (hF.ev rfl)) ?_; clear hF; intro a hF
                  refine s_done ?_
                  exact ⟨_, by omega, i + 1, put, f, c, sent, done, dead, under, ticks, rfl, hO, hF.sub ⟨rfl, rfl, rfl, rfl, rfl, rfl, rfl, rfl, rfl, rfl, rfl, trivial⟩, hS.tail⟩
    · -- cond 1 false
      try simp only [decide_eq_true_eq, decide_eq_false_iff_not, Bool.not_eq_true', Bool.not_eq_false', Int.not_lt, Int.not_le, ne_eq, Decidable.not_not, Bool.or_eq_true, Bool.or_eq_false_iff, Bool.and_eq_true, Bool.and_eq_false_imp] at hc1
      refine wp_exit ?_
      refine then_exit ?_
      refine then_exit ?_
      refine blk_exit ?_
      refine hK13 _ _ ?_; clear hK13
      refine wp_seq_k fun K17 hK17 => ?_
      -- region 70
      refine wp_region_lit ?_
      refine s_pu hF rfl rfl rfl (pu_assign (hF.ev rfl)) ?_; clear hF; intro a hF
      refine s_done ?_
      refine hK17 _ _ ?_; clear hK17
      refine wp_ret ?_
      refine fin1 Try.results5 hF rfl ?_
      exact ⟨rfl, (hS.front 1 rfl).below⟩
  · clear hF; intro hg64 hF   -- slot 64 false
    try simp only [decide_eq_true_eq, decide_eq_false_iff_not, Bool.not_eq_true', Bool.not_eq_false', Int.not_lt, Int.not_le, ne_eq, Decidable.not_not, Bool.or_eq_true, Bool.or_eq_false_iff, Bool.and_eq_true, Bool.and_eq_false_imp] at hg64
    refine s_no hF rfl rfl rfl ?_; clear hF; intro a hF
    refine s_no hF rfl rfl rfl ?_; clear hF; intro a hF
    refine s_pu hF rfl rfl rfl ((by first | exact pu_pick_t (hF.ev rfl) (hF.ev rfl) | exact pu_pick_f (hF.ev rfl) (hF.ev rfl) | exact pu_pick (hF.ev rfl) (hF.ev rfl) (hF.ev rfl))) ?_; clear hF; intro a hF
    refine s_done ?_
    refine hK16 _ _ ?_; clear hK16
    refine wp_cond_false (hF.ev rfl) ?_
    refine wp_exit ?_
    refine then_exit ?_
    refine then_exit ?_
    refine blk_exit ?_
    refine hK13 _ _ ?_; clear hK13
    refine wp_seq_k fun K17 hK17 => ?_
    -- region 70
    refine wp_region_lit ?_
    refine s_pu hF rfl rfl rfl (pu_assign (hF.ev rfl)) ?_; clear hF; intro a hF
    refine s_done ?_
    refine hK17 _ _ ?_; clear hK17
    refine wp_ret ?_
    refine fin1 Try.results5 hF rfl ?_
    exact ⟨rfl, (hS.front 1 rfl).below⟩
end Go.Proofs.Ytgnepnjicmgkaaa
