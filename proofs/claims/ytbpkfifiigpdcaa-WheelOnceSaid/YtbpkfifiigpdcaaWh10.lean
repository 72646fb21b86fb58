import Derived.Test.YtbpkfifiigpdcaaWh9

/-! WheelOnce: the law. -/
namespace Go.Proofs.Ytbpkfifiigpdcaa
open Go Go.RowKit Go.Proofs.Ytbpkfifiigpdcaa.Sk
set_option linter.unusedVariables false
set_option linter.unusedSimpArgs false
set_option maxRecDepth 100000

structure Inv (R : List Th) (now hi : Int) : Prop where
  num : Numbered R
  due : ∀ r ∈ R, r.done = false → now < r.due ∧ r.due ≤ hi
section pure
variable {R : List Th} {now hi : Int}
theorem Inv.ring (h : Inv R now hi) : Inv (ring now R) (now + 1) hi := by
  refine ⟨ring_num h.num, fun r hr hd => ?_⟩
  unfold Go.Proofs.Ytbpkfifiigpdcaa.ring at hr
  obtain ⟨q, hq, rfl⟩ := List.mem_map.1 hr
  simp at hd
  have := h.due q hq hd.1
  have := hd.2
  simp only
  omega
theorem Inv.weak {hi' : Int} (h : Inv R now hi) (hh : hi ≤ hi') : Inv R now hi' := ⟨h.num, fun r hr hd => by have := h.due r hr hd; omega⟩
theorem Inv.mark (h : Inv R now hi) (ks : List Nat) : Inv (mark ks R) now hi := by
  refine ⟨?_, fun r hr hd => ?_⟩
  · intro i r hr
    unfold Go.Proofs.Ytbpkfifiigpdcaa.mark at hr
    rw [List.getElem?_map] at hr
    cases hq : R[i]? with
    | none => rw [hq] at hr; cases hr
    | some q =>
      rw [hq] at hr
      injection hr with hr
      subst hr
      exact h.num i q hq
  · unfold Go.Proofs.Ytbpkfifiigpdcaa.mark at hr
    obtain ⟨q, hq, rfl⟩ := List.mem_map.1 hr
    simp at hd
    exact h.due q hq hd.1
theorem Inv.add (h : Inv R now (now + 200)) {t : Int} {b : Nat} (h1 : 1 ≤ t) (h2 : t ≤ 200) : Inv (R ++ [⟨R.length, now + t, false, b⟩]) now (now + 200) := by
  refine ⟨?_, fun r hr hd => ?_⟩
  · intro i r hr
    rw [List.getElem?_append] at hr
    split at hr
    · exact h.num i r hr
    · rename_i hlt
      have hi : i - R.length = 0 := by
        have := (List.getElem?_eq_some_iff.1 hr).1
        simp at this
        omega
      rw [hi] at hr
      simp at hr
      subst hr
      simp only
      omega
  · rcases List.mem_append.1 hr with hr | hr
    · exact h.due r hr hd
    · simp at hr; subst hr; simp only; omega
theorem mark_len {ks : List Nat} : (mark ks R).length = R.length := by simp [mark]
theorem mark_dues {ks : List Nat} : dues (mark ks R) = dues R := by simp [dues, mark]
theorem mark_chunk {ks : List Nat} : (mark ks R).map Th.chunk = R.map Th.chunk := by
  unfold mark
  rw [List.map_map]
  rfl
theorem pend_mark (h : Numbered R) {q : Nat} : (pend R).filter (fun x => !decide (x.timer = (q : Int) + 1)) = pend (mark [q] R) := by
  unfold pend mark
  rw [List.filter_map, List.filter_filter, List.filter_map, List.map_map]
  have : (Th.ent ∘ fun r : Th => { r with done := r.done || [q].contains r.i }) = Th.ent := rfl
  rw [this]
  congr 1
  apply List.filter_congr
  intro r _
  simp only [Function.comp, Th.ent, Bool.not_or, List.contains_eq_any_beq, List.any_cons, List.any_nil, Bool.or_false]
  rw [Bool.and_comm]
  congr 1
  rw [Bool.eq_iff_iff]
  simp
  omega
theorem pend_none (h : ∀ r ∈ R, r.done = true) : pend R = [] := by
  unfold pend
  rw [List.filter_eq_nil_iff.2 (fun r hr => by simp [h r hr])]
  rfl
end pure

/-- What WheelOnce holds. -/
def onceS (W : World) (g n c d : Nat) (A B : Option Addr) (R : List Th) (now : Int) : List Chunk :=
  whC_s g n (pend R) now R.length :: rowC 3 1 (.slice A R.length c) R.length (dues R) :: rowC 4 1 (.slice B R.length d) R.length (dones R) :: whole W :: R.map Th.chunk
theorem once_tick {w0 w W : World} {g n c d : Nat} {A B : Option Addr} {R : List Th} {now hi : Int} (hS : Sat w0 w (onceS W g n c d A B R now)) (hI : Inv R now hi) (h1 : 1 ≤ n) (hnow : 0 ≤ now) (hnow1 : now ≤ 1000000) (hhi : hi ≤ 2000000) (hlen : R.length ≤ 1000) :
    Calls Try.prog 12 #[.pointer (some ⟨g, 0, none⟩), .slice A R.length c, .slice B R.length d] w fun e w' => e = .returned (.bool true) ∧ ∃ R', R'.length = R.length ∧ Inv R' (now + 1) hi ∧ Sat w0 w' (onceS W g n c d A B R' (now + 1)) := by
  refine (comes_c hS hI.num h1 hnow (by omega) hlen (fun r hr hd => by have := hI.due r hr hd; omega)).mono ?_
  rintro e w' ⟨rfl, h⟩
  refine ⟨rfl, ring now R, ring_len, hI.ring, ?_⟩
  unfold onceS
  rw [ring_len]
  exact h

theorem once_c (W : World) (s : Int) {a1 a2 a3 : Option Addr} {l1 l2 l3 q1 q2 q3 : Nat} {z1 z2 z3 : List Int} (hs0 : -9223372036854775808 ≤ s) (hs1 : s ≤ 9223372036854775807)
    (hz1 : IntsIn W a1 l1 z1) (hz2 : IntsIn W a2 l2 z2) (hz3 : IntsIn W a3 l3 z3) :
    Calls Try.prog 3 #[.int .i64 s, .slice a1 l1 q1, .slice a2 l2 q2, .slice a3 l3 q3] W fun e w' => e = .returned (.bool true) ∧ Below W.heap.size W w' := by
  have hS := sat_whole W
  obtain ⟨w, hw⟩ : ∃ w, w = W := ⟨_, rfl⟩
  have hS : Sat W w [whole W] := by rw [hw]; exact hS
  rw [show Calls Try.prog 3 #[.int .i64 s, .slice a1 l1 q1, .slice a2 l2 q2, .slice a3 l3 q3] W = Calls Try.prog 3 #[.int .i64 s, .slice a1 l1 q1, .slice a2 l2 q2, .slice a3 l3 q3] w by rw [hw]]
  clear hw
  have hpb := pick_bd s (n := 4096) (by omega)
  obtain ⟨n, hn⟩ : ∃ n : Nat, (n : Int) = 1 + pickI s 4096 := ⟨(1 + pickI s 4096).toNat, by omega⟩
  refine enter Try.func3 rfl Try.ntmps3 (Nat.le_of_ble_eq_true rfl) fun a hF => ?_
  refine wp_seq_k fun K0 hK0 => ?_
  -- region 0
  refine wp_region_lit ?_
  refine s_pu hF rfl rfl rfl (pu_assign (hF.ev rfl)) ?_; clear hF; intro a hF
  refine s_done ?_
  refine hK0 _ _ ?_; clear hK0
  refine wp_seq_k fun K1 hK1 => ?_
  -- region 1
  refine wp_region_lit ?_
  refine s_en hF rfl rfl rfl (run_fn fk7 (hF.ev rfl) (hF.evs rfl)) (examples_c hS) ?_
  clear hS; rintro e w ⟨rfl, hS⟩
  refine ⟨_, rfl, ?_⟩; clear hF; intro a hF
  refine s_pu hF rfl rfl rfl (pu_assign (hF.ev rfl)) ?_; clear hF; intro a hF
  refine s_done ?_
  refine hK1 _ _ ?_; clear hK1
  refine wp_seq_k fun K2 hK2 => ?_
  -- region 2
  refine wp_region_lit ?_
  refine s_pu hF rfl rfl rfl (pu_move (hF.ev rfl)) ?_; clear hF; intro a hF
  refine s_en hF rfl rfl rfl (run_fn fk9 (hF.ev rfl) (hF.evs rfl)) (pick_c hS (by omega) hs0 hs1) ?_
  clear hS; rintro e w ⟨rfl, hS⟩
  refine ⟨_, rfl, ?_⟩; clear hF; intro a hF
  refine s_pu hF rfl rfl rfl ((by first | exact pu_add64 (hF.ev rfl) (hF.ev rfl) (by omega) | exact pu_add (hF.ev rfl) (hF.ev rfl))) ?_; clear hF; intro a hF
  rw [← hn] at hF
  refine s_en hF rfl rfl rfl (run_fn fk8 (hF.ev rfl) (hF.evs rfl)) (wNew_s hS (by omega) (by omega)) ?_
  clear hS; rintro e w ⟨g, rfl, hS⟩
  refine ⟨_, rfl, ?_⟩; clear hF; intro a hF
  refine s_pu hF rfl rfl rfl (pu_move (hF.ev rfl)) ?_; clear hF; intro a hF
  refine s_pu hF rfl rfl rfl (pu_extract (hF.ev rfl) rfl) ?_; clear hF; intro a hF
  refine s_pu hF rfl rfl rfl (pu_extract (hF.ev rfl) rfl) ?_; clear hF; intro a hF
  refine s_pu hF rfl rfl rfl (pu_assign (hF.ev rfl)) ?_; clear hF; intro a hF
  refine s_pu hF rfl rfl rfl (pu_assign (hF.ev rfl)) ?_; clear hF; intro a hF
  refine s_done ?_
  refine hK2 _ _ ?_; clear hK2
  refine wp_seq_k fun K3 hK3 => ?_
  refine wp_seq_k fun K4 hK4 => ?_
  -- region 3
  refine wp_region_lit ?_
  refine s_pu hF rfl rfl rfl (pu_move (hF.ev rfl)) ?_; clear hF; intro a hF
  refine s_pu hF rfl rfl rfl (pu_not (hF.ev rfl)) ?_; clear hF; intro a hF
  refine s_pu hF rfl rfl rfl (pu_move (hF.ev rfl)) ?_; clear hF; intro a hF
  refine s_pu hF rfl rfl rfl (pu_move (hF.ev rfl)) ?_; clear hF; intro a hF
  refine s_pu hF rfl rfl rfl (pu_neq (hF.ev rfl) (hF.ev rfl)) ?_; clear hF; intro a hF
  refine s_pu hF rfl rfl rfl ((by first | exact pu_pick_t (hF.ev rfl) (hF.ev rfl) | exact pu_pick_f (hF.ev rfl) (hF.ev rfl) | exact pu_pick (hF.ev rfl) (hF.ev rfl) (hF.ev rfl))) ?_; clear hF; intro a hF
  refine s_pu hF rfl rfl rfl (pu_move (hF.ev rfl)) ?_; clear hF; intro a hF
  refine s_pu hF rfl rfl rfl (pu_move (hF.ev rfl)) ?_; clear hF; intro a hF
  refine s_pu hF rfl rfl rfl (pu_peq Try.underlying24 (hF.ev rfl) (hF.ev rfl)) ?_; clear hF; intro a hF
  refine s_pu hF rfl rfl rfl ((by first | exact pu_pick_t (hF.ev rfl) (hF.ev rfl) | exact pu_pick_f (hF.ev rfl) (hF.ev rfl) | exact pu_pick (hF.ev rfl) (hF.ev rfl) (hF.ev rfl))) ?_; clear hF; intro a hF
  refine s_done ?_
  refine hK4 _ _ ?_; clear hK4
  refine wp_cond_false (hF.ev rfl) ?_
  refine wp_skip ?_
  refine hK3 _ _ ?_; clear hK3
  refine wp_seq_k fun K5 hK5 => ?_
  -- region 5
  refine wp_region_lit ?_
  refine s_pu hF rfl rfl rfl (pu_assign (hF.ev rfl)) ?_; clear hF; intro a hF
  refine s_done ?_
  refine hK5 _ _ ?_; clear hK5
  refine wp_seq_k fun K6 hK6 => ?_
  -- region 6
  refine wp_region_lit ?_
  refine s_pu hF rfl rfl rfl (pu_assign (hF.ev rfl)) ?_; clear hF; intro a hF
  refine s_done ?_
  refine hK6 _ _ ?_; clear hK6
  refine wp_seq_k fun K7 hK7 => ?_
  refine wp_seq_k fun K8 hK8 => ?_
  -- region 7
  refine wp_region_lit ?_
  refine s_pu hF rfl rfl rfl (pu_assign (hF.ev rfl)) ?_; clear hF; intro a hF
  refine s_done ?_
  refine hK8 _ _ ?_; clear hK8
  refine wp_block ?_
  replace hS := (row_nil (E := 3) (sz := 1) (row_nil (E := 4) (sz := 1) hS)).sel [2]
  refine wp_ind (fun j a w => ∃ (R : List Th) (now : Int) (A B : Option Addr) (c d : Nat), j = 50 - R.length ∧ R.length ≤ 50 ∧ 0 ≤ now ∧ now ≤ 29 * R.length ∧ Inv R now (now + 200) ∧
    Fr a 178 [(1, .slice a1 l1 q1), (2, .slice a2 l2 q2), (3, .slice a3 l3 q3), (10, .pointer (some ⟨g, 0, none⟩)), (12, .slice A R.length c), (13, .slice B R.length d), (14, .int .i64 R.length)] ∧
    Sat W w (onceS W g n c d A B R now)) 50
    ⟨[], 0, none, none, 0, 0, rfl, by simp, by omega, by simp, ⟨by intro i r h; simp at h, by simp⟩, hF.sub ⟨rfl, rfl, rfl, rfl, rfl, rfl, rfl, trivial⟩, hS⟩ ?_
  clear hS hF
  rintro j a w ⟨R, now, A, B, c, d, rfl, hRl, hnow0, hnow1, hI, hF, hS⟩
  refine wp_seq_k fun K9 hK9 => ?_
  refine wp_seq_k fun K10 hK10 => ?_
  -- region 8
  refine wp_region_lit ?_
  refine s_pu hF rfl rfl rfl (pu_move (hF.ev rfl)) ?_; clear hF; intro a hF
  refine s_pu hF rfl rfl rfl (pu_move (hF.ev rfl)) ?_; clear hF; intro a hF
  refine s_pu hF rfl rfl rfl (pu_len sl22 (hF.ev rfl)) ?_; clear hF; intro a hF
  refine s_pu hF rfl rfl rfl (pu_lss (hF.ev rfl) (hF.ev rfl)) ?_; clear hF; intro a hF
  refine s_pu hF rfl rfl rfl (pu_move (hF.ev rfl)) ?_; clear hF; intro a hF
  refine fr_split hF (t := 49) rfl ?_ ?_
  · clear hF; intro hg49 hF   -- slot 49 true
    try simp only [decide_eq_true_eq, decide_eq_false_iff_not, Bool.not_eq_true', Bool.not_eq_false', Int.not_lt, Int.not_le, ne_eq, Decidable.not_not, Bool.or_eq_true, Bool.or_eq_false_iff, Bool.and_eq_true, Bool.and_eq_false_imp] at hg49
    refine s_pu hF rfl rfl rfl (pu_move (hF.ev rfl)) ?_; clear hF; intro a hF
    refine s_pu hF rfl rfl rfl (pu_lss (hF.ev rfl) (hF.ev rfl)) ?_; clear hF; intro a hF
    refine s_pu hF rfl rfl rfl ((by first | exact pu_pick_t (hF.ev rfl) (hF.ev rfl) | exact pu_pick_f (hF.ev rfl) (hF.ev rfl) | exact pu_pick (hF.ev rfl) (hF.ev rfl) (hF.ev rfl))) ?_; clear hF; intro a hF
    refine s_done ?_
    refine hK10 _ _ ?_; clear hK10
    refine wp_cond_split (hF.ev rfl) (fun hc1 => ?_) (fun hc1 => ?_)
    · -- cond 1 true
      try simp only [decide_eq_true_eq, decide_eq_false_iff_not, Bool.not_eq_true', Bool.not_eq_false', Int.not_lt, Int.not_le, ne_eq, Decidable.not_not, Bool.or_eq_true, Bool.or_eq_false_iff, Bool.and_eq_true, Bool.and_eq_false_imp] at hc1
      obtain ⟨x, rfl, hv, hb⟩ := hz1.at_ R.length (by omega)
      have hv1 : w.cell? (x.add ((R.length : Int).toNat * 1)) = some (.int .i64 (z1.getD R.length 0)) := by
        rw [Int.toNat_natCast, Nat.mul_one]
        exact hS.whole_at (i := 3) rfl hv
      have hpb := pick_bd (z1.getD R.length 0) (n := 200) (by omega)
      have hpl := pend_len (R := R)
      refine wp_skip ?_
      refine hK9 _ _ ?_; clear hK9
      refine wp_seq_k fun K11 hK11 => ?_
      refine wp_block ?_
      refine wp_seq_k fun K12 hK12 => ?_
      -- region 10
      refine wp_region_lit ?_
      refine s_pu hF rfl rfl rfl (pu_move (hF.ev rfl)) ?_; clear hF; intro a hF
      refine s_pu hF rfl rfl rfl (pu_move (hF.ev rfl)) ?_; clear hF; intro a hF
      refine s_pu hF rfl rfl rfl ((by first | exact pu_elem sl22 (hF.ev rfl) (hF.ev rfl) (by first | omega | simp) (by first | omega | (simp; done) | (simp; omega)) | exact pu_elemA sl22 (hF.ev rfl) (hF.ev rfl) (by omega) (by omega))) ?_; clear hF; intro a hF
      refine s_rd hF rfl rfl rfl (by first | exact rd_load pl3 (hF.ev rfl) (by assumption) | exact rd_load pl3 (hF.ev rfl) (hS.cellL (i := 0) rfl rfl) | exact rd_load pl3 (hF.ev rfl) (hS.cellL (i := 1) rfl rfl) | exact rd_load pl3 (hF.ev rfl) (hS.cellL (i := 2) rfl rfl) | exact rd_load pl3 (hF.ev rfl) (hS.cellL (i := 3) rfl rfl) | exact rd_load pl3 (hF.ev rfl) (hS.cellL (i := 4) rfl rfl) | exact rd_load pl3 (hF.ev rfl) (hS.cellL (i := 5) rfl rfl) | exact rd_load pl3 (hF.ev rfl) (hS.cell (i := 0) rfl (by assumption)) | exact rd_load pl3 (hF.ev rfl) (hS.cell (i := 1) rfl (by assumption)) | exact rd_load pl3 (hF.ev rfl) (hS.cell (i := 2) rfl (by assumption)) | exact rd_load pl3 (hF.ev rfl) (hS.cell (i := 3) rfl (by assumption)) | exact rd_load pl3 (hF.ev rfl) (hS.cell (i := 4) rfl (by assumption)) | exact rd_load pl3 (hF.ev rfl) (hS.cell (i := 5) rfl (by assumption)) | exact rd_load pl3 (hF.ev rfl) (row_at (i := 0) hS rfl (by first | assumption | rfl)) | exact rd_load pl3 (hF.ev rfl) (row_at0 (i := 0) hS rfl (by first | assumption | rfl)) | exact rd_load pl3 (hF.ev rfl) (row_at (i := 1) hS rfl (by first | assumption | rfl)) | exact rd_load pl3 (hF.ev rfl) (row_at0 (i := 1) hS rfl (by first | assumption | rfl)) | exact rd_load pl3 (hF.ev rfl) (row_at (i := 2) hS rfl (by first | assumption | rfl)) | exact rd_load pl3 (hF.ev rfl) (row_at0 (i := 2) hS rfl (by first | assumption | rfl)) | exact rd_load pl3 (hF.ev rfl) (row_at (i := 3) hS rfl (by first | assumption | rfl)) | exact rd_load pl3 (hF.ev rfl) (row_at0 (i := 3) hS rfl (by first | assumption | rfl)) | exact rd_load pl3 (hF.ev rfl) (row_at (i := 4) hS rfl (by first | assumption | rfl)) | exact rd_load pl3 (hF.ev rfl) (row_at0 (i := 4) hS rfl (by first | assumption | rfl)) | exact rd_load pl3 (hF.ev rfl) (row_at (i := 5) hS rfl (by first | assumption | rfl)) | exact rd_load pl3 (hF.ev rfl) (row_at0 (i := 5) hS rfl (by first | assumption | rfl))) ?_; clear hF; intro a hF
      refine s_en hF rfl rfl rfl (run_fn fk9 (hF.ev rfl) (hF.evs rfl)) (pick_c hS (by omega) hb.1 hb.2) ?_
      clear hS; rintro e w ⟨rfl, hS⟩
      refine ⟨_, rfl, ?_⟩; clear hF; intro a hF
      refine s_pu hF rfl rfl rfl ((by first | exact pu_add64 (hF.ev rfl) (hF.ev rfl) (by omega) | exact pu_add (hF.ev rfl) (hF.ev rfl))) ?_; clear hF; intro a hF
      refine s_pu hF rfl rfl rfl (pu_assign (hF.ev rfl)) ?_; clear hF; intro a hF
      refine s_done ?_
      refine hK12 _ _ ?_; clear hK12
      refine wp_seq_k fun K13 hK13 => ?_
      -- region 11
      refine wp_region_lit ?_
      refine s_pu hF rfl rfl rfl (pu_move (hF.ev rfl)) ?_; clear hF; intro a hF
      refine s_pu hF rfl rfl rfl (pu_move (hF.ev rfl)) ?_; clear hF; intro a hF
      refine s_pu hF rfl rfl rfl (pu_move (hF.ev rfl)) ?_; clear hF; intro a hF
      refine s_news hF rfl rfl rfl (ef_lit1 (cs := [_]) sl22 ze3 rfl (hF.ev rfl) (by first | rfl | exact cells_one (by assumption)) rfl (by omega) (by omega)) hS ?_; clear hF hS; intro b65 w hS a hF
      replace hS := row_shut (n := 1) (cap := 1) (sz := 1) hS (by omega) (by unfold maxLen; omega) rfl rfl
      refine s_en hF rfl rfl rfl (run_fn fk10 (hF.ev rfl) (hF.evs rfl)) (at_place 1 hS rfl (fun h => wAdd_s h (pend_rising hI.num) (by omega) (by omega) (by omega) (by omega) (by omega) (by omega) (by omega) (by omega) (by omega))) ?_
      clear hS; rintro e w ⟨rfl, hS⟩
      refine ⟨_, rfl, ?_⟩; clear hF; intro a hF
      refine s_pu hF rfl rfl rfl (pu_move (hF.ev rfl)) ?_; clear hF; intro a hF
      refine s_pu hF rfl rfl rfl (pu_extract (hF.ev rfl) rfl) ?_; clear hF; intro a hF
      refine s_pu hF rfl rfl rfl (pu_extract (hF.ev rfl) rfl) ?_; clear hF; intro a hF
      refine s_pu hF rfl rfl rfl (pu_assign (hF.ev rfl)) ?_; clear hF; intro a hF
      refine s_pu hF rfl rfl rfl (pu_assign (hF.ev rfl)) ?_; clear hF; intro a hF
      refine s_done ?_
      obtain ⟨R', hR'⟩ : ∃ R', R' = R ++ [⟨R.length, now + (1 + pickI (z1.getD R.length 0) 200), false, b65⟩] := ⟨_, rfl⟩
      have hRl' : R.length + 1 = R'.length := by rw [hR']; simp
      have hI' : Inv R' now (now + 200) := by rw [hR']; exact hI.add (by omega) (by omega)
      have hd' : dues R ++ [.int .i64 (now + (1 + pickI (z1.getD R.length 0) 200))] = dues R' := by rw [hR']; simp [dues]
      have hn' : dones R ++ [.bool false] = dones R' := by rw [hR']; simp [dones]
      replace hS : Sat W w (whC_s g n (pend R') now R'.length :: rowC 3 1 (.slice A R.length c) R.length (dues R) :: rowC 4 1 (.slice B R.length d) R.length (dones R) :: whole W :: R'.map Th.chunk) := by
        have e1 : R'.map Th.chunk = R.map Th.chunk ++ [rowC 3 1 (.slice (some ⟨b65, 0, none⟩) 1 1) 1 [.int .i64 R.length]] := by rw [hR', List.map_append]; rfl
        have e2 : pend R' = pend R ++ [⟨(R.length : Int) + 1, now + (1 + pickI (z1.getD R.length 0) 200), .slice (some ⟨b65, 0, none⟩) 1 1, rfl⟩] := by rw [hR']; simp [pend, Th.ent]
        have e3 : ((R'.length : Nat) : Int) = (R.length : Int) + 1 := by omega
        rw [e1, e2, e3]
        exact (hS.front 1 rfl).perm (List.perm_append_singleton _ (_ :: _ :: _ :: _ :: R.map Th.chunk)).symm
      refine hK13 _ _ ?_; clear hK13
      refine wp_seq_k fun K14 hK14 => ?_
      refine wp_seq_k fun K15 hK15 => ?_
      -- region 12
      refine wp_region_lit ?_
      refine s_pu hF rfl rfl rfl (pu_move (hF.ev rfl)) ?_; clear hF; intro a hF
      refine s_pu hF rfl rfl rfl (pu_neq (hF.ev rfl) (hF.ev rfl)) ?_; clear hF; intro a hF
      refine s_pu hF rfl rfl rfl (pu_move (hF.ev rfl)) ?_; clear hF; intro a hF
      refine s_pu hF rfl rfl rfl (pu_move (hF.ev rfl)) ?_; clear hF; intro a hF
      refine s_pu hF rfl rfl rfl (pu_move (hF.ev rfl)) ?_; clear hF; intro a hF
      refine s_pu hF rfl rfl rfl ((by first | exact pu_add64 (hF.ev rfl) (hF.ev rfl) (by omega) | exact pu_add (hF.ev rfl) (hF.ev rfl))) ?_; clear hF; intro a hF
      refine s_pu hF rfl rfl rfl (pu_neq (hF.ev rfl) (hF.ev rfl)) ?_; clear hF; intro a hF
      refine s_pu hF rfl rfl rfl ((by first | exact pu_pick_t (hF.ev rfl) (hF.ev rfl) | exact pu_pick_f (hF.ev rfl) (hF.ev rfl) | exact pu_pick (hF.ev rfl) (hF.ev rfl) (hF.ev rfl))) ?_; clear hF; intro a hF
      refine s_done ?_
      refine hK15 _ _ ?_; clear hK15
      refine wp_cond_split (hF.ev rfl) (fun hc2 => ?_) (fun hc2 => ?_)
      · -- cond 2 true
        try simp only [decide_eq_true_eq, decide_eq_false_iff_not, Bool.not_eq_true', Bool.not_eq_false', Int.not_lt, Int.not_le, ne_eq, Decidable.not_not, Bool.or_eq_true, Bool.or_eq_false_iff, Bool.and_eq_true, Bool.and_eq_false_imp] at hc2
        first | exact absurd rfl hc2 | exact absurd trivial hc2
      · -- cond 2 false
        try simp only [decide_eq_true_eq, decide_eq_false_iff_not, Bool.not_eq_true', Bool.not_eq_false', Int.not_lt, Int.not_le, ne_eq, Decidable.not_not, Bool.or_eq_true, Bool.or_eq_false_iff, Bool.and_eq_true, Bool.and_eq_false_imp] at hc2
        refine wp_skip ?_
        refine hK14 _ _ ?_; clear hK14
        refine wp_seq_k fun K16 hK16 => ?_
        -- region 14
        refine wp_region_lit ?_
        refine s_pu hF rfl rfl rfl (pu_move (hF.ev rfl)) ?_; clear hF; intro a hF
        refine s_pu hF rfl rfl rfl (pu_move (hF.ev rfl)) ?_; clear hF; intro a hF
        refine s_en hF rfl rfl rfl (run_fn fk11 (hF.ev rfl) (hF.evs rfl)) (wNow_s hS) ?_
        clear hS; rintro e w ⟨rfl, hS⟩
        refine ⟨_, rfl, ?_⟩; clear hF; intro a hF
        refine s_pu hF rfl rfl rfl (pu_move (hF.ev rfl)) ?_; clear hF; intro a hF
        refine s_pu hF rfl rfl rfl ((by first | exact pu_add64 (hF.ev rfl) (hF.ev rfl) (by omega) | exact pu_add (hF.ev rfl) (hF.ev rfl))) ?_; clear hF; intro a hF
        refine s_news hF rfl rfl rfl (ef_lit1 (cs := [_]) sl22 ze3 rfl (hF.ev rfl) (by first | rfl | exact cells_one (by assumption)) rfl (by omega) (by omega)) hS ?_; clear hF hS; intro b82 w hS a hF
        (first | (refine s_append 0 1 hF rfl rfl sl22 el3 (hF.ev rfl) (hF.ev rfl) hS rfl rfl rfl (by first | rfl | (simp only [List.all_cons, List.all_nil, Value.oneCell', Bool.and_true, Bool.true_and]; assumption) | (simp [Value.oneCell', *]; done)) (by unfold maxLen; omega) (by omega) ?_) | (refine s_append 0 2 hF rfl rfl sl22 el3 (hF.ev rfl) (hF.ev rfl) hS rfl rfl rfl (by first | rfl | (simp only [List.all_cons, List.all_nil, Value.oneCell', Bool.and_true, Bool.true_and]; assumption) | (simp [Value.oneCell', *]; done)) (by unfold maxLen; omega) (by omega) ?_) | (refine s_append 0 3 hF rfl rfl sl22 el3 (hF.ev rfl) (hF.ev rfl) hS rfl rfl rfl (by first | rfl | (simp only [List.all_cons, List.all_nil, Value.oneCell', Bool.and_true, Bool.true_and]; assumption) | (simp [Value.oneCell', *]; done)) (by unfold maxLen; omega) (by omega) ?_) | (refine s_append 0 4 hF rfl rfl sl22 el3 (hF.ev rfl) (hF.ev rfl) hS rfl rfl rfl (by first | rfl | (simp only [List.all_cons, List.all_nil, Value.oneCell', Bool.and_true, Bool.true_and]; assumption) | (simp [Value.oneCell', *]; done)) (by unfold maxLen; omega) (by omega) ?_) | (refine s_append 0 5 hF rfl rfl sl22 el3 (hF.ev rfl) (hF.ev rfl) hS rfl rfl rfl (by first | rfl | (simp only [List.all_cons, List.all_nil, Value.oneCell', Bool.and_true, Bool.true_and]; assumption) | (simp [Value.oneCell', *]; done)) (by unfold maxLen; omega) (by omega) ?_) | (refine s_append 1 0 hF rfl rfl sl22 el3 (hF.ev rfl) (hF.ev rfl) hS rfl rfl rfl (by first | rfl | (simp only [List.all_cons, List.all_nil, Value.oneCell', Bool.and_true, Bool.true_and]; assumption) | (simp [Value.oneCell', *]; done)) (by unfold maxLen; omega) (by omega) ?_) | (refine s_append 1 2 hF rfl rfl sl22 el3 (hF.ev rfl) (hF.ev rfl) hS rfl rfl rfl (by first | rfl | (simp only [List.all_cons, List.all_nil, Value.oneCell', Bool.and_true, Bool.true_and]; assumption) | (simp [Value.oneCell', *]; done)) (by unfold maxLen; omega) (by omega) ?_) | (refine s_append 1 3 hF rfl rfl sl22 el3 (hF.ev rfl) (hF.ev rfl) hS rfl rfl rfl (by first | rfl | (simp only [List.all_cons, List.all_nil, Value.oneCell', Bool.and_true, Bool.true_and]; assumption) | (simp [Value.oneCell', *]; done)) (by unfold maxLen; omega) (by omega) ?_) | (refine s_append 1 4 hF rfl rfl sl22 el3 (hF.ev rfl) (hF.ev rfl) hS rfl rfl rfl (by first | rfl | (simp only [List.all_cons, List.all_nil, Value.oneCell', Bool.and_true, Bool.true_and]; assumption) | (simp [Value.oneCell', *]; done)) (by unfold maxLen; omega) (by omega) ?_) | (refine s_append 1 5 hF rfl rfl sl22 el3 (hF.ev rfl) (hF.ev rfl) hS rfl rfl rfl (by first | rfl | (simp only [List.all_cons, List.all_nil, Value.oneCell', Bool.and_true, Bool.true_and]; assumption) | (simp [Value.oneCell', *]; done)) (by unfold maxLen; omega) (by omega) ?_) | (refine s_append 2 0 hF rfl rfl sl22 el3 (hF.ev rfl) (hF.ev rfl) hS rfl rfl rfl (by first | rfl | (simp only [List.all_cons, List.all_nil, Value.oneCell', Bool.and_true, Bool.true_and]; assumption) | (simp [Value.oneCell', *]; done)) (by unfold maxLen; omega) (by omega) ?_) | (refine s_append 2 1 hF rfl rfl sl22 el3 (hF.ev rfl) (hF.ev rfl) hS rfl rfl rfl (by first | rfl | (simp only [List.all_cons, List.all_nil, Value.oneCell', Bool.and_true, Bool.true_and]; assumption) | (simp [Value.oneCell', *]; done)) (by unfold maxLen; omega) (by omega) ?_) | (refine s_append 2 3 hF rfl rfl sl22 el3 (hF.ev rfl) (hF.ev rfl) hS rfl rfl rfl (by first | rfl | (simp only [List.all_cons, List.all_nil, Value.oneCell', Bool.and_true, Bool.true_and]; assumption) | (simp [Value.oneCell', *]; done)) (by unfold maxLen; omega) (by omega) ?_) | (refine s_append 2 4 hF rfl rfl sl22 el3 (hF.ev rfl) (hF.ev rfl) hS rfl rfl rfl (by first | rfl | (simp only [List.all_cons, List.all_nil, Value.oneCell', Bool.and_true, Bool.true_and]; assumption) | (simp [Value.oneCell', *]; done)) (by unfold maxLen; omega) (by omega) ?_) | (refine s_append 2 5 hF rfl rfl sl22 el3 (hF.ev rfl) (hF.ev rfl) hS rfl rfl rfl (by first | rfl | (simp only [List.all_cons, List.all_nil, Value.oneCell', Bool.and_true, Bool.true_and]; assumption) | (simp [Value.oneCell', *]; done)) (by unfold maxLen; omega) (by omega) ?_) | (refine s_append 3 0 hF rfl rfl sl22 el3 (hF.ev rfl) (hF.ev rfl) hS rfl rfl rfl (by first | rfl | (simp only [List.all_cons, List.all_nil, Value.oneCell', Bool.and_true, Bool.true_and]; assumption) | (simp [Value.oneCell', *]; done)) (by unfold maxLen; omega) (by omega) ?_) | (refine s_append 3 1 hF rfl rfl sl22 el3 (hF.ev rfl) (hF.ev rfl) hS rfl rfl rfl (by first | rfl | (simp only [List.all_cons, List.all_nil, Value.oneCell', Bool.and_true, Bool.true_and]; assumption) | (simp [Value.oneCell', *]; done)) (by unfold maxLen; omega) (by omega) ?_) | (refine s_append 3 2 hF rfl rfl sl22 el3 (hF.ev rfl) (hF.ev rfl) hS rfl rfl rfl (by first | rfl | (simp only [List.all_cons, List.all_nil, Value.oneCell', Bool.and_true, Bool.true_and]; assumption) | (simp [Value.oneCell', *]; done)) (by unfold maxLen; omega) (by omega) ?_) | (refine s_append 3 4 hF rfl rfl sl22 el3 (hF.ev rfl) (hF.ev rfl) hS rfl rfl rfl (by first | rfl | (simp only [List.all_cons, List.all_nil, Value.oneCell', Bool.and_true, Bool.true_and]; assumption) | (simp [Value.oneCell', *]; done)) (by unfold maxLen; omega) (by omega) ?_) | (refine s_append 3 5 hF rfl rfl sl22 el3 (hF.ev rfl) (hF.ev rfl) hS rfl rfl rfl (by first | rfl | (simp only [List.all_cons, List.all_nil, Value.oneCell', Bool.and_true, Bool.true_and]; assumption) | (simp [Value.oneCell', *]; done)) (by unfold maxLen; omega) (by omega) ?_) | (refine s_append 4 0 hF rfl rfl sl22 el3 (hF.ev rfl) (hF.ev rfl) hS rfl rfl rfl (by first | rfl | (simp only [List.all_cons, List.all_nil, Value.oneCell', Bool.and_true, Bool.true_and]; assumption) | (simp [Value.oneCell', *]; done)) (by unfold maxLen; omega) (by omega) ?_) | (refine s_append 4 1 hF rfl rfl sl22 el3 (hF.ev rfl) (hF.ev rfl) hS rfl rfl rfl (by first | rfl | (simp only [List.all_cons, List.all_nil, Value.oneCell', Bool.and_true, Bool.true_and]; assumption) | (simp [Value.oneCell', *]; done)) (by unfold maxLen; omega) (by omega) ?_) | (refine s_append 4 2 hF rfl rfl sl22 el3 (hF.ev rfl) (hF.ev rfl) hS rfl rfl rfl (by first | rfl | (simp only [List.all_cons, List.all_nil, Value.oneCell', Bool.and_true, Bool.true_and]; assumption) | (simp [Value.oneCell', *]; done)) (by unfold maxLen; omega) (by omega) ?_) | (refine s_append 4 3 hF rfl rfl sl22 el3 (hF.ev rfl) (hF.ev rfl) hS rfl rfl rfl (by first | rfl | (simp only [List.all_cons, List.all_nil, Value.oneCell', Bool.and_true, Bool.true_and]; assumption) | (simp [Value.oneCell', *]; done)) (by unfold maxLen; omega) (by omega) ?_) | (refine s_append 4 5 hF rfl rfl sl22 el3 (hF.ev rfl) (hF.ev rfl) hS rfl rfl rfl (by first | rfl | (simp only [List.all_cons, List.all_nil, Value.oneCell', Bool.and_true, Bool.true_and]; assumption) | (simp [Value.oneCell', *]; done)) (by unfold maxLen; omega) (by omega) ?_) | (refine s_append 5 0 hF rfl rfl sl22 el3 (hF.ev rfl) (hF.ev rfl) hS rfl rfl rfl (by first | rfl | (simp only [List.all_cons, List.all_nil, Value.oneCell', Bool.and_true, Bool.true_and]; assumption) | (simp [Value.oneCell', *]; done)) (by unfold maxLen; omega) (by omega) ?_) | (refine s_append 5 1 hF rfl rfl sl22 el3 (hF.ev rfl) (hF.ev rfl) hS rfl rfl rfl (by first | rfl | (simp only [List.all_cons, List.all_nil, Value.oneCell', Bool.and_true, Bool.true_and]; assumption) | (simp [Value.oneCell', *]; done)) (by unfold maxLen; omega) (by omega) ?_) | (refine s_append 5 2 hF rfl rfl sl22 el3 (hF.ev rfl) (hF.ev rfl) hS rfl rfl rfl (by first | rfl | (simp only [List.all_cons, List.all_nil, Value.oneCell', Bool.and_true, Bool.true_and]; assumption) | (simp [Value.oneCell', *]; done)) (by unfold maxLen; omega) (by omega) ?_) | (refine s_append 5 3 hF rfl rfl sl22 el3 (hF.ev rfl) (hF.ev rfl) hS rfl rfl rfl (by first | rfl | (simp only [List.all_cons, List.all_nil, Value.oneCell', Bool.and_true, Bool.true_and]; assumption) | (simp [Value.oneCell', *]; done)) (by unfold maxLen; omega) (by omega) ?_) | (refine s_append 5 4 hF rfl rfl sl22 el3 (hF.ev rfl) (hF.ev rfl) hS rfl rfl rfl (by first | rfl | (simp only [List.all_cons, List.all_nil, Value.oneCell', Bool.and_true, Bool.true_and]; assumption) | (simp [Value.oneCell', *]; done)) (by unfold maxLen; omega) (by omega) ?_)); (clear hS hF; intro A83 q83 w hS a hF; (try simp only [upd, del] at hS))
        refine s_pu hF rfl rfl rfl (pu_assign (hF.ev rfl)) ?_; clear hF; intro a hF
        refine s_done ?_
        replace hS := (hS.drop 1).front 1 rfl
        rw [hd'] at hS
        refine hK16 _ _ ?_; clear hK16
        refine wp_seq_k fun K17 hK17 => ?_
        -- region 15
        refine wp_region_lit ?_
        refine s_pu hF rfl rfl rfl (pu_move (hF.ev rfl)) ?_; clear hF; intro a hF
        refine s_news hF rfl rfl rfl (ef_lit1 (cs := [_]) sl29 ze4 rfl (hF.ev rfl) (by first | rfl | exact cells_one (by assumption)) rfl (by omega) (by omega)) hS ?_; clear hF hS; intro b85 w hS a hF
        (first | (refine s_append 0 1 hF rfl rfl sl29 el4 (hF.ev rfl) (hF.ev rfl) hS rfl rfl rfl (by first | rfl | (simp only [List.all_cons, List.all_nil, Value.oneCell', Bool.and_true, Bool.true_and]; assumption) | (simp [Value.oneCell', *]; done)) (by unfold maxLen; omega) (by omega) ?_) | (refine s_append 0 2 hF rfl rfl sl29 el4 (hF.ev rfl) (hF.ev rfl) hS rfl rfl rfl (by first | rfl | (simp only [List.all_cons, List.all_nil, Value.oneCell', Bool.and_true, Bool.true_and]; assumption) | (simp [Value.oneCell', *]; done)) (by unfold maxLen; omega) (by omega) ?_) | (refine s_append 0 3 hF rfl rfl sl29 el4 (hF.ev rfl) (hF.ev rfl) hS rfl rfl rfl (by first | rfl | (simp only [List.all_cons, List.all_nil, Value.oneCell', Bool.and_true, Bool.true_and]; assumption) | (simp [Value.oneCell', *]; done)) (by unfold maxLen; omega) (by omega) ?_) | (refine s_append 0 4 hF rfl rfl sl29 el4 (hF.ev rfl) (hF.ev rfl) hS rfl rfl rfl (by first | rfl | (simp only [List.all_cons, List.all_nil, Value.oneCell', Bool.and_true, Bool.true_and]; assumption) | (simp [Value.oneCell', *]; done)) (by unfold maxLen; omega) (by omega) ?_) | (refine s_append 0 5 hF rfl rfl sl29 el4 (hF.ev rfl) (hF.ev rfl) hS rfl rfl rfl (by first | rfl | (simp only [List.all_cons, List.all_nil, Value.oneCell', Bool.and_true, Bool.true_and]; assumption) | (simp [Value.oneCell', *]; done)) (by unfold maxLen; omega) (by omega) ?_) | (refine s_append 1 0 hF rfl rfl sl29 el4 (hF.ev rfl) (hF.ev rfl) hS rfl rfl rfl (by first | rfl | (simp only [List.all_cons, List.all_nil, Value.oneCell', Bool.and_true, Bool.true_and]; assumption) | (simp [Value.oneCell', *]; done)) (by unfold maxLen; omega) (by omega) ?_) | (refine s_append 1 2 hF rfl rfl sl29 el4 (hF.ev rfl) (hF.ev rfl) hS rfl rfl rfl (by first | rfl | (simp only [List.all_cons, List.all_nil, Value.oneCell', Bool.and_true, Bool.true_and]; assumption) | (simp [Value.oneCell', *]; done)) (by unfold maxLen; omega) (by omega) ?_) | (refine s_append 1 3 hF rfl rfl sl29 el4 (hF.ev rfl) (hF.ev rfl) hS rfl rfl rfl (by first | rfl | (simp only [List.all_cons, List.all_nil, Value.oneCell', Bool.and_true, Bool.true_and]; assumption) | (simp [Value.oneCell', *]; done)) (by unfold maxLen; omega) (by omega) ?_) | (refine s_append 1 4 hF rfl rfl sl29 el4 (hF.ev rfl) (hF.ev rfl) hS rfl rfl rfl (by first | rfl | (simp only [List.all_cons, List.all_nil, Value.oneCell', Bool.and_true, Bool.true_and]; assumption) | (simp [Value.oneCell', *]; done)) (by unfold maxLen; omega) (by omega) ?_) | (refine s_append 1 5 hF rfl rfl sl29 el4 (hF.ev rfl) (hF.ev rfl) hS rfl rfl rfl (by first | rfl | (simp only [List.all_cons, List.all_nil, Value.oneCell', Bool.and_true, Bool.true_and]; assumption) | (simp [Value.oneCell', *]; done)) (by unfold maxLen; omega) (by omega) ?_) | (refine s_append 2 0 hF rfl rfl sl29 el4 (hF.ev rfl) (hF.ev rfl) hS rfl rfl rfl (by first | rfl | (simp only [List.all_cons, List.all_nil, Value.oneCell', Bool.and_true, Bool.true_and]; assumption) | (simp [Value.oneCell', *]; done)) (by unfold maxLen; omega) (by omega) ?_) | (refine s_append 2 1 hF rfl rfl sl29 el4 (hF.ev rfl) (hF.ev rfl) hS rfl rfl rfl (by first | rfl | (simp only [List.all_cons, List.all_nil, Value.oneCell', Bool.and_true, Bool.true_and]; assumption) | (simp [Value.oneCell', *]; done)) (by unfold maxLen; omega) (by omega) ?_) | (refine s_append 2 3 hF rfl rfl sl29 el4 (hF.ev rfl) (hF.ev rfl) hS rfl rfl rfl (by first | rfl | (simp only [List.all_cons, List.all_nil, Value.oneCell', Bool.and_true, Bool.true_and]; assumption) | (simp [Value.oneCell', *]; done)) (by unfold maxLen; omega) (by omega) ?_) | (refine s_append 2 4 hF rfl rfl sl29 el4 (hF.ev rfl) (hF.ev rfl) hS rfl rfl rfl (by first | rfl | (simp only [List.all_cons, List.all_nil, Value.oneCell', Bool.and_true, Bool.true_and]; assumption) | (simp [Value.oneCell', *]; done)) (by unfold maxLen; omega) (by omega) ?_) | (refine s_append 2 5 hF rfl rfl sl29 el4 (hF.ev rfl) (hF.ev rfl) hS rfl rfl rfl (by first | rfl | (simp only [List.all_cons, List.all_nil, Value.oneCell', Bool.and_true, Bool.true_and]; assumption) | (simp [Value.oneCell', *]; done)) (by unfold maxLen; omega) (by omega) ?_) | (refine s_append 3 0 hF rfl rfl sl29 el4 (hF.ev rfl) (hF.ev rfl) hS rfl rfl rfl (by first | rfl | (simp only [List.all_cons, List.all_nil, Value.oneCell', Bool.and_true, Bool.true_and]; assumption) | (simp [Value.oneCell', *]; done)) (by unfold maxLen; omega) (by omega) ?_) | (refine s_append 3 1 hF rfl rfl sl29 el4 (hF.ev rfl) (hF.ev rfl) hS rfl rfl rfl (by first | rfl | (simp only [List.all_cons, List.all_nil, Value.oneCell', Bool.and_true, Bool.true_and]; assumption) | (simp [Value.oneCell', *]; done)) (by unfold maxLen; omega) (by omega) ?_) | (refine s_append 3 2 hF rfl rfl sl29 el4 (hF.ev rfl) (hF.ev rfl) hS rfl rfl rfl (by first | rfl | (simp only [List.all_cons, List.all_nil, Value.oneCell', Bool.and_true, Bool.true_and]; assumption) | (simp [Value.oneCell', *]; done)) (by unfold maxLen; omega) (by omega) ?_) | (refine s_append 3 4 hF rfl rfl sl29 el4 (hF.ev rfl) (hF.ev rfl) hS rfl rfl rfl (by first | rfl | (simp only [List.all_cons, List.all_nil, Value.oneCell', Bool.and_true, Bool.true_and]; assumption) | (simp [Value.oneCell', *]; done)) (by unfold maxLen; omega) (by omega) ?_) | (refine s_append 3 5 hF rfl rfl sl29 el4 (hF.ev rfl) (hF.ev rfl) hS rfl rfl rfl (by first | rfl | (simp only [List.all_cons, List.all_nil, Value.oneCell', Bool.and_true, Bool.true_and]; assumption) | (simp [Value.oneCell', *]; done)) (by unfold maxLen; omega) (by omega) ?_) | (refine s_append 4 0 hF rfl rfl sl29 el4 (hF.ev rfl) (hF.ev rfl) hS rfl rfl rfl (by first | rfl | (simp only [List.all_cons, List.all_nil, Value.oneCell', Bool.and_true, Bool.true_and]; assumption) | (simp [Value.oneCell', *]; done)) (by unfold maxLen; omega) (by omega) ?_) | (refine s_append 4 1 hF rfl rfl sl29 el4 (hF.ev rfl) (hF.ev rfl) hS rfl rfl rfl (by first | rfl | (simp only [List.all_cons, List.all_nil, Value.oneCell', Bool.and_true, Bool.true_and]; assumption) | (simp [Value.oneCell', *]; done)) (by unfold maxLen; omega) (by omega) ?_) | (refine s_append 4 2 hF rfl rfl sl29 el4 (hF.ev rfl) (hF.ev rfl) hS rfl rfl rfl (by first | rfl | (simp only [List.all_cons, List.all_nil, Value.oneCell', Bool.and_true, Bool.true_and]; assumption) | (simp [Value.oneCell', *]; done)) (by unfold maxLen; omega) (by omega) ?_) | (refine s_append 4 3 hF rfl rfl sl29 el4 (hF.ev rfl) (hF.ev rfl) hS rfl rfl rfl (by first | rfl | (simp only [List.all_cons, List.all_nil, Value.oneCell', Bool.and_true, Bool.true_and]; assumption) | (simp [Value.oneCell', *]; done)) (by unfold maxLen; omega) (by omega) ?_) | (refine s_append 4 5 hF rfl rfl sl29 el4 (hF.ev rfl) (hF.ev rfl) hS rfl rfl rfl (by first | rfl | (simp only [List.all_cons, List.all_nil, Value.oneCell', Bool.and_true, Bool.true_and]; assumption) | (simp [Value.oneCell', *]; done)) (by unfold maxLen; omega) (by omega) ?_) | (refine s_append 5 0 hF rfl rfl sl29 el4 (hF.ev rfl) (hF.ev rfl) hS rfl rfl rfl (by first | rfl | (simp only [List.all_cons, List.all_nil, Value.oneCell', Bool.and_true, Bool.true_and]; assumption) | (simp [Value.oneCell', *]; done)) (by unfold maxLen; omega) (by omega) ?_) | (refine s_append 5 1 hF rfl rfl sl29 el4 (hF.ev rfl) (hF.ev rfl) hS rfl rfl rfl (by first | rfl | (simp only [List.all_cons, List.all_nil, Value.oneCell', Bool.and_true, Bool.true_and]; assumption) | (simp [Value.oneCell', *]; done)) (by unfold maxLen; omega) (by omega) ?_) | (refine s_append 5 2 hF rfl rfl sl29 el4 (hF.ev rfl) (hF.ev rfl) hS rfl rfl rfl (by first | rfl | (simp only [List.all_cons, List.all_nil, Value.oneCell', Bool.and_true, Bool.true_and]; assumption) | (simp [Value.oneCell', *]; done)) (by unfold maxLen; omega) (by omega) ?_) | (refine s_append 5 3 hF rfl rfl sl29 el4 (hF.ev rfl) (hF.ev rfl) hS rfl rfl rfl (by first | rfl | (simp only [List.all_cons, List.all_nil, Value.oneCell', Bool.and_true, Bool.true_and]; assumption) | (simp [Value.oneCell', *]; done)) (by unfold maxLen; omega) (by omega) ?_) | (refine s_append 5 4 hF rfl rfl sl29 el4 (hF.ev rfl) (hF.ev rfl) hS rfl rfl rfl (by first | rfl | (simp only [List.all_cons, List.all_nil, Value.oneCell', Bool.and_true, Bool.true_and]; assumption) | (simp [Value.oneCell', *]; done)) (by unfold maxLen; omega) (by omega) ?_)); (clear hS hF; intro A86 q86 w hS a hF; (try simp only [upd, del] at hS))
        refine s_pu hF rfl rfl rfl (pu_assign (hF.ev rfl)) ?_; clear hF; intro a hF
        refine s_done ?_
        replace hS := (hS.drop 1).sel [1, 1]
        rw [hn', hRl'] at hS
        rw [hRl'] at hF
        replace hS : Sat W w (onceS W g n q83 q86 A83 A86 R' now) := hS
        refine hK17 _ _ ?_; clear hK17
        refine wp_seq_k fun K18 hK18 => ?_
        -- region 16
        refine wp_region_lit ?_
        refine s_pu hF rfl rfl rfl (pu_assign (hF.ev rfl)) ?_; clear hF; intro a hF
        refine s_done ?_
        refine hK18 _ _ ?_; clear hK18
        refine wp_seq_k fun K19 hK19 => ?_
        refine wp_seq_k fun K20 hK20 => ?_
        -- region 17
        refine wp_region_lit ?_
        refine s_pu hF rfl rfl rfl (pu_move (hF.ev rfl)) ?_; clear hF; intro a hF
        refine s_pu hF rfl rfl rfl (pu_move (hF.ev rfl)) ?_; clear hF; intro a hF
        refine s_pu hF rfl rfl rfl (pu_len sl22 (hF.ev rfl)) ?_; clear hF; intro a hF
        refine s_pu hF rfl rfl rfl (pu_lss (hF.ev rfl) (hF.ev rfl)) ?_; clear hF; intro a hF
        refine s_done ?_
        refine hK20 _ _ ?_; clear hK20
        refine wp_cond_split (hF.ev rfl) (fun hc3 => ?_) (fun hc3 => ?_)
        · -- cond 3 true
          try simp only [decide_eq_true_eq, decide_eq_false_iff_not, Bool.not_eq_true', Bool.not_eq_false', Int.not_lt, Int.not_le, ne_eq, Decidable.not_not, Bool.or_eq_true, Bool.or_eq_false_iff, Bool.and_eq_true, Bool.and_eq_false_imp] at hc3
          obtain ⟨y, rfl, hu, hub⟩ := hz2.at_ R.length (by omega)
          have hu1 : w.cell? (y.add ((R.length : Int).toNat * 1)) = some (.int .i64 (z2.getD R.length 0)) := by
            rw [Int.toNat_natCast, Nat.mul_one]
            exact hS.whole_at (i := 3) rfl hu
          have hpb2 := pick_bd (z2.getD R.length 0) (n := 30) (by omega)
          obtain ⟨p, hp⟩ : ∃ p : Nat, pickI (z2.getD R.length 0) 30 = (p : Int) := ⟨(pickI (z2.getD R.length 0) 30).toNat, by omega⟩
          -- region 18
          refine wp_region_lit ?_
          refine s_pu hF rfl rfl rfl (pu_move (hF.ev rfl)) ?_; clear hF; intro a hF
          refine s_pu hF rfl rfl rfl (pu_move (hF.ev rfl)) ?_; clear hF; intro a hF
          refine s_pu hF rfl rfl rfl ((by first | exact pu_elem sl22 (hF.ev rfl) (hF.ev rfl) (by first | omega | simp) (by first | omega | (simp; done) | (simp; omega)) | exact pu_elemA sl22 (hF.ev rfl) (hF.ev rfl) (by omega) (by omega))) ?_; clear hF; intro a hF
          refine s_rd hF rfl rfl rfl (by first | exact rd_load pl3 (hF.ev rfl) (by assumption) | exact rd_load pl3 (hF.ev rfl) (hS.cellL (i := 0) rfl rfl) | exact rd_load pl3 (hF.ev rfl) (hS.cellL (i := 1) rfl rfl) | exact rd_load pl3 (hF.ev rfl) (hS.cellL (i := 2) rfl rfl) | exact rd_load pl3 (hF.ev rfl) (hS.cellL (i := 3) rfl rfl) | exact rd_load pl3 (hF.ev rfl) (hS.cellL (i := 4) rfl rfl) | exact rd_load pl3 (hF.ev rfl) (hS.cellL (i := 5) rfl rfl) | exact rd_load pl3 (hF.ev rfl) (hS.cell (i := 0) rfl (by assumption)) | exact rd_load pl3 (hF.ev rfl) (hS.cell (i := 1) rfl (by assumption)) | exact rd_load pl3 (hF.ev rfl) (hS.cell (i := 2) rfl (by assumption)) | exact rd_load pl3 (hF.ev rfl) (hS.cell (i := 3) rfl (by assumption)) | exact rd_load pl3 (hF.ev rfl) (hS.cell (i := 4) rfl (by assumption)) | exact rd_load pl3 (hF.ev rfl) (hS.cell (i := 5) rfl (by assumption)) | exact rd_load pl3 (hF.ev rfl) (row_at (i := 0) hS rfl (by first | assumption | rfl)) | exact rd_load pl3 (hF.ev rfl) (row_at0 (i := 0) hS rfl (by first | assumption | rfl)) | exact rd_load pl3 (hF.ev rfl) (row_at (i := 1) hS rfl (by first | assumption | rfl)) | exact rd_load pl3 (hF.ev rfl) (row_at0 (i := 1) hS rfl (by first | assumption | rfl)) | exact rd_load pl3 (hF.ev rfl) (row_at (i := 2) hS rfl (by first | assumption | rfl)) | exact rd_load pl3 (hF.ev rfl) (row_at0 (i := 2) hS rfl (by first | assumption | rfl)) | exact rd_load pl3 (hF.ev rfl) (row_at (i := 3) hS rfl (by first | assumption | rfl)) | exact rd_load pl3 (hF.ev rfl) (row_at0 (i := 3) hS rfl (by first | assumption | rfl)) | exact rd_load pl3 (hF.ev rfl) (row_at (i := 4) hS rfl (by first | assumption | rfl)) | exact rd_load pl3 (hF.ev rfl) (row_at0 (i := 4) hS rfl (by first | assumption | rfl)) | exact rd_load pl3 (hF.ev rfl) (row_at (i := 5) hS rfl (by first | assumption | rfl)) | exact rd_load pl3 (hF.ev rfl) (row_at0 (i := 5) hS rfl (by first | assumption | rfl))) ?_; clear hF; intro a hF
          refine s_en hF rfl rfl rfl (run_fn fk9 (hF.ev rfl) (hF.evs rfl)) (pick_c hS (by omega) hub.1 hub.2) ?_
          clear hS; rintro e w ⟨rfl, hS⟩
          refine ⟨_, rfl, ?_⟩; clear hF; intro a hF
          refine s_pu hF rfl rfl rfl (pu_assign (hF.ev rfl)) ?_; clear hF; intro a hF
          refine s_done ?_
          rw [hp] at hF
          refine hK19 _ _ ?_; clear hK19
          refine wp_seq_k fun K21 hK21 => ?_
          refine wp_seq_k fun K22 hK22 => ?_
          -- region 19
          refine wp_region_lit ?_
          refine s_pu hF rfl rfl rfl (pu_assign (hF.ev rfl)) ?_; clear hF; intro a hF
          refine s_done ?_
          refine hK22 _ _ ?_; clear hK22
          refine wp_block ?_
          refine wp_ind (fun j a w => ∃ (k : Nat) (R2 : List Th) (now2 : Int), j = p - k ∧ k ≤ p ∧ R2.length = R'.length ∧ now2 = now + k ∧ Inv R2 now2 (now2 + 200) ∧
            Fr a 178 [(1, .slice _ l1 q1), (2, .slice _ l2 q2), (3, .slice a3 l3 q3), (10, .pointer (some ⟨g, 0, none⟩)), (12, .slice A83 R2.length q83), (13, .slice A86 R2.length q86), (14, .int .i64 R.length), (18, .int .i64 p), (19, .int .i64 k)] ∧
            Sat W w (onceS W g n q83 q86 A83 A86 R2 now2)) p
            ⟨0, R', now, by omega, by omega, rfl, by omega, hI', hF.sub ⟨rfl, rfl, rfl, rfl, rfl, rfl, rfl, rfl, rfl, trivial⟩, hS⟩ ?_
          clear hS hF
          rintro j a w ⟨k, R2, now2, rfl, hkp, hR2, hnow2, hI2, hF, hS⟩
          refine wp_seq_k fun K23 hK23 => ?_
          refine wp_seq_k fun K24 hK24 => ?_
          -- region 20
          refine wp_region_lit ?_
          refine s_pu hF rfl rfl rfl (pu_move (hF.ev rfl)) ?_; clear hF; intro a hF
          refine s_pu hF rfl rfl rfl (pu_move (hF.ev rfl)) ?_; clear hF; intro a hF
          refine s_pu hF rfl rfl rfl (pu_lss (hF.ev rfl) (hF.ev rfl)) ?_; clear hF; intro a hF
          refine s_done ?_
          refine hK24 _ _ ?_; clear hK24
          refine wp_cond_split (hF.ev rfl) (fun hc4 => ?_) (fun hc4 => ?_)
          · -- cond 4 true
            try simp only [decide_eq_true_eq, decide_eq_false_iff_not, Bool.not_eq_true', Bool.not_eq_false', Int.not_lt, Int.not_le, ne_eq, Decidable.not_not, Bool.or_eq_true, Bool.or_eq_false_iff, Bool.and_eq_true, Bool.and_eq_false_imp] at hc4
            refine wp_skip ?_
            refine hK23 _ _ ?_; clear hK23
            refine wp_seq_k fun K25 hK25 => ?_
            refine wp_block ?_
            refine wp_seq_k fun K26 hK26 => ?_
            -- region 22
            refine wp_region_lit ?_
            refine s_pu hF rfl rfl rfl (pu_move (hF.ev rfl)) ?_; clear hF; intro a hF
            refine s_pu hF rfl rfl rfl (pu_move (hF.ev rfl)) ?_; clear hF; intro a hF
            refine s_pu hF rfl rfl rfl (pu_move (hF.ev rfl)) ?_; clear hF; intro a hF
            refine s_en hF rfl rfl rfl (run_fn fk12 (hF.ev rfl) (hF.evs rfl)) (once_tick hS hI2 (by omega) (by omega) (by omega) (by omega) (by omega)) ?_
            clear hS; rintro e w ⟨rfl, R3, hR3, hI3, hS⟩
            refine ⟨_, rfl, ?_⟩; clear hF; intro a hF
            refine s_pu hF rfl rfl rfl (pu_assign (hF.ev rfl)) ?_; clear hF; intro a hF
            refine s_done ?_
            refine hK26 _ _ ?_; clear hK26
            refine wp_seq_k fun K27 hK27 => ?_
            -- region 23
            refine wp_region_lit ?_
            refine s_pu hF rfl rfl rfl (pu_move (hF.ev rfl)) ?_; clear hF; intro a hF
            refine s_pu hF rfl rfl rfl (pu_not (hF.ev rfl)) ?_; clear hF; intro a hF
            refine s_done ?_
            refine hK27 _ _ ?_; clear hK27
            refine wp_cond_false (hF.ev rfl) ?_
            refine wp_skip ?_
            refine blk_normal ?_
            refine hK25 _ _ ?_; clear hK25
            -- region 21
            refine wp_region_lit ?_
            refine s_pu hF rfl rfl rfl (pu_move (hF.ev rfl)) ?_; clear hF; intro a hF
            refine s_pu hF rfl rfl rfl ((by first | exact pu_add64 (hF.ev rfl) (hF.ev rfl) (by omega) | exact pu_add (hF.ev rfl) (hF.ev rfl))) ?_; clear hF; intro a hF
            refine s_pu hF rfl rfl rfl (pu_assign (hF.ev rfl)) ?_; clear hF; intro a hF
            refine s_done ?_
            rw [← hR3] at hF
            exact ⟨_, by omega, k + 1, R3, now2 + 1, rfl, by omega, by omega, by omega, hI3.weak (by omega), hF.sub ⟨rfl, rfl, rfl, rfl, rfl, rfl, rfl, rfl, rfl, trivial⟩, hS⟩
          · -- cond 4 false
            try simp only [decide_eq_true_eq, decide_eq_false_iff_not, Bool.not_eq_true', Bool.not_eq_false', Int.not_lt, Int.not_le, ne_eq, Decidable.not_not, Bool.or_eq_true, Bool.or_eq_false_iff, Bool.and_eq_true, Bool.and_eq_false_imp] at hc4
            refine wp_exit ?_
            refine then_exit ?_
            refine then_exit ?_
            refine blk_exit ?_
            refine hK21 _ _ ?_; clear hK21
            refine wp_seq_k fun K25 hK25 => ?_
            -- region 25
            refine wp_region_lit ?_
            refine s_pu hF rfl rfl rfl (pu_move (hF.ev rfl)) ?_; clear hF; intro a hF
            refine s_pu hF rfl rfl rfl (pu_move (hF.ev rfl)) ?_; clear hF; intro a hF
            refine s_pu hF rfl rfl rfl (pu_len sl22 (hF.ev rfl)) ?_; clear hF; intro a hF
            refine s_pu hF rfl rfl rfl (pu_lss (hF.ev rfl) (hF.ev rfl)) ?_; clear hF; intro a hF
            refine s_done ?_
            refine hK25 _ _ ?_; clear hK25
            refine wp_cond_split (hF.ev rfl) (fun hc6 => ?_) (fun hc6 => ?_)
            · -- cond 6 true
              try simp only [decide_eq_true_eq, decide_eq_false_iff_not, Bool.not_eq_true', Bool.not_eq_false', Int.not_lt, Int.not_le, ne_eq, Decidable.not_not, Bool.or_eq_true, Bool.or_eq_false_iff, Bool.and_eq_true, Bool.and_eq_false_imp] at hc6
              obtain ⟨y3, rfl, hu3, hub3⟩ := hz3.at_ R.length (by omega)
              have hu4 : w.cell? (y3.add ((R.length : Int).toNat * 1)) = some (.int .i64 (z3.getD R.length 0)) := by
                rw [Int.toNat_natCast, Nat.mul_one]
                exact hS.whole_at (i := 3) rfl hu3
              have hpb3 := pick_bd (z3.getD R.length 0) (n := (R.length : Int) + 1) (by omega)
              obtain ⟨q, hq⟩ : ∃ q : Nat, pickI (z3.getD R.length 0) ((R.length : Int) + 1) = (q : Int) := ⟨(pickI (z3.getD R.length 0) ((R.length : Int) + 1)).toNat, by omega⟩
              obtain ⟨r, hr⟩ : ∃ r, R2[q]? = some r := ⟨R2[q]'(by omega), List.getElem?_eq_getElem _⟩
              have hrm := List.mem_of_getElem? hr
              have hri := hI2.num q r hr
              have hrn := dones_at hr
              have hpm := pend_mark (q := q) hI2.num
              have hpl2 := pend_len (R := R2)
              obtain ⟨gB, hgB⟩ := row_some (i := 2) hS rfl (by omega)
              rw [hgB] at hS hF
              refine wp_seq_k fun K26 hK26 => ?_
              -- region 26
              refine wp_region_lit ?_
              refine s_pu hF rfl rfl rfl (pu_move (hF.ev rfl)) ?_; clear hF; intro a hF
              refine s_pu hF rfl rfl rfl (pu_move (hF.ev rfl)) ?_; clear hF; intro a hF
              refine s_pu hF rfl rfl rfl ((by first | exact pu_elem sl22 (hF.ev rfl) (hF.ev rfl) (by first | omega | simp) (by first | omega | (simp; done) | (simp; omega)) | exact pu_elemA sl22 (hF.ev rfl) (hF.ev rfl) (by omega) (by omega))) ?_; clear hF; intro a hF
              refine s_rd hF rfl rfl rfl (by first | exact rd_load pl3 (hF.ev rfl) (by assumption) | exact rd_load pl3 (hF.ev rfl) (hS.cellL (i := 0) rfl rfl) | exact rd_load pl3 (hF.ev rfl) (hS.cellL (i := 1) rfl rfl) | exact rd_load pl3 (hF.ev rfl) (hS.cellL (i := 2) rfl rfl) | exact rd_load pl3 (hF.ev rfl) (hS.cellL (i := 3) rfl rfl) | exact rd_load pl3 (hF.ev rfl) (hS.cellL (i := 4) rfl rfl) | exact rd_load pl3 (hF.ev rfl) (hS.cellL (i := 5) rfl rfl) | exact rd_load pl3 (hF.ev rfl) (hS.cell (i := 0) rfl (by assumption)) | exact rd_load pl3 (hF.ev rfl) (hS.cell (i := 1) rfl (by assumption)) | exact rd_load pl3 (hF.ev rfl) (hS.cell (i := 2) rfl (by assumption)) | exact rd_load pl3 (hF.ev rfl) (hS.cell (i := 3) rfl (by assumption)) | exact rd_load pl3 (hF.ev rfl) (hS.cell (i := 4) rfl (by assumption)) | exact rd_load pl3 (hF.ev rfl) (hS.cell (i := 5) rfl (by assumption)) | exact rd_load pl3 (hF.ev rfl) (row_at (i := 0) hS rfl (by first | assumption | rfl)) | exact rd_load pl3 (hF.ev rfl) (row_at0 (i := 0) hS rfl (by first | assumption | rfl)) | exact rd_load pl3 (hF.ev rfl) (row_at (i := 1) hS rfl (by first | assumption | rfl)) | exact rd_load pl3 (hF.ev rfl) (row_at0 (i := 1) hS rfl (by first | assumption | rfl)) | exact rd_load pl3 (hF.ev rfl) (row_at (i := 2) hS rfl (by first | assumption | rfl)) | exact rd_load pl3 (hF.ev rfl) (row_at0 (i := 2) hS rfl (by first | assumption | rfl)) | exact rd_load pl3 (hF.ev rfl) (row_at (i := 3) hS rfl (by first | assumption | rfl)) | exact rd_load pl3 (hF.ev rfl) (row_at0 (i := 3) hS rfl (by first | assumption | rfl)) | exact rd_load pl3 (hF.ev rfl) (row_at (i := 4) hS rfl (by first | assumption | rfl)) | exact rd_load pl3 (hF.ev rfl) (row_at0 (i := 4) hS rfl (by first | assumption | rfl)) | exact rd_load pl3 (hF.ev rfl) (row_at (i := 5) hS rfl (by first | assumption | rfl)) | exact rd_load pl3 (hF.ev rfl) (row_at0 (i := 5) hS rfl (by first | assumption | rfl))) ?_; clear hF; intro a hF
              refine s_pu hF rfl rfl rfl (pu_move (hF.ev rfl)) ?_; clear hF; intro a hF
              refine s_pu hF rfl rfl rfl ((by first | exact pu_add64 (hF.ev rfl) (hF.ev rfl) (by omega) | exact pu_add (hF.ev rfl) (hF.ev rfl))) ?_; clear hF; intro a hF
              refine s_en hF rfl rfl rfl (run_fn fk9 (hF.ev rfl) (hF.evs rfl)) (pick_c hS (by omega) hub3.1 hub3.2) ?_
              clear hS; rintro e w ⟨rfl, hS⟩
              refine ⟨_, rfl, ?_⟩; clear hF; intro a hF
              refine s_pu hF rfl rfl rfl (pu_assign (hF.ev rfl)) ?_; clear hF; intro a hF
              refine s_done ?_
              rw [hq] at hF
              refine hK26 _ _ ?_; clear hK26
              refine wp_seq_k fun K27 hK27 => ?_
              -- region 27
              cases hd : r.done
              · -- nd
                rw [hd] at hrn
                -- region 27
                refine wp_region_lit ?_
                refine s_pu hF rfl rfl rfl (pu_move (hF.ev rfl)) ?_; clear hF; intro a hF
                refine s_pu hF rfl rfl rfl (pu_move (hF.ev rfl)) ?_; clear hF; intro a hF
                refine s_pu hF rfl rfl rfl ((by first | exact pu_add64 (hF.ev rfl) (hF.ev rfl) (by omega) | exact pu_add (hF.ev rfl) (hF.ev rfl))) ?_; clear hF; intro a hF
                refine s_en hF rfl rfl rfl (run_fn fk13 (hF.ev rfl) (hF.evs rfl)) (wCancel_s hS (pend_rising hI2.num) (by omega) (mem_pend hrm hd) (by simp [Th.ent, hri]) (by have := (hI2.due r hrm hd).1; simp only [Th.ent]; omega) (by omega)) ?_
                clear hS; rintro e w ⟨rfl, hS⟩
                refine ⟨_, rfl, ?_⟩; clear hF; intro a hF
                refine s_pu hF rfl rfl rfl (pu_move (hF.ev rfl)) ?_; clear hF; intro a hF
                refine s_pu hF rfl rfl rfl (pu_extract (hF.ev rfl) rfl) ?_; clear hF; intro a hF
                refine s_pu hF rfl rfl rfl (pu_extract (hF.ev rfl) rfl) ?_; clear hF; intro a hF
                refine s_pu hF rfl rfl rfl (pu_assign (hF.ev rfl)) ?_; clear hF; intro a hF
                refine s_pu hF rfl rfl rfl (pu_assign (hF.ev rfl)) ?_; clear hF; intro a hF
                refine s_done ?_
                rw [hpm] at hS
                have hthing : w.cell? ⟨r.b, 0 + (0 : Int).toNat * 1, none⟩ = some (.int .i64 r.i) := row_at0 (i := q + 4) hS (nth_map hr) rfl
                refine hK27 _ _ ?_; clear hK27
                refine wp_seq_k fun K28 hK28 => ?_
                refine wp_seq_k fun K29 hK29 => ?_
                -- region 28
                refine wp_region_lit ?_
                refine s_pu hF rfl rfl rfl (pu_move (hF.ev rfl)) ?_; clear hF; intro a hF
                refine s_pu hF rfl rfl rfl (pu_move (hF.ev rfl)) ?_; clear hF; intro a hF
                refine s_pu hF rfl rfl rfl ((by first | exact pu_elem sl29 (hF.ev rfl) (hF.ev rfl) (by first | omega | simp) (by first | omega | (simp; done) | (simp; omega)) | exact pu_elemA sl29 (hF.ev rfl) (hF.ev rfl) (by omega) (by omega))) ?_; clear hF; intro a hF
                refine s_rd hF rfl rfl rfl (by first | exact rd_load pl4 (hF.ev rfl) (by assumption) | exact rd_load pl4 (hF.ev rfl) (hS.cellL (i := 0) rfl rfl) | exact rd_load pl4 (hF.ev rfl) (hS.cellL (i := 1) rfl rfl) | exact rd_load pl4 (hF.ev rfl) (hS.cellL (i := 2) rfl rfl) | exact rd_load pl4 (hF.ev rfl) (hS.cellL (i := 3) rfl rfl) | exact rd_load pl4 (hF.ev rfl) (hS.cellL (i := 4) rfl rfl) | exact rd_load pl4 (hF.ev rfl) (hS.cellL (i := 5) rfl rfl) | exact rd_load pl4 (hF.ev rfl) (hS.cell (i := 0) rfl (by assumption)) | exact rd_load pl4 (hF.ev rfl) (hS.cell (i := 1) rfl (by assumption)) | exact rd_load pl4 (hF.ev rfl) (hS.cell (i := 2) rfl (by assumption)) | exact rd_load pl4 (hF.ev rfl) (hS.cell (i := 3) rfl (by assumption)) | exact rd_load pl4 (hF.ev rfl) (hS.cell (i := 4) rfl (by assumption)) | exact rd_load pl4 (hF.ev rfl) (hS.cell (i := 5) rfl (by assumption)) | exact rd_load pl4 (hF.ev rfl) (row_at (i := 0) hS rfl (by first | assumption | rfl)) | exact rd_load pl4 (hF.ev rfl) (row_at0 (i := 0) hS rfl (by first | assumption | rfl)) | exact rd_load pl4 (hF.ev rfl) (row_at (i := 1) hS rfl (by first | assumption | rfl)) | exact rd_load pl4 (hF.ev rfl) (row_at0 (i := 1) hS rfl (by first | assumption | rfl)) | exact rd_load pl4 (hF.ev rfl) (row_at (i := 2) hS rfl (by first | assumption | rfl)) | exact rd_load pl4 (hF.ev rfl) (row_at0 (i := 2) hS rfl (by first | assumption | rfl)) | exact rd_load pl4 (hF.ev rfl) (row_at (i := 3) hS rfl (by first | assumption | rfl)) | exact rd_load pl4 (hF.ev rfl) (row_at0 (i := 3) hS rfl (by first | assumption | rfl)) | exact rd_load pl4 (hF.ev rfl) (row_at (i := 4) hS rfl (by first | assumption | rfl)) | exact rd_load pl4 (hF.ev rfl) (row_at0 (i := 4) hS rfl (by first | assumption | rfl)) | exact rd_load pl4 (hF.ev rfl) (row_at (i := 5) hS rfl (by first | assumption | rfl)) | exact rd_load pl4 (hF.ev rfl) (row_at0 (i := 5) hS rfl (by first | assumption | rfl))) ?_; clear hF; intro a hF
                refine s_pu hF rfl rfl rfl (pu_move (hF.ev rfl)) ?_; clear hF; intro a hF
                refine s_pu hF rfl rfl rfl (pu_eql (hF.ev rfl) (hF.ev rfl)) ?_; clear hF; intro a hF
                refine s_pu hF rfl rfl rfl (pu_bne Try.underlying4 (hF.ev rfl) (hF.ev rfl)) ?_; clear hF; intro a hF
                refine s_pu hF rfl rfl rfl (pu_move (hF.ev rfl)) ?_; clear hF; intro a hF
                refine s_pu hF rfl rfl rfl (pu_move (hF.ev rfl)) ?_; clear hF; intro a hF
                refine s_pu hF rfl rfl rfl (pu_move (hF.ev rfl)) ?_; clear hF; intro a hF
                refine s_pu hF rfl rfl rfl ((by first | exact pu_elem sl29 (hF.ev rfl) (hF.ev rfl) (by first | omega | simp) (by first | omega | (simp; done) | (simp; omega)) | exact pu_elemA sl29 (hF.ev rfl) (hF.ev rfl) (by omega) (by omega))) ?_; clear hF; intro a hF
                refine s_rd hF rfl rfl rfl (by first | exact rd_load pl4 (hF.ev rfl) (by assumption) | exact rd_load pl4 (hF.ev rfl) (hS.cellL (i := 0) rfl rfl) | exact rd_load pl4 (hF.ev rfl) (hS.cellL (i := 1) rfl rfl) | exact rd_load pl4 (hF.ev rfl) (hS.cellL (i := 2) rfl rfl) | exact rd_load pl4 (hF.ev rfl) (hS.cellL (i := 3) rfl rfl) | exact rd_load pl4 (hF.ev rfl) (hS.cellL (i := 4) rfl rfl) | exact rd_load pl4 (hF.ev rfl) (hS.cellL (i := 5) rfl rfl) | exact rd_load pl4 (hF.ev rfl) (hS.cell (i := 0) rfl (by assumption)) | exact rd_load pl4 (hF.ev rfl) (hS.cell (i := 1) rfl (by assumption)) | exact rd_load pl4 (hF.ev rfl) (hS.cell (i := 2) rfl (by assumption)) | exact rd_load pl4 (hF.ev rfl) (hS.cell (i := 3) rfl (by assumption)) | exact rd_load pl4 (hF.ev rfl) (hS.cell (i := 4) rfl (by assumption)) | exact rd_load pl4 (hF.ev rfl) (hS.cell (i := 5) rfl (by assumption)) | exact rd_load pl4 (hF.ev rfl) (row_at (i := 0) hS rfl (by first | assumption | rfl)) | exact rd_load pl4 (hF.ev rfl) (row_at0 (i := 0) hS rfl (by first | assumption | rfl)) | exact rd_load pl4 (hF.ev rfl) (row_at (i := 1) hS rfl (by first | assumption | rfl)) | exact rd_load pl4 (hF.ev rfl) (row_at0 (i := 1) hS rfl (by first | assumption | rfl)) | exact rd_load pl4 (hF.ev rfl) (row_at (i := 2) hS rfl (by first | assumption | rfl)) | exact rd_load pl4 (hF.ev rfl) (row_at0 (i := 2) hS rfl (by first | assumption | rfl)) | exact rd_load pl4 (hF.ev rfl) (row_at (i := 3) hS rfl (by first | assumption | rfl)) | exact rd_load pl4 (hF.ev rfl) (row_at0 (i := 3) hS rfl (by first | assumption | rfl)) | exact rd_load pl4 (hF.ev rfl) (row_at (i := 4) hS rfl (by first | assumption | rfl)) | exact rd_load pl4 (hF.ev rfl) (row_at0 (i := 4) hS rfl (by first | assumption | rfl)) | exact rd_load pl4 (hF.ev rfl) (row_at (i := 5) hS rfl (by first | assumption | rfl)) | exact rd_load pl4 (hF.ev rfl) (row_at0 (i := 5) hS rfl (by first | assumption | rfl))) ?_; clear hF; intro a hF
                refine s_pu hF rfl rfl rfl (pu_not (hF.ev rfl)) ?_; clear hF; intro a hF
                refine s_pu hF rfl rfl rfl (pu_move (hF.ev rfl)) ?_; clear hF; intro a hF
                refine s_pu hF rfl rfl rfl (pu_move (hF.ev rfl)) ?_; clear hF; intro a hF
                refine s_pu hF rfl rfl rfl (pu_len sl22 (hF.ev rfl)) ?_; clear hF; intro a hF
                refine s_pu hF rfl rfl rfl (pu_neq (hF.ev rfl) (hF.ev rfl)) ?_; clear hF; intro a hF
                refine s_pu hF rfl rfl rfl (pu_move (hF.ev rfl)) ?_; clear hF; intro a hF
                refine s_pu hF rfl rfl rfl (pu_move (hF.ev rfl)) ?_; clear hF; intro a hF
                refine s_pu hF rfl rfl rfl ((by first | exact pu_elem sl22 (hF.ev rfl) (hF.ev rfl) (by first | omega | simp) (by first | omega | (simp; done) | (simp; omega)) | exact pu_elemA sl22 (hF.ev rfl) (hF.ev rfl) (by omega) (by omega))) ?_; clear hF; intro a hF
                refine s_rd hF rfl rfl rfl (by first | exact rd_load pl3 (hF.ev rfl) (by assumption) | exact rd_load pl3 (hF.ev rfl) (hS.cellL (i := 0) rfl rfl) | exact rd_load pl3 (hF.ev rfl) (hS.cellL (i := 1) rfl rfl) | exact rd_load pl3 (hF.ev rfl) (hS.cellL (i := 2) rfl rfl) | exact rd_load pl3 (hF.ev rfl) (hS.cellL (i := 3) rfl rfl) | exact rd_load pl3 (hF.ev rfl) (hS.cellL (i := 4) rfl rfl) | exact rd_load pl3 (hF.ev rfl) (hS.cellL (i := 5) rfl rfl) | exact rd_load pl3 (hF.ev rfl) (hS.cell (i := 0) rfl (by assumption)) | exact rd_load pl3 (hF.ev rfl) (hS.cell (i := 1) rfl (by assumption)) | exact rd_load pl3 (hF.ev rfl) (hS.cell (i := 2) rfl (by assumption)) | exact rd_load pl3 (hF.ev rfl) (hS.cell (i := 3) rfl (by assumption)) | exact rd_load pl3 (hF.ev rfl) (hS.cell (i := 4) rfl (by assumption)) | exact rd_load pl3 (hF.ev rfl) (hS.cell (i := 5) rfl (by assumption)) | exact rd_load pl3 (hF.ev rfl) (row_at (i := 0) hS rfl (by first | assumption | rfl)) | exact rd_load pl3 (hF.ev rfl) (row_at0 (i := 0) hS rfl (by first | assumption | rfl)) | exact rd_load pl3 (hF.ev rfl) (row_at (i := 1) hS rfl (by first | assumption | rfl)) | exact rd_load pl3 (hF.ev rfl) (row_at0 (i := 1) hS rfl (by first | assumption | rfl)) | exact rd_load pl3 (hF.ev rfl) (row_at (i := 2) hS rfl (by first | assumption | rfl)) | exact rd_load pl3 (hF.ev rfl) (row_at0 (i := 2) hS rfl (by first | assumption | rfl)) | exact rd_load pl3 (hF.ev rfl) (row_at (i := 3) hS rfl (by first | assumption | rfl)) | exact rd_load pl3 (hF.ev rfl) (row_at0 (i := 3) hS rfl (by first | assumption | rfl)) | exact rd_load pl3 (hF.ev rfl) (row_at (i := 4) hS rfl (by first | assumption | rfl)) | exact rd_load pl3 (hF.ev rfl) (row_at0 (i := 4) hS rfl (by first | assumption | rfl)) | exact rd_load pl3 (hF.ev rfl) (row_at (i := 5) hS rfl (by first | assumption | rfl)) | exact rd_load pl3 (hF.ev rfl) (row_at0 (i := 5) hS rfl (by first | assumption | rfl))) ?_; clear hF; intro a hF
                refine s_pu hF rfl rfl rfl (pu_move (hF.ev rfl)) ?_; clear hF; intro a hF
                refine s_pu hF rfl rfl rfl (pu_neq (hF.ev rfl) (hF.ev rfl)) ?_; clear hF; intro a hF
                refine s_pu hF rfl rfl rfl ((by first | exact pu_pick_t (hF.ev rfl) (hF.ev rfl) | exact pu_pick_f (hF.ev rfl) (hF.ev rfl) | exact pu_pick (hF.ev rfl) (hF.ev rfl) (hF.ev rfl))) ?_; clear hF; intro a hF
                refine s_pu hF rfl rfl rfl ((by first | exact pu_pick_t (hF.ev rfl) (hF.ev rfl) | exact pu_pick_f (hF.ev rfl) (hF.ev rfl) | exact pu_pick (hF.ev rfl) (hF.ev rfl) (hF.ev rfl))) ?_; clear hF; intro a hF
                refine s_pu hF rfl rfl rfl ((by first | exact pu_pick_t (hF.ev rfl) (hF.ev rfl) | exact pu_pick_f (hF.ev rfl) (hF.ev rfl) | exact pu_pick (hF.ev rfl) (hF.ev rfl) (hF.ev rfl))) ?_; clear hF; intro a hF
                refine s_done ?_
                refine hK29 _ _ ?_; clear hK29
                refine wp_cond_split (hF.ev rfl) (fun hc7 => ?_) (fun hc7 => ?_)
                · -- cond 7 true
                  try simp only [decide_eq_true_eq, decide_eq_false_iff_not, Bool.not_eq_true', Bool.not_eq_false', Int.not_lt, Int.not_le, ne_eq, Decidable.not_not, Bool.or_eq_true, Bool.or_eq_false_iff, Bool.and_eq_true, Bool.and_eq_false_imp] at hc7
                  first | exact absurd (by omega) hc7 | (simp at hc7; omega)
                · -- cond 7 false
                  try simp only [decide_eq_true_eq, decide_eq_false_iff_not, Bool.not_eq_true', Bool.not_eq_false', Int.not_lt, Int.not_le, ne_eq, Decidable.not_not, Bool.or_eq_true, Bool.or_eq_false_iff, Bool.and_eq_true, Bool.and_eq_false_imp] at hc7
                  refine wp_skip ?_
                  refine hK28 _ _ ?_; clear hK28
                  -- region 30
                  refine wp_region_lit ?_
                  refine s_pu hF rfl rfl rfl (pu_move (hF.ev rfl)) ?_; clear hF; intro a hF
                  refine s_pu hF rfl rfl rfl (pu_move (hF.ev rfl)) ?_; clear hF; intro a hF
                  refine s_pu hF rfl rfl rfl ((by first | exact pu_elem sl29 (hF.ev rfl) (hF.ev rfl) (by first | omega | simp) (by first | omega | (simp; done) | (simp; omega)) | exact pu_elemA sl29 (hF.ev rfl) (hF.ev rfl) (by omega) (by omega))) ?_; clear hF; intro a hF
                  (first | (refine s_rstore 0 hF rfl (hF.ev rfl) (hF.ev rfl) hS rfl sz4 rfl (by omega) ?_) | (refine s_rstore 1 hF rfl (hF.ev rfl) (hF.ev rfl) hS rfl sz4 rfl (by omega) ?_) | (refine s_rstore 2 hF rfl (hF.ev rfl) (hF.ev rfl) hS rfl sz4 rfl (by omega) ?_) | (refine s_rstore 3 hF rfl (hF.ev rfl) (hF.ev rfl) hS rfl sz4 rfl (by omega) ?_) | (refine s_rstore 4 hF rfl (hF.ev rfl) (hF.ev rfl) hS rfl sz4 rfl (by omega) ?_) | (refine s_rstore 5 hF rfl (hF.ev rfl) (hF.ev rfl) hS rfl sz4 rfl (by omega) ?_) | (refine s_store (vs := [_]) (cs' := _) 0 hF rfl (hF.ev rfl) (hF.ev rfl) hS rfl rfl sz4 (by first | rfl | (simp only [List.all_cons, List.all_nil, Value.oneCell', Bool.and_true, Bool.true_and]; assumption) | (simp [Value.oneCell', *]; done)) (by first | exact Nat.le_of_ble_eq_true rfl | (simp [Value.cells]; omega)) rfl ?_) | (refine s_store (vs := [_]) (cs' := _) 1 hF rfl (hF.ev rfl) (hF.ev rfl) hS rfl rfl sz4 (by first | rfl | (simp only [List.all_cons, List.all_nil, Value.oneCell', Bool.and_true, Bool.true_and]; assumption) | (simp [Value.oneCell', *]; done)) (by first | exact Nat.le_of_ble_eq_true rfl | (simp [Value.cells]; omega)) rfl ?_) | (refine s_store (vs := [_]) (cs' := _) 2 hF rfl (hF.ev rfl) (hF.ev rfl) hS rfl rfl sz4 (by first | rfl | (simp only [List.all_cons, List.all_nil, Value.oneCell', Bool.and_true, Bool.true_and]; assumption) | (simp [Value.oneCell', *]; done)) (by first | exact Nat.le_of_ble_eq_true rfl | (simp [Value.cells]; omega)) rfl ?_) | (refine s_store (vs := [_]) (cs' := _) 3 hF rfl (hF.ev rfl) (hF.ev rfl) hS rfl rfl sz4 (by first | rfl | (simp only [List.all_cons, List.all_nil, Value.oneCell', Bool.and_true, Bool.true_and]; assumption) | (simp [Value.oneCell', *]; done)) (by first | exact Nat.le_of_ble_eq_true rfl | (simp [Value.cells]; omega)) rfl ?_) | (refine s_store (vs := [_]) (cs' := _) 4 hF rfl (hF.ev rfl) (hF.ev rfl) hS rfl rfl sz4 (by first | rfl | (simp only [List.all_cons, List.all_nil, Value.oneCell', Bool.and_true, Bool.true_and]; assumption) | (simp [Value.oneCell', *]; done)) (by first | exact Nat.le_of_ble_eq_true rfl | (simp [Value.cells]; omega)) rfl ?_) | (refine s_store (vs := [_]) (cs' := _) 5 hF rfl (hF.ev rfl) (hF.ev rfl) hS rfl rfl sz4 (by first | rfl | (simp only [List.all_cons, List.all_nil, Value.oneCell', Bool.and_true, Bool.true_and]; assumption) | (simp [Value.oneCell', *]; done)) (by first | exact Nat.le_of_ble_eq_true rfl | (simp [Value.cells]; omega)) rfl ?_))
                  clear hS; intro w hS; (try simp only [upd, del] at hS)
                  refine s_done ?_
                  have hms := mark_set hI2.num hrm []
                  rw [mark_nil, List.nil_append, hri] at hms
                  rw [hms, ← mark_dues (R := R2) (ks := [q]), ← mark_chunk (ks := [q]), ← mark_len (R := R2) (ks := [q])] at hS
                  rw [← mark_len (R := R2) (ks := [q])] at hF
                  have hml := mark_len (R := R2) (ks := [q])
                  have hI3 := hI2.mark [q]
                  refine blk_normal ?_
                  refine hK11 _ _ ?_; clear hK11
                  -- region 9
                  refine wp_region_lit ?_
                  refine s_pu hF rfl rfl rfl (pu_move (hF.ev rfl)) ?_; clear hF; intro a hF
                  refine s_pu hF rfl rfl rfl ((by first | exact pu_add64 (hF.ev rfl) (hF.ev rfl) (by omega) | exact pu_add (hF.ev rfl) (hF.ev rfl))) ?_; clear hF; intro a hF
                  refine s_pu hF rfl rfl rfl (pu_assign (hF.ev rfl)) ?_; clear hF; intro a hF
                  refine s_done ?_
                  first
                  | exact ⟨_, by omega, mark [q] R2, now2, _, _, _, _, rfl, by omega, by omega, by omega, hI3, (by rw [show (((mark [q] R2).length : Nat) : Int) = (R.length : Int) + 1 by omega]; exact hF.sub ⟨rfl, rfl, rfl, rfl, rfl, rfl, rfl, trivial⟩), hS⟩
                  | exact ⟨_, by omega, R2, now2, _, _, _, _, rfl, by omega, by omega, by omega, hI2, (by rw [show ((R2.length : Nat) : Int) = (R.length : Int) + 1 by omega]; exact hF.sub ⟨rfl, rfl, rfl, rfl, rfl, rfl, rfl, trivial⟩), hS⟩
              · -- dn
                rw [hd] at hrn
                have hno : ∀ e ∈ pend R2, e.timer ≠ (q : Int) + 1 := by
                  intro e he
                  obtain ⟨q, hq, hqd, rfl⟩ := pend_mem he
                  simp only [Th.ent]
                  intro heq
                  have : q = r := hI2.num.eq hq hrm (by omega)
                  subst this
                  rw [hd] at hqd
                  cases hqd
                rw [List.filter_eq_self.2 (fun e he => by simpa using hno e he)] at hpm
                -- region 27
                refine wp_region_lit ?_
                refine s_pu hF rfl rfl rfl (pu_move (hF.ev rfl)) ?_; clear hF; intro a hF
                refine s_pu hF rfl rfl rfl (pu_move (hF.ev rfl)) ?_; clear hF; intro a hF
                refine s_pu hF rfl rfl rfl ((by first | exact pu_add64 (hF.ev rfl) (hF.ev rfl) (by omega) | exact pu_add (hF.ev rfl) (hF.ev rfl))) ?_; clear hF; intro a hF
                refine s_en hF rfl rfl rfl (run_fn fk13 (hF.ev rfl) (hF.evs rfl)) (wCancelNo_s hS hno) ?_
                clear hS; rintro e w ⟨rfl, hS⟩
                refine ⟨_, rfl, ?_⟩; clear hF; intro a hF
                refine s_pu hF rfl rfl rfl (pu_move (hF.ev rfl)) ?_; clear hF; intro a hF
                refine s_pu hF rfl rfl rfl (pu_extract (hF.ev rfl) rfl) ?_; clear hF; intro a hF
                refine s_pu hF rfl rfl rfl (pu_extract (hF.ev rfl) rfl) ?_; clear hF; intro a hF
                refine s_pu hF rfl rfl rfl (pu_assign (hF.ev rfl)) ?_; clear hF; intro a hF
                refine s_pu hF rfl rfl rfl (pu_assign (hF.ev rfl)) ?_; clear hF; intro a hF
                refine s_done ?_
                rw [hpm] at hS
                have hthing : w.cell? ⟨r.b, 0 + (0 : Int).toNat * 1, none⟩ = some (.int .i64 r.i) := row_at0 (i := q + 4) hS (nth_map hr) rfl
                refine hK27 _ _ ?_; clear hK27
                refine wp_seq_k fun K28 hK28 => ?_
                refine wp_seq_k fun K29 hK29 => ?_
                -- region 28
                refine wp_region_lit ?_
                refine s_pu hF rfl rfl rfl (pu_move (hF.ev rfl)) ?_; clear hF; intro a hF
                refine s_pu hF rfl rfl rfl (pu_move (hF.ev rfl)) ?_; clear hF; intro a hF
                refine s_pu hF rfl rfl rfl ((by first | exact pu_elem sl29 (hF.ev rfl) (hF.ev rfl) (by first | omega | simp) (by first | omega | (simp; done) | (simp; omega)) | exact pu_elemA sl29 (hF.ev rfl) (hF.ev rfl) (by omega) (by omega))) ?_; clear hF; intro a hF
                refine s_rd hF rfl rfl rfl (by first | exact rd_load pl4 (hF.ev rfl) (by assumption) | exact rd_load pl4 (hF.ev rfl) (hS.cellL (i := 0) rfl rfl) | exact rd_load pl4 (hF.ev rfl) (hS.cellL (i := 1) rfl rfl) | exact rd_load pl4 (hF.ev rfl) (hS.cellL (i := 2) rfl rfl) | exact rd_load pl4 (hF.ev rfl) (hS.cellL (i := 3) rfl rfl) | exact rd_load pl4 (hF.ev rfl) (hS.cellL (i := 4) rfl rfl) | exact rd_load pl4 (hF.ev rfl) (hS.cellL (i := 5) rfl rfl) | exact rd_load pl4 (hF.ev rfl) (hS.cell (i := 0) rfl (by assumption)) | exact rd_load pl4 (hF.ev rfl) (hS.cell (i := 1) rfl (by assumption)) | exact rd_load pl4 (hF.ev rfl) (hS.cell (i := 2) rfl (by assumption)) | exact rd_load pl4 (hF.ev rfl) (hS.cell (i := 3) rfl (by assumption)) | exact rd_load pl4 (hF.ev rfl) (hS.cell (i := 4) rfl (by assumption)) | exact rd_load pl4 (hF.ev rfl) (hS.cell (i := 5) rfl (by assumption)) | exact rd_load pl4 (hF.ev rfl) (row_at (i := 0) hS rfl (by first | assumption | rfl)) | exact rd_load pl4 (hF.ev rfl) (row_at0 (i := 0) hS rfl (by first | assumption | rfl)) | exact rd_load pl4 (hF.ev rfl) (row_at (i := 1) hS rfl (by first | assumption | rfl)) | exact rd_load pl4 (hF.ev rfl) (row_at0 (i := 1) hS rfl (by first | assumption | rfl)) | exact rd_load pl4 (hF.ev rfl) (row_at (i := 2) hS rfl (by first | assumption | rfl)) | exact rd_load pl4 (hF.ev rfl) (row_at0 (i := 2) hS rfl (by first | assumption | rfl)) | exact rd_load pl4 (hF.ev rfl) (row_at (i := 3) hS rfl (by first | assumption | rfl)) | exact rd_load pl4 (hF.ev rfl) (row_at0 (i := 3) hS rfl (by first | assumption | rfl)) | exact rd_load pl4 (hF.ev rfl) (row_at (i := 4) hS rfl (by first | assumption | rfl)) | exact rd_load pl4 (hF.ev rfl) (row_at0 (i := 4) hS rfl (by first | assumption | rfl)) | exact rd_load pl4 (hF.ev rfl) (row_at (i := 5) hS rfl (by first | assumption | rfl)) | exact rd_load pl4 (hF.ev rfl) (row_at0 (i := 5) hS rfl (by first | assumption | rfl))) ?_; clear hF; intro a hF
                refine s_pu hF rfl rfl rfl (pu_move (hF.ev rfl)) ?_; clear hF; intro a hF
                refine s_pu hF rfl rfl rfl (pu_eql (hF.ev rfl) (hF.ev rfl)) ?_; clear hF; intro a hF
                refine s_pu hF rfl rfl rfl (pu_bne Try.underlying4 (hF.ev rfl) (hF.ev rfl)) ?_; clear hF; intro a hF
                refine s_pu hF rfl rfl rfl (pu_move (hF.ev rfl)) ?_; clear hF; intro a hF
                refine s_pu hF rfl rfl rfl (pu_move (hF.ev rfl)) ?_; clear hF; intro a hF
                refine s_pu hF rfl rfl rfl (pu_move (hF.ev rfl)) ?_; clear hF; intro a hF
                refine s_pu hF rfl rfl rfl ((by first | exact pu_elem sl29 (hF.ev rfl) (hF.ev rfl) (by first | omega | simp) (by first | omega | (simp; done) | (simp; omega)) | exact pu_elemA sl29 (hF.ev rfl) (hF.ev rfl) (by omega) (by omega))) ?_; clear hF; intro a hF
                refine s_rd hF rfl rfl rfl (by first | exact rd_load pl4 (hF.ev rfl) (by assumption) | exact rd_load pl4 (hF.ev rfl) (hS.cellL (i := 0) rfl rfl) | exact rd_load pl4 (hF.ev rfl) (hS.cellL (i := 1) rfl rfl) | exact rd_load pl4 (hF.ev rfl) (hS.cellL (i := 2) rfl rfl) | exact rd_load pl4 (hF.ev rfl) (hS.cellL (i := 3) rfl rfl) | exact rd_load pl4 (hF.ev rfl) (hS.cellL (i := 4) rfl rfl) | exact rd_load pl4 (hF.ev rfl) (hS.cellL (i := 5) rfl rfl) | exact rd_load pl4 (hF.ev rfl) (hS.cell (i := 0) rfl (by assumption)) | exact rd_load pl4 (hF.ev rfl) (hS.cell (i := 1) rfl (by assumption)) | exact rd_load pl4 (hF.ev rfl) (hS.cell (i := 2) rfl (by assumption)) | exact rd_load pl4 (hF.ev rfl) (hS.cell (i := 3) rfl (by assumption)) | exact rd_load pl4 (hF.ev rfl) (hS.cell (i := 4) rfl (by assumption)) | exact rd_load pl4 (hF.ev rfl) (hS.cell (i := 5) rfl (by assumption)) | exact rd_load pl4 (hF.ev rfl) (row_at (i := 0) hS rfl (by first | assumption | rfl)) | exact rd_load pl4 (hF.ev rfl) (row_at0 (i := 0) hS rfl (by first | assumption | rfl)) | exact rd_load pl4 (hF.ev rfl) (row_at (i := 1) hS rfl (by first | assumption | rfl)) | exact rd_load pl4 (hF.ev rfl) (row_at0 (i := 1) hS rfl (by first | assumption | rfl)) | exact rd_load pl4 (hF.ev rfl) (row_at (i := 2) hS rfl (by first | assumption | rfl)) | exact rd_load pl4 (hF.ev rfl) (row_at0 (i := 2) hS rfl (by first | assumption | rfl)) | exact rd_load pl4 (hF.ev rfl) (row_at (i := 3) hS rfl (by first | assumption | rfl)) | exact rd_load pl4 (hF.ev rfl) (row_at0 (i := 3) hS rfl (by first | assumption | rfl)) | exact rd_load pl4 (hF.ev rfl) (row_at (i := 4) hS rfl (by first | assumption | rfl)) | exact rd_load pl4 (hF.ev rfl) (row_at0 (i := 4) hS rfl (by first | assumption | rfl)) | exact rd_load pl4 (hF.ev rfl) (row_at (i := 5) hS rfl (by first | assumption | rfl)) | exact rd_load pl4 (hF.ev rfl) (row_at0 (i := 5) hS rfl (by first | assumption | rfl))) ?_; clear hF; intro a hF
                refine s_pu hF rfl rfl rfl (pu_not (hF.ev rfl)) ?_; clear hF; intro a hF
                refine s_pu hF rfl rfl rfl (pu_move (hF.ev rfl)) ?_; clear hF; intro a hF
                refine s_no hF rfl rfl rfl ?_; clear hF; intro a hF
                refine s_no hF rfl rfl rfl ?_; clear hF; intro a hF
                refine s_no hF rfl rfl rfl ?_; clear hF; intro a hF
                refine s_no hF rfl rfl rfl ?_; clear hF; intro a hF
                refine s_no hF rfl rfl rfl ?_; clear hF; intro a hF
                refine s_no hF rfl rfl rfl ?_; clear hF; intro a hF
                refine s_no hF rfl rfl rfl ?_; clear hF; intro a hF
                refine s_no hF rfl rfl rfl ?_; clear hF; intro a hF
                refine s_no hF rfl rfl rfl ?_; clear hF; intro a hF
                refine s_no hF rfl rfl rfl ?_; clear hF; intro a hF
                refine s_pu hF rfl rfl rfl ((by first | exact pu_pick_t (hF.ev rfl) (hF.ev rfl) | exact pu_pick_f (hF.ev rfl) (hF.ev rfl) | exact pu_pick (hF.ev rfl) (hF.ev rfl) (hF.ev rfl))) ?_; clear hF; intro a hF
                refine s_pu hF rfl rfl rfl ((by first | exact pu_pick_t (hF.ev rfl) (hF.ev rfl) | exact pu_pick_f (hF.ev rfl) (hF.ev rfl) | exact pu_pick (hF.ev rfl) (hF.ev rfl) (hF.ev rfl))) ?_; clear hF; intro a hF
                refine s_done ?_
                refine hK29 _ _ ?_; clear hK29
                refine wp_cond_false (hF.ev rfl) ?_
                refine wp_skip ?_
                refine hK28 _ _ ?_; clear hK28
                -- region 30
                refine wp_region_lit ?_
                refine s_pu hF rfl rfl rfl (pu_move (hF.ev rfl)) ?_; clear hF; intro a hF
                refine s_pu hF rfl rfl rfl (pu_move (hF.ev rfl)) ?_; clear hF; intro a hF
                refine s_pu hF rfl rfl rfl ((by first | exact pu_elem sl29 (hF.ev rfl) (hF.ev rfl) (by first | omega | simp) (by first | omega | (simp; done) | (simp; omega)) | exact pu_elemA sl29 (hF.ev rfl) (hF.ev rfl) (by omega) (by omega))) ?_; clear hF; intro a hF
                (first | (refine s_rstore 0 hF rfl (hF.ev rfl) (hF.ev rfl) hS rfl sz4 rfl (by omega) ?_) | (refine s_rstore 1 hF rfl (hF.ev rfl) (hF.ev rfl) hS rfl sz4 rfl (by omega) ?_) | (refine s_rstore 2 hF rfl (hF.ev rfl) (hF.ev rfl) hS rfl sz4 rfl (by omega) ?_) | (refine s_rstore 3 hF rfl (hF.ev rfl) (hF.ev rfl) hS rfl sz4 rfl (by omega) ?_) | (refine s_rstore 4 hF rfl (hF.ev rfl) (hF.ev rfl) hS rfl sz4 rfl (by omega) ?_) | (refine s_rstore 5 hF rfl (hF.ev rfl) (hF.ev rfl) hS rfl sz4 rfl (by omega) ?_) | (refine s_store (vs := [_]) (cs' := _) 0 hF rfl (hF.ev rfl) (hF.ev rfl) hS rfl rfl sz4 (by first | rfl | (simp only [List.all_cons, List.all_nil, Value.oneCell', Bool.and_true, Bool.true_and]; assumption) | (simp [Value.oneCell', *]; done)) (by first | exact Nat.le_of_ble_eq_true rfl | (simp [Value.cells]; omega)) rfl ?_) | (refine s_store (vs := [_]) (cs' := _) 1 hF rfl (hF.ev rfl) (hF.ev rfl) hS rfl rfl sz4 (by first | rfl | (simp only [List.all_cons, List.all_nil, Value.oneCell', Bool.and_true, Bool.true_and]; assumption) | (simp [Value.oneCell', *]; done)) (by first | exact Nat.le_of_ble_eq_true rfl | (simp [Value.cells]; omega)) rfl ?_) | (refine s_store (vs := [_]) (cs' := _) 2 hF rfl (hF.ev rfl) (hF.ev rfl) hS rfl rfl sz4 (by first | rfl | (simp only [List.all_cons, List.all_nil, Value.oneCell', Bool.and_true, Bool.true_and]; assumption) | (simp [Value.oneCell', *]; done)) (by first | exact Nat.le_of_ble_eq_true rfl | (simp [Value.cells]; omega)) rfl ?_) | (refine s_store (vs := [_]) (cs' := _) 3 hF rfl (hF.ev rfl) (hF.ev rfl) hS rfl rfl sz4 (by first | rfl | (simp only [List.all_cons, List.all_nil, Value.oneCell', Bool.and_true, Bool.true_and]; assumption) | (simp [Value.oneCell', *]; done)) (by first | exact Nat.le_of_ble_eq_true rfl | (simp [Value.cells]; omega)) rfl ?_) | (refine s_store (vs := [_]) (cs' := _) 4 hF rfl (hF.ev rfl) (hF.ev rfl) hS rfl rfl sz4 (by first | rfl | (simp only [List.all_cons, List.all_nil, Value.oneCell', Bool.and_true, Bool.true_and]; assumption) | (simp [Value.oneCell', *]; done)) (by first | exact Nat.le_of_ble_eq_true rfl | (simp [Value.cells]; omega)) rfl ?_) | (refine s_store (vs := [_]) (cs' := _) 5 hF rfl (hF.ev rfl) (hF.ev rfl) hS rfl rfl sz4 (by first | rfl | (simp only [List.all_cons, List.all_nil, Value.oneCell', Bool.and_true, Bool.true_and]; assumption) | (simp [Value.oneCell', *]; done)) (by first | exact Nat.le_of_ble_eq_true rfl | (simp [Value.cells]; omega)) rfl ?_))
                clear hS; intro w hS; (try simp only [upd, del] at hS)
                refine s_done ?_
                have hms := mark_set hI2.num hrm []
                rw [mark_nil, List.nil_append, hri] at hms
                rw [hms, ← mark_dues (R := R2) (ks := [q]), ← mark_chunk (ks := [q]), ← mark_len (R := R2) (ks := [q])] at hS
                rw [← mark_len (R := R2) (ks := [q])] at hF
                have hml := mark_len (R := R2) (ks := [q])
                have hI3 := hI2.mark [q]
                refine blk_normal ?_
                refine hK11 _ _ ?_; clear hK11
                -- region 9
                refine wp_region_lit ?_
                refine s_pu hF rfl rfl rfl (pu_move (hF.ev rfl)) ?_; clear hF; intro a hF
                refine s_pu hF rfl rfl rfl ((by first | exact pu_add64 (hF.ev rfl) (hF.ev rfl) (by omega) | exact pu_add (hF.ev rfl) (hF.ev rfl))) ?_; clear hF; intro a hF
                refine s_pu hF rfl rfl rfl (pu_assign (hF.ev rfl)) ?_; clear hF; intro a hF
                refine s_done ?_
                first
                | exact ⟨_, by omega, mark [q] R2, now2, _, _, _, _, rfl, by omega, by omega, by omega, hI3, (by rw [show (((mark [q] R2).length : Nat) : Int) = (R.length : Int) + 1 by omega]; exact hF.sub ⟨rfl, rfl, rfl, rfl, rfl, rfl, rfl, trivial⟩), hS⟩
                | exact ⟨_, by omega, R2, now2, _, _, _, _, rfl, by omega, by omega, by omega, hI2, (by rw [show ((R2.length : Nat) : Int) = (R.length : Int) + 1 by omega]; exact hF.sub ⟨rfl, rfl, rfl, rfl, rfl, rfl, rfl, trivial⟩), hS⟩
            · -- cond 6 false
              try simp only [decide_eq_true_eq, decide_eq_false_iff_not, Bool.not_eq_true', Bool.not_eq_false', Int.not_lt, Int.not_le, ne_eq, Decidable.not_not, Bool.or_eq_true, Bool.or_eq_false_iff, Bool.and_eq_true, Bool.and_eq_false_imp] at hc6
              refine wp_skip ?_
              refine blk_normal ?_
              refine hK11 _ _ ?_; clear hK11
              -- region 9
              refine wp_region_lit ?_
              refine s_pu hF rfl rfl rfl (pu_move (hF.ev rfl)) ?_; clear hF; intro a hF
              refine s_pu hF rfl rfl rfl ((by first | exact pu_add64 (hF.ev rfl) (hF.ev rfl) (by omega) | exact pu_add (hF.ev rfl) (hF.ev rfl))) ?_; clear hF; intro a hF
              refine s_pu hF rfl rfl rfl (pu_assign (hF.ev rfl)) ?_; clear hF; intro a hF
              refine s_done ?_
              first
              | exact ⟨_, by omega, mark [q] R2, now2, _, _, _, _, rfl, by omega, by omega, by omega, hI3, (by rw [show (((mark [q] R2).length : Nat) : Int) = (R.length : Int) + 1 by omega]; exact hF.sub ⟨rfl, rfl, rfl, rfl, rfl, rfl, rfl, trivial⟩), hS⟩
              | exact ⟨_, by omega, R2, now2, _, _, _, _, rfl, by omega, by omega, by omega, hI2, (by rw [show ((R2.length : Nat) : Int) = (R.length : Int) + 1 by omega]; exact hF.sub ⟨rfl, rfl, rfl, rfl, rfl, rfl, rfl, trivial⟩), hS⟩
        · -- cond 3 false
          try simp only [decide_eq_true_eq, decide_eq_false_iff_not, Bool.not_eq_true', Bool.not_eq_false', Int.not_lt, Int.not_le, ne_eq, Decidable.not_not, Bool.or_eq_true, Bool.or_eq_false_iff, Bool.and_eq_true, Bool.and_eq_false_imp] at hc3
          obtain ⟨p, hp⟩ : ∃ p : Nat, (p : Int) = 0 := ⟨0, rfl⟩
          rw [← hp] at hF
          refine wp_skip ?_
          refine hK19 _ _ ?_; clear hK19
          refine wp_seq_k fun K21 hK21 => ?_
          refine wp_seq_k fun K22 hK22 => ?_
          -- region 19
          refine wp_region_lit ?_
          refine s_pu hF rfl rfl rfl (pu_assign (hF.ev rfl)) ?_; clear hF; intro a hF
          refine s_done ?_
          refine hK22 _ _ ?_; clear hK22
          refine wp_block ?_
          refine wp_ind (fun j a w => ∃ (k : Nat) (R2 : List Th) (now2 : Int), j = p - k ∧ k ≤ p ∧ R2.length = R'.length ∧ now2 = now + k ∧ Inv R2 now2 (now2 + 200) ∧
            Fr a 178 [(1, .slice _ l1 q1), (2, .slice _ l2 q2), (3, .slice a3 l3 q3), (10, .pointer (some ⟨g, 0, none⟩)), (12, .slice A83 R2.length q83), (13, .slice A86 R2.length q86), (14, .int .i64 R.length), (18, .int .i64 p), (19, .int .i64 k)] ∧
            Sat W w (onceS W g n q83 q86 A83 A86 R2 now2)) p
            ⟨0, R', now, by omega, by omega, rfl, by omega, hI', hF.sub ⟨rfl, rfl, rfl, rfl, rfl, rfl, rfl, rfl, rfl, trivial⟩, hS⟩ ?_
          clear hS hF
          rintro j a w ⟨k, R2, now2, rfl, hkp, hR2, hnow2, hI2, hF, hS⟩
          refine wp_seq_k fun K23 hK23 => ?_
          refine wp_seq_k fun K24 hK24 => ?_
          -- region 20
          refine wp_region_lit ?_
          refine s_pu hF rfl rfl rfl (pu_move (hF.ev rfl)) ?_; clear hF; intro a hF
          refine s_pu hF rfl rfl rfl (pu_move (hF.ev rfl)) ?_; clear hF; intro a hF
          refine s_pu hF rfl rfl rfl (pu_lss (hF.ev rfl) (hF.ev rfl)) ?_; clear hF; intro a hF
          refine s_done ?_
          refine hK24 _ _ ?_; clear hK24
          refine wp_cond_split (hF.ev rfl) (fun hc4 => ?_) (fun hc4 => ?_)
          · -- cond 4 true
            try simp only [decide_eq_true_eq, decide_eq_false_iff_not, Bool.not_eq_true', Bool.not_eq_false', Int.not_lt, Int.not_le, ne_eq, Decidable.not_not, Bool.or_eq_true, Bool.or_eq_false_iff, Bool.and_eq_true, Bool.and_eq_false_imp] at hc4
            refine wp_skip ?_
            refine hK23 _ _ ?_; clear hK23
            refine wp_seq_k fun K25 hK25 => ?_
            refine wp_block ?_
            refine wp_seq_k fun K26 hK26 => ?_
            -- region 22
            refine wp_region_lit ?_
            refine s_pu hF rfl rfl rfl (pu_move (hF.ev rfl)) ?_; clear hF; intro a hF
            refine s_pu hF rfl rfl rfl (pu_move (hF.ev rfl)) ?_; clear hF; intro a hF
            refine s_pu hF rfl rfl rfl (pu_move (hF.ev rfl)) ?_; clear hF; intro a hF
            refine s_en hF rfl rfl rfl (run_fn fk12 (hF.ev rfl) (hF.evs rfl)) (once_tick hS hI2 (by omega) (by omega) (by omega) (by omega) (by omega)) ?_
            clear hS; rintro e w ⟨rfl, R3, hR3, hI3, hS⟩
            refine ⟨_, rfl, ?_⟩; clear hF; intro a hF
            refine s_pu hF rfl rfl rfl (pu_assign (hF.ev rfl)) ?_; clear hF; intro a hF
            refine s_done ?_
            refine hK26 _ _ ?_; clear hK26
            refine wp_seq_k fun K27 hK27 => ?_
            -- region 23
            refine wp_region_lit ?_
            refine s_pu hF rfl rfl rfl (pu_move (hF.ev rfl)) ?_; clear hF; intro a hF
            refine s_pu hF rfl rfl rfl (pu_not (hF.ev rfl)) ?_; clear hF; intro a hF
            refine s_done ?_
            refine hK27 _ _ ?_; clear hK27
            refine wp_cond_false (hF.ev rfl) ?_
            refine wp_skip ?_
            refine blk_normal ?_
            refine hK25 _ _ ?_; clear hK25
            -- region 21
            refine wp_region_lit ?_
            refine s_pu hF rfl rfl rfl (pu_move (hF.ev rfl)) ?_; clear hF; intro a hF
            refine s_pu hF rfl rfl rfl ((by first | exact pu_add64 (hF.ev rfl) (hF.ev rfl) (by omega) | exact pu_add (hF.ev rfl) (hF.ev rfl))) ?_; clear hF; intro a hF
            refine s_pu hF rfl rfl rfl (pu_assign (hF.ev rfl)) ?_; clear hF; intro a hF
            refine s_done ?_
            rw [← hR3] at hF
            exact ⟨_, by omega, k + 1, R3, now2 + 1, rfl, by omega, by omega, by omega, hI3.weak (by omega), hF.sub ⟨rfl, rfl, rfl, rfl, rfl, rfl, rfl, rfl, rfl, trivial⟩, hS⟩
          · -- cond 4 false
            try simp only [decide_eq_true_eq, decide_eq_false_iff_not, Bool.not_eq_true', Bool.not_eq_false', Int.not_lt, Int.not_le, ne_eq, Decidable.not_not, Bool.or_eq_true, Bool.or_eq_false_iff, Bool.and_eq_true, Bool.and_eq_false_imp] at hc4
            refine wp_exit ?_
            refine then_exit ?_
            refine then_exit ?_
            refine blk_exit ?_
            refine hK21 _ _ ?_; clear hK21
            refine wp_seq_k fun K25 hK25 => ?_
            -- region 25
            refine wp_region_lit ?_
            refine s_pu hF rfl rfl rfl (pu_move (hF.ev rfl)) ?_; clear hF; intro a hF
            refine s_pu hF rfl rfl rfl (pu_move (hF.ev rfl)) ?_; clear hF; intro a hF
            refine s_pu hF rfl rfl rfl (pu_len sl22 (hF.ev rfl)) ?_; clear hF; intro a hF
            refine s_pu hF rfl rfl rfl (pu_lss (hF.ev rfl) (hF.ev rfl)) ?_; clear hF; intro a hF
            refine s_done ?_
            refine hK25 _ _ ?_; clear hK25
            refine wp_cond_split (hF.ev rfl) (fun hc6 => ?_) (fun hc6 => ?_)
            · -- cond 6 true
              try simp only [decide_eq_true_eq, decide_eq_false_iff_not, Bool.not_eq_true', Bool.not_eq_false', Int.not_lt, Int.not_le, ne_eq, Decidable.not_not, Bool.or_eq_true, Bool.or_eq_false_iff, Bool.and_eq_true, Bool.and_eq_false_imp] at hc6
              obtain ⟨y3, rfl, hu3, hub3⟩ := hz3.at_ R.length (by omega)
              have hu4 : w.cell? (y3.add ((R.length : Int).toNat * 1)) = some (.int .i64 (z3.getD R.length 0)) := by
                rw [Int.toNat_natCast, Nat.mul_one]
                exact hS.whole_at (i := 3) rfl hu3
              have hpb3 := pick_bd (z3.getD R.length 0) (n := (R.length : Int) + 1) (by omega)
              obtain ⟨q, hq⟩ : ∃ q : Nat, pickI (z3.getD R.length 0) ((R.length : Int) + 1) = (q : Int) := ⟨(pickI (z3.getD R.length 0) ((R.length : Int) + 1)).toNat, by omega⟩
              obtain ⟨r, hr⟩ : ∃ r, R2[q]? = some r := ⟨R2[q]'(by omega), List.getElem?_eq_getElem _⟩
              have hrm := List.mem_of_getElem? hr
              have hri := hI2.num q r hr
              have hrn := dones_at hr
              have hpm := pend_mark (q := q) hI2.num
              have hpl2 := pend_len (R := R2)
              obtain ⟨gB, hgB⟩ := row_some (i := 2) hS rfl (by omega)
              rw [hgB] at hS hF
              refine wp_seq_k fun K26 hK26 => ?_
              -- region 26
              refine wp_region_lit ?_
              refine s_pu hF rfl rfl rfl (pu_move (hF.ev rfl)) ?_; clear hF; intro a hF
              refine s_pu hF rfl rfl rfl (pu_move (hF.ev rfl)) ?_; clear hF; intro a hF
              refine s_pu hF rfl rfl rfl ((by first | exact pu_elem sl22 (hF.ev rfl) (hF.ev rfl) (by first | omega | simp) (by first | omega | (simp; done) | (simp; omega)) | exact pu_elemA sl22 (hF.ev rfl) (hF.ev rfl) (by omega) (by omega))) ?_; clear hF; intro a hF
              refine s_rd hF rfl rfl rfl (by first | exact rd_load pl3 (hF.ev rfl) (by assumption) | exact rd_load pl3 (hF.ev rfl) (hS.cellL (i := 0) rfl rfl) | exact rd_load pl3 (hF.ev rfl) (hS.cellL (i := 1) rfl rfl) | exact rd_load pl3 (hF.ev rfl) (hS.cellL (i := 2) rfl rfl) | exact rd_load pl3 (hF.ev rfl) (hS.cellL (i := 3) rfl rfl) | exact rd_load pl3 (hF.ev rfl) (hS.cellL (i := 4) rfl rfl) | exact rd_load pl3 (hF.ev rfl) (hS.cellL (i := 5) rfl rfl) | exact rd_load pl3 (hF.ev rfl) (hS.cell (i := 0) rfl (by assumption)) | exact rd_load pl3 (hF.ev rfl) (hS.cell (i := 1) rfl (by assumption)) | exact rd_load pl3 (hF.ev rfl) (hS.cell (i := 2) rfl (by assumption)) | exact rd_load pl3 (hF.ev rfl) (hS.cell (i := 3) rfl (by assumption)) | exact rd_load pl3 (hF.ev rfl) (hS.cell (i := 4) rfl (by assumption)) | exact rd_load pl3 (hF.ev rfl) (hS.cell (i := 5) rfl (by assumption)) | exact rd_load pl3 (hF.ev rfl) (row_at (i := 0) hS rfl (by first | assumption | rfl)) | exact rd_load pl3 (hF.ev rfl) (row_at0 (i := 0) hS rfl (by first | assumption | rfl)) | exact rd_load pl3 (hF.ev rfl) (row_at (i := 1) hS rfl (by first | assumption | rfl)) | exact rd_load pl3 (hF.ev rfl) (row_at0 (i := 1) hS rfl (by first | assumption | rfl)) | exact rd_load pl3 (hF.ev rfl) (row_at (i := 2) hS rfl (by first | assumption | rfl)) | exact rd_load pl3 (hF.ev rfl) (row_at0 (i := 2) hS rfl (by first | assumption | rfl)) | exact rd_load pl3 (hF.ev rfl) (row_at (i := 3) hS rfl (by first | assumption | rfl)) | exact rd_load pl3 (hF.ev rfl) (row_at0 (i := 3) hS rfl (by first | assumption | rfl)) | exact rd_load pl3 (hF.ev rfl) (row_at (i := 4) hS rfl (by first | assumption | rfl)) | exact rd_load pl3 (hF.ev rfl) (row_at0 (i := 4) hS rfl (by first | assumption | rfl)) | exact rd_load pl3 (hF.ev rfl) (row_at (i := 5) hS rfl (by first | assumption | rfl)) | exact rd_load pl3 (hF.ev rfl) (row_at0 (i := 5) hS rfl (by first | assumption | rfl))) ?_; clear hF; intro a hF
              refine s_pu hF rfl rfl rfl (pu_move (hF.ev rfl)) ?_; clear hF; intro a hF
              refine s_pu hF rfl rfl rfl ((by first | exact pu_add64 (hF.ev rfl) (hF.ev rfl) (by omega) | exact pu_add (hF.ev rfl) (hF.ev rfl))) ?_; clear hF; intro a hF
              refine s_en hF rfl rfl rfl (run_fn fk9 (hF.ev rfl) (hF.evs rfl)) (pick_c hS (by omega) hub3.1 hub3.2) ?_
              clear hS; rintro e w ⟨rfl, hS⟩
              refine ⟨_, rfl, ?_⟩; clear hF; intro a hF
              refine s_pu hF rfl rfl rfl (pu_assign (hF.ev rfl)) ?_; clear hF; intro a hF
              refine s_done ?_
              rw [hq] at hF
              refine hK26 _ _ ?_; clear hK26
              refine wp_seq_k fun K27 hK27 => ?_
              -- region 27
              cases hd : r.done
              · -- nd
                rw [hd] at hrn
                -- region 27
                refine wp_region_lit ?_
                refine s_pu hF rfl rfl rfl (pu_move (hF.ev rfl)) ?_; clear hF; intro a hF
                refine s_pu hF rfl rfl rfl (pu_move (hF.ev rfl)) ?_; clear hF; intro a hF
                refine s_pu hF rfl rfl rfl ((by first | exact pu_add64 (hF.ev rfl) (hF.ev rfl) (by omega) | exact pu_add (hF.ev rfl) (hF.ev rfl))) ?_; clear hF; intro a hF
                refine s_en hF rfl rfl rfl (run_fn fk13 (hF.ev rfl) (hF.evs rfl)) (wCancel_s hS (pend_rising hI2.num) (by omega) (mem_pend hrm hd) (by simp [Th.ent, hri]) (by have := (hI2.due r hrm hd).1; simp only [Th.ent]; omega) (by omega)) ?_
                clear hS; rintro e w ⟨rfl, hS⟩
                refine ⟨_, rfl, ?_⟩; clear hF; intro a hF
                refine s_pu hF rfl rfl rfl (pu_move (hF.ev rfl)) ?_; clear hF; intro a hF
                refine s_pu hF rfl rfl rfl (pu_extract (hF.ev rfl) rfl) ?_; clear hF; intro a hF
                refine s_pu hF rfl rfl rfl (pu_extract (hF.ev rfl) rfl) ?_; clear hF; intro a hF
                refine s_pu hF rfl rfl rfl (pu_assign (hF.ev rfl)) ?_; clear hF; intro a hF
                refine s_pu hF rfl rfl rfl (pu_assign (hF.ev rfl)) ?_; clear hF; intro a hF
                refine s_done ?_
                rw [hpm] at hS
                have hthing : w.cell? ⟨r.b, 0 + (0 : Int).toNat * 1, none⟩ = some (.int .i64 r.i) := row_at0 (i := q + 4) hS (nth_map hr) rfl
                refine hK27 _ _ ?_; clear hK27
                refine wp_seq_k fun K28 hK28 => ?_
                refine wp_seq_k fun K29 hK29 => ?_
                -- region 28
                refine wp_region_lit ?_
                refine s_pu hF rfl rfl rfl (pu_move (hF.ev rfl)) ?_; clear hF; intro a hF
                refine s_pu hF rfl rfl rfl (pu_move (hF.ev rfl)) ?_; clear hF; intro a hF
                refine s_pu hF rfl rfl rfl ((by first | exact pu_elem sl29 (hF.ev rfl) (hF.ev rfl) (by first | omega | simp) (by first | omega | (simp; done) | (simp; omega)) | exact pu_elemA sl29 (hF.ev rfl) (hF.ev rfl) (by omega) (by omega))) ?_; clear hF; intro a hF
                refine s_rd hF rfl rfl rfl (by first | exact rd_load pl4 (hF.ev rfl) (by assumption) | exact rd_load pl4 (hF.ev rfl) (hS.cellL (i := 0) rfl rfl) | exact rd_load pl4 (hF.ev rfl) (hS.cellL (i := 1) rfl rfl) | exact rd_load pl4 (hF.ev rfl) (hS.cellL (i := 2) rfl rfl) | exact rd_load pl4 (hF.ev rfl) (hS.cellL (i := 3) rfl rfl) | exact rd_load pl4 (hF.ev rfl) (hS.cellL (i := 4) rfl rfl) | exact rd_load pl4 (hF.ev rfl) (hS.cellL (i := 5) rfl rfl) | exact rd_load pl4 (hF.ev rfl) (hS.cell (i := 0) rfl (by assumption)) | exact rd_load pl4 (hF.ev rfl) (hS.cell (i := 1) rfl (by assumption)) | exact rd_load pl4 (hF.ev rfl) (hS.cell (i := 2) rfl (by assumption)) | exact rd_load pl4 (hF.ev rfl) (hS.cell (i := 3) rfl (by assumption)) | exact rd_load pl4 (hF.ev rfl) (hS.cell (i := 4) rfl (by assumption)) | exact rd_load pl4 (hF.ev rfl) (hS.cell (i := 5) rfl (by assumption)) | exact rd_load pl4 (hF.ev rfl) (row_at (i := 0) hS rfl (by first | assumption | rfl)) | exact rd_load pl4 (hF.ev rfl) (row_at0 (i := 0) hS rfl (by first | assumption | rfl)) | exact rd_load pl4 (hF.ev rfl) (row_at (i := 1) hS rfl (by first | assumption | rfl)) | exact rd_load pl4 (hF.ev rfl) (row_at0 (i := 1) hS rfl (by first | assumption | rfl)) | exact rd_load pl4 (hF.ev rfl) (row_at (i := 2) hS rfl (by first | assumption | rfl)) | exact rd_load pl4 (hF.ev rfl) (row_at0 (i := 2) hS rfl (by first | assumption | rfl)) | exact rd_load pl4 (hF.ev rfl) (row_at (i := 3) hS rfl (by first | assumption | rfl)) | exact rd_load pl4 (hF.ev rfl) (row_at0 (i := 3) hS rfl (by first | assumption | rfl)) | exact rd_load pl4 (hF.ev rfl) (row_at (i := 4) hS rfl (by first | assumption | rfl)) | exact rd_load pl4 (hF.ev rfl) (row_at0 (i := 4) hS rfl (by first | assumption | rfl)) | exact rd_load pl4 (hF.ev rfl) (row_at (i := 5) hS rfl (by first | assumption | rfl)) | exact rd_load pl4 (hF.ev rfl) (row_at0 (i := 5) hS rfl (by first | assumption | rfl))) ?_; clear hF; intro a hF
                refine s_pu hF rfl rfl rfl (pu_move (hF.ev rfl)) ?_; clear hF; intro a hF
                refine s_pu hF rfl rfl rfl (pu_eql (hF.ev rfl) (hF.ev rfl)) ?_; clear hF; intro a hF
                refine s_pu hF rfl rfl rfl (pu_bne Try.underlying4 (hF.ev rfl) (hF.ev rfl)) ?_; clear hF; intro a hF
                refine s_pu hF rfl rfl rfl (pu_move (hF.ev rfl)) ?_; clear hF; intro a hF
                refine s_pu hF rfl rfl rfl (pu_move (hF.ev rfl)) ?_; clear hF; intro a hF
                refine s_pu hF rfl rfl rfl (pu_move (hF.ev rfl)) ?_; clear hF; intro a hF
                refine s_pu hF rfl rfl rfl ((by first | exact pu_elem sl29 (hF.ev rfl) (hF.ev rfl) (by first | omega | simp) (by first | omega | (simp; done) | (simp; omega)) | exact pu_elemA sl29 (hF.ev rfl) (hF.ev rfl) (by omega) (by omega))) ?_; clear hF; intro a hF
                refine s_rd hF rfl rfl rfl (by first | exact rd_load pl4 (hF.ev rfl) (by assumption) | exact rd_load pl4 (hF.ev rfl) (hS.cellL (i := 0) rfl rfl) | exact rd_load pl4 (hF.ev rfl) (hS.cellL (i := 1) rfl rfl) | exact rd_load pl4 (hF.ev rfl) (hS.cellL (i := 2) rfl rfl) | exact rd_load pl4 (hF.ev rfl) (hS.cellL (i := 3) rfl rfl) | exact rd_load pl4 (hF.ev rfl) (hS.cellL (i := 4) rfl rfl) | exact rd_load pl4 (hF.ev rfl) (hS.cellL (i := 5) rfl rfl) | exact rd_load pl4 (hF.ev rfl) (hS.cell (i := 0) rfl (by assumption)) | exact rd_load pl4 (hF.ev rfl) (hS.cell (i := 1) rfl (by assumption)) | exact rd_load pl4 (hF.ev rfl) (hS.cell (i := 2) rfl (by assumption)) | exact rd_load pl4 (hF.ev rfl) (hS.cell (i := 3) rfl (by assumption)) | exact rd_load pl4 (hF.ev rfl) (hS.cell (i := 4) rfl (by assumption)) | exact rd_load pl4 (hF.ev rfl) (hS.cell (i := 5) rfl (by assumption)) | exact rd_load pl4 (hF.ev rfl) (row_at (i := 0) hS rfl (by first | assumption | rfl)) | exact rd_load pl4 (hF.ev rfl) (row_at0 (i := 0) hS rfl (by first | assumption | rfl)) | exact rd_load pl4 (hF.ev rfl) (row_at (i := 1) hS rfl (by first | assumption | rfl)) | exact rd_load pl4 (hF.ev rfl) (row_at0 (i := 1) hS rfl (by first | assumption | rfl)) | exact rd_load pl4 (hF.ev rfl) (row_at (i := 2) hS rfl (by first | assumption | rfl)) | exact rd_load pl4 (hF.ev rfl) (row_at0 (i := 2) hS rfl (by first | assumption | rfl)) | exact rd_load pl4 (hF.ev rfl) (row_at (i := 3) hS rfl (by first | assumption | rfl)) | exact rd_load pl4 (hF.ev rfl) (row_at0 (i := 3) hS rfl (by first | assumption | rfl)) | exact rd_load pl4 (hF.ev rfl) (row_at (i := 4) hS rfl (by first | assumption | rfl)) | exact rd_load pl4 (hF.ev rfl) (row_at0 (i := 4) hS rfl (by first | assumption | rfl)) | exact rd_load pl4 (hF.ev rfl) (row_at (i := 5) hS rfl (by first | assumption | rfl)) | exact rd_load pl4 (hF.ev rfl) (row_at0 (i := 5) hS rfl (by first | assumption | rfl))) ?_; clear hF; intro a hF
                refine s_pu hF rfl rfl rfl (pu_not (hF.ev rfl)) ?_; clear hF; intro a hF
                refine s_pu hF rfl rfl rfl (pu_move (hF.ev rfl)) ?_; clear hF; intro a hF
                refine s_pu hF rfl rfl rfl (pu_move (hF.ev rfl)) ?_; clear hF; intro a hF
                refine s_pu hF rfl rfl rfl (pu_len sl22 (hF.ev rfl)) ?_; clear hF; intro a hF
                refine s_pu hF rfl rfl rfl (pu_neq (hF.ev rfl) (hF.ev rfl)) ?_; clear hF; intro a hF
                refine s_pu hF rfl rfl rfl (pu_move (hF.ev rfl)) ?_; clear hF; intro a hF
                refine s_pu hF rfl rfl rfl (pu_move (hF.ev rfl)) ?_; clear hF; intro a hF
                refine s_pu hF rfl rfl rfl ((by first | exact pu_elem sl22 (hF.ev rfl) (hF.ev rfl) (by first | omega | simp) (by first | omega | (simp; done) | (simp; omega)) | exact pu_elemA sl22 (hF.ev rfl) (hF.ev rfl) (by omega) (by omega))) ?_; clear hF; intro a hF
                refine s_rd hF rfl rfl rfl (by first | exact rd_load pl3 (hF.ev rfl) (by assumption) | exact rd_load pl3 (hF.ev rfl) (hS.cellL (i := 0) rfl rfl) | exact rd_load pl3 (hF.ev rfl) (hS.cellL (i := 1) rfl rfl) | exact rd_load pl3 (hF.ev rfl) (hS.cellL (i := 2) rfl rfl) | exact rd_load pl3 (hF.ev rfl) (hS.cellL (i := 3) rfl rfl) | exact rd_load pl3 (hF.ev rfl) (hS.cellL (i := 4) rfl rfl) | exact rd_load pl3 (hF.ev rfl) (hS.cellL (i := 5) rfl rfl) | exact rd_load pl3 (hF.ev rfl) (hS.cell (i := 0) rfl (by assumption)) | exact rd_load pl3 (hF.ev rfl) (hS.cell (i := 1) rfl (by assumption)) | exact rd_load pl3 (hF.ev rfl) (hS.cell (i := 2) rfl (by assumption)) | exact rd_load pl3 (hF.ev rfl) (hS.cell (i := 3) rfl (by assumption)) | exact rd_load pl3 (hF.ev rfl) (hS.cell (i := 4) rfl (by assumption)) | exact rd_load pl3 (hF.ev rfl) (hS.cell (i := 5) rfl (by assumption)) | exact rd_load pl3 (hF.ev rfl) (row_at (i := 0) hS rfl (by first | assumption | rfl)) | exact rd_load pl3 (hF.ev rfl) (row_at0 (i := 0) hS rfl (by first | assumption | rfl)) | exact rd_load pl3 (hF.ev rfl) (row_at (i := 1) hS rfl (by first | assumption | rfl)) | exact rd_load pl3 (hF.ev rfl) (row_at0 (i := 1) hS rfl (by first | assumption | rfl)) | exact rd_load pl3 (hF.ev rfl) (row_at (i := 2) hS rfl (by first | assumption | rfl)) | exact rd_load pl3 (hF.ev rfl) (row_at0 (i := 2) hS rfl (by first | assumption | rfl)) | exact rd_load pl3 (hF.ev rfl) (row_at (i := 3) hS rfl (by first | assumption | rfl)) | exact rd_load pl3 (hF.ev rfl) (row_at0 (i := 3) hS rfl (by first | assumption | rfl)) | exact rd_load pl3 (hF.ev rfl) (row_at (i := 4) hS rfl (by first | assumption | rfl)) | exact rd_load pl3 (hF.ev rfl) (row_at0 (i := 4) hS rfl (by first | assumption | rfl)) | exact rd_load pl3 (hF.ev rfl) (row_at (i := 5) hS rfl (by first | assumption | rfl)) | exact rd_load pl3 (hF.ev rfl) (row_at0 (i := 5) hS rfl (by first | assumption | rfl))) ?_; clear hF; intro a hF
                refine s_pu hF rfl rfl rfl (pu_move (hF.ev rfl)) ?_; clear hF; intro a hF
                refine s_pu hF rfl rfl rfl (pu_neq (hF.ev rfl) (hF.ev rfl)) ?_; clear hF; intro a hF
                refine s_pu hF rfl rfl rfl ((by first | exact pu_pick_t (hF.ev rfl) (hF.ev rfl) | exact pu_pick_f (hF.ev rfl) (hF.ev rfl) | exact pu_pick (hF.ev rfl) (hF.ev rfl) (hF.ev rfl))) ?_; clear hF; intro a hF
                refine s_pu hF rfl rfl rfl ((by first | exact pu_pick_t (hF.ev rfl) (hF.ev rfl) | exact pu_pick_f (hF.ev rfl) (hF.ev rfl) | exact pu_pick (hF.ev rfl) (hF.ev rfl) (hF.ev rfl))) ?_; clear hF; intro a hF
                refine s_pu hF rfl rfl rfl ((by first | exact pu_pick_t (hF.ev rfl) (hF.ev rfl) | exact pu_pick_f (hF.ev rfl) (hF.ev rfl) | exact pu_pick (hF.ev rfl) (hF.ev rfl) (hF.ev rfl))) ?_; clear hF; intro a hF
                refine s_done ?_
                refine hK29 _ _ ?_; clear hK29
                refine wp_cond_split (hF.ev rfl) (fun hc7 => ?_) (fun hc7 => ?_)
                · -- cond 7 true
                  try simp only [decide_eq_true_eq, decide_eq_false_iff_not, Bool.not_eq_true', Bool.not_eq_false', Int.not_lt, Int.not_le, ne_eq, Decidable.not_not, Bool.or_eq_true, Bool.or_eq_false_iff, Bool.and_eq_true, Bool.and_eq_false_imp] at hc7
                  first | exact absurd (by omega) hc7 | (simp at hc7; omega)
                · -- cond 7 false
                  try simp only [decide_eq_true_eq, decide_eq_false_iff_not, Bool.not_eq_true', Bool.not_eq_false', Int.not_lt, Int.not_le, ne_eq, Decidable.not_not, Bool.or_eq_true, Bool.or_eq_false_iff, Bool.and_eq_true, Bool.and_eq_false_imp] at hc7
                  refine wp_skip ?_
                  refine hK28 _ _ ?_; clear hK28
                  -- region 30
                  refine wp_region_lit ?_
                  refine s_pu hF rfl rfl rfl (pu_move (hF.ev rfl)) ?_; clear hF; intro a hF
                  refine s_pu hF rfl rfl rfl (pu_move (hF.ev rfl)) ?_; clear hF; intro a hF
                  refine s_pu hF rfl rfl rfl ((by first | exact pu_elem sl29 (hF.ev rfl) (hF.ev rfl) (by first | omega | simp) (by first | omega | (simp; done) | (simp; omega)) | exact pu_elemA sl29 (hF.ev rfl) (hF.ev rfl) (by omega) (by omega))) ?_; clear hF; intro a hF
                  (first | (refine s_rstore 0 hF rfl (hF.ev rfl) (hF.ev rfl) hS rfl sz4 rfl (by omega) ?_) | (refine s_rstore 1 hF rfl (hF.ev rfl) (hF.ev rfl) hS rfl sz4 rfl (by omega) ?_) | (refine s_rstore 2 hF rfl (hF.ev rfl) (hF.ev rfl) hS rfl sz4 rfl (by omega) ?_) | (refine s_rstore 3 hF rfl (hF.ev rfl) (hF.ev rfl) hS rfl sz4 rfl (by omega) ?_) | (refine s_rstore 4 hF rfl (hF.ev rfl) (hF.ev rfl) hS rfl sz4 rfl (by omega) ?_) | (refine s_rstore 5 hF rfl (hF.ev rfl) (hF.ev rfl) hS rfl sz4 rfl (by omega) ?_) | (refine s_store (vs := [_]) (cs' := _) 0 hF rfl (hF.ev rfl) (hF.ev rfl) hS rfl rfl sz4 (by first | rfl | (simp only [List.all_cons, List.all_nil, Value.oneCell', Bool.and_true, Bool.true_and]; assumption) | (simp [Value.oneCell', *]; done)) (by first | exact Nat.le_of_ble_eq_true rfl | (simp [Value.cells]; omega)) rfl ?_) | (refine s_store (vs := [_]) (cs' := _) 1 hF rfl (hF.ev rfl) (hF.ev rfl) hS rfl rfl sz4 (by first | rfl | (simp only [List.all_cons, List.all_nil, Value.oneCell', Bool.and_true, Bool.true_and]; assumption) | (simp [Value.oneCell', *]; done)) (by first | exact Nat.le_of_ble_eq_true rfl | (simp [Value.cells]; omega)) rfl ?_) | (refine s_store (vs := [_]) (cs' := _) 2 hF rfl (hF.ev rfl) (hF.ev rfl) hS rfl rfl sz4 (by first | rfl | (simp only [List.all_cons, List.all_nil, Value.oneCell', Bool.and_true, Bool.true_and]; assumption) | (simp [Value.oneCell', *]; done)) (by first | exact Nat.le_of_ble_eq_true rfl | (simp [Value.cells]; omega)) rfl ?_) | (refine s_store (vs := [_]) (cs' := _) 3 hF rfl (hF.ev rfl) (hF.ev rfl) hS rfl rfl sz4 (by first | rfl | (simp only [List.all_cons, List.all_nil, Value.oneCell', Bool.and_true, Bool.true_and]; assumption) | (simp [Value.oneCell', *]; done)) (by first | exact Nat.le_of_ble_eq_true rfl | (simp [Value.cells]; omega)) rfl ?_) | (refine s_store (vs := [_]) (cs' := _) 4 hF rfl (hF.ev rfl) (hF.ev rfl) hS rfl rfl sz4 (by first | rfl | (simp only [List.all_cons, List.all_nil, Value.oneCell', Bool.and_true, Bool.true_and]; assumption) | (simp [Value.oneCell', *]; done)) (by first | exact Nat.le_of_ble_eq_true rfl | (simp [Value.cells]; omega)) rfl ?_) | (refine s_store (vs := [_]) (cs' := _) 5 hF rfl (hF.ev rfl) (hF.ev rfl) hS rfl rfl sz4 (by first | rfl | (simp only [List.all_cons, List.all_nil, Value.oneCell', Bool.and_true, Bool.true_and]; assumption) | (simp [Value.oneCell', *]; done)) (by first | exact Nat.le_of_ble_eq_true rfl | (simp [Value.cells]; omega)) rfl ?_))
                  clear hS; intro w hS; (try simp only [upd, del] at hS)
                  refine s_done ?_
                  have hms := mark_set hI2.num hrm []
                  rw [mark_nil, List.nil_append, hri] at hms
                  rw [hms, ← mark_dues (R := R2) (ks := [q]), ← mark_chunk (ks := [q]), ← mark_len (R := R2) (ks := [q])] at hS
                  rw [← mark_len (R := R2) (ks := [q])] at hF
                  have hml := mark_len (R := R2) (ks := [q])
                  have hI3 := hI2.mark [q]
                  refine blk_normal ?_
                  refine hK11 _ _ ?_; clear hK11
                  -- region 9
                  refine wp_region_lit ?_
                  refine s_pu hF rfl rfl rfl (pu_move (hF.ev rfl)) ?_; clear hF; intro a hF
                  refine s_pu hF rfl rfl rfl ((by first | exact pu_add64 (hF.ev rfl) (hF.ev rfl) (by omega) | exact pu_add (hF.ev rfl) (hF.ev rfl))) ?_; clear hF; intro a hF
                  refine s_pu hF rfl rfl rfl (pu_assign (hF.ev rfl)) ?_; clear hF; intro a hF
                  refine s_done ?_
                  first
                  | exact ⟨_, by omega, mark [q] R2, now2, _, _, _, _, rfl, by omega, by omega, by omega, hI3, (by rw [show (((mark [q] R2).length : Nat) : Int) = (R.length : Int) + 1 by omega]; exact hF.sub ⟨rfl, rfl, rfl, rfl, rfl, rfl, rfl, trivial⟩), hS⟩
                  | exact ⟨_, by omega, R2, now2, _, _, _, _, rfl, by omega, by omega, by omega, hI2, (by rw [show ((R2.length : Nat) : Int) = (R.length : Int) + 1 by omega]; exact hF.sub ⟨rfl, rfl, rfl, rfl, rfl, rfl, rfl, trivial⟩), hS⟩
              · -- dn
                rw [hd] at hrn
                have hno : ∀ e ∈ pend R2, e.timer ≠ (q : Int) + 1 := by
                  intro e he
                  obtain ⟨q, hq, hqd, rfl⟩ := pend_mem he
                  simp only [Th.ent]
                  intro heq
                  have : q = r := hI2.num.eq hq hrm (by omega)
                  subst this
                  rw [hd] at hqd
                  cases hqd
                rw [List.filter_eq_self.2 (fun e he => by simpa using hno e he)] at hpm
                -- region 27
                refine wp_region_lit ?_
                refine s_pu hF rfl rfl rfl (pu_move (hF.ev rfl)) ?_; clear hF; intro a hF
                refine s_pu hF rfl rfl rfl (pu_move (hF.ev rfl)) ?_; clear hF; intro a hF
                refine s_pu hF rfl rfl rfl ((by first | exact pu_add64 (hF.ev rfl) (hF.ev rfl) (by omega) | exact pu_add (hF.ev rfl) (hF.ev rfl))) ?_; clear hF; intro a hF
                refine s_en hF rfl rfl rfl (run_fn fk13 (hF.ev rfl) (hF.evs rfl)) (wCancelNo_s hS hno) ?_
                clear hS; rintro e w ⟨rfl, hS⟩
                refine ⟨_, rfl, ?_⟩; clear hF; intro a hF
                refine s_pu hF rfl rfl rfl (pu_move (hF.ev rfl)) ?_; clear hF; intro a hF
                refine s_pu hF rfl rfl rfl (pu_extract (hF.ev rfl) rfl) ?_; clear hF; intro a hF
                refine s_pu hF rfl rfl rfl (pu_extract (hF.ev rfl) rfl) ?_; clear hF; intro a hF
                refine s_pu hF rfl rfl rfl (pu_assign (hF.ev rfl)) ?_; clear hF; intro a hF
                refine s_pu hF rfl rfl rfl (pu_assign (hF.ev rfl)) ?_; clear hF; intro a hF
                refine s_done ?_
                rw [hpm] at hS
                have hthing : w.cell? ⟨r.b, 0 + (0 : Int).toNat * 1, none⟩ = some (.int .i64 r.i) := row_at0 (i := q + 4) hS (nth_map hr) rfl
                refine hK27 _ _ ?_; clear hK27
                refine wp_seq_k fun K28 hK28 => ?_
                refine wp_seq_k fun K29 hK29 => ?_
                -- region 28
                refine wp_region_lit ?_
                refine s_pu hF rfl rfl rfl (pu_move (hF.ev rfl)) ?_; clear hF; intro a hF
                refine s_pu hF rfl rfl rfl (pu_move (hF.ev rfl)) ?_; clear hF; intro a hF
                refine s_pu hF rfl rfl rfl ((by first | exact pu_elem sl29 (hF.ev rfl) (hF.ev rfl) (by first | omega | simp) (by first | omega | (simp; done) | (simp; omega)) | exact pu_elemA sl29 (hF.ev rfl) (hF.ev rfl) (by omega) (by omega))) ?_; clear hF; intro a hF
                refine s_rd hF rfl rfl rfl (by first | exact rd_load pl4 (hF.ev rfl) (by assumption) | exact rd_load pl4 (hF.ev rfl) (hS.cellL (i := 0) rfl rfl) | exact rd_load pl4 (hF.ev rfl) (hS.cellL (i := 1) rfl rfl) | exact rd_load pl4 (hF.ev rfl) (hS.cellL (i := 2) rfl rfl) | exact rd_load pl4 (hF.ev rfl) (hS.cellL (i := 3) rfl rfl) | exact rd_load pl4 (hF.ev rfl) (hS.cellL (i := 4) rfl rfl) | exact rd_load pl4 (hF.ev rfl) (hS.cellL (i := 5) rfl rfl) | exact rd_load pl4 (hF.ev rfl) (hS.cell (i := 0) rfl (by assumption)) | exact rd_load pl4 (hF.ev rfl) (hS.cell (i := 1) rfl (by assumption)) | exact rd_load pl4 (hF.ev rfl) (hS.cell (i := 2) rfl (by assumption)) | exact rd_load pl4 (hF.ev rfl) (hS.cell (i := 3) rfl (by assumption)) | exact rd_load pl4 (hF.ev rfl) (hS.cell (i := 4) rfl (by assumption)) | exact rd_load pl4 (hF.ev rfl) (hS.cell (i := 5) rfl (by assumption)) | exact rd_load pl4 (hF.ev rfl) (row_at (i := 0) hS rfl (by first | assumption | rfl)) | exact rd_load pl4 (hF.ev rfl) (row_at0 (i := 0) hS rfl (by first | assumption | rfl)) | exact rd_load pl4 (hF.ev rfl) (row_at (i := 1) hS rfl (by first | assumption | rfl)) | exact rd_load pl4 (hF.ev rfl) (row_at0 (i := 1) hS rfl (by first | assumption | rfl)) | exact rd_load pl4 (hF.ev rfl) (row_at (i := 2) hS rfl (by first | assumption | rfl)) | exact rd_load pl4 (hF.ev rfl) (row_at0 (i := 2) hS rfl (by first | assumption | rfl)) | exact rd_load pl4 (hF.ev rfl) (row_at (i := 3) hS rfl (by first | assumption | rfl)) | exact rd_load pl4 (hF.ev rfl) (row_at0 (i := 3) hS rfl (by first | assumption | rfl)) | exact rd_load pl4 (hF.ev rfl) (row_at (i := 4) hS rfl (by first | assumption | rfl)) | exact rd_load pl4 (hF.ev rfl) (row_at0 (i := 4) hS rfl (by first | assumption | rfl)) | exact rd_load pl4 (hF.ev rfl) (row_at (i := 5) hS rfl (by first | assumption | rfl)) | exact rd_load pl4 (hF.ev rfl) (row_at0 (i := 5) hS rfl (by first | assumption | rfl))) ?_; clear hF; intro a hF
                refine s_pu hF rfl rfl rfl (pu_move (hF.ev rfl)) ?_; clear hF; intro a hF
                refine s_pu hF rfl rfl rfl (pu_eql (hF.ev rfl) (hF.ev rfl)) ?_; clear hF; intro a hF
                refine s_pu hF rfl rfl rfl (pu_bne Try.underlying4 (hF.ev rfl) (hF.ev rfl)) ?_; clear hF; intro a hF
                refine s_pu hF rfl rfl rfl (pu_move (hF.ev rfl)) ?_; clear hF; intro a hF
                refine s_pu hF rfl rfl rfl (pu_move (hF.ev rfl)) ?_; clear hF; intro a hF
                refine s_pu hF rfl rfl rfl (pu_move (hF.ev rfl)) ?_; clear hF; intro a hF
                refine s_pu hF rfl rfl rfl ((by first | exact pu_elem sl29 (hF.ev rfl) (hF.ev rfl) (by first | omega | simp) (by first | omega | (simp; done) | (simp; omega)) | exact pu_elemA sl29 (hF.ev rfl) (hF.ev rfl) (by omega) (by omega))) ?_; clear hF; intro a hF
                refine s_rd hF rfl rfl rfl (by first | exact rd_load pl4 (hF.ev rfl) (by assumption) | exact rd_load pl4 (hF.ev rfl) (hS.cellL (i := 0) rfl rfl) | exact rd_load pl4 (hF.ev rfl) (hS.cellL (i := 1) rfl rfl) | exact rd_load pl4 (hF.ev rfl) (hS.cellL (i := 2) rfl rfl) | exact rd_load pl4 (hF.ev rfl) (hS.cellL (i := 3) rfl rfl) | exact rd_load pl4 (hF.ev rfl) (hS.cellL (i := 4) rfl rfl) | exact rd_load pl4 (hF.ev rfl) (hS.cellL (i := 5) rfl rfl) | exact rd_load pl4 (hF.ev rfl) (hS.cell (i := 0) rfl (by assumption)) | exact rd_load pl4 (hF.ev rfl) (hS.cell (i := 1) rfl (by assumption)) | exact rd_load pl4 (hF.ev rfl) (hS.cell (i := 2) rfl (by assumption)) | exact rd_load pl4 (hF.ev rfl) (hS.cell (i := 3) rfl (by assumption)) | exact rd_load pl4 (hF.ev rfl) (hS.cell (i := 4) rfl (by assumption)) | exact rd_load pl4 (hF.ev rfl) (hS.cell (i := 5) rfl (by assumption)) | exact rd_load pl4 (hF.ev rfl) (row_at (i := 0) hS rfl (by first | assumption | rfl)) | exact rd_load pl4 (hF.ev rfl) (row_at0 (i := 0) hS rfl (by first | assumption | rfl)) | exact rd_load pl4 (hF.ev rfl) (row_at (i := 1) hS rfl (by first | assumption | rfl)) | exact rd_load pl4 (hF.ev rfl) (row_at0 (i := 1) hS rfl (by first | assumption | rfl)) | exact rd_load pl4 (hF.ev rfl) (row_at (i := 2) hS rfl (by first | assumption | rfl)) | exact rd_load pl4 (hF.ev rfl) (row_at0 (i := 2) hS rfl (by first | assumption | rfl)) | exact rd_load pl4 (hF.ev rfl) (row_at (i := 3) hS rfl (by first | assumption | rfl)) | exact rd_load pl4 (hF.ev rfl) (row_at0 (i := 3) hS rfl (by first | assumption | rfl)) | exact rd_load pl4 (hF.ev rfl) (row_at (i := 4) hS rfl (by first | assumption | rfl)) | exact rd_load pl4 (hF.ev rfl) (row_at0 (i := 4) hS rfl (by first | assumption | rfl)) | exact rd_load pl4 (hF.ev rfl) (row_at (i := 5) hS rfl (by first | assumption | rfl)) | exact rd_load pl4 (hF.ev rfl) (row_at0 (i := 5) hS rfl (by first | assumption | rfl))) ?_; clear hF; intro a hF
                refine s_pu hF rfl rfl rfl (pu_not (hF.ev rfl)) ?_; clear hF; intro a hF
                refine s_pu hF rfl rfl rfl (pu_move (hF.ev rfl)) ?_; clear hF; intro a hF
                refine s_no hF rfl rfl rfl ?_; clear hF; intro a hF
                refine s_no hF rfl rfl rfl ?_; clear hF; intro a hF
                refine s_no hF rfl rfl rfl ?_; clear hF; intro a hF
                refine s_no hF rfl rfl rfl ?_; clear hF; intro a hF
                refine s_no hF rfl rfl rfl ?_; clear hF; intro a hF
                refine s_no hF rfl rfl rfl ?_; clear hF; intro a hF
                refine s_no hF rfl rfl rfl ?_; clear hF; intro a hF
                refine s_no hF rfl rfl rfl ?_; clear hF; intro a hF
                refine s_no hF rfl rfl rfl ?_; clear hF; intro a hF
                refine s_no hF rfl rfl rfl ?_; clear hF; intro a hF
                refine s_pu hF rfl rfl rfl ((by first | exact pu_pick_t (hF.ev rfl) (hF.ev rfl) | exact pu_pick_f (hF.ev rfl) (hF.ev rfl) | exact pu_pick (hF.ev rfl) (hF.ev rfl) (hF.ev rfl))) ?_; clear hF; intro a hF
                refine s_pu hF rfl rfl rfl ((by first | exact pu_pick_t (hF.ev rfl) (hF.ev rfl) | exact pu_pick_f (hF.ev rfl) (hF.ev rfl) | exact pu_pick (hF.ev rfl) (hF.ev rfl) (hF.ev rfl))) ?_; clear hF; intro a hF
                refine s_done ?_
                refine hK29 _ _ ?_; clear hK29
                refine wp_cond_false (hF.ev rfl) ?_
                refine wp_skip ?_
                refine hK28 _ _ ?_; clear hK28
                -- region 30
                refine wp_region_lit ?_
                refine s_pu hF rfl rfl rfl (pu_move (hF.ev rfl)) ?_; clear hF; intro a hF
                refine s_pu hF rfl rfl rfl (pu_move (hF.ev rfl)) ?_; clear hF; intro a hF
                refine s_pu hF rfl rfl rfl ((by first | exact pu_elem sl29 (hF.ev rfl) (hF.ev rfl) (by first | omega | simp) (by first | omega | (simp; done) | (simp; omega)) | exact pu_elemA sl29 (hF.ev rfl) (hF.ev rfl) (by omega) (by omega))) ?_; clear hF; intro a hF
                (first | (refine s_rstore 0 hF rfl (hF.ev rfl) (hF.ev rfl) hS rfl sz4 rfl (by omega) ?_) | (refine s_rstore 1 hF rfl (hF.ev rfl) (hF.ev rfl) hS rfl sz4 rfl (by omega) ?_) | (refine s_rstore 2 hF rfl (hF.ev rfl) (hF.ev rfl) hS rfl sz4 rfl (by omega) ?_) | (refine s_rstore 3 hF rfl (hF.ev rfl) (hF.ev rfl) hS rfl sz4 rfl (by omega) ?_) | (refine s_rstore 4 hF rfl (hF.ev rfl) (hF.ev rfl) hS rfl sz4 rfl (by omega) ?_) | (refine s_rstore 5 hF rfl (hF.ev rfl) (hF.ev rfl) hS rfl sz4 rfl (by omega) ?_) | (refine s_store (vs := [_]) (cs' := _) 0 hF rfl (hF.ev rfl) (hF.ev rfl) hS rfl rfl sz4 (by first | rfl | (simp only [List.all_cons, List.all_nil, Value.oneCell', Bool.and_true, Bool.true_and]; assumption) | (simp [Value.oneCell', *]; done)) (by first | exact Nat.le_of_ble_eq_true rfl | (simp [Value.cells]; omega)) rfl ?_) | (refine s_store (vs := [_]) (cs' := _) 1 hF rfl (hF.ev rfl) (hF.ev rfl) hS rfl rfl sz4 (by first | rfl | (simp only [List.all_cons, List.all_nil, Value.oneCell', Bool.and_true, Bool.true_and]; assumption) | (simp [Value.oneCell', *]; done)) (by first | exact Nat.le_of_ble_eq_true rfl | (simp [Value.cells]; omega)) rfl ?_) | (refine s_store (vs := [_]) (cs' := _) 2 hF rfl (hF.ev rfl) (hF.ev rfl) hS rfl rfl sz4 (by first | rfl | (simp only [List.all_cons, List.all_nil, Value.oneCell', Bool.and_true, Bool.true_and]; assumption) | (simp [Value.oneCell', *]; done)) (by first | exact Nat.le_of_ble_eq_true rfl | (simp [Value.cells]; omega)) rfl ?_) | (refine s_store (vs := [_]) (cs' := _) 3 hF rfl (hF.ev rfl) (hF.ev rfl) hS rfl rfl sz4 (by first | rfl | (simp only [List.all_cons, List.all_nil, Value.oneCell', Bool.and_true, Bool.true_and]; assumption) | (simp [Value.oneCell', *]; done)) (by first | exact Nat.le_of_ble_eq_true rfl | (simp [Value.cells]; omega)) rfl ?_) | (refine s_store (vs := [_]) (cs' := _) 4 hF rfl (hF.ev rfl) (hF.ev rfl) hS rfl rfl sz4 (by first | rfl | (simp only [List.all_cons, List.all_nil, Value.oneCell', Bool.and_true, Bool.true_and]; assumption) | (simp [Value.oneCell', *]; done)) (by first | exact Nat.le_of_ble_eq_true rfl | (simp [Value.cells]; omega)) rfl ?_) | (refine s_store (vs := [_]) (cs' := _) 5 hF rfl (hF.ev rfl) (hF.ev rfl) hS rfl rfl sz4 (by first | rfl | (simp only [List.all_cons, List.all_nil, Value.oneCell', Bool.and_true, Bool.true_and]; assumption) | (simp [Value.oneCell', *]; done)) (by first | exact Nat.le_of_ble_eq_true rfl | (simp [Value.cells]; omega)) rfl ?_))
                clear hS; intro w hS; (try simp only [upd, del] at hS)
                refine s_done ?_
                have hms := mark_set hI2.num hrm []
                rw [mark_nil, List.nil_append, hri] at hms
                rw [hms, ← mark_dues (R := R2) (ks := [q]), ← mark_chunk (ks := [q]), ← mark_len (R := R2) (ks := [q])] at hS
                rw [← mark_len (R := R2) (ks := [q])] at hF
                have hml := mark_len (R := R2) (ks := [q])
                have hI3 := hI2.mark [q]
                refine blk_normal ?_
                refine hK11 _ _ ?_; clear hK11
                -- region 9
                refine wp_region_lit ?_
                refine s_pu hF rfl rfl rfl (pu_move (hF.ev rfl)) ?_; clear hF; intro a hF
                refine s_pu hF rfl rfl rfl ((by first | exact pu_add64 (hF.ev rfl) (hF.ev rfl) (by omega) | exact pu_add (hF.ev rfl) (hF.ev rfl))) ?_; clear hF; intro a hF
                refine s_pu hF rfl rfl rfl (pu_assign (hF.ev rfl)) ?_; clear hF; intro a hF
                refine s_done ?_
                first
                | exact ⟨_, by omega, mark [q] R2, now2, _, _, _, _, rfl, by omega, by omega, by omega, hI3, (by rw [show (((mark [q] R2).length : Nat) : Int) = (R.length : Int) + 1 by omega]; exact hF.sub ⟨rfl, rfl, rfl, rfl, rfl, rfl, rfl, trivial⟩), hS⟩
                | exact ⟨_, by omega, R2, now2, _, _, _, _, rfl, by omega, by omega, by omega, hI2, (by rw [show ((R2.length : Nat) : Int) = (R.length : Int) + 1 by omega]; exact hF.sub ⟨rfl, rfl, rfl, rfl, rfl, rfl, rfl, trivial⟩), hS⟩
            · -- cond 6 false
              try simp only [decide_eq_true_eq, decide_eq_false_iff_not, Bool.not_eq_true', Bool.not_eq_false', Int.not_lt, Int.not_le, ne_eq, Decidable.not_not, Bool.or_eq_true, Bool.or_eq_false_iff, Bool.and_eq_true, Bool.and_eq_false_imp] at hc6
              refine wp_skip ?_
              refine blk_normal ?_
              refine hK11 _ _ ?_; clear hK11
              -- region 9
              refine wp_region_lit ?_
              refine s_pu hF rfl rfl rfl (pu_move (hF.ev rfl)) ?_; clear hF; intro a hF
              refine s_pu hF rfl rfl rfl ((by first | exact pu_add64 (hF.ev rfl) (hF.ev rfl) (by omega) | exact pu_add (hF.ev rfl) (hF.ev rfl))) ?_; clear hF; intro a hF
              refine s_pu hF rfl rfl rfl (pu_assign (hF.ev rfl)) ?_; clear hF; intro a hF
              refine s_done ?_
              first
              | exact ⟨_, by omega, mark [q] R2, now2, _, _, _, _, rfl, by omega, by omega, by omega, hI3, (by rw [show (((mark [q] R2).length : Nat) : Int) = (R.length : Int) + 1 by omega]; exact hF.sub ⟨rfl, rfl, rfl, rfl, rfl, rfl, rfl, trivial⟩), hS⟩
              | exact ⟨_, by omega, R2, now2, _, _, _, _, rfl, by omega, by omega, by omega, hI2, (by rw [show ((R2.length : Nat) : Int) = (R.length : Int) + 1 by omega]; exact hF.sub ⟨rfl, rfl, rfl, rfl, rfl, rfl, rfl, trivial⟩), hS⟩
    · -- cond 1 false
      try simp only [decide_eq_true_eq, decide_eq_false_iff_not, Bool.not_eq_true', Bool.not_eq_false', Int.not_lt, Int.not_le, ne_eq, Decidable.not_not, Bool.or_eq_true, Bool.or_eq_false_iff, Bool.and_eq_true, Bool.and_eq_false_imp] at hc1
      refine wp_exit ?_
      refine then_exit ?_
      refine then_exit ?_
      refine blk_exit ?_
      refine hK7 _ _ ?_; clear hK7
      refine wp_seq_k fun K11 hK11 => ?_
      refine wp_seq_k fun K12 hK12 => ?_
      -- region 31
      refine wp_region_lit ?_
      refine s_pu hF rfl rfl rfl (pu_assign (hF.ev rfl)) ?_; clear hF; intro a hF
      refine s_done ?_
      refine hK12 _ _ ?_; clear hK12
      refine wp_block ?_
      refine wp_ind (fun j a w => ∃ (k : Nat) (R2 : List Th) (now2 : Int), j = 201 - k ∧ k ≤ 201 ∧ R2.length = R.length ∧ now2 = now + k ∧ Inv R2 now2 (now + 200) ∧
        Fr a 178 [(10, .pointer (some ⟨g, 0, none⟩)), (12, .slice A R2.length c), (13, .slice B R2.length d), (24, .int .i64 k)] ∧
        Sat W w (onceS W g n c d A B R2 now2)) 201
        ⟨0, R, now, by omega, by omega, rfl, by omega, hI, hF.sub ⟨rfl, rfl, rfl, rfl, trivial⟩, hS⟩ ?_
      clear hS hF
      rintro j a w ⟨k, R2, now2, rfl, hkp, hR2, hnow2, hI2, hF, hS⟩
      refine wp_seq_k fun K13 hK13 => ?_
      refine wp_seq_k fun K14 hK14 => ?_
      -- region 32
      refine wp_region_lit ?_
      refine s_pu hF rfl rfl rfl (pu_move (hF.ev rfl)) ?_; clear hF; intro a hF
      refine s_pu hF rfl rfl rfl (pu_lss (hF.ev rfl) (hF.ev rfl)) ?_; clear hF; intro a hF
      refine s_done ?_
      refine hK14 _ _ ?_; clear hK14
      refine wp_cond_split (hF.ev rfl) (fun hc8 => ?_) (fun hc8 => ?_)
      · -- cond 8 true
        try simp only [decide_eq_true_eq, decide_eq_false_iff_not, Bool.not_eq_true', Bool.not_eq_false', Int.not_lt, Int.not_le, ne_eq, Decidable.not_not, Bool.or_eq_true, Bool.or_eq_false_iff, Bool.and_eq_true, Bool.and_eq_false_imp] at hc8
        refine wp_skip ?_
        refine hK13 _ _ ?_; clear hK13
        refine wp_seq_k fun K15 hK15 => ?_
        refine wp_block ?_
        refine wp_seq_k fun K16 hK16 => ?_
        -- region 34
        refine wp_region_lit ?_
        refine s_pu hF rfl rfl rfl (pu_move (hF.ev rfl)) ?_; clear hF; intro a hF
        refine s_pu hF rfl rfl rfl (pu_move (hF.ev rfl)) ?_; clear hF; intro a hF
        refine s_pu hF rfl rfl rfl (pu_move (hF.ev rfl)) ?_; clear hF; intro a hF
        refine s_en hF rfl rfl rfl (run_fn fk12 (hF.ev rfl) (hF.evs rfl)) (once_tick hS hI2 (by omega) (by omega) (by omega) (by omega) (by omega)) ?_
        clear hS; rintro e w ⟨rfl, R3, hR3, hI3, hS⟩
        refine ⟨_, rfl, ?_⟩; clear hF; intro a hF
        refine s_pu hF rfl rfl rfl (pu_assign (hF.ev rfl)) ?_; clear hF; intro a hF
        refine s_done ?_
        refine hK16 _ _ ?_; clear hK16
        refine wp_seq_k fun K17 hK17 => ?_
        -- region 35
        refine wp_region_lit ?_
        refine s_pu hF rfl rfl rfl (pu_move (hF.ev rfl)) ?_; clear hF; intro a hF
        refine s_pu hF rfl rfl rfl (pu_not (hF.ev rfl)) ?_; clear hF; intro a hF
        refine s_done ?_
        refine hK17 _ _ ?_; clear hK17
        refine wp_cond_false (hF.ev rfl) ?_
        refine wp_skip ?_
        refine blk_normal ?_
        refine hK15 _ _ ?_; clear hK15
        -- region 33
        refine wp_region_lit ?_
        refine s_pu hF rfl rfl rfl (pu_move (hF.ev rfl)) ?_; clear hF; intro a hF
        refine s_pu hF rfl rfl rfl ((by first | exact pu_add64 (hF.ev rfl) (hF.ev rfl) (by omega) | exact pu_add (hF.ev rfl) (hF.ev rfl))) ?_; clear hF; intro a hF
        refine s_pu hF rfl rfl rfl (pu_assign (hF.ev rfl)) ?_; clear hF; intro a hF
        refine s_done ?_
        rw [← hR3] at hF
        exact ⟨_, by omega, k + 1, R3, now2 + 1, rfl, by omega, by omega, by omega, hI3, hF.sub ⟨rfl, rfl, rfl, rfl, trivial⟩, hS⟩
      · -- cond 8 false
        try simp only [decide_eq_true_eq, decide_eq_false_iff_not, Bool.not_eq_true', Bool.not_eq_false', Int.not_lt, Int.not_le, ne_eq, Decidable.not_not, Bool.or_eq_true, Bool.or_eq_false_iff, Bool.and_eq_true, Bool.and_eq_false_imp] at hc8
        refine wp_exit ?_
        refine then_exit ?_
        refine then_exit ?_
        refine blk_exit ?_
        refine hK11 _ _ ?_; clear hK11
        refine wp_seq_k fun K15 hK15 => ?_
        refine wp_seq_k fun K16 hK16 => ?_
        -- region 37
        refine wp_region_lit ?_
        refine s_pu hF rfl rfl rfl (pu_assign (hF.ev rfl)) ?_; clear hF; intro a hF
        refine s_done ?_
        refine hK16 _ _ ?_; clear hK16
        refine wp_block ?_
        have hall : ∀ r ∈ R2, r.done = true := by
          intro r hr
          cases hd : r.done with
          | true => rfl
          | false => have := hI2.due r hr hd; omega
        refine wp_ind (fun j a w => ∃ (i : Nat), j = R2.length - i ∧ i ≤ R2.length ∧
          Fr a 178 [(10, .pointer (some ⟨g, 0, none⟩)), (13, .slice B R2.length d), (26, .int .i64 i)] ∧
          Sat W w (onceS W g n c d A B R2 now2)) R2.length
          ⟨0, by omega, by omega, hF.sub ⟨rfl, rfl, rfl, trivial⟩, hS⟩ ?_
        clear hS hF
        rintro j a w ⟨i, rfl, hi, hF, hS⟩
        refine wp_seq_k fun K17 hK17 => ?_
        refine wp_seq_k fun K18 hK18 => ?_
        -- region 38
        refine wp_region_lit ?_
        refine s_pu hF rfl rfl rfl (pu_move (hF.ev rfl)) ?_; clear hF; intro a hF
        refine s_pu hF rfl rfl rfl (pu_move (hF.ev rfl)) ?_; clear hF; intro a hF
        refine s_pu hF rfl rfl rfl (pu_len sl29 (hF.ev rfl)) ?_; clear hF; intro a hF
        refine s_pu hF rfl rfl rfl (pu_lss (hF.ev rfl) (hF.ev rfl)) ?_; clear hF; intro a hF
        refine s_done ?_
        refine hK18 _ _ ?_; clear hK18
        refine wp_cond_split (hF.ev rfl) (fun hc10 => ?_) (fun hc10 => ?_)
        · -- cond 10 true
          try simp only [decide_eq_true_eq, decide_eq_false_iff_not, Bool.not_eq_true', Bool.not_eq_false', Int.not_lt, Int.not_le, ne_eq, Decidable.not_not, Bool.or_eq_true, Bool.or_eq_false_iff, Bool.and_eq_true, Bool.and_eq_false_imp] at hc10
          obtain ⟨r, hr⟩ : ∃ r, R2[i]? = some r := ⟨R2[i]'(by omega), List.getElem?_eq_getElem _⟩
          have hrn := dones_at hr
          rw [hall r (List.mem_of_getElem? hr)] at hrn
          obtain ⟨gB, rfl⟩ := row_some (i := 2) hS rfl (by omega)
          refine wp_skip ?_
          refine hK17 _ _ ?_; clear hK17
          refine wp_seq_k fun K19 hK19 => ?_
          refine wp_block ?_
          refine wp_seq_k fun K20 hK20 => ?_
          -- region 40
          refine wp_region_lit ?_
          refine s_pu hF rfl rfl rfl (pu_move (hF.ev rfl)) ?_; clear hF; intro a hF
          refine s_pu hF rfl rfl rfl (pu_move (hF.ev rfl)) ?_; clear hF; intro a hF
          refine s_pu hF rfl rfl rfl ((by first | exact pu_elem sl29 (hF.ev rfl) (hF.ev rfl) (by first | omega | simp) (by first | omega | (simp; done) | (simp; omega)) | exact pu_elemA sl29 (hF.ev rfl) (hF.ev rfl) (by omega) (by omega))) ?_; clear hF; intro a hF
          refine s_rd hF rfl rfl rfl (by first | exact rd_load pl4 (hF.ev rfl) (by assumption) | exact rd_load pl4 (hF.ev rfl) (hS.cellL (i := 0) rfl rfl) | exact rd_load pl4 (hF.ev rfl) (hS.cellL (i := 1) rfl rfl) | exact rd_load pl4 (hF.ev rfl) (hS.cellL (i := 2) rfl rfl) | exact rd_load pl4 (hF.ev rfl) (hS.cellL (i := 3) rfl rfl) | exact rd_load pl4 (hF.ev rfl) (hS.cellL (i := 4) rfl rfl) | exact rd_load pl4 (hF.ev rfl) (hS.cellL (i := 5) rfl rfl) | exact rd_load pl4 (hF.ev rfl) (hS.cell (i := 0) rfl (by assumption)) | exact rd_load pl4 (hF.ev rfl) (hS.cell (i := 1) rfl (by assumption)) | exact rd_load pl4 (hF.ev rfl) (hS.cell (i := 2) rfl (by assumption)) | exact rd_load pl4 (hF.ev rfl) (hS.cell (i := 3) rfl (by assumption)) | exact rd_load pl4 (hF.ev rfl) (hS.cell (i := 4) rfl (by assumption)) | exact rd_load pl4 (hF.ev rfl) (hS.cell (i := 5) rfl (by assumption)) | exact rd_load pl4 (hF.ev rfl) (row_at (i := 0) hS rfl (by first | assumption | rfl)) | exact rd_load pl4 (hF.ev rfl) (row_at0 (i := 0) hS rfl (by first | assumption | rfl)) | exact rd_load pl4 (hF.ev rfl) (row_at (i := 1) hS rfl (by first | assumption | rfl)) | exact rd_load pl4 (hF.ev rfl) (row_at0 (i := 1) hS rfl (by first | assumption | rfl)) | exact rd_load pl4 (hF.ev rfl) (row_at (i := 2) hS rfl (by first | assumption | rfl)) | exact rd_load pl4 (hF.ev rfl) (row_at0 (i := 2) hS rfl (by first | assumption | rfl)) | exact rd_load pl4 (hF.ev rfl) (row_at (i := 3) hS rfl (by first | assumption | rfl)) | exact rd_load pl4 (hF.ev rfl) (row_at0 (i := 3) hS rfl (by first | assumption | rfl)) | exact rd_load pl4 (hF.ev rfl) (row_at (i := 4) hS rfl (by first | assumption | rfl)) | exact rd_load pl4 (hF.ev rfl) (row_at0 (i := 4) hS rfl (by first | assumption | rfl)) | exact rd_load pl4 (hF.ev rfl) (row_at (i := 5) hS rfl (by first | assumption | rfl)) | exact rd_load pl4 (hF.ev rfl) (row_at0 (i := 5) hS rfl (by first | assumption | rfl))) ?_; clear hF; intro a hF
          refine s_pu hF rfl rfl rfl (pu_not (hF.ev rfl)) ?_; clear hF; intro a hF
          refine s_done ?_
          refine hK20 _ _ ?_; clear hK20
          refine wp_cond_false (hF.ev rfl) ?_
          refine wp_skip ?_
          refine blk_normal ?_
          refine hK19 _ _ ?_; clear hK19
          -- region 39
          refine wp_region_lit ?_
          refine s_pu hF rfl rfl rfl (pu_move (hF.ev rfl)) ?_; clear hF; intro a hF
          refine s_pu hF rfl rfl rfl ((by first | exact pu_add64 (hF.ev rfl) (hF.ev rfl) (by omega) | exact pu_add (hF.ev rfl) (hF.ev rfl))) ?_; clear hF; intro a hF
          refine s_pu hF rfl rfl rfl (pu_assign (hF.ev rfl)) ?_; clear hF; intro a hF
          refine s_done ?_
          exact ⟨_, by omega, i + 1, rfl, by omega, hF.sub ⟨rfl, rfl, rfl, trivial⟩, hS⟩
        · -- cond 10 false
          try simp only [decide_eq_true_eq, decide_eq_false_iff_not, Bool.not_eq_true', Bool.not_eq_false', Int.not_lt, Int.not_le, ne_eq, Decidable.not_not, Bool.or_eq_true, Bool.or_eq_false_iff, Bool.and_eq_true, Bool.and_eq_false_imp] at hc10
          refine wp_exit ?_
          refine then_exit ?_
          refine then_exit ?_
          refine blk_exit ?_
          refine hK15 _ _ ?_; clear hK15
          refine wp_seq_k fun K19 hK19 => ?_
          -- region 42
          refine wp_region_lit ?_
          refine s_pu hF rfl rfl rfl (pu_move (hF.ev rfl)) ?_; clear hF; intro a hF
          refine s_en hF rfl rfl rfl (run_fn fk14 (hF.ev rfl) (hF.evs rfl)) (wLen_s hS) ?_
          clear hS; rintro e w ⟨rfl, hS⟩
          refine ⟨_, rfl, ?_⟩; clear hF; intro a hF
          refine s_pu hF rfl rfl rfl (pu_eql (hF.ev rfl) (hF.ev rfl)) ?_; clear hF; intro a hF
          refine s_pu hF rfl rfl rfl (pu_assign (hF.ev rfl)) ?_; clear hF; intro a hF
          refine s_done ?_
          refine hK19 _ _ ?_; clear hK19
          refine wp_ret ?_
          refine fin1 Try.results3 hF rfl ?_
          rw [pend_none hall]
          exact ⟨rfl, (hS.front 3 rfl).below⟩
  · clear hF; intro hg49 hF   -- slot 49 false
    try simp only [decide_eq_true_eq, decide_eq_false_iff_not, Bool.not_eq_true', Bool.not_eq_false', Int.not_lt, Int.not_le, ne_eq, Decidable.not_not, Bool.or_eq_true, Bool.or_eq_false_iff, Bool.and_eq_true, Bool.and_eq_false_imp] at hg49
    refine s_no hF rfl rfl rfl ?_; clear hF; intro a hF
    refine s_no hF rfl rfl rfl ?_; clear hF; intro a hF
    refine s_pu hF rfl rfl rfl ((by first | exact pu_pick_t (hF.ev rfl) (hF.ev rfl) | exact pu_pick_f (hF.ev rfl) (hF.ev rfl) | exact pu_pick (hF.ev rfl) (hF.ev rfl) (hF.ev rfl))) ?_; clear hF; intro a hF
    refine s_done ?_
    refine hK10 _ _ ?_; clear hK10
    refine wp_cond_false (hF.ev rfl) ?_
    refine wp_exit ?_
    refine then_exit ?_
    refine then_exit ?_
    refine blk_exit ?_
    refine hK7 _ _ ?_; clear hK7
    refine wp_seq_k fun K11 hK11 => ?_
    refine wp_seq_k fun K12 hK12 => ?_
    -- region 31
    refine wp_region_lit ?_
    refine s_pu hF rfl rfl rfl (pu_assign (hF.ev rfl)) ?_; clear hF; intro a hF
    refine s_done ?_
    refine hK12 _ _ ?_; clear hK12
    refine wp_block ?_
    refine wp_ind (fun j a w => ∃ (k : Nat) (R2 : List Th) (now2 : Int), j = 201 - k ∧ k ≤ 201 ∧ R2.length = R.length ∧ now2 = now + k ∧ Inv R2 now2 (now + 200) ∧
      Fr a 178 [(10, .pointer (some ⟨g, 0, none⟩)), (12, .slice A R2.length c), (13, .slice B R2.length d), (24, .int .i64 k)] ∧
      Sat W w (onceS W g n c d A B R2 now2)) 201
      ⟨0, R, now, by omega, by omega, rfl, by omega, hI, hF.sub ⟨rfl, rfl, rfl, rfl, trivial⟩, hS⟩ ?_
    clear hS hF
    rintro j a w ⟨k, R2, now2, rfl, hkp, hR2, hnow2, hI2, hF, hS⟩
    refine wp_seq_k fun K13 hK13 => ?_
    refine wp_seq_k fun K14 hK14 => ?_
    -- region 32
    refine wp_region_lit ?_
    refine s_pu hF rfl rfl rfl (pu_move (hF.ev rfl)) ?_; clear hF; intro a hF
    refine s_pu hF rfl rfl rfl (pu_lss (hF.ev rfl) (hF.ev rfl)) ?_; clear hF; intro a hF
    refine s_done ?_
    refine hK14 _ _ ?_; clear hK14
    refine wp_cond_split (hF.ev rfl) (fun hc8 => ?_) (fun hc8 => ?_)
    · -- cond 8 true
      try simp only [decide_eq_true_eq, decide_eq_false_iff_not, Bool.not_eq_true', Bool.not_eq_false', Int.not_lt, Int.not_le, ne_eq, Decidable.not_not, Bool.or_eq_true, Bool.or_eq_false_iff, Bool.and_eq_true, Bool.and_eq_false_imp] at hc8
      refine wp_skip ?_
      refine hK13 _ _ ?_; clear hK13
      refine wp_seq_k fun K15 hK15 => ?_
      refine wp_block ?_
      refine wp_seq_k fun K16 hK16 => ?_
      -- region 34
      refine wp_region_lit ?_
      refine s_pu hF rfl rfl rfl (pu_move (hF.ev rfl)) ?_; clear hF; intro a hF
      refine s_pu hF rfl rfl rfl (pu_move (hF.ev rfl)) ?_; clear hF; intro a hF
      refine s_pu hF rfl rfl rfl (pu_move (hF.ev rfl)) ?_; clear hF; intro a hF
      refine s_en hF rfl rfl rfl (run_fn fk12 (hF.ev rfl) (hF.evs rfl)) (once_tick hS hI2 (by omega) (by omega) (by omega) (by omega) (by omega)) ?_
      clear hS; rintro e w ⟨rfl, R3, hR3, hI3, hS⟩
      refine ⟨_, rfl, ?_⟩; clear hF; intro a hF
      refine s_pu hF rfl rfl rfl (pu_assign (hF.ev rfl)) ?_; clear hF; intro a hF
      refine s_done ?_
      refine hK16 _ _ ?_; clear hK16
      refine wp_seq_k fun K17 hK17 => ?_
      -- region 35
      refine wp_region_lit ?_
      refine s_pu hF rfl rfl rfl (pu_move (hF.ev rfl)) ?_; clear hF; intro a hF
      refine s_pu hF rfl rfl rfl (pu_not (hF.ev rfl)) ?_; clear hF; intro a hF
      refine s_done ?_
      refine hK17 _ _ ?_; clear hK17
      refine wp_cond_false (hF.ev rfl) ?_
      refine wp_skip ?_
      refine blk_normal ?_
      refine hK15 _ _ ?_; clear hK15
      -- region 33
      refine wp_region_lit ?_
      refine s_pu hF rfl rfl rfl (pu_move (hF.ev rfl)) ?_; clear hF; intro a hF
      refine s_pu hF rfl rfl rfl ((by first | exact pu_add64 (hF.ev rfl) (hF.ev rfl) (by omega) | exact pu_add (hF.ev rfl) (hF.ev rfl))) ?_; clear hF; intro a hF
      refine s_pu hF rfl rfl rfl (pu_assign (hF.ev rfl)) ?_; clear hF; intro a hF
      refine s_done ?_
      rw [← hR3] at hF
      exact ⟨_, by omega, k + 1, R3, now2 + 1, rfl, by omega, by omega, by omega, hI3, hF.sub ⟨rfl, rfl, rfl, rfl, trivial⟩, hS⟩
    · -- cond 8 false
      try simp only [decide_eq_true_eq, decide_eq_false_iff_not, Bool.not_eq_true', Bool.not_eq_false', Int.not_lt, Int.not_le, ne_eq, Decidable.not_not, Bool.or_eq_true, Bool.or_eq_false_iff, Bool.and_eq_true, Bool.and_eq_false_imp] at hc8
      refine wp_exit ?_
      refine then_exit ?_
      refine then_exit ?_
      refine blk_exit ?_
      refine hK11 _ _ ?_; clear hK11
      refine wp_seq_k fun K15 hK15 => ?_
      refine wp_seq_k fun K16 hK16 => ?_
      -- region 37
      refine wp_region_lit ?_
      refine s_pu hF rfl rfl rfl (pu_assign (hF.ev rfl)) ?_; clear hF; intro a hF
      refine s_done ?_
      refine hK16 _ _ ?_; clear hK16
      refine wp_block ?_
      have hall : ∀ r ∈ R2, r.done = true := by
        intro r hr
        cases hd : r.done with
        | true => rfl
        | false => have := hI2.due r hr hd; omega
      refine wp_ind (fun j a w => ∃ (i : Nat), j = R2.length - i ∧ i ≤ R2.length ∧
        Fr a 178 [(10, .pointer (some ⟨g, 0, none⟩)), (13, .slice B R2.length d), (26, .int .i64 i)] ∧
        Sat W w (onceS W g n c d A B R2 now2)) R2.length
        ⟨0, by omega, by omega, hF.sub ⟨rfl, rfl, rfl, trivial⟩, hS⟩ ?_
      clear hS hF
      rintro j a w ⟨i, rfl, hi, hF, hS⟩
      refine wp_seq_k fun K17 hK17 => ?_
      refine wp_seq_k fun K18 hK18 => ?_
      -- region 38
      refine wp_region_lit ?_
      refine s_pu hF rfl rfl rfl (pu_move (hF.ev rfl)) ?_; clear hF; intro a hF
      refine s_pu hF rfl rfl rfl (pu_move (hF.ev rfl)) ?_; clear hF; intro a hF
      refine s_pu hF rfl rfl rfl (pu_len sl29 (hF.ev rfl)) ?_; clear hF; intro a hF
      refine s_pu hF rfl rfl rfl (pu_lss (hF.ev rfl) (hF.ev rfl)) ?_; clear hF; intro a hF
      refine s_done ?_
      refine hK18 _ _ ?_; clear hK18
      refine wp_cond_split (hF.ev rfl) (fun hc10 => ?_) (fun hc10 => ?_)
      · -- cond 10 true
        try simp only [decide_eq_true_eq, decide_eq_false_iff_not, Bool.not_eq_true', Bool.not_eq_false', Int.not_lt, Int.not_le, ne_eq, Decidable.not_not, Bool.or_eq_true, Bool.or_eq_false_iff, Bool.and_eq_true, Bool.and_eq_false_imp] at hc10
        obtain ⟨r, hr⟩ : ∃ r, R2[i]? = some r := ⟨R2[i]'(by omega), List.getElem?_eq_getElem _⟩
        have hrn := dones_at hr
        rw [hall r (List.mem_of_getElem? hr)] at hrn
        obtain ⟨gB, rfl⟩ := row_some (i := 2) hS rfl (by omega)
        refine wp_skip ?_
        refine hK17 _ _ ?_; clear hK17
        refine wp_seq_k fun K19 hK19 => ?_
        refine wp_block ?_
        refine wp_seq_k fun K20 hK20 => ?_
        -- region 40
        refine wp_region_lit ?_
        refine s_pu hF rfl rfl rfl (pu_move (hF.ev rfl)) ?_; clear hF; intro a hF
        refine s_pu hF rfl rfl rfl (pu_move (hF.ev rfl)) ?_; clear hF; intro a hF
        refine s_pu hF rfl rfl rfl ((by first | exact pu_elem sl29 (hF.ev rfl) (hF.ev rfl) (by first | omega | simp) (by first | omega | (simp; done) | (simp; omega)) | exact pu_elemA sl29 (hF.ev rfl) (hF.ev rfl) (by omega) (by omega))) ?_; clear hF; intro a hF
        refine s_rd hF rfl rfl rfl (by first | exact rd_load pl4 (hF.ev rfl) (by assumption) | exact rd_load pl4 (hF.ev rfl) (hS.cellL (i := 0) rfl rfl) | exact rd_load pl4 (hF.ev rfl) (hS.cellL (i := 1) rfl rfl) | exact rd_load pl4 (hF.ev rfl) (hS.cellL (i := 2) rfl rfl) | exact rd_load pl4 (hF.ev rfl) (hS.cellL (i := 3) rfl rfl) | exact rd_load pl4 (hF.ev rfl) (hS.cellL (i := 4) rfl rfl) | exact rd_load pl4 (hF.ev rfl) (hS.cellL (i := 5) rfl rfl) | exact rd_load pl4 (hF.ev rfl) (hS.cell (i := 0) rfl (by assumption)) | exact rd_load pl4 (hF.ev rfl) (hS.cell (i := 1) rfl (by assumption)) | exact rd_load pl4 (hF.ev rfl) (hS.cell (i := 2) rfl (by assumption)) | exact rd_load pl4 (hF.ev rfl) (hS.cell (i := 3) rfl (by assumption)) | exact rd_load pl4 (hF.ev rfl) (hS.cell (i := 4) rfl (by assumption)) | exact rd_load pl4 (hF.ev rfl) (hS.cell (i := 5) rfl (by assumption)) | exact rd_load pl4 (hF.ev rfl) (row_at (i := 0) hS rfl (by first | assumption | rfl)) | exact rd_load pl4 (hF.ev rfl) (row_at0 (i := 0) hS rfl (by first | assumption | rfl)) | exact rd_load pl4 (hF.ev rfl) (row_at (i := 1) hS rfl (by first | assumption | rfl)) | exact rd_load pl4 (hF.ev rfl) (row_at0 (i := 1) hS rfl (by first | assumption | rfl)) | exact rd_load pl4 (hF.ev rfl) (row_at (i := 2) hS rfl (by first | assumption | rfl)) | exact rd_load pl4 (hF.ev rfl) (row_at0 (i := 2) hS rfl (by first | assumption | rfl)) | exact rd_load pl4 (hF.ev rfl) (row_at (i := 3) hS rfl (by first | assumption | rfl)) | exact rd_load pl4 (hF.ev rfl) (row_at0 (i := 3) hS rfl (by first | assumption | rfl)) | exact rd_load pl4 (hF.ev rfl) (row_at (i := 4) hS rfl (by first | assumption | rfl)) | exact rd_load pl4 (hF.ev rfl) (row_at0 (i := 4) hS rfl (by first | assumption | rfl)) | exact rd_load pl4 (hF.ev rfl) (row_at (i := 5) hS rfl (by first | assumption | rfl)) | exact rd_load pl4 (hF.ev rfl) (row_at0 (i := 5) hS rfl (by first | assumption | rfl))) ?_; clear hF; intro a hF
        refine s_pu hF rfl rfl rfl (pu_not (hF.ev rfl)) ?_; clear hF; intro a hF
        refine s_done ?_
        refine hK20 _ _ ?_; clear hK20
        refine wp_cond_false (hF.ev rfl) ?_
        refine wp_skip ?_
        refine blk_normal ?_
        refine hK19 _ _ ?_; clear hK19
        -- region 39
        refine wp_region_lit ?_
        refine s_pu hF rfl rfl rfl (pu_move (hF.ev rfl)) ?_; clear hF; intro a hF
        refine s_pu hF rfl rfl rfl ((by first | exact pu_add64 (hF.ev rfl) (hF.ev rfl) (by omega) | exact pu_add (hF.ev rfl) (hF.ev rfl))) ?_; clear hF; intro a hF
        refine s_pu hF rfl rfl rfl (pu_assign (hF.ev rfl)) ?_; clear hF; intro a hF
        refine s_done ?_
        exact ⟨_, by omega, i + 1, rfl, by omega, hF.sub ⟨rfl, rfl, rfl, trivial⟩, hS⟩
      · -- cond 10 false
        try simp only [decide_eq_true_eq, decide_eq_false_iff_not, Bool.not_eq_true', Bool.not_eq_false', Int.not_lt, Int.not_le, ne_eq, Decidable.not_not, Bool.or_eq_true, Bool.or_eq_false_iff, Bool.and_eq_true, Bool.and_eq_false_imp] at hc10
        refine wp_exit ?_
        refine then_exit ?_
        refine then_exit ?_
        refine blk_exit ?_
        refine hK15 _ _ ?_; clear hK15
        refine wp_seq_k fun K19 hK19 => ?_
        -- region 42
        refine wp_region_lit ?_
        refine s_pu hF rfl rfl rfl (pu_move (hF.ev rfl)) ?_; clear hF; intro a hF
        refine s_en hF rfl rfl rfl (run_fn fk14 (hF.ev rfl) (hF.evs rfl)) (wLen_s hS) ?_
        clear hS; rintro e w ⟨rfl, hS⟩
        refine ⟨_, rfl, ?_⟩; clear hF; intro a hF
        refine s_pu hF rfl rfl rfl (pu_eql (hF.ev rfl) (hF.ev rfl)) ?_; clear hF; intro a hF
        refine s_pu hF rfl rfl rfl (pu_assign (hF.ev rfl)) ?_; clear hF; intro a hF
        refine s_done ?_
        refine hK19 _ _ ?_; clear hK19
        refine wp_ret ?_
        refine fin1 Try.results3 hF rfl ?_
        rw [pend_none hall]
        exact ⟨rfl, (hS.front 3 rfl).below⟩
end Go.Proofs.Ytbpkfifiigpdcaa
