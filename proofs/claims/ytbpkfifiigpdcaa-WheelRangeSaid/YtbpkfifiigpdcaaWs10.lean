import Derived.Test.YtbpkfifiigpdcaaWs9
/-! One call on a wheel, and on the document's. -/
namespace Go.Proofs.Ytbpkfifiigpdcaa
open Go Go.RowKit Go.Proofs.Ytbpkfifiigpdcaa.Sk
set_option linter.unusedVariables false
set_option linter.unusedSimpArgs false
set_option maxRecDepth 100000

theorem find_case (P : List Ent) (t : Int) : (∀ e ∈ P, e.timer ≠ t) ∨ ∃ A0 en B0, P = A0 ++ en :: B0 ∧ (∀ e ∈ A0, e.timer ≠ t) ∧ en.timer = t := by
  induction P with
  | nil => exact .inl (by simp)
  | cons e P ih =>
    by_cases h : e.timer = t
    · exact .inr ⟨[], e, P, rfl, by simp, h⟩
    · rcases ih with ih | ⟨A0, en, B0, h1, h2, h3⟩
      · exact .inl (by simpa [h] using ih)
      · exact .inr ⟨e :: A0, en, B0, by simp [h1], by simpa [h] using h2, h3⟩
theorem rising_split {A0 B0 : List Ent} {en : Ent} {last t : Int} (hR : Rising (A0 ++ en :: B0) last) (ht : en.timer = t) : (A0 ++ en :: B0).filter (fun x => !decide (x.timer = t)) = A0 ++ B0 ∧ Rising (A0 ++ B0) last := by
  have hp := hR.1
  rw [List.map_append, List.map_cons, List.pairwise_append] at hp
  obtain ⟨_, h2, h3⟩ := hp
  rw [List.pairwise_cons] at h2
  have ka : ∀ l : List Ent, (∀ x ∈ l, x.timer ≠ t) → l.filter (fun x => !decide (x.timer = t)) = l := fun l h => List.filter_eq_self.2 fun x hx => by simpa using h x hx
  have e1 : (A0 ++ en :: B0).filter (fun x => !decide (x.timer = t)) = A0 ++ B0 := by
    rw [List.filter_append, List.filter_cons, if_neg (by simp [ht]), ka A0, ka B0]
    · intro x hx h
      have := h2.1 x.timer (List.mem_map_of_mem hx)
      omega
    · intro x hx h
      have := h3 x.timer (List.mem_map_of_mem hx) en.timer (by simp)
      omega
  exact ⟨e1, e1 ▸ hR.filter _⟩
/-- All goes well with these that wait. -/
structure POk (P : List Ent) (now last : Int) (K : Nat) : Prop where
  rising : Rising P last
  nums : Nums P
  len : P.length ≤ K
  l0 : 0 ≤ last
  l1 : last ≤ K
  n0 : 0 ≤ now
  at_ : ∀ e ∈ P, 0 ≤ e.at_ ∧ e.at_ ≤ now + 100000
theorem POk.nil {K : Nat} : POk [] 0 0 K := ⟨⟨by simp, by simp⟩, by simp [Nums], by simp, by omega, by omega, by omega, by simp⟩
theorem POk.more {P : List Ent} {now last : Int} {K : Nat} (h : POk P now last K) : POk P now last (K + 1) := ⟨h.rising, h.nums, by have := h.len; omega, h.l0, by have := h.l1; omega, h.n0, h.at_⟩
theorem POk.add {P : List Ent} {now last t x : Int} {K : Nat} (h : POk P now last K) (h1 : 1 ≤ t) (h2 : t ≤ 100000) : POk (P ++ [⟨last + 1, now + t, .int .i64 x, rfl⟩]) now (last + 1) (K + 1) := by
  refine ⟨h.rising.add h.l0 _ _ _, ?_, by have := h.len; simp; omega, by have := h.l0; omega, by have := h.l1; omega, h.n0, ?_⟩
  · intro e he
    rcases List.mem_append.1 he with he | he
    · exact h.nums e he
    · simp at he
      subst he
      exact ⟨x, rfl⟩
  · intro e he
    rcases List.mem_append.1 he with he | he
    · exact h.at_ e he
    · simp at he
      subst he
      have := h.n0
      simp only
      omega
theorem POk.filter {P : List Ent} {now last : Int} {K : Nat} (h : POk P now last K) (p : Ent → Bool) : POk (P.filter p) now last K :=
  ⟨h.rising.filter p, fun e he => h.nums e (List.mem_filter.1 he).1, Nat.le_trans (List.length_filter_le _ _) h.len, h.l0, h.l1, h.n0, fun e he => h.at_ e (List.mem_filter.1 he).1⟩
theorem POk.ring {P : List Ent} {now last : Int} {K : Nat} (h : POk P now last K) : POk (P.filter fun e => !decide (e.at_ = now + 1)) (now + 1) last K := by
  have h1 := h.filter (fun e => !decide (e.at_ = now + 1))
  exact ⟨h1.rising, h1.nums, h1.len, h1.l0, h1.l1, by have := h.n0; omega, fun e he => by have := h1.at_ e he; omega⟩
theorem nums_ints {D : List Ent} (h : Nums D) : ∃ zs : List Int, D.map Ent.v = ints zs ∧ zs.length = D.length := by
  induction D with
  | nil => exact ⟨[], rfl, rfl⟩
  | cons e D ih =>
    obtain ⟨x, hx⟩ := h e (by simp)
    obtain ⟨zs, h1, h2⟩ := ih (fun e he => h e (by simp [he]))
    exact ⟨x :: zs, by simp [hx, h1, ints], by simp [h2]⟩
/-- A pair of wheels: the program's at g, the document's at gx. -/
structure Pair where
  g : Nat
  gx : Nat
  n : Nat
  P : List Ent
  now : Int
  last : Int
def pairC (p : Pair) : List Chunk := [whC_i p.g p.n p.P p.now p.last, refC p.gx p.P p.now p.last]
structure PairOk (p : Pair) (K : Nat) : Prop extends POk p.P p.now p.last K where
  s1 : 1 ≤ p.n
  s2 : p.n ≤ 4096
/-- The place is the same. -/
structure Alike (p q : Pair) : Prop where
  g : q.g = p.g
  gx : q.gx = p.gx
  n : q.n = p.n
section
variable {w0 w : World} {F : List Chunk} {b : Nat} {fs ws : List Lst} {p : Pair} {kd N th : Int} {two : Bool} {K T : Nat}
theorem step_c (hS : Sat w0 w (whC_i p.g p.n p.P p.now p.last :: refC p.gx p.P p.now p.last :: bkC b fs ws :: F)) (hp : PairOk p K) (hK : K + 1 ≤ 5864062014804) (ht : Told fs ws) (hnow : p.now ≤ 1000000) (hfs : fs.length ≤ 900000) :
    Calls Try.prog 17 #[.pointer (some ⟨p.g, 0, none⟩), .pointer (some ⟨p.gx, 0, none⟩), .agg #[.int .i64 kd, .bool two, .int .i64 N], .int .i64 th, .pointer (some ⟨b, 0, none⟩)] w fun e w' =>
      e = .returned (.bool true) ∧ ∃ (q : Pair) (fs' ws' : List Lst), Alike p q ∧ PairOk q (K + 1) ∧ Told fs' ws' ∧ (kd ≠ 2 → fs' = fs ∧ q.now = p.now) ∧ fs'.length ≤ fs.length + 3000 ∧ q.now ≤ p.now + 3000 ∧
        Sat w0 w' (whC_i q.g q.n q.P q.now q.last :: refC q.gx q.P q.now q.last :: bkC b fs' ws' :: F) := by
  have hwl := ht.len
  have hlen := hp.len
  have hl0 := hp.l0
  have hl1 := hp.l1
  have hn0 := hp.n0
  have hroom : (p.P.length + 1) * 24 ≤ 140737488355328 := by omega
  refine enter Try.func17 rfl Try.ntmps17 (Nat.le_of_ble_eq_true rfl) fun a hF => ?_
  refine wp_seq_k fun K0 hK0 => ?_
  refine wp_region_lit ?_
  refine s_newp hF rfl rfl rfl (ef_box (cs := #[_, _, _]) (hF.ev rfl) rfl) hS ?_; clear hF hS; intro b7 w hS a hF
  refine s_pu hF rfl rfl rfl (pu_assign (hF.ev rfl)) ?_; clear hF; intro a hF
  refine s_done ?_
  refine hK0 _ _ ?_; clear hK0
  refine wp_seq_k fun K1 hK1 => ?_
  refine wp_seq_k fun K2 hK2 => ?_
  refine wp_region_lit ?_
  refine s_pu hF rfl rfl rfl ((by exact pu_field fd49_0 (hF.ev rfl))) ?_; clear hF; intro a hF
  refine s_rd hF rfl rfl rfl (by exact rd_load pl3 (hF.ev rfl) (hS.cellL (i := 0) rfl rfl)) ?_; clear hF; intro a hF
  refine s_done ?_
  refine hK2 _ _ ?_; clear hK2
  refine wp_block ?_
  refine wp_seq_k fun K3 hK3 => ?_
  refine wp_region_lit ?_
  refine s_pu hF rfl rfl rfl (pu_eql (hF.ev rfl) (hF.ev rfl)) ?_; clear hF; intro a hF
  refine s_pu hF rfl rfl rfl (pu_assign (hF.ev rfl)) ?_; clear hF; intro a hF
  refine s_done ?_
  refine hK3 _ _ ?_; clear hK3
  refine wp_cond_split (hF.ev rfl) (fun hc0 => ?_) (fun hc0 => ?_)
  · -- cond 0 true
    try simp only [decide_eq_true_eq, decide_eq_false_iff_not, Bool.not_eq_true', Bool.not_eq_false', Int.not_lt, Int.not_le, ne_eq, Decidable.not_not, Bool.or_eq_true, Bool.or_eq_false_iff, Bool.and_eq_true, Bool.and_eq_false_imp] at hc0
    refine wp_seq_k fun K4 hK4 => ?_
    by_cases hN : 1 ≤ N ∧ N ≤ 100000
    · -- ok
      refine wp_region_lit ?_
      refine s_pu hF rfl rfl rfl (pu_move (hF.ev rfl)) ?_; clear hF; intro a hF
      refine s_pu hF rfl rfl rfl ((by exact pu_field fd49_2 (hF.ev rfl))) ?_; clear hF; intro a hF
      refine s_rd hF rfl rfl rfl (by exact rd_load pl3 (hF.ev rfl) (hS.cellL (i := 0) rfl rfl)) ?_; clear hF; intro a hF
      refine s_pu hF rfl rfl rfl (pu_move (hF.ev rfl)) ?_; clear hF; intro a hF
      replace hS := hS.front 1 rfl
      simp only [del] at hS
      refine s_en hF rfl rfl rfl (run_fn fk23 (hF.ev rfl) (hF.evs rfl)) (wAdd_i (t := N) (x := th) hS hp.rising hp.s1 hp.s2 hN.1 hN.2 hn0 (by omega) hl0 (by omega) hroom) ?_
      clear hS; rintro e w ⟨rfl, hS⟩
      refine ⟨_, rfl, ?_⟩; clear hF; intro a hF
      refine s_pu hF rfl rfl rfl (pu_move (hF.ev rfl)) ?_; clear hF; intro a hF
      refine s_pu hF rfl rfl rfl (pu_extract (hF.ev rfl) rfl) ?_; clear hF; intro a hF
      refine s_pu hF rfl rfl rfl (pu_extract (hF.ev rfl) rfl) ?_; clear hF; intro a hF
      refine s_pu hF rfl rfl rfl (pu_assign (hF.ev rfl)) ?_; clear hF; intro a hF
      refine s_pu hF rfl rfl rfl (pu_assign (hF.ev rfl)) ?_; clear hF; intro a hF
      refine s_done ?_
      refine hK4 _ _ ?_; clear hK4
      refine wp_seq_k fun K5 hK5 => ?_
      refine wp_region_lit ?_
      refine s_pu hF rfl rfl rfl (pu_move (hF.ev rfl)) ?_; clear hF; intro a hF
      refine s_pu hF rfl rfl rfl ((by exact pu_field fd49_2 (hF.ev rfl))) ?_; clear hF; intro a hF
      refine s_rd hF rfl rfl rfl (by exact rd_load pl3 (hF.ev rfl) (hS.cellL (i := 1) rfl rfl)) ?_; clear hF; intro a hF
      refine s_pu hF rfl rfl rfl (pu_move (hF.ev rfl)) ?_; clear hF; intro a hF
      replace hS := hS.front 2 rfl
      simp only [del] at hS
      refine s_en hF rfl rfl rfl (run_fn fk24 (hF.ev rfl) (hF.evs rfl)) (rAdd_c (t := N) (x := th) hS hN.1 hN.2 hn0 (by omega) hl0 (by omega) hroom) ?_
      clear hS; rintro e w ⟨rfl, hS⟩
      refine ⟨_, rfl, ?_⟩; clear hF; intro a hF
      refine s_pu hF rfl rfl rfl (pu_move (hF.ev rfl)) ?_; clear hF; intro a hF
      refine s_pu hF rfl rfl rfl (pu_extract (hF.ev rfl) rfl) ?_; clear hF; intro a hF
      refine s_pu hF rfl rfl rfl (pu_extract (hF.ev rfl) rfl) ?_; clear hF; intro a hF
      refine s_pu hF rfl rfl rfl (pu_assign (hF.ev rfl)) ?_; clear hF; intro a hF
      refine s_pu hF rfl rfl rfl (pu_assign (hF.ev rfl)) ?_; clear hF; intro a hF
      refine s_done ?_
      refine hK5 _ _ ?_; clear hK5
      refine wp_seq_k fun K6 hK6 => ?_
      refine wp_region_lit ?_
      refine s_pu hF rfl rfl rfl (pu_move (hF.ev rfl)) ?_; clear hF; intro a hF
      refine s_pu hF rfl rfl rfl (pu_move (hF.ev rfl)) ?_; clear hF; intro a hF
      refine s_pu hF rfl rfl rfl (pu_eql (hF.ev rfl) (hF.ev rfl)) ?_; clear hF; intro a hF
      refine s_pu hF rfl rfl rfl (pu_move (hF.ev rfl)) ?_; clear hF; intro a hF
      refine fr_split hF (t := 54) rfl ?_ ?_
      · clear hF; intro hg54 hF   -- slot 54 true
        try simp only [decide_eq_true_eq, decide_eq_false_iff_not, Bool.not_eq_true', Bool.not_eq_false', Int.not_lt, Int.not_le, ne_eq, Decidable.not_not, Bool.or_eq_true, Bool.or_eq_false_iff, Bool.and_eq_true, Bool.and_eq_false_imp] at hg54
        refine s_pu hF rfl rfl rfl (pu_move (hF.ev rfl)) ?_; clear hF; intro a hF
        refine s_pu hF rfl rfl rfl (pu_move (hF.ev rfl)) ?_; clear hF; intro a hF
        refine s_pu hF rfl rfl rfl (pu_eql (hF.ev rfl) (hF.ev rfl)) ?_; clear hF; intro a hF
        refine s_pu hF rfl rfl rfl ((by exact pu_pick_t (hF.ev rfl) (hF.ev rfl))) ?_; clear hF; intro a hF
        refine s_pu hF rfl rfl rfl (pu_assign (hF.ev rfl)) ?_; clear hF; intro a hF
        refine s_done ?_
        refine hK6 _ _ ?_; clear hK6
        refine wp_ret ?_
        refine blk_ret ?_
        refine then_ret ?_
        refine fin1 Try.results17 hF rfl ?_
        replace hS := hS.sel [1, 0, 1, 0]
        simp only [selR, nth, del] at hS
        refine ⟨by simp, ⟨p.g, p.gx, p.n, p.P ++ [(⟨p.last + 1, p.now + N, .int .i64 th, rfl⟩ : Ent)], p.now, p.last + 1⟩, fs, ws, ⟨rfl, rfl, rfl⟩, ⟨hp.toPOk.add hN.1 hN.2, hp.s1, hp.s2⟩, ht, fun _ => ⟨rfl, rfl⟩, by omega, by simp only; omega, hS.drop 3⟩
      · clear hF; intro hg54 hF   -- slot 54 false
        try simp only [decide_eq_true_eq, decide_eq_false_iff_not, Bool.not_eq_true', Bool.not_eq_false', Int.not_lt, Int.not_le, ne_eq, Decidable.not_not, Bool.or_eq_true, Bool.or_eq_false_iff, Bool.and_eq_true, Bool.and_eq_false_imp] at hg54
        simp at hg54
    · -- no
      refine wp_region_lit ?_
      refine s_pu hF rfl rfl rfl (pu_move (hF.ev rfl)) ?_; clear hF; intro a hF
      refine s_pu hF rfl rfl rfl ((by exact pu_field fd49_2 (hF.ev rfl))) ?_; clear hF; intro a hF
      refine s_rd hF rfl rfl rfl (by exact rd_load pl3 (hF.ev rfl) (hS.cellL (i := 0) rfl rfl)) ?_; clear hF; intro a hF
      refine s_pu hF rfl rfl rfl (pu_move (hF.ev rfl)) ?_; clear hF; intro a hF
      replace hS := hS.front 1 rfl
      simp only [del] at hS
      refine s_en hF rfl rfl rfl (run_fn fk23 (hF.ev rfl) (hF.evs rfl)) (wAddNo_i (t := N) (v := .int .i64 th) hS (by omega)) ?_
      clear hS; rintro e w ⟨rfl, hS⟩
      refine ⟨_, rfl, ?_⟩; clear hF; intro a hF
      refine s_pu hF rfl rfl rfl (pu_move (hF.ev rfl)) ?_; clear hF; intro a hF
      refine s_pu hF rfl rfl rfl (pu_extract (hF.ev rfl) rfl) ?_; clear hF; intro a hF
      refine s_pu hF rfl rfl rfl (pu_extract (hF.ev rfl) rfl) ?_; clear hF; intro a hF
      refine s_pu hF rfl rfl rfl (pu_assign (hF.ev rfl)) ?_; clear hF; intro a hF
      refine s_pu hF rfl rfl rfl (pu_assign (hF.ev rfl)) ?_; clear hF; intro a hF
      refine s_done ?_
      refine hK4 _ _ ?_; clear hK4
      refine wp_seq_k fun K5 hK5 => ?_
      refine wp_region_lit ?_
      refine s_pu hF rfl rfl rfl (pu_move (hF.ev rfl)) ?_; clear hF; intro a hF
      refine s_pu hF rfl rfl rfl ((by exact pu_field fd49_2 (hF.ev rfl))) ?_; clear hF; intro a hF
      refine s_rd hF rfl rfl rfl (by exact rd_load pl3 (hF.ev rfl) (hS.cellL (i := 1) rfl rfl)) ?_; clear hF; intro a hF
      refine s_pu hF rfl rfl rfl (pu_move (hF.ev rfl)) ?_; clear hF; intro a hF
      replace hS := hS.front 2 rfl
      simp only [del] at hS
      refine s_en hF rfl rfl rfl (run_fn fk24 (hF.ev rfl) (hF.evs rfl)) (rAdd_no (t := N) (v := .int .i64 th) hS (by omega)) ?_
      clear hS; rintro e w ⟨rfl, hS⟩
      refine ⟨_, rfl, ?_⟩; clear hF; intro a hF
      refine s_pu hF rfl rfl rfl (pu_move (hF.ev rfl)) ?_; clear hF; intro a hF
      refine s_pu hF rfl rfl rfl (pu_extract (hF.ev rfl) rfl) ?_; clear hF; intro a hF
      refine s_pu hF rfl rfl rfl (pu_extract (hF.ev rfl) rfl) ?_; clear hF; intro a hF
      refine s_pu hF rfl rfl rfl (pu_assign (hF.ev rfl)) ?_; clear hF; intro a hF
      refine s_pu hF rfl rfl rfl (pu_assign (hF.ev rfl)) ?_; clear hF; intro a hF
      refine s_done ?_
      refine hK5 _ _ ?_; clear hK5
      refine wp_seq_k fun K6 hK6 => ?_
      refine wp_region_lit ?_
      refine s_pu hF rfl rfl rfl (pu_move (hF.ev rfl)) ?_; clear hF; intro a hF
      refine s_pu hF rfl rfl rfl (pu_move (hF.ev rfl)) ?_; clear hF; intro a hF
      refine s_pu hF rfl rfl rfl (pu_eql (hF.ev rfl) (hF.ev rfl)) ?_; clear hF; intro a hF
      refine s_pu hF rfl rfl rfl (pu_move (hF.ev rfl)) ?_; clear hF; intro a hF
      refine fr_split hF (t := 54) rfl ?_ ?_
      · clear hF; intro hg54 hF   -- slot 54 true
        try simp only [decide_eq_true_eq, decide_eq_false_iff_not, Bool.not_eq_true', Bool.not_eq_false', Int.not_lt, Int.not_le, ne_eq, Decidable.not_not, Bool.or_eq_true, Bool.or_eq_false_iff, Bool.and_eq_true, Bool.and_eq_false_imp] at hg54
        refine s_pu hF rfl rfl rfl (pu_move (hF.ev rfl)) ?_; clear hF; intro a hF
        refine s_pu hF rfl rfl rfl (pu_move (hF.ev rfl)) ?_; clear hF; intro a hF
        refine s_pu hF rfl rfl rfl (pu_eql (hF.ev rfl) (hF.ev rfl)) ?_; clear hF; intro a hF
        refine s_pu hF rfl rfl rfl ((by exact pu_pick_t (hF.ev rfl) (hF.ev rfl))) ?_; clear hF; intro a hF
        refine s_pu hF rfl rfl rfl (pu_assign (hF.ev rfl)) ?_; clear hF; intro a hF
        refine s_done ?_
        refine hK6 _ _ ?_; clear hK6
        refine wp_ret ?_
        refine blk_ret ?_
        refine then_ret ?_
        refine fin1 Try.results17 hF rfl ?_
        replace hS := hS.sel [1, 0, 1, 0]
        simp only [selR, nth, del] at hS
        refine ⟨by simp, p, fs, ws, ⟨rfl, rfl, rfl⟩, ⟨hp.toPOk.more, hp.s1, hp.s2⟩, ht, fun _ => ⟨rfl, rfl⟩, by omega, by omega, hS.drop 3⟩
      · clear hF; intro hg54 hF   -- slot 54 false
        try simp only [decide_eq_true_eq, decide_eq_false_iff_not, Bool.not_eq_true', Bool.not_eq_false', Int.not_lt, Int.not_le, ne_eq, Decidable.not_not, Bool.or_eq_true, Bool.or_eq_false_iff, Bool.and_eq_true, Bool.and_eq_false_imp] at hg54
        simp at hg54
  · -- cond 0 false
    try simp only [decide_eq_true_eq, decide_eq_false_iff_not, Bool.not_eq_true', Bool.not_eq_false', Int.not_lt, Int.not_le, ne_eq, Decidable.not_not, Bool.or_eq_true, Bool.or_eq_false_iff, Bool.and_eq_true, Bool.and_eq_false_imp] at hc0
    refine wp_seq_k fun K4 hK4 => ?_
    refine wp_region_lit ?_
    refine s_pu hF rfl rfl rfl (pu_eql (hF.ev rfl) (hF.ev rfl)) ?_; clear hF; intro a hF
    refine s_pu hF rfl rfl rfl (pu_assign (hF.ev rfl)) ?_; clear hF; intro a hF
    refine s_done ?_
    refine hK4 _ _ ?_; clear hK4
    refine wp_cond_split (hF.ev rfl) (fun hc1 => ?_) (fun hc1 => ?_)
    · -- cond 1 true
      try simp only [decide_eq_true_eq, decide_eq_false_iff_not, Bool.not_eq_true', Bool.not_eq_false', Int.not_lt, Int.not_le, ne_eq, Decidable.not_not, Bool.or_eq_true, Bool.or_eq_false_iff, Bool.and_eq_true, Bool.and_eq_false_imp] at hc1
      refine wp_seq_k fun K5 hK5 => ?_
      refine wp_region_lit ?_
      refine s_pu hF rfl rfl rfl ((by exact pu_field fd49_2 (hF.ev rfl))) ?_; clear hF; intro a hF
      refine s_rd hF rfl rfl rfl (by exact rd_load pl3 (hF.ev rfl) (hS.cellL (i := 0) rfl rfl)) ?_; clear hF; intro a hF
      refine s_pu hF rfl rfl rfl (pu_assign (hF.ev rfl)) ?_; clear hF; intro a hF
      refine s_done ?_
      refine hK5 _ _ ?_; clear hK5
      refine wp_seq_j (fun a w => ∃ M : Int, M ≤ 3000 ∧ Fr a 154 [(0, .pointer (some ⟨p.g, 0, none⟩)), (1, .pointer (some ⟨p.gx, 0, none⟩)), (4, .pointer (some ⟨b, 0, none⟩)), (15, .int .i64 M)] ∧
        Sat w0 w (whC_i p.g p.n p.P p.now p.last :: refC p.gx p.P p.now p.last :: bkC b fs ws :: F)) ?_ ?_
      · -- up to the join s9
        refine wp_seq_k fun K7 hK7 => ?_
        refine wp_region_lit ?_
        refine s_pu hF rfl rfl rfl (pu_move (hF.ev rfl)) ?_; clear hF; intro a hF
        refine s_pu hF rfl rfl rfl (pu_gtr (hF.ev rfl) (hF.ev rfl)) ?_; clear hF; intro a hF
        refine s_done ?_
        refine hK7 _ _ ?_; clear hK7
        refine wp_cond_split (hF.ev rfl) (fun hc2 => ?_) (fun hc2 => ?_)
        · -- cond 2 true
          try simp only [decide_eq_true_eq, decide_eq_false_iff_not, Bool.not_eq_true', Bool.not_eq_false', Int.not_lt, Int.not_le, ne_eq, Decidable.not_not, Bool.or_eq_true, Bool.or_eq_false_iff, Bool.and_eq_true, Bool.and_eq_false_imp] at hc2
          refine wp_region_lit ?_
          refine s_pu hF rfl rfl rfl (pu_assign (hF.ev rfl)) ?_; clear hF; intro a hF
          refine s_done ?_
          exact ⟨_, by omega, hF.sub ⟨rfl, rfl, rfl, rfl, trivial⟩, hS.tail⟩
        · -- cond 2 false
          try simp only [decide_eq_true_eq, decide_eq_false_iff_not, Bool.not_eq_true', Bool.not_eq_false', Int.not_lt, Int.not_le, ne_eq, Decidable.not_not, Bool.or_eq_true, Bool.or_eq_false_iff, Bool.and_eq_true, Bool.and_eq_false_imp] at hc2
          refine wp_skip ?_
          exact ⟨_, by omega, hF.sub ⟨rfl, rfl, rfl, rfl, trivial⟩, hS.tail⟩
      · -- behind the join s9
        clear hS hF
        rintro a w ⟨M, hM, hF, hS⟩
        refine wp_seq_k fun K6 hK6 => ?_
        refine wp_region_lit ?_
        refine s_pu hF rfl rfl rfl (pu_assign (hF.ev rfl)) ?_; clear hF; intro a hF
        refine s_done ?_
        refine hK6 _ _ ?_; clear hK6
        refine wp_block ?_
        refine wp_ind (fun j a w => ∃ (i : Nat) (q : Pair) (fs' ws' : List Lst), j = 3000 - i ∧ i ≤ 3000 ∧ Alike p q ∧ PairOk q (K + 1) ∧ Told fs' ws' ∧ fs'.length ≤ fs.length + i ∧ q.now = p.now + i ∧
          Fr a 154 [(0, .pointer (some ⟨p.g, 0, none⟩)), (1, .pointer (some ⟨p.gx, 0, none⟩)), (4, .pointer (some ⟨b, 0, none⟩)), (15, .int .i64 M), (16, .int .i64 i)] ∧
          Sat w0 w (whC_i p.g q.n q.P q.now q.last :: refC p.gx q.P q.now q.last :: bkC b fs' ws' :: F)) 3000
          ⟨0, p, fs, ws, rfl, by omega, ⟨rfl, rfl, rfl⟩, ⟨hp.toPOk.more, hp.s1, hp.s2⟩, ht, by omega, by omega, hF.sub ⟨rfl, rfl, rfl, rfl, rfl, trivial⟩, hS⟩ ?_
        clear hS hF
        rintro j a w ⟨i, q, fs', ws', rfl, hi, hal, hq, ht', hfl, hqn, hF, hS⟩
        have hql := hq.len
        have hqn0 := hq.n0
        have hqroom : (q.P.length + 1) * 24 ≤ 140737488355328 := by omega
        have hwl' := ht'.len
        refine wp_seq_k fun K7 hK7 => ?_
        refine wp_seq_k fun K8 hK8 => ?_
        refine wp_region_lit ?_
        refine s_pu hF rfl rfl rfl (pu_move (hF.ev rfl)) ?_; clear hF; intro a hF
        refine s_pu hF rfl rfl rfl (pu_move (hF.ev rfl)) ?_; clear hF; intro a hF
        refine s_pu hF rfl rfl rfl (pu_lss (hF.ev rfl) (hF.ev rfl)) ?_; clear hF; intro a hF
        refine s_pu hF rfl rfl rfl (pu_move (hF.ev rfl)) ?_; clear hF; intro a hF
        refine fr_split hF (t := 68) rfl ?_ ?_
        · clear hF; intro hg68 hF   -- slot 68 true
          try simp only [decide_eq_true_eq, decide_eq_false_iff_not, Bool.not_eq_true', Bool.not_eq_false', Int.not_lt, Int.not_le, ne_eq, Decidable.not_not, Bool.or_eq_true, Bool.or_eq_false_iff, Bool.and_eq_true, Bool.and_eq_false_imp] at hg68
          refine s_no hF rfl rfl rfl ?_; clear hF; intro a hF
          refine s_no hF rfl rfl rfl ?_; clear hF; intro a hF
          refine s_pu hF rfl rfl rfl ((by exact pu_pick_t (hF.ev rfl) (hF.ev rfl))) ?_; clear hF; intro a hF
          refine s_done ?_
          refine hK8 _ _ ?_; clear hK8
          refine wp_cond_true (hF.ev rfl) ?_
          refine wp_skip ?_
          refine hK7 _ _ ?_; clear hK7
          refine wp_seq_k fun K9 hK9 => ?_
          refine wp_block ?_
          refine wp_seq_k fun K10 hK10 => ?_
          refine wp_region_lit ?_
          have hi3 : i < 3000 := by omega
          obtain ⟨zs, hz1, hz2⟩ := nums_ints (hq.toPOk.filter fun e => decide (e.at_ = q.now + 1)).nums
          have hzl : zs.length ≤ q.P.length := by rw [hz2]; exact List.length_filter_le _ _
          refine s_pu hF rfl rfl rfl (pu_move (hF.ev rfl)) ?_; clear hF; intro a hF
          refine s_en hF rfl rfl rfl (run_fn fk28 (hF.ev rfl) (hF.evs rfl)) (wTick_i hS hq.rising hq.s1 hqn0 (by omega) hqroom) ?_
          clear hS; rintro e w ⟨A1, c1, rfl, hS⟩
          rw [hz1, ← hz2] at hS
          rw [← hz2]
          refine ⟨_, rfl, ?_⟩; clear hF; intro a hF
          refine s_pu hF rfl rfl rfl (pu_assign (hF.ev rfl)) ?_; clear hF; intro a hF
          refine s_done ?_
          replace hS := hS.front 2 rfl
          simp only [del] at hS
          refine hK10 _ _ ?_; clear hK10
          refine wp_seq_k fun K11 hK11 => ?_
          refine wp_region_lit ?_
          refine s_pu hF rfl rfl rfl (pu_move (hF.ev rfl)) ?_; clear hF; intro a hF
          refine s_en hF rfl rfl rfl (run_fn fk29 (hF.ev rfl) (hF.evs rfl)) (rTick_c hS (by omega) hqn0 (by omega)) ?_
          clear hS; rintro e w ⟨A2, c2, rfl, hS⟩
          rw [hz1, ← hz2] at hS
          rw [← hz2]
          refine ⟨_, rfl, ?_⟩; clear hF; intro a hF
          refine s_pu hF rfl rfl rfl (pu_assign (hF.ev rfl)) ?_; clear hF; intro a hF
          refine s_done ?_
          refine hK11 _ _ ?_; clear hK11
          refine wp_seq_k fun K12 hK12 => ?_
          refine wp_region_lit ?_
          refine s_pu hF rfl rfl rfl (pu_move (hF.ev rfl)) ?_; clear hF; intro a hF
          refine s_pu hF rfl rfl rfl (pu_move (hF.ev rfl)) ?_; clear hF; intro a hF
          refine s_en hF rfl rfl rfl (run_fn fk30 (hF.ev rfl) (hF.evs rfl)) (same_c hS (rd_lst (i := 2) hS rfl) (rd_lst (i := 0) hS rfl) (by omega)) ?_
          clear hS; rintro e w ⟨rfl, hS⟩
          refine ⟨_, rfl, ?_⟩; clear hF; intro a hF
          refine s_pu hF rfl rfl rfl (pu_assign (hF.ev rfl)) ?_; clear hF; intro a hF
          refine s_done ?_
          refine hK12 _ _ ?_; clear hK12
          refine wp_seq_k fun K13 hK13 => ?_
          refine wp_seq_k fun K14 hK14 => ?_
          refine wp_region_lit ?_
          refine s_pu hF rfl rfl rfl (pu_move (hF.ev rfl)) ?_; clear hF; intro a hF
          refine s_pu hF rfl rfl rfl (pu_len sl22 (hF.ev rfl)) ?_; clear hF; intro a hF
          refine s_pu hF rfl rfl rfl (pu_gtr (hF.ev rfl) (hF.ev rfl)) ?_; clear hF; intro a hF
          refine s_done ?_
          refine hK14 _ _ ?_; clear hK14
          refine wp_cond_split (hF.ev rfl) (fun hc4 => ?_) (fun hc4 => ?_)
          · -- cond 4 true
            try simp only [decide_eq_true_eq, decide_eq_false_iff_not, Bool.not_eq_true', Bool.not_eq_false', Int.not_lt, Int.not_le, ne_eq, Decidable.not_not, Bool.or_eq_true, Bool.or_eq_false_iff, Bool.and_eq_true, Bool.and_eq_false_imp] at hc4
            refine wp_region_lit ?_
            replace hS := hS.sel [4, 2, 0]
            simp only [selR, nth, del] at hS
            refine s_pu hF rfl rfl rfl (pu_move (hF.ev rfl)) ?_; clear hF; intro a hF
            refine s_pu hF rfl rfl rfl (pu_move (hF.ev rfl)) ?_; clear hF; intro a hF
            refine s_pu hF rfl rfl rfl (pu_move (hF.ev rfl)) ?_; clear hF; intro a hF
            refine s_en hF rfl rfl rfl (run_fn fk42 (hF.ev rfl) (hF.evs rfl)) (takes_c hS (by omega) (by omega) (by omega)) ?_
            clear hS; rintro e w ⟨rfl, hS⟩
            refine ⟨_, rfl, ?_⟩; clear hF; intro a hF
            refine s_pu hF rfl rfl rfl (pu_assign (hF.ev rfl)) ?_; clear hF; intro a hF
            refine s_done ?_
            refine hK13 _ _ ?_; clear hK13
            refine wp_seq_k fun K15 hK15 => ?_
            refine wp_region_lit ?_
            refine s_pu hF rfl rfl rfl (pu_move (hF.ev rfl)) ?_; clear hF; intro a hF
            refine s_pu hF rfl rfl rfl (pu_not (hF.ev rfl)) ?_; clear hF; intro a hF
            refine s_done ?_
            refine hK15 _ _ ?_; clear hK15
            refine wp_cond_split (hF.ev rfl) (fun hc5 => ?_) (fun hc5 => ?_)
            · -- cond 5 true
              try simp only [decide_eq_true_eq, decide_eq_false_iff_not, Bool.not_eq_true', Bool.not_eq_false', Int.not_lt, Int.not_le, ne_eq, Decidable.not_not, Bool.or_eq_true, Bool.or_eq_false_iff, Bool.and_eq_true, Bool.and_eq_false_imp] at hc5
              simp at hc5
            · -- cond 5 false
              try simp only [decide_eq_true_eq, decide_eq_false_iff_not, Bool.not_eq_true', Bool.not_eq_false', Int.not_lt, Int.not_le, ne_eq, Decidable.not_not, Bool.or_eq_true, Bool.or_eq_false_iff, Bool.and_eq_true, Bool.and_eq_false_imp] at hc5
              refine wp_skip ?_
              refine blk_normal ?_
              refine hK9 _ _ ?_; clear hK9
              refine wp_region_lit ?_
              refine s_pu hF rfl rfl rfl (pu_move (hF.ev rfl)) ?_; clear hF; intro a hF
              refine s_pu hF rfl rfl rfl ((by exact pu_add64 (hF.ev rfl) (hF.ev rfl) (by omega))) ?_; clear hF; intro a hF
              refine s_pu hF rfl rfl rfl (pu_assign (hF.ev rfl)) ?_; clear hF; intro a hF
              refine s_done ?_
              first
                | (replace hS := hS.sel [2, 1]
                   simp only [selR, nth, del] at hS
                   exact ⟨3000 - (i + 1), by omega, i + 1, ⟨q.g, q.gx, q.n, q.P.filter fun e => !decide (e.at_ = q.now + 1), q.now + 1, q.last⟩, _, _, rfl, by omega, ⟨hal.g, hal.gx, hal.n⟩, ⟨hq.toPOk.ring, hq.s1, hq.s2⟩, ht'.snoc (by omega), by simp; omega, by simp only; omega, hF.sub ⟨rfl, rfl, rfl, rfl, rfl, trivial⟩, hS⟩)
                | exact ⟨3000 - (i + 1), by omega, i + 1, ⟨q.g, q.gx, q.n, q.P.filter fun e => !decide (e.at_ = q.now + 1), q.now + 1, q.last⟩, fs', ws', rfl, by omega, ⟨hal.g, hal.gx, hal.n⟩, ⟨hq.toPOk.ring, hq.s1, hq.s2⟩, ht', by omega, by simp only; omega, hF.sub ⟨rfl, rfl, rfl, rfl, rfl, trivial⟩, hS⟩
          · -- cond 4 false
            try simp only [decide_eq_true_eq, decide_eq_false_iff_not, Bool.not_eq_true', Bool.not_eq_false', Int.not_lt, Int.not_le, ne_eq, Decidable.not_not, Bool.or_eq_true, Bool.or_eq_false_iff, Bool.and_eq_true, Bool.and_eq_false_imp] at hc4
            replace hS := ((hS.sel [3, 1, 2]).drop 3).drop 3
            simp only [selR, nth, del] at hS
            refine wp_skip ?_
            refine hK13 _ _ ?_; clear hK13
            refine wp_seq_k fun K15 hK15 => ?_
            refine wp_region_lit ?_
            refine s_pu hF rfl rfl rfl (pu_move (hF.ev rfl)) ?_; clear hF; intro a hF
            refine s_pu hF rfl rfl rfl (pu_not (hF.ev rfl)) ?_; clear hF; intro a hF
            refine s_done ?_
            refine hK15 _ _ ?_; clear hK15
            refine wp_cond_split (hF.ev rfl) (fun hc5 => ?_) (fun hc5 => ?_)
            · -- cond 5 true
              try simp only [decide_eq_true_eq, decide_eq_false_iff_not, Bool.not_eq_true', Bool.not_eq_false', Int.not_lt, Int.not_le, ne_eq, Decidable.not_not, Bool.or_eq_true, Bool.or_eq_false_iff, Bool.and_eq_true, Bool.and_eq_false_imp] at hc5
              simp at hc5
            · -- cond 5 false
              try simp only [decide_eq_true_eq, decide_eq_false_iff_not, Bool.not_eq_true', Bool.not_eq_false', Int.not_lt, Int.not_le, ne_eq, Decidable.not_not, Bool.or_eq_true, Bool.or_eq_false_iff, Bool.and_eq_true, Bool.and_eq_false_imp] at hc5
              refine wp_skip ?_
              refine blk_normal ?_
              refine hK9 _ _ ?_; clear hK9
              refine wp_region_lit ?_
              refine s_pu hF rfl rfl rfl (pu_move (hF.ev rfl)) ?_; clear hF; intro a hF
              refine s_pu hF rfl rfl rfl ((by exact pu_add64 (hF.ev rfl) (hF.ev rfl) (by omega))) ?_; clear hF; intro a hF
              refine s_pu hF rfl rfl rfl (pu_assign (hF.ev rfl)) ?_; clear hF; intro a hF
              refine s_done ?_
              first
                | (replace hS := hS.sel [2, 1]
                   simp only [selR, nth, del] at hS
                   exact ⟨3000 - (i + 1), by omega, i + 1, ⟨q.g, q.gx, q.n, q.P.filter fun e => !decide (e.at_ = q.now + 1), q.now + 1, q.last⟩, _, _, rfl, by omega, ⟨hal.g, hal.gx, hal.n⟩, ⟨hq.toPOk.ring, hq.s1, hq.s2⟩, ht'.snoc (by omega), by simp; omega, by simp only; omega, hF.sub ⟨rfl, rfl, rfl, rfl, rfl, trivial⟩, hS⟩)
                | exact ⟨3000 - (i + 1), by omega, i + 1, ⟨q.g, q.gx, q.n, q.P.filter fun e => !decide (e.at_ = q.now + 1), q.now + 1, q.last⟩, fs', ws', rfl, by omega, ⟨hal.g, hal.gx, hal.n⟩, ⟨hq.toPOk.ring, hq.s1, hq.s2⟩, ht', by omega, by simp only; omega, hF.sub ⟨rfl, rfl, rfl, rfl, rfl, trivial⟩, hS⟩
        · clear hF; intro hg68 hF   -- slot 68 false
          try simp only [decide_eq_true_eq, decide_eq_false_iff_not, Bool.not_eq_true', Bool.not_eq_false', Int.not_lt, Int.not_le, ne_eq, Decidable.not_not, Bool.or_eq_true, Bool.or_eq_false_iff, Bool.and_eq_true, Bool.and_eq_false_imp] at hg68
          refine s_pu hF rfl rfl rfl (pu_move (hF.ev rfl)) ?_; clear hF; intro a hF
          refine s_pu hF rfl rfl rfl (pu_lss (hF.ev rfl) (hF.ev rfl)) ?_; clear hF; intro a hF
          refine s_pu hF rfl rfl rfl ((by exact pu_pick_f (hF.ev rfl) (hF.ev rfl))) ?_; clear hF; intro a hF
          refine s_done ?_
          refine hK8 _ _ ?_; clear hK8
          refine wp_cond_split (hF.ev rfl) (fun hc3 => ?_) (fun hc3 => ?_)
          · -- cond 3 true
            try simp only [decide_eq_true_eq, decide_eq_false_iff_not, Bool.not_eq_true', Bool.not_eq_false', Int.not_lt, Int.not_le, ne_eq, Decidable.not_not, Bool.or_eq_true, Bool.or_eq_false_iff, Bool.and_eq_true, Bool.and_eq_false_imp] at hc3
            refine wp_skip ?_
            refine hK7 _ _ ?_; clear hK7
            refine wp_seq_k fun K9 hK9 => ?_
            refine wp_block ?_
            refine wp_seq_k fun K10 hK10 => ?_
            refine wp_region_lit ?_
            have hi3 : i < 3000 := by omega
            obtain ⟨zs, hz1, hz2⟩ := nums_ints (hq.toPOk.filter fun e => decide (e.at_ = q.now + 1)).nums
            have hzl : zs.length ≤ q.P.length := by rw [hz2]; exact List.length_filter_le _ _
            refine s_pu hF rfl rfl rfl (pu_move (hF.ev rfl)) ?_; clear hF; intro a hF
            refine s_en hF rfl rfl rfl (run_fn fk28 (hF.ev rfl) (hF.evs rfl)) (wTick_i hS hq.rising hq.s1 hqn0 (by omega) hqroom) ?_
            clear hS; rintro e w ⟨A1, c1, rfl, hS⟩
            rw [hz1, ← hz2] at hS
            rw [← hz2]
            refine ⟨_, rfl, ?_⟩; clear hF; intro a hF
            refine s_pu hF rfl rfl rfl (pu_assign (hF.ev rfl)) ?_; clear hF; intro a hF
            refine s_done ?_
            replace hS := hS.front 2 rfl
            simp only [del] at hS
            refine hK10 _ _ ?_; clear hK10
            refine wp_seq_k fun K11 hK11 => ?_
            refine wp_region_lit ?_
            refine s_pu hF rfl rfl rfl (pu_move (hF.ev rfl)) ?_; clear hF; intro a hF
            refine s_en hF rfl rfl rfl (run_fn fk29 (hF.ev rfl) (hF.evs rfl)) (rTick_c hS (by omega) hqn0 (by omega)) ?_
            clear hS; rintro e w ⟨A2, c2, rfl, hS⟩
            rw [hz1, ← hz2] at hS
            rw [← hz2]
            refine ⟨_, rfl, ?_⟩; clear hF; intro a hF
            refine s_pu hF rfl rfl rfl (pu_assign (hF.ev rfl)) ?_; clear hF; intro a hF
            refine s_done ?_
            refine hK11 _ _ ?_; clear hK11
            refine wp_seq_k fun K12 hK12 => ?_
            refine wp_region_lit ?_
            refine s_pu hF rfl rfl rfl (pu_move (hF.ev rfl)) ?_; clear hF; intro a hF
            refine s_pu hF rfl rfl rfl (pu_move (hF.ev rfl)) ?_; clear hF; intro a hF
            refine s_en hF rfl rfl rfl (run_fn fk30 (hF.ev rfl) (hF.evs rfl)) (same_c hS (rd_lst (i := 2) hS rfl) (rd_lst (i := 0) hS rfl) (by omega)) ?_
            clear hS; rintro e w ⟨rfl, hS⟩
            refine ⟨_, rfl, ?_⟩; clear hF; intro a hF
            refine s_pu hF rfl rfl rfl (pu_assign (hF.ev rfl)) ?_; clear hF; intro a hF
            refine s_done ?_
            refine hK12 _ _ ?_; clear hK12
            refine wp_seq_k fun K13 hK13 => ?_
            refine wp_seq_k fun K14 hK14 => ?_
            refine wp_region_lit ?_
            refine s_pu hF rfl rfl rfl (pu_move (hF.ev rfl)) ?_; clear hF; intro a hF
            refine s_pu hF rfl rfl rfl (pu_len sl22 (hF.ev rfl)) ?_; clear hF; intro a hF
            refine s_pu hF rfl rfl rfl (pu_gtr (hF.ev rfl) (hF.ev rfl)) ?_; clear hF; intro a hF
            refine s_done ?_
            refine hK14 _ _ ?_; clear hK14
            refine wp_cond_split (hF.ev rfl) (fun hc4 => ?_) (fun hc4 => ?_)
            · -- cond 4 true
              try simp only [decide_eq_true_eq, decide_eq_false_iff_not, Bool.not_eq_true', Bool.not_eq_false', Int.not_lt, Int.not_le, ne_eq, Decidable.not_not, Bool.or_eq_true, Bool.or_eq_false_iff, Bool.and_eq_true, Bool.and_eq_false_imp] at hc4
              refine wp_region_lit ?_
              replace hS := hS.sel [4, 2, 0]
              simp only [selR, nth, del] at hS
              refine s_pu hF rfl rfl rfl (pu_move (hF.ev rfl)) ?_; clear hF; intro a hF
              refine s_pu hF rfl rfl rfl (pu_move (hF.ev rfl)) ?_; clear hF; intro a hF
              refine s_pu hF rfl rfl rfl (pu_move (hF.ev rfl)) ?_; clear hF; intro a hF
              refine s_en hF rfl rfl rfl (run_fn fk42 (hF.ev rfl) (hF.evs rfl)) (takes_c hS (by omega) (by omega) (by omega)) ?_
              clear hS; rintro e w ⟨rfl, hS⟩
              refine ⟨_, rfl, ?_⟩; clear hF; intro a hF
              refine s_pu hF rfl rfl rfl (pu_assign (hF.ev rfl)) ?_; clear hF; intro a hF
              refine s_done ?_
              refine hK13 _ _ ?_; clear hK13
              refine wp_seq_k fun K15 hK15 => ?_
              refine wp_region_lit ?_
              refine s_pu hF rfl rfl rfl (pu_move (hF.ev rfl)) ?_; clear hF; intro a hF
              refine s_pu hF rfl rfl rfl (pu_not (hF.ev rfl)) ?_; clear hF; intro a hF
              refine s_done ?_
              refine hK15 _ _ ?_; clear hK15
              refine wp_cond_split (hF.ev rfl) (fun hc5 => ?_) (fun hc5 => ?_)
              · -- cond 5 true
                try simp only [decide_eq_true_eq, decide_eq_false_iff_not, Bool.not_eq_true', Bool.not_eq_false', Int.not_lt, Int.not_le, ne_eq, Decidable.not_not, Bool.or_eq_true, Bool.or_eq_false_iff, Bool.and_eq_true, Bool.and_eq_false_imp] at hc5
                simp at hc5
              · -- cond 5 false
                try simp only [decide_eq_true_eq, decide_eq_false_iff_not, Bool.not_eq_true', Bool.not_eq_false', Int.not_lt, Int.not_le, ne_eq, Decidable.not_not, Bool.or_eq_true, Bool.or_eq_false_iff, Bool.and_eq_true, Bool.and_eq_false_imp] at hc5
                refine wp_skip ?_
                refine blk_normal ?_
                refine hK9 _ _ ?_; clear hK9
                refine wp_region_lit ?_
                refine s_pu hF rfl rfl rfl (pu_move (hF.ev rfl)) ?_; clear hF; intro a hF
                refine s_pu hF rfl rfl rfl ((by exact pu_add64 (hF.ev rfl) (hF.ev rfl) (by omega))) ?_; clear hF; intro a hF
                refine s_pu hF rfl rfl rfl (pu_assign (hF.ev rfl)) ?_; clear hF; intro a hF
                refine s_done ?_
                first
                  | (replace hS := hS.sel [2, 1]
                     simp only [selR, nth, del] at hS
                     exact ⟨3000 - (i + 1), by omega, i + 1, ⟨q.g, q.gx, q.n, q.P.filter fun e => !decide (e.at_ = q.now + 1), q.now + 1, q.last⟩, _, _, rfl, by omega, ⟨hal.g, hal.gx, hal.n⟩, ⟨hq.toPOk.ring, hq.s1, hq.s2⟩, ht'.snoc (by omega), by simp; omega, by simp only; omega, hF.sub ⟨rfl, rfl, rfl, rfl, rfl, trivial⟩, hS⟩)
                  | exact ⟨3000 - (i + 1), by omega, i + 1, ⟨q.g, q.gx, q.n, q.P.filter fun e => !decide (e.at_ = q.now + 1), q.now + 1, q.last⟩, fs', ws', rfl, by omega, ⟨hal.g, hal.gx, hal.n⟩, ⟨hq.toPOk.ring, hq.s1, hq.s2⟩, ht', by omega, by simp only; omega, hF.sub ⟨rfl, rfl, rfl, rfl, rfl, trivial⟩, hS⟩
            · -- cond 4 false
              try simp only [decide_eq_true_eq, decide_eq_false_iff_not, Bool.not_eq_true', Bool.not_eq_false', Int.not_lt, Int.not_le, ne_eq, Decidable.not_not, Bool.or_eq_true, Bool.or_eq_false_iff, Bool.and_eq_true, Bool.and_eq_false_imp] at hc4
              replace hS := ((hS.sel [3, 1, 2]).drop 3).drop 3
              simp only [selR, nth, del] at hS
              refine wp_skip ?_
              refine hK13 _ _ ?_; clear hK13
              refine wp_seq_k fun K15 hK15 => ?_
              refine wp_region_lit ?_
              refine s_pu hF rfl rfl rfl (pu_move (hF.ev rfl)) ?_; clear hF; intro a hF
              refine s_pu hF rfl rfl rfl (pu_not (hF.ev rfl)) ?_; clear hF; intro a hF
              refine s_done ?_
              refine hK15 _ _ ?_; clear hK15
              refine wp_cond_split (hF.ev rfl) (fun hc5 => ?_) (fun hc5 => ?_)
              · -- cond 5 true
                try simp only [decide_eq_true_eq, decide_eq_false_iff_not, Bool.not_eq_true', Bool.not_eq_false', Int.not_lt, Int.not_le, ne_eq, Decidable.not_not, Bool.or_eq_true, Bool.or_eq_false_iff, Bool.and_eq_true, Bool.and_eq_false_imp] at hc5
                simp at hc5
              · -- cond 5 false
                try simp only [decide_eq_true_eq, decide_eq_false_iff_not, Bool.not_eq_true', Bool.not_eq_false', Int.not_lt, Int.not_le, ne_eq, Decidable.not_not, Bool.or_eq_true, Bool.or_eq_false_iff, Bool.and_eq_true, Bool.and_eq_false_imp] at hc5
                refine wp_skip ?_
                refine blk_normal ?_
                refine hK9 _ _ ?_; clear hK9
                refine wp_region_lit ?_
                refine s_pu hF rfl rfl rfl (pu_move (hF.ev rfl)) ?_; clear hF; intro a hF
                refine s_pu hF rfl rfl rfl ((by exact pu_add64 (hF.ev rfl) (hF.ev rfl) (by omega))) ?_; clear hF; intro a hF
                refine s_pu hF rfl rfl rfl (pu_assign (hF.ev rfl)) ?_; clear hF; intro a hF
                refine s_done ?_
                first
                  | (replace hS := hS.sel [2, 1]
                     simp only [selR, nth, del] at hS
                     exact ⟨3000 - (i + 1), by omega, i + 1, ⟨q.g, q.gx, q.n, q.P.filter fun e => !decide (e.at_ = q.now + 1), q.now + 1, q.last⟩, _, _, rfl, by omega, ⟨hal.g, hal.gx, hal.n⟩, ⟨hq.toPOk.ring, hq.s1, hq.s2⟩, ht'.snoc (by omega), by simp; omega, by simp only; omega, hF.sub ⟨rfl, rfl, rfl, rfl, rfl, trivial⟩, hS⟩)
                  | exact ⟨3000 - (i + 1), by omega, i + 1, ⟨q.g, q.gx, q.n, q.P.filter fun e => !decide (e.at_ = q.now + 1), q.now + 1, q.last⟩, fs', ws', rfl, by omega, ⟨hal.g, hal.gx, hal.n⟩, ⟨hq.toPOk.ring, hq.s1, hq.s2⟩, ht', by omega, by simp only; omega, hF.sub ⟨rfl, rfl, rfl, rfl, rfl, trivial⟩, hS⟩
          · -- cond 3 false
            try simp only [decide_eq_true_eq, decide_eq_false_iff_not, Bool.not_eq_true', Bool.not_eq_false', Int.not_lt, Int.not_le, ne_eq, Decidable.not_not, Bool.or_eq_true, Bool.or_eq_false_iff, Bool.and_eq_true, Bool.and_eq_false_imp] at hc3
            refine wp_exit ?_
            refine then_exit ?_
            refine then_exit ?_
            refine blk_exit ?_
            refine blk_normal ?_
            refine hK1 _ _ ?_; clear hK1
            refine wp_seq_k fun K9 hK9 => ?_
            refine wp_region_lit ?_
            refine s_pu hF rfl rfl rfl (pu_assign (hF.ev rfl)) ?_; clear hF; intro a hF
            refine s_done ?_
            refine hK9 _ _ ?_; clear hK9
            refine wp_ret ?_
            refine fin1 Try.results17 hF rfl ?_
            refine ⟨rfl, q, fs', ws', hal, hq, ht', fun h => absurd hc1 h, by omega, by omega, ?_⟩
            rw [hal.g, hal.gx]
            exact hS
    · -- cond 1 false
      try simp only [decide_eq_true_eq, decide_eq_false_iff_not, Bool.not_eq_true', Bool.not_eq_false', Int.not_lt, Int.not_le, ne_eq, Decidable.not_not, Bool.or_eq_true, Bool.or_eq_false_iff, Bool.and_eq_true, Bool.and_eq_false_imp] at hc1
      refine wp_seq_k fun K5 hK5 => ?_
      refine wp_region_lit ?_
      refine s_pu hF rfl rfl rfl (pu_eql (hF.ev rfl) (hF.ev rfl)) ?_; clear hF; intro a hF
      refine s_pu hF rfl rfl rfl (pu_assign (hF.ev rfl)) ?_; clear hF; intro a hF
      refine s_done ?_
      refine hK5 _ _ ?_; clear hK5
      refine wp_cond_split (hF.ev rfl) (fun hc6 => ?_) (fun hc6 => ?_)
      · -- cond 6 true
        try simp only [decide_eq_true_eq, decide_eq_false_iff_not, Bool.not_eq_true', Bool.not_eq_false', Int.not_lt, Int.not_le, ne_eq, Decidable.not_not, Bool.or_eq_true, Bool.or_eq_false_iff, Bool.and_eq_true, Bool.and_eq_false_imp] at hc6
        refine wp_seq_k fun K6 hK6 => ?_
        rcases find_case p.P N with hnf | ⟨A0, en, B0, hP, hA, hen⟩
        · -- gone
          refine wp_region_lit ?_
          refine s_pu hF rfl rfl rfl (pu_move (hF.ev rfl)) ?_; clear hF; intro a hF
          refine s_pu hF rfl rfl rfl ((by exact pu_field fd49_2 (hF.ev rfl))) ?_; clear hF; intro a hF
          refine s_rd hF rfl rfl rfl (by exact rd_load pl3 (hF.ev rfl) (hS.cellL (i := 0) rfl rfl)) ?_; clear hF; intro a hF
          replace hS := hS.front 1 rfl
          simp only [del] at hS
          refine s_en hF rfl rfl rfl (run_fn fk26 (hF.ev rfl) (hF.evs rfl)) (wCancelNo_i (t := N) hS hnf) ?_
          clear hS; rintro e w ⟨rfl, hS⟩
          refine ⟨_, rfl, ?_⟩; clear hF; intro a hF
          refine s_pu hF rfl rfl rfl (pu_move (hF.ev rfl)) ?_; clear hF; intro a hF
          refine s_pu hF rfl rfl rfl (pu_extract (hF.ev rfl) rfl) ?_; clear hF; intro a hF
          refine s_pu hF rfl rfl rfl (pu_extract (hF.ev rfl) rfl) ?_; clear hF; intro a hF
          refine s_pu hF rfl rfl rfl (pu_assign (hF.ev rfl)) ?_; clear hF; intro a hF
          refine s_pu hF rfl rfl rfl (pu_assign (hF.ev rfl)) ?_; clear hF; intro a hF
          refine s_done ?_
          refine hK6 _ _ ?_; clear hK6
          refine wp_seq_k fun K7 hK7 => ?_
          refine wp_region_lit ?_
          refine s_pu hF rfl rfl rfl (pu_move (hF.ev rfl)) ?_; clear hF; intro a hF
          refine s_pu hF rfl rfl rfl ((by exact pu_field fd49_2 (hF.ev rfl))) ?_; clear hF; intro a hF
          refine s_rd hF rfl rfl rfl (by exact rd_load pl3 (hF.ev rfl) (hS.cellL (i := 1) rfl rfl)) ?_; clear hF; intro a hF
          replace hS := hS.front 2 rfl
          simp only [del] at hS
          refine s_en hF rfl rfl rfl (run_fn fk27 (hF.ev rfl) (hF.evs rfl)) (rCancel_no (t := N) hS (by omega) hnf) ?_
          clear hS; rintro e w ⟨rfl, hS⟩
          refine ⟨_, rfl, ?_⟩; clear hF; intro a hF
          refine s_pu hF rfl rfl rfl (pu_move (hF.ev rfl)) ?_; clear hF; intro a hF
          refine s_pu hF rfl rfl rfl (pu_extract (hF.ev rfl) rfl) ?_; clear hF; intro a hF
          refine s_pu hF rfl rfl rfl (pu_extract (hF.ev rfl) rfl) ?_; clear hF; intro a hF
          refine s_pu hF rfl rfl rfl (pu_assign (hF.ev rfl)) ?_; clear hF; intro a hF
          refine s_pu hF rfl rfl rfl (pu_assign (hF.ev rfl)) ?_; clear hF; intro a hF
          refine s_done ?_
          refine hK7 _ _ ?_; clear hK7
          refine wp_seq_k fun K8 hK8 => ?_
          refine wp_region_lit ?_
          refine s_pu hF rfl rfl rfl (pu_move (hF.ev rfl)) ?_; clear hF; intro a hF
          refine s_pu hF rfl rfl rfl (pu_move (hF.ev rfl)) ?_; clear hF; intro a hF
          refine s_pu hF rfl rfl rfl (pu_eql (hF.ev rfl) (hF.ev rfl)) ?_; clear hF; intro a hF
          refine s_pu hF rfl rfl rfl (pu_move (hF.ev rfl)) ?_; clear hF; intro a hF
          refine fr_split hF (t := 109) rfl ?_ ?_
          · clear hF; intro hg109 hF   -- slot 109 true
            try simp only [decide_eq_true_eq, decide_eq_false_iff_not, Bool.not_eq_true', Bool.not_eq_false', Int.not_lt, Int.not_le, ne_eq, Decidable.not_not, Bool.or_eq_true, Bool.or_eq_false_iff, Bool.and_eq_true, Bool.and_eq_false_imp] at hg109
            refine s_pu hF rfl rfl rfl (pu_move (hF.ev rfl)) ?_; clear hF; intro a hF
            refine s_pu hF rfl rfl rfl (pu_move (hF.ev rfl)) ?_; clear hF; intro a hF
            refine s_pu hF rfl rfl rfl (pu_eql (hF.ev rfl) (hF.ev rfl)) ?_; clear hF; intro a hF
            refine s_pu hF rfl rfl rfl ((by exact pu_pick_t (hF.ev rfl) (hF.ev rfl))) ?_; clear hF; intro a hF
            refine s_pu hF rfl rfl rfl (pu_assign (hF.ev rfl)) ?_; clear hF; intro a hF
            refine s_done ?_
            refine hK8 _ _ ?_; clear hK8
            refine wp_ret ?_
            refine blk_ret ?_
            refine then_ret ?_
            refine fin1 Try.results17 hF rfl ?_
            replace hS := hS.sel [1, 0, 1, 0]
            simp only [selR, nth, del] at hS
            refine ⟨by simp, p, fs, ws, ⟨rfl, rfl, rfl⟩, ⟨hp.toPOk.more, hp.s1, hp.s2⟩, ht, fun _ => ⟨rfl, rfl⟩, by omega, by omega, hS.drop 3⟩
          · clear hF; intro hg109 hF   -- slot 109 false
            try simp only [decide_eq_true_eq, decide_eq_false_iff_not, Bool.not_eq_true', Bool.not_eq_false', Int.not_lt, Int.not_le, ne_eq, Decidable.not_not, Bool.or_eq_true, Bool.or_eq_false_iff, Bool.and_eq_true, Bool.and_eq_false_imp] at hg109
            simp at hg109
        · -- there
          have henm : en ∈ p.P := by rw [hP]; simp
          obtain ⟨x, hx⟩ := hp.nums en henm
          have hb0 := hp.at_ en henm
          have hrs := rising_split (hP ▸ hp.rising) hen
          refine wp_region_lit ?_
          refine s_pu hF rfl rfl rfl (pu_move (hF.ev rfl)) ?_; clear hF; intro a hF
          refine s_pu hF rfl rfl rfl ((by exact pu_field fd49_2 (hF.ev rfl))) ?_; clear hF; intro a hF
          refine s_rd hF rfl rfl rfl (by exact rd_load pl3 (hF.ev rfl) (hS.cellL (i := 0) rfl rfl)) ?_; clear hF; intro a hF
          replace hS := hS.front 1 rfl
          simp only [del] at hS
          refine s_en hF rfl rfl rfl (run_fn fk26 (hF.ev rfl) (hF.evs rfl)) (wCancel_i (t := N) hS hp.rising hp.s1 henm hen hb0.1 hroom) ?_
          clear hS; rintro e w ⟨rfl, hS⟩
          rw [hx]
          rw [show p.P.filter (fun x => !decide (x.timer = N)) = A0 ++ B0 by rw [hP]; exact hrs.1] at hS
          refine ⟨_, rfl, ?_⟩; clear hF; intro a hF
          refine s_pu hF rfl rfl rfl (pu_move (hF.ev rfl)) ?_; clear hF; intro a hF
          refine s_pu hF rfl rfl rfl (pu_extract (hF.ev rfl) rfl) ?_; clear hF; intro a hF
          refine s_pu hF rfl rfl rfl (pu_extract (hF.ev rfl) rfl) ?_; clear hF; intro a hF
          refine s_pu hF rfl rfl rfl (pu_assign (hF.ev rfl)) ?_; clear hF; intro a hF
          refine s_pu hF rfl rfl rfl (pu_assign (hF.ev rfl)) ?_; clear hF; intro a hF
          refine s_done ?_
          refine hK6 _ _ ?_; clear hK6
          refine wp_seq_k fun K7 hK7 => ?_
          refine wp_region_lit ?_
          refine s_pu hF rfl rfl rfl (pu_move (hF.ev rfl)) ?_; clear hF; intro a hF
          refine s_pu hF rfl rfl rfl ((by exact pu_field fd49_2 (hF.ev rfl))) ?_; clear hF; intro a hF
          refine s_rd hF rfl rfl rfl (by exact rd_load pl3 (hF.ev rfl) (hS.cellL (i := 1) rfl rfl)) ?_; clear hF; intro a hF
          replace hS := hS.front 2 rfl
          simp only [del] at hS
          refine s_en hF rfl rfl rfl (run_fn fk27 (hF.ev rfl) (hF.evs rfl)) (rCancel_c (t := N) hS (by omega) hP hA hen) ?_
          clear hS; rintro e w ⟨rfl, hS⟩
          rw [hx]
          refine ⟨_, rfl, ?_⟩; clear hF; intro a hF
          refine s_pu hF rfl rfl rfl (pu_move (hF.ev rfl)) ?_; clear hF; intro a hF
          refine s_pu hF rfl rfl rfl (pu_extract (hF.ev rfl) rfl) ?_; clear hF; intro a hF
          refine s_pu hF rfl rfl rfl (pu_extract (hF.ev rfl) rfl) ?_; clear hF; intro a hF
          refine s_pu hF rfl rfl rfl (pu_assign (hF.ev rfl)) ?_; clear hF; intro a hF
          refine s_pu hF rfl rfl rfl (pu_assign (hF.ev rfl)) ?_; clear hF; intro a hF
          refine s_done ?_
          refine hK7 _ _ ?_; clear hK7
          refine wp_seq_k fun K8 hK8 => ?_
          refine wp_region_lit ?_
          refine s_pu hF rfl rfl rfl (pu_move (hF.ev rfl)) ?_; clear hF; intro a hF
          refine s_pu hF rfl rfl rfl (pu_move (hF.ev rfl)) ?_; clear hF; intro a hF
          refine s_pu hF rfl rfl rfl (pu_eql (hF.ev rfl) (hF.ev rfl)) ?_; clear hF; intro a hF
          refine s_pu hF rfl rfl rfl (pu_move (hF.ev rfl)) ?_; clear hF; intro a hF
          refine fr_split hF (t := 109) rfl ?_ ?_
          · clear hF; intro hg109 hF   -- slot 109 true
            try simp only [decide_eq_true_eq, decide_eq_false_iff_not, Bool.not_eq_true', Bool.not_eq_false', Int.not_lt, Int.not_le, ne_eq, Decidable.not_not, Bool.or_eq_true, Bool.or_eq_false_iff, Bool.and_eq_true, Bool.and_eq_false_imp] at hg109
            refine s_pu hF rfl rfl rfl (pu_move (hF.ev rfl)) ?_; clear hF; intro a hF
            refine s_pu hF rfl rfl rfl (pu_move (hF.ev rfl)) ?_; clear hF; intro a hF
            refine s_pu hF rfl rfl rfl (pu_eql (hF.ev rfl) (hF.ev rfl)) ?_; clear hF; intro a hF
            refine s_pu hF rfl rfl rfl ((by exact pu_pick_t (hF.ev rfl) (hF.ev rfl))) ?_; clear hF; intro a hF
            refine s_pu hF rfl rfl rfl (pu_assign (hF.ev rfl)) ?_; clear hF; intro a hF
            refine s_done ?_
            refine hK8 _ _ ?_; clear hK8
            refine wp_ret ?_
            refine blk_ret ?_
            refine then_ret ?_
            refine fin1 Try.results17 hF rfl ?_
            replace hS := hS.sel [1, 0, 1, 0]
            simp only [selR, nth, del] at hS
            have hpk : POk (A0 ++ B0) p.now p.last (K + 1) := by
              have h9 := hp.toPOk.more.filter (fun x => !decide (x.timer = N))
              rwa [show p.P.filter (fun x => !decide (x.timer = N)) = A0 ++ B0 by rw [hP]; exact hrs.1] at h9
            refine ⟨by simp, ⟨p.g, p.gx, p.n, A0 ++ B0, p.now, p.last⟩, fs, ws, ⟨rfl, rfl, rfl⟩, ⟨hpk, hp.s1, hp.s2⟩, ht, fun _ => ⟨rfl, rfl⟩, by omega, by simp only; omega, hS.drop 3⟩
          · clear hF; intro hg109 hF   -- slot 109 false
            try simp only [decide_eq_true_eq, decide_eq_false_iff_not, Bool.not_eq_true', Bool.not_eq_false', Int.not_lt, Int.not_le, ne_eq, Decidable.not_not, Bool.or_eq_true, Bool.or_eq_false_iff, Bool.and_eq_true, Bool.and_eq_false_imp] at hg109
            simp at hg109
      · -- cond 6 false
        try simp only [decide_eq_true_eq, decide_eq_false_iff_not, Bool.not_eq_true', Bool.not_eq_false', Int.not_lt, Int.not_le, ne_eq, Decidable.not_not, Bool.or_eq_true, Bool.or_eq_false_iff, Bool.and_eq_true, Bool.and_eq_false_imp] at hc6
        refine wp_seq_k fun K6 hK6 => ?_
        refine wp_region_lit ?_
        refine s_pu hF rfl rfl rfl (pu_eql (hF.ev rfl) (hF.ev rfl)) ?_; clear hF; intro a hF
        refine s_pu hF rfl rfl rfl (pu_assign (hF.ev rfl)) ?_; clear hF; intro a hF
        refine s_done ?_
        refine hK6 _ _ ?_; clear hK6
        refine wp_cond_split (hF.ev rfl) (fun hc7 => ?_) (fun hc7 => ?_)
        · -- cond 7 true
          try simp only [decide_eq_true_eq, decide_eq_false_iff_not, Bool.not_eq_true', Bool.not_eq_false', Int.not_lt, Int.not_le, ne_eq, Decidable.not_not, Bool.or_eq_true, Bool.or_eq_false_iff, Bool.and_eq_true, Bool.and_eq_false_imp] at hc7
          refine wp_seq_k fun K7 hK7 => ?_
          rcases find_case p.P N with hnf | ⟨A0, en, B0, hP, hA, hen⟩
          · -- lgone
            refine wp_region_lit ?_
            refine s_pu hF rfl rfl rfl (pu_move (hF.ev rfl)) ?_; clear hF; intro a hF
            refine s_pu hF rfl rfl rfl ((by exact pu_field fd49_2 (hF.ev rfl))) ?_; clear hF; intro a hF
            refine s_rd hF rfl rfl rfl (by exact rd_load pl3 (hF.ev rfl) (hS.cellL (i := 0) rfl rfl)) ?_; clear hF; intro a hF
            replace hS := hS.front 1 rfl
            simp only [del] at hS
            refine s_en hF rfl rfl rfl (run_fn fk31 (hF.ev rfl) (hF.evs rfl)) (wLeftNo_i (t := N) hS hnf) ?_
            clear hS; rintro e w ⟨rfl, hS⟩
            refine ⟨_, rfl, ?_⟩; clear hF; intro a hF
            refine s_pu hF rfl rfl rfl (pu_move (hF.ev rfl)) ?_; clear hF; intro a hF
            refine s_pu hF rfl rfl rfl (pu_extract (hF.ev rfl) rfl) ?_; clear hF; intro a hF
            refine s_pu hF rfl rfl rfl (pu_extract (hF.ev rfl) rfl) ?_; clear hF; intro a hF
            refine s_pu hF rfl rfl rfl (pu_assign (hF.ev rfl)) ?_; clear hF; intro a hF
            refine s_pu hF rfl rfl rfl (pu_assign (hF.ev rfl)) ?_; clear hF; intro a hF
            refine s_done ?_
            refine hK7 _ _ ?_; clear hK7
            refine wp_seq_k fun K8 hK8 => ?_
            refine wp_region_lit ?_
            refine s_pu hF rfl rfl rfl (pu_move (hF.ev rfl)) ?_; clear hF; intro a hF
            refine s_pu hF rfl rfl rfl ((by exact pu_field fd49_2 (hF.ev rfl))) ?_; clear hF; intro a hF
            refine s_rd hF rfl rfl rfl (by exact rd_load pl3 (hF.ev rfl) (hS.cellL (i := 1) rfl rfl)) ?_; clear hF; intro a hF
            replace hS := hS.front 2 rfl
            simp only [del] at hS
            refine s_en hF rfl rfl rfl (run_fn fk43 (hF.ev rfl) (hF.evs rfl)) (rLeft_no (t := N) hS (by omega) hnf) ?_
            clear hS; rintro e w ⟨rfl, hS⟩
            refine ⟨_, rfl, ?_⟩; clear hF; intro a hF
            refine s_pu hF rfl rfl rfl (pu_move (hF.ev rfl)) ?_; clear hF; intro a hF
            refine s_pu hF rfl rfl rfl (pu_extract (hF.ev rfl) rfl) ?_; clear hF; intro a hF
            refine s_pu hF rfl rfl rfl (pu_extract (hF.ev rfl) rfl) ?_; clear hF; intro a hF
            refine s_pu hF rfl rfl rfl (pu_assign (hF.ev rfl)) ?_; clear hF; intro a hF
            refine s_pu hF rfl rfl rfl (pu_assign (hF.ev rfl)) ?_; clear hF; intro a hF
            refine s_done ?_
            refine hK8 _ _ ?_; clear hK8
            refine wp_seq_k fun K9 hK9 => ?_
            refine wp_region_lit ?_
            refine s_pu hF rfl rfl rfl (pu_move (hF.ev rfl)) ?_; clear hF; intro a hF
            refine s_pu hF rfl rfl rfl (pu_move (hF.ev rfl)) ?_; clear hF; intro a hF
            refine s_pu hF rfl rfl rfl (pu_eql (hF.ev rfl) (hF.ev rfl)) ?_; clear hF; intro a hF
            refine s_pu hF rfl rfl rfl (pu_move (hF.ev rfl)) ?_; clear hF; intro a hF
            refine fr_split hF (t := 133) rfl ?_ ?_
            · clear hF; intro hg133 hF   -- slot 133 true
              try simp only [decide_eq_true_eq, decide_eq_false_iff_not, Bool.not_eq_true', Bool.not_eq_false', Int.not_lt, Int.not_le, ne_eq, Decidable.not_not, Bool.or_eq_true, Bool.or_eq_false_iff, Bool.and_eq_true, Bool.and_eq_false_imp] at hg133
              refine s_pu hF rfl rfl rfl (pu_move (hF.ev rfl)) ?_; clear hF; intro a hF
              refine s_pu hF rfl rfl rfl (pu_move (hF.ev rfl)) ?_; clear hF; intro a hF
              refine s_pu hF rfl rfl rfl (pu_eql (hF.ev rfl) (hF.ev rfl)) ?_; clear hF; intro a hF
              refine s_pu hF rfl rfl rfl ((by exact pu_pick_t (hF.ev rfl) (hF.ev rfl))) ?_; clear hF; intro a hF
              refine s_pu hF rfl rfl rfl (pu_assign (hF.ev rfl)) ?_; clear hF; intro a hF
              refine s_done ?_
              refine hK9 _ _ ?_; clear hK9
              refine wp_ret ?_
              refine blk_ret ?_
              refine then_ret ?_
              refine fin1 Try.results17 hF rfl ?_
              replace hS := hS.sel [1, 0, 1, 0]
              simp only [selR, nth, del] at hS
              refine ⟨by simp, p, fs, ws, ⟨rfl, rfl, rfl⟩, ⟨hp.toPOk.more, hp.s1, hp.s2⟩, ht, fun _ => ⟨rfl, rfl⟩, by omega, by omega, hS.drop 3⟩
            · clear hF; intro hg133 hF   -- slot 133 false
              try simp only [decide_eq_true_eq, decide_eq_false_iff_not, Bool.not_eq_true', Bool.not_eq_false', Int.not_lt, Int.not_le, ne_eq, Decidable.not_not, Bool.or_eq_true, Bool.or_eq_false_iff, Bool.and_eq_true, Bool.and_eq_false_imp] at hg133
              simp at hg133
          · -- lthere
            have henm : en ∈ p.P := by rw [hP]; simp
            have hb0 := hp.at_ en henm
            refine wp_region_lit ?_
            refine s_pu hF rfl rfl rfl (pu_move (hF.ev rfl)) ?_; clear hF; intro a hF
            refine s_pu hF rfl rfl rfl ((by exact pu_field fd49_2 (hF.ev rfl))) ?_; clear hF; intro a hF
            refine s_rd hF rfl rfl rfl (by exact rd_load pl3 (hF.ev rfl) (hS.cellL (i := 0) rfl rfl)) ?_; clear hF; intro a hF
            replace hS := hS.front 1 rfl
            simp only [del] at hS
            refine s_en hF rfl rfl rfl (run_fn fk31 (hF.ev rfl) (hF.evs rfl)) (wLeft_i (t := N) hS hp.rising henm hen (by omega)) ?_
            clear hS; rintro e w ⟨rfl, hS⟩
            refine ⟨_, rfl, ?_⟩; clear hF; intro a hF
            refine s_pu hF rfl rfl rfl (pu_move (hF.ev rfl)) ?_; clear hF; intro a hF
            refine s_pu hF rfl rfl rfl (pu_extract (hF.ev rfl) rfl) ?_; clear hF; intro a hF
            refine s_pu hF rfl rfl rfl (pu_extract (hF.ev rfl) rfl) ?_; clear hF; intro a hF
            refine s_pu hF rfl rfl rfl (pu_assign (hF.ev rfl)) ?_; clear hF; intro a hF
            refine s_pu hF rfl rfl rfl (pu_assign (hF.ev rfl)) ?_; clear hF; intro a hF
            refine s_done ?_
            refine hK7 _ _ ?_; clear hK7
            refine wp_seq_k fun K8 hK8 => ?_
            refine wp_region_lit ?_
            refine s_pu hF rfl rfl rfl (pu_move (hF.ev rfl)) ?_; clear hF; intro a hF
            refine s_pu hF rfl rfl rfl ((by exact pu_field fd49_2 (hF.ev rfl))) ?_; clear hF; intro a hF
            refine s_rd hF rfl rfl rfl (by exact rd_load pl3 (hF.ev rfl) (hS.cellL (i := 1) rfl rfl)) ?_; clear hF; intro a hF
            replace hS := hS.front 2 rfl
            simp only [del] at hS
            refine s_en hF rfl rfl rfl (run_fn fk43 (hF.ev rfl) (hF.evs rfl)) (rLeft_c (t := N) hS (by omega) hP hA hen (by omega)) ?_
            clear hS; rintro e w ⟨rfl, hS⟩
            refine ⟨_, rfl, ?_⟩; clear hF; intro a hF
            refine s_pu hF rfl rfl rfl (pu_move (hF.ev rfl)) ?_; clear hF; intro a hF
            refine s_pu hF rfl rfl rfl (pu_extract (hF.ev rfl) rfl) ?_; clear hF; intro a hF
            refine s_pu hF rfl rfl rfl (pu_extract (hF.ev rfl) rfl) ?_; clear hF; intro a hF
            refine s_pu hF rfl rfl rfl (pu_assign (hF.ev rfl)) ?_; clear hF; intro a hF
            refine s_pu hF rfl rfl rfl (pu_assign (hF.ev rfl)) ?_; clear hF; intro a hF
            refine s_done ?_
            refine hK8 _ _ ?_; clear hK8
            refine wp_seq_k fun K9 hK9 => ?_
            refine wp_region_lit ?_
            refine s_pu hF rfl rfl rfl (pu_move (hF.ev rfl)) ?_; clear hF; intro a hF
            refine s_pu hF rfl rfl rfl (pu_move (hF.ev rfl)) ?_; clear hF; intro a hF
            refine s_pu hF rfl rfl rfl (pu_eql (hF.ev rfl) (hF.ev rfl)) ?_; clear hF; intro a hF
            refine s_pu hF rfl rfl rfl (pu_move (hF.ev rfl)) ?_; clear hF; intro a hF
            refine fr_split hF (t := 133) rfl ?_ ?_
            · clear hF; intro hg133 hF   -- slot 133 true
              try simp only [decide_eq_true_eq, decide_eq_false_iff_not, Bool.not_eq_true', Bool.not_eq_false', Int.not_lt, Int.not_le, ne_eq, Decidable.not_not, Bool.or_eq_true, Bool.or_eq_false_iff, Bool.and_eq_true, Bool.and_eq_false_imp] at hg133
              refine s_pu hF rfl rfl rfl (pu_move (hF.ev rfl)) ?_; clear hF; intro a hF
              refine s_pu hF rfl rfl rfl (pu_move (hF.ev rfl)) ?_; clear hF; intro a hF
              refine s_pu hF rfl rfl rfl (pu_eql (hF.ev rfl) (hF.ev rfl)) ?_; clear hF; intro a hF
              refine s_pu hF rfl rfl rfl ((by exact pu_pick_t (hF.ev rfl) (hF.ev rfl))) ?_; clear hF; intro a hF
              refine s_pu hF rfl rfl rfl (pu_assign (hF.ev rfl)) ?_; clear hF; intro a hF
              refine s_done ?_
              refine hK9 _ _ ?_; clear hK9
              refine wp_ret ?_
              refine blk_ret ?_
              refine then_ret ?_
              refine fin1 Try.results17 hF rfl ?_
              replace hS := hS.sel [1, 0, 1, 0]
              simp only [selR, nth, del] at hS
              refine ⟨by simp, p, fs, ws, ⟨rfl, rfl, rfl⟩, ⟨hp.toPOk.more, hp.s1, hp.s2⟩, ht, fun _ => ⟨rfl, rfl⟩, by omega, by omega, hS.drop 3⟩
            · clear hF; intro hg133 hF   -- slot 133 false
              try simp only [decide_eq_true_eq, decide_eq_false_iff_not, Bool.not_eq_true', Bool.not_eq_false', Int.not_lt, Int.not_le, ne_eq, Decidable.not_not, Bool.or_eq_true, Bool.or_eq_false_iff, Bool.and_eq_true, Bool.and_eq_false_imp] at hg133
              simp at hg133
        · -- cond 7 false
          try simp only [decide_eq_true_eq, decide_eq_false_iff_not, Bool.not_eq_true', Bool.not_eq_false', Int.not_lt, Int.not_le, ne_eq, Decidable.not_not, Bool.or_eq_true, Bool.or_eq_false_iff, Bool.and_eq_true, Bool.and_eq_false_imp] at hc7
          refine wp_seq_k fun K7 hK7 => ?_
          refine wp_region_lit ?_
          refine s_pu hF rfl rfl rfl (pu_eql (hF.ev rfl) (hF.ev rfl)) ?_; clear hF; intro a hF
          refine s_pu hF rfl rfl rfl (pu_assign (hF.ev rfl)) ?_; clear hF; intro a hF
          refine s_done ?_
          refine hK7 _ _ ?_; clear hK7
          refine wp_cond_split (hF.ev rfl) (fun hc8 => ?_) (fun hc8 => ?_)
          · -- cond 8 true
            try simp only [decide_eq_true_eq, decide_eq_false_iff_not, Bool.not_eq_true', Bool.not_eq_false', Int.not_lt, Int.not_le, ne_eq, Decidable.not_not, Bool.or_eq_true, Bool.or_eq_false_iff, Bool.and_eq_true, Bool.and_eq_false_imp] at hc8
            refine wp_seq_k fun K8 hK8 => ?_
            refine wp_region_lit ?_
            refine s_pu hF rfl rfl rfl (pu_move (hF.ev rfl)) ?_; clear hF; intro a hF
            replace hS := hS.front 2 rfl
            simp only [del] at hS
            refine s_en hF rfl rfl rfl (run_fn fk22 (hF.ev rfl) (hF.evs rfl)) (rAll_c hS hp.rising (by omega)) ?_
            clear hS; rintro e w ⟨A3, c3, rfl, hS⟩
            refine ⟨_, rfl, ?_⟩; clear hF; intro a hF
            refine s_pu hF rfl rfl rfl (pu_assign (hF.ev rfl)) ?_; clear hF; intro a hF
            refine s_done ?_
            replace hS := hS.sel [3]
            simp only [selR, nth, del] at hS
            refine hK8 _ _ ?_; clear hK8
            refine wp_seq_k fun K9 hK9 => ?_
            refine wp_region_lit ?_
            refine s_pu hF rfl rfl rfl (pu_move (hF.ev rfl)) ?_; clear hF; intro a hF
            refine s_pu hF rfl rfl rfl (pu_move (hF.ev rfl)) ?_; clear hF; intro a hF
            refine s_pu hF rfl rfl rfl ((by exact pu_field fd49_2 (hF.ev rfl))) ?_; clear hF; intro a hF
            refine s_rd hF rfl rfl rfl (by exact rd_load pl3 (hF.ev rfl) (hS.cellL (i := 3) rfl rfl)) ?_; clear hF; intro a hF
            refine s_en hF rfl rfl rfl (run_fn fk21 (hF.ev rfl) (hF.evs rfl)) (goes_c hS hp.nums hp.s1 hp.s2 hp.rising hroom) ?_
            clear hS; rintro e w ⟨rfl, hS⟩
            refine ⟨_, rfl, ?_⟩; clear hF; intro a hF
            refine s_pu hF rfl rfl rfl (pu_assign (hF.ev rfl)) ?_; clear hF; intro a hF
            refine s_done ?_
            refine hK9 _ _ ?_; clear hK9
            refine wp_seq_k fun K10 hK10 => ?_
            refine wp_region_lit ?_
            refine s_pu hF rfl rfl rfl (pu_move (hF.ev rfl)) ?_; clear hF; intro a hF
            refine s_pu hF rfl rfl rfl (pu_move (hF.ev rfl)) ?_; clear hF; intro a hF
            refine s_en hF rfl rfl rfl (run_fn fk21 (hF.ev rfl) (hF.evs rfl)) (goes_c hS hp.nums hp.s1 hp.s2 hp.rising hroom) ?_
            clear hS; rintro e w ⟨rfl, hS⟩
            refine ⟨_, rfl, ?_⟩; clear hF; intro a hF
            refine s_pu hF rfl rfl rfl (pu_assign (hF.ev rfl)) ?_; clear hF; intro a hF
            refine s_done ?_
            refine hK10 _ _ ?_; clear hK10
            refine wp_seq_k fun K11 hK11 => ?_
            refine wp_region_lit ?_
            refine s_pu hF rfl rfl rfl (pu_move (hF.ev rfl)) ?_; clear hF; intro a hF
            refine s_pu hF rfl rfl rfl (pu_move (hF.ev rfl)) ?_; clear hF; intro a hF
            refine s_pu hF rfl rfl rfl (pu_move (hF.ev rfl)) ?_; clear hF; intro a hF
            refine s_pu hF rfl rfl rfl ((by exact pu_pick_t (hF.ev rfl) (hF.ev rfl))) ?_; clear hF; intro a hF
            refine s_pu hF rfl rfl rfl (pu_assign (hF.ev rfl)) ?_; clear hF; intro a hF
            refine s_done ?_
            refine hK11 _ _ ?_; clear hK11
            refine wp_ret ?_
            refine blk_ret ?_
            refine then_ret ?_
            refine fin1 Try.results17 hF rfl ?_
            replace hS : Sat w0 w (whC_i p.g p.n p.P p.now p.last :: refC p.gx p.P p.now p.last :: bkC b fs ws :: F) := by
              first
                | exact hS.tail
                | exact ((hS.sel [0, 1, 2]).drop 3).drop 3
            exact ⟨rfl, p, fs, ws, ⟨rfl, rfl, rfl⟩, ⟨hp.toPOk.more, hp.s1, hp.s2⟩, ht, fun _ => ⟨rfl, rfl⟩, by omega, by omega, hS⟩
          · -- cond 8 false
            try simp only [decide_eq_true_eq, decide_eq_false_iff_not, Bool.not_eq_true', Bool.not_eq_false', Int.not_lt, Int.not_le, ne_eq, Decidable.not_not, Bool.or_eq_true, Bool.or_eq_false_iff, Bool.and_eq_true, Bool.and_eq_false_imp] at hc8
            refine wp_skip ?_
            refine blk_normal ?_
            refine hK1 _ _ ?_; clear hK1
            refine wp_seq_k fun K8 hK8 => ?_
            refine wp_region_lit ?_
            refine s_pu hF rfl rfl rfl (pu_assign (hF.ev rfl)) ?_; clear hF; intro a hF
            refine s_done ?_
            refine hK8 _ _ ?_; clear hK8
            refine wp_ret ?_
            refine fin1 Try.results17 hF rfl ?_
            replace hS : Sat w0 w (whC_i p.g p.n p.P p.now p.last :: refC p.gx p.P p.now p.last :: bkC b fs ws :: F) := by
              first
                | exact hS.tail
                | exact ((hS.sel [0, 1, 2]).drop 3).drop 3
            exact ⟨rfl, p, fs, ws, ⟨rfl, rfl, rfl⟩, ⟨hp.toPOk.more, hp.s1, hp.s2⟩, ht, fun _ => ⟨rfl, rfl⟩, by omega, by omega, hS⟩
end
end Go.Proofs.Ytbpkfifiigpdcaa
