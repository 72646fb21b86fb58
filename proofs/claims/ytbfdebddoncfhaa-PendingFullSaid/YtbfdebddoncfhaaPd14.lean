import Derived.Test.YtbfdebddoncfhaaPd13
/-! PendingFull: the walk. -/
namespace Go.Proofs.Ytbfdebddoncfhaa
open Go Go.RowKit Go.Proofs.Ytbfdebddoncfhaa.Sk
set_option linter.unusedVariables false
set_option linter.unusedSimpArgs false
set_option maxRecDepth 100000

def nats (l : List Nat) : List Int := l.map fun i : Nat => (i : Int)
theorem nats_len {l : List Nat} : (nats l).length = l.length := by simp [nats]
theorem nats_getD {l : List Nat} {k i : Nat} (h : l[k]? = some i) : (nats l).getD k 0 = (i : Int) := by simp [nats, List.getD_eq_getElem?_getD, h]
theorem list_cut {α : Type} {A B : List α} {x : α} {k m : Nat} (hk : A.length = k) (hm : B.length = m) : (A ++ x :: B).take k = A ∧ ((A ++ x :: B).drop (k + 1)).take m = B := by
  subst hk; subst hm
  refine ⟨by simp, ?_⟩
  rw [show A ++ x :: B = (A ++ [x]) ++ B by simp, List.drop_left' (by simp), List.take_of_length_le (Nat.le_refl _)]
theorem pendingFull_walk (W : World) (x0 : Int) (hx0 : (Lit.int .i64 x0).wf = true) (a1 : Option Addr) (l1 q1 : Nat) (z1 : List Int) (h1 : IsRow .i64 W a1 l1 q1 z1) (hl1 : l1 * 8 ≤ 140737488351232) :
    Calls Try.prog 3 #[.int .i64 x0, .slice a1 l1 q1] W fun e w' => e = .returned (.bool true) ∧ Below W.heap.size W w' := by
  have hx0 := wf64 hx0
  have hz1 := h1.ints
  have hS0 := sat_whole W
  obtain ⟨w, hw⟩ : ∃ w, w = W := ⟨_, rfl⟩
  have hS : Sat W w [whole W] := by rw [hw]; exact hS0
  rw [show Calls Try.prog 3 #[.int .i64 x0, .slice a1 l1 q1] W = Calls Try.prog 3 #[.int .i64 x0, .slice a1 l1 q1] w by rw [hw]]
  clear hw hS0
  refine enter Try.func3 rfl Try.ntmps3 (Nat.le_of_ble_eq_true rfl) fun a hF => ?_
  refine wp_seq_k fun K0 hK0 => ?_
  -- region 0
  refine wp_region_lit ?_
  refine s_pu hF rfl rfl rfl (pu_assign (hF.ev rfl)) ?_; clear hF; intro a hF
  refine s_done ?_
  refine hK0 _ _ ?_; clear hK0
  refine wp_seq_k fun K1 hK1 => ?_
  -- region 1
  refine wp_region_lit ?_
  refine s_pu hF rfl rfl rfl (pu_move (hF.ev rfl)) ?_; clear hF; intro a hF
  refine s_en hF rfl rfl rfl (run_fn fk7 (hF.ev rfl) (hF.evs rfl)) (pick_c hS (by omega) hx0.1 hx0.2) ?_
  clear hS; rintro e w ⟨pm, _, hpm, rfl, hS⟩
  refine ⟨_, rfl, ?_⟩; clear hF; intro a hF
  refine s_pu hF rfl rfl rfl ((by first | exact pu_add64 (hF.ev rfl) (hF.ev rfl) (by omega) | exact pu_add (hF.ev rfl) (hF.ev rfl))) ?_; clear hF; intro a hF
  refine s_pu hF rfl rfl rfl (pu_assign (hF.ev rfl)) ?_; clear hF; intro a hF
  refine s_done ?_
  refine hK1 _ _ ?_; clear hK1
  refine wp_seq_k fun K2 hK2 => ?_
  -- region 2
  refine wp_region_lit ?_
  obtain ⟨m, hm⟩ : ∃ m : Nat, (m : Int) = 1 + (pm : Int) := ⟨pm + 1, by omega⟩
  rw [← hm] at hF
  have hm1 : 1 ≤ m := by omega
  have hm3 : m ≤ 300 := by omega
  refine s_pu hF rfl rfl rfl (pu_move (hF.ev rfl)) ?_; clear hF; intro a hF
  refine s_en hF rfl rfl rfl (run_fn fk8 (hF.ev rfl) (hF.evs rfl)) (new_c (k := 1) hS (by unfold newOk; omega)) ?_
  clear hS; rintro e w ⟨g, rfl, hS⟩
  refine ⟨_, rfl, ?_⟩; clear hF; intro a hF
  refine s_pu hF rfl rfl rfl (pu_move (hF.ev rfl)) ?_; clear hF; intro a hF
  refine s_pu hF rfl rfl rfl (pu_extract (hF.ev rfl) rfl) ?_; clear hF; intro a hF
  refine s_pu hF rfl rfl rfl (pu_extract (hF.ev rfl) rfl) ?_; clear hF; intro a hF
  refine s_pu hF rfl rfl rfl (pu_assign (hF.ev rfl)) ?_; clear hF; intro a hF
  refine s_pu hF rfl rfl rfl (pu_assign (hF.ev rfl)) ?_; clear hF; intro a hF
  refine s_done ?_
  refine hK2 _ _ ?_; clear hK2
  refine wp_seq_k fun K3 hK3 => ?_
  refine wp_seq_k fun K4 hK4 => ?_
  -- region 3
  refine wp_region_lit ?_
  refine s_pu hF rfl rfl rfl (pu_move (hF.ev rfl)) ?_; clear hF; intro a hF
  refine s_pu hF rfl rfl rfl (pu_neq (hF.ev rfl) (hF.ev rfl)) ?_; clear hF; intro a hF
  refine s_pu hF rfl rfl rfl (pu_move (hF.ev rfl)) ?_; clear hF; intro a hF
  refine s_pu hF rfl rfl rfl (pu_move (hF.ev rfl)) ?_; clear hF; intro a hF
  refine s_pu hF rfl rfl rfl (pu_peq Try.underlying24 (hF.ev rfl) (hF.ev rfl)) ?_; clear hF; intro a hF
  refine s_pu hF rfl rfl rfl ((by first | exact pu_pick_t (hF.ev rfl) (hF.ev rfl) | exact pu_pick_f (hF.ev rfl) (hF.ev rfl) | exact pu_pick (hF.ev rfl) (hF.ev rfl) (hF.ev rfl))) ?_; clear hF; intro a hF
  refine s_done ?_
  refine hK4 _ _ ?_; clear hK4
  refine wp_cond_false (hF.ev rfl) ?_
  refine wp_skip ?_
  refine hK3 _ _ ?_; clear hK3
  refine wp_seq_k fun K5 hK5 => ?_
  -- region 5
  refine wp_region_lit ?_
  refine s_pu hF rfl rfl rfl (pu_assign (hF.ev rfl)) ?_; clear hF; intro a hF
  refine s_done ?_
  refine hK5 _ _ ?_; clear hK5
  refine wp_seq_k fun K6 hK6 => ?_
  refine wp_seq_k fun K7 hK7 => ?_
  -- region 6
  refine wp_region_lit ?_
  refine s_pu hF rfl rfl rfl (pu_assign (hF.ev rfl)) ?_; clear hF; intro a hF
  refine s_done ?_
  refine hK7 _ _ ?_; clear hK7
  refine wp_block ?_
  replace hS := row_nil (E := 3) (sz := 1) hS
  refine wp_ind (fun j a w => ∃ (n : Nat) (A : Option Addr) (c : Nat), j = m - n ∧ n ≤ m ∧ Fr a 160 [(1, .slice a1 l1 q1), (5, .int .i64 m), (6, .pointer (some ⟨g, 0, none⟩)), (8, .slice A n c), (9, .int .i64 n)] ∧
    Sat W w [rowC 3 1 (.slice A n c) n (ints (nats (List.range n))), tabC 1 g (fT m (List.range n) n), whole W]) m
    ⟨0, none, 0, rfl, by omega, hF.sub ⟨rfl, rfl, rfl, rfl, rfl, trivial⟩, hS⟩ ?_
  clear hS hF
  rintro j a w ⟨n, A, c, rfl, hn, hF, hS⟩
  refine wp_seq_k fun K8 hK8 => ?_
  refine wp_seq_k fun K9 hK9 => ?_
  -- region 7
  refine wp_region_lit ?_
  refine s_pu hF rfl rfl rfl (pu_move (hF.ev rfl)) ?_; clear hF; intro a hF
  refine s_pu hF rfl rfl rfl (pu_move (hF.ev rfl)) ?_; clear hF; intro a hF
  refine s_pu hF rfl rfl rfl (pu_lss (hF.ev rfl) (hF.ev rfl)) ?_; clear hF; intro a hF
  refine s_done ?_
  refine hK9 _ _ ?_; clear hK9
  refine wp_cond_split (hF.ev rfl) (fun hc1 => ?_) (fun hc1 => ?_)
  · -- cond 1 true
    try simp only [decide_eq_true_eq, decide_eq_false_iff_not, Bool.not_eq_true', Bool.not_eq_false', Int.not_lt, Int.not_le, ne_eq, Decidable.not_not, Bool.or_eq_true, Bool.or_eq_false_iff, Bool.and_eq_true, Bool.and_eq_false_imp] at hc1
    have hnm : n < m := by omega
    have hlt : ∀ x ∈ List.range n, x < n := fun x hx => List.mem_range.1 hx
    have hnn : n ∉ List.range n := by simp
    have hwl : (waitsL ((List.range n).map fE)).length = n := by rw [f_waits]; simp
    refine wp_skip ?_
    refine hK8 _ _ ?_; clear hK8
    refine wp_seq_k fun K10 hK10 => ?_
    refine wp_block ?_
    refine wp_seq_k fun K11 hK11 => ?_
    -- region 9
    refine wp_region_lit ?_
    refine s_pu hF rfl rfl rfl (pu_move (hF.ev rfl)) ?_; clear hF; intro a hF
    refine s_pu hF rfl rfl rfl (pu_move (hF.ev rfl)) ?_; clear hF; intro a hF
    refine s_en hF rfl rfl rfl (run_fn fk10 (hF.ev rfl) (hF.evs rfl)) (request_c hS (by omega)) ?_
    clear hS; rintro e w ⟨_, _, _, _, _, _, rfl, hS⟩
    refine ⟨_, rfl, ?_⟩; clear hF; intro a hF
    refine s_en hF rfl rfl rfl (run_fn fk9 (hF.ev rfl) (hF.evs rfl)) (add_own (T := fT m (List.range n) n) (hS.sel [0, 1]) (f_key hnn) (f_way hnn) (by simp only [fT]; omega) (f_nx hlt) (f_rising List.pairwise_lt_range hlt) (by simp [fT]) (by simp [fT]) (by simp [fT]) (by simp [fT]) (by simp [fT]) (by simp only [fT]; omega) (by simp [fT]) (by simp only [fT]; omega) (by simp [fT]; omega) (by simp [fT]; omega)) ?_
    clear hS; rintro e w ⟨rfl, hS⟩
    rw [f_add, ← List.range_succ] at hS
    replace hS := hS.sel [1]
    simp only [selR, nth, del] at hS
    refine ⟨_, rfl, ?_⟩; clear hF; intro a hF
    refine s_pu hF rfl rfl rfl (pu_assign (hF.ev rfl)) ?_; clear hF; intro a hF
    refine s_done ?_
    refine hK11 _ _ ?_; clear hK11
    refine wp_seq_k fun K12 hK12 => ?_
    refine wp_seq_k fun K13 hK13 => ?_
    -- region 10
    refine wp_region_lit ?_
    refine s_pu hF rfl rfl rfl (pu_move (hF.ev rfl)) ?_; clear hF; intro a hF
    refine s_pu hF rfl rfl rfl (pu_neq (hF.ev rfl) (hF.ev rfl)) ?_; clear hF; intro a hF
    refine s_done ?_
    refine hK13 _ _ ?_; clear hK13
    refine wp_cond_split (hF.ev rfl) (fun hc2 => ?_) (fun hc2 => ?_)
    · -- cond 2 true
      try simp only [decide_eq_true_eq, decide_eq_false_iff_not, Bool.not_eq_true', Bool.not_eq_false', Int.not_lt, Int.not_le, ne_eq, Decidable.not_not, Bool.or_eq_true, Bool.or_eq_false_iff, Bool.and_eq_true, Bool.and_eq_false_imp] at hc2
      first | exact absurd rfl hc2 | exact absurd trivial hc2 | (exfalso; simp at hc2)
    · -- cond 2 false
      try simp only [decide_eq_true_eq, decide_eq_false_iff_not, Bool.not_eq_true', Bool.not_eq_false', Int.not_lt, Int.not_le, ne_eq, Decidable.not_not, Bool.or_eq_true, Bool.or_eq_false_iff, Bool.and_eq_true, Bool.and_eq_false_imp] at hc2
      refine wp_skip ?_
      refine hK12 _ _ ?_; clear hK12
      -- region 12
      refine wp_region_lit ?_
      refine s_pu hF rfl rfl rfl (pu_move (hF.ev rfl)) ?_; clear hF; intro a hF
      refine s_pu hF rfl rfl rfl (pu_move (hF.ev rfl)) ?_; clear hF; intro a hF
      refine s_news hF rfl rfl rfl (ef_lit1 (cs := [_]) sl22 ze3 rfl (hF.ev rfl) (by first | rfl | exact cells_one (by assumption)) rfl (by omega) (by omega)) hS ?_; clear hF hS; intro b50 w hS a hF
      (first | (refine s_append 0 1 hF rfl rfl sl22 el3 (hF.ev rfl) (hF.ev rfl) hS rfl rfl rfl (by first | rfl | (simp only [List.all_cons, List.all_nil, Value.oneCell', Bool.and_true, Bool.true_and]; assumption) | (simp [Value.oneCell', *]; done)) (by unfold maxLen; omega) (by omega) ?_) | (refine s_append 0 2 hF rfl rfl sl22 el3 (hF.ev rfl) (hF.ev rfl) hS rfl rfl rfl (by first | rfl | (simp only [List.all_cons, List.all_nil, Value.oneCell', Bool.and_true, Bool.true_and]; assumption) | (simp [Value.oneCell', *]; done)) (by unfold maxLen; omega) (by omega) ?_) | (refine s_append 0 3 hF rfl rfl sl22 el3 (hF.ev rfl) (hF.ev rfl) hS rfl rfl rfl (by first | rfl | (simp only [List.all_cons, List.all_nil, Value.oneCell', Bool.and_true, Bool.true_and]; assumption) | (simp [Value.oneCell', *]; done)) (by unfold maxLen; omega) (by omega) ?_) | (refine s_append 1 0 hF rfl rfl sl22 el3 (hF.ev rfl) (hF.ev rfl) hS rfl rfl rfl (by first | rfl | (simp only [List.all_cons, List.all_nil, Value.oneCell', Bool.and_true, Bool.true_and]; assumption) | (simp [Value.oneCell', *]; done)) (by unfold maxLen; omega) (by omega) ?_) | (refine s_append 1 2 hF rfl rfl sl22 el3 (hF.ev rfl) (hF.ev rfl) hS rfl rfl rfl (by first | rfl | (simp only [List.all_cons, List.all_nil, Value.oneCell', Bool.and_true, Bool.true_and]; assumption) | (simp [Value.oneCell', *]; done)) (by unfold maxLen; omega) (by omega) ?_) | (refine s_append 1 3 hF rfl rfl sl22 el3 (hF.ev rfl) (hF.ev rfl) hS rfl rfl rfl (by first | rfl | (simp only [List.all_cons, List.all_nil, Value.oneCell', Bool.and_true, Bool.true_and]; assumption) | (simp [Value.oneCell', *]; done)) (by unfold maxLen; omega) (by omega) ?_) | (refine s_append 2 0 hF rfl rfl sl22 el3 (hF.ev rfl) (hF.ev rfl) hS rfl rfl rfl (by first | rfl | (simp only [List.all_cons, List.all_nil, Value.oneCell', Bool.and_true, Bool.true_and]; assumption) | (simp [Value.oneCell', *]; done)) (by unfold maxLen; omega) (by omega) ?_) | (refine s_append 2 1 hF rfl rfl sl22 el3 (hF.ev rfl) (hF.ev rfl) hS rfl rfl rfl (by first | rfl | (simp only [List.all_cons, List.all_nil, Value.oneCell', Bool.and_true, Bool.true_and]; assumption) | (simp [Value.oneCell', *]; done)) (by unfold maxLen; omega) (by omega) ?_) | (refine s_append 2 3 hF rfl rfl sl22 el3 (hF.ev rfl) (hF.ev rfl) hS rfl rfl rfl (by first | rfl | (simp only [List.all_cons, List.all_nil, Value.oneCell', Bool.and_true, Bool.true_and]; assumption) | (simp [Value.oneCell', *]; done)) (by unfold maxLen; omega) (by omega) ?_) | (refine s_append 3 0 hF rfl rfl sl22 el3 (hF.ev rfl) (hF.ev rfl) hS rfl rfl rfl (by first | rfl | (simp only [List.all_cons, List.all_nil, Value.oneCell', Bool.and_true, Bool.true_and]; assumption) | (simp [Value.oneCell', *]; done)) (by unfold maxLen; omega) (by omega) ?_) | (refine s_append 3 1 hF rfl rfl sl22 el3 (hF.ev rfl) (hF.ev rfl) hS rfl rfl rfl (by first | rfl | (simp only [List.all_cons, List.all_nil, Value.oneCell', Bool.and_true, Bool.true_and]; assumption) | (simp [Value.oneCell', *]; done)) (by unfold maxLen; omega) (by omega) ?_) | (refine s_append 3 2 hF rfl rfl sl22 el3 (hF.ev rfl) (hF.ev rfl) hS rfl rfl rfl (by first | rfl | (simp only [List.all_cons, List.all_nil, Value.oneCell', Bool.and_true, Bool.true_and]; assumption) | (simp [Value.oneCell', *]; done)) (by unfold maxLen; omega) (by omega) ?_)); (clear hS hF; intro A51 q51 w hS a hF; (try simp only [upd, del] at hS))
      refine s_pu hF rfl rfl rfl (pu_assign (hF.ev rfl)) ?_; clear hF; intro a hF
      refine s_done ?_
      refine blk_normal ?_
      refine hK10 _ _ ?_; clear hK10
      -- region 8
      refine wp_region_lit ?_
      refine s_pu hF rfl rfl rfl (pu_move (hF.ev rfl)) ?_; clear hF; intro a hF
      refine s_pu hF rfl rfl rfl ((by first | exact pu_add64 (hF.ev rfl) (hF.ev rfl) (by omega) | exact pu_add (hF.ev rfl) (hF.ev rfl))) ?_; clear hF; intro a hF
      refine s_pu hF rfl rfl rfl (pu_assign (hF.ev rfl)) ?_; clear hF; intro a hF
      refine s_done ?_
      refine ⟨_, by omega, n + 1, A51, q51, rfl, by omega, hF.sub ⟨rfl, rfl, rfl, rfl, rfl, trivial⟩, ?_⟩
      have e1 : ints (nats (List.range (n + 1))) = ints (nats (List.range n)) ++ [.int .i64 n] := by rw [List.range_succ, nats, List.map_append, ← nats, ints_snoc]; rfl
      rw [e1]
      exact hS.drop 1
  · -- cond 1 false
    try simp only [decide_eq_true_eq, decide_eq_false_iff_not, Bool.not_eq_true', Bool.not_eq_false', Int.not_lt, Int.not_le, ne_eq, Decidable.not_not, Bool.or_eq_true, Bool.or_eq_false_iff, Bool.and_eq_true, Bool.and_eq_false_imp] at hc1
    have hnm : n = m := by omega
    subst hnm
    refine wp_exit ?_
    refine then_exit ?_
    refine then_exit ?_
    refine blk_exit ?_
    refine hK6 _ _ ?_; clear hK6
    refine wp_seq_k fun K10 hK10 => ?_
    -- region 13
    refine wp_region_lit ?_
    refine s_pu hF rfl rfl rfl (pu_move (hF.ev rfl)) ?_; clear hF; intro a hF
    refine s_pu hF rfl rfl rfl (pu_assign (hF.ev rfl)) ?_; clear hF; intro a hF
    refine s_done ?_
    refine hK10 _ _ ?_; clear hK10
    refine wp_seq_j (fun a w => ∃ (i : Nat) (l : List Nat) (A : Option Addr) (c : Nat), FOk n l (n + i) ∧ i ≤ 40 ∧ Fr a 160 [(5, .int .i64 n), (6, .pointer (some ⟨g, 0, none⟩)), (8, .slice A l.length c)] ∧
      Sat W w [rowC 3 1 (.slice A l.length c) l.length (ints (nats l)), tabC 1 g (fT n l (n + i : Nat)), whole W]) ?_ ?_
    · -- up to the join s17
      refine wp_seq_k fun K12 hK12 => ?_
      -- region 14
      refine wp_region_lit ?_
      refine s_pu hF rfl rfl rfl (pu_assign (hF.ev rfl)) ?_; clear hF; intro a hF
      refine s_done ?_
      refine hK12 _ _ ?_; clear hK12
      refine wp_block ?_
      refine wp_ind (fun j a w => ∃ (i : Nat) (l : List Nat) (A : Option Addr) (c : Nat), j = 41 - i ∧ i ≤ l1 ∧ i ≤ 40 ∧ FOk n l (n + i) ∧ Fr a 160 [(1, .slice a1 l1 q1), (5, .int .i64 n), (6, .pointer (some ⟨g, 0, none⟩)), (8, .slice A l.length c), (11, .int .i64 (n + i : Nat)), (12, .int .i64 i)] ∧
        Sat W w [rowC 3 1 (.slice A l.length c) l.length (ints (nats l)), tabC 1 g (fT n l (n + i)), whole W]) 41
        ⟨0, List.range n, A, c, rfl, by omega, by omega, ⟨by simp, List.pairwise_lt_range, fun x hx => by have := List.mem_range.1 hx; omega⟩, by rw [List.length_range]; exact hF.sub ⟨rfl, rfl, rfl, rfl, rfl, rfl, trivial⟩, by rw [List.length_range]; exact hS⟩ ?_
      clear hS hF A c
      rintro j a w ⟨i, l, A, c, rfl, hil, hi40, hO, hF, hS⟩
      refine wp_seq_k fun K13 hK13 => ?_
      refine wp_seq_k fun K14 hK14 => ?_
      -- region 15
      refine wp_region_lit ?_
      refine s_pu hF rfl rfl rfl (pu_move (hF.ev rfl)) ?_; clear hF; intro a hF
      refine s_pu hF rfl rfl rfl (pu_move (hF.ev rfl)) ?_; clear hF; intro a hF
      refine s_pu hF rfl rfl rfl (pu_len sl22 (hF.ev rfl)) ?_; clear hF; intro a hF
      refine s_pu hF rfl rfl rfl (pu_leq (hF.ev rfl) (hF.ev rfl)) ?_; clear hF; intro a hF
      refine s_pu hF rfl rfl rfl (pu_move (hF.ev rfl)) ?_; clear hF; intro a hF
      refine fr_split hF (t := 57) rfl ?_ ?_
      · clear hF; intro hg57 hF   -- slot 57 true
        try simp only [decide_eq_true_eq, decide_eq_false_iff_not, Bool.not_eq_true', Bool.not_eq_false', Int.not_lt, Int.not_le, ne_eq, Decidable.not_not, Bool.or_eq_true, Bool.or_eq_false_iff, Bool.and_eq_true, Bool.and_eq_false_imp] at hg57
        refine s_pu hF rfl rfl rfl (pu_move (hF.ev rfl)) ?_; clear hF; intro a hF
        refine s_pu hF rfl rfl rfl (pu_leq (hF.ev rfl) (hF.ev rfl)) ?_; clear hF; intro a hF
        refine s_pu hF rfl rfl rfl ((by first | exact pu_pick_t (hF.ev rfl) (hF.ev rfl) | exact pu_pick_f (hF.ev rfl) (hF.ev rfl) | exact pu_pick (hF.ev rfl) (hF.ev rfl) (hF.ev rfl))) ?_; clear hF; intro a hF
        refine s_done ?_
        have hi41 : i < 41 := by omega
        have hll := hO.len
        have hnl : (n + i) ∉ l := fun h => by have := hO.lt _ h; omega
        have hwl : (waitsL (l.map fE)).length = n := by rw [f_waits]; simp [hll]
        refine hK14 _ _ ?_; clear hK14
        refine wp_cond_split (hF.ev rfl) (fun hc3 => ?_) (fun hc3 => ?_)
        · -- cond 3 true
          try simp only [decide_eq_true_eq, decide_eq_false_iff_not, Bool.not_eq_true', Bool.not_eq_false', Int.not_lt, Int.not_le, ne_eq, Decidable.not_not, Bool.or_eq_true, Bool.or_eq_false_iff, Bool.and_eq_true, Bool.and_eq_false_imp] at hc3
          refine wp_skip ?_
          refine hK13 _ _ ?_; clear hK13
          refine wp_seq_k fun K15 hK15 => ?_
          refine wp_block ?_
          refine wp_seq_k fun K16 hK16 => ?_
          -- region 17
          refine wp_region_lit ?_
          refine s_pu hF rfl rfl rfl (pu_move (hF.ev rfl)) ?_; clear hF; intro a hF
          refine s_pu hF rfl rfl rfl (pu_move (hF.ev rfl)) ?_; clear hF; intro a hF
          refine s_en hF rfl rfl rfl (run_fn fk10 (hF.ev rfl) (hF.evs rfl)) (request_c (n := n + i) hS (by omega)) ?_
          clear hS; rintro e w ⟨P1, s1, y1, P2, s2, y2, rfl, hS⟩
          refine ⟨_, rfl, ?_⟩; clear hF; intro a hF
          refine s_en hF rfl rfl rfl (run_fn fk9 (hF.ev rfl) (hF.evs rfl)) (at_place 2 hS rfl (fun h => add_full (T := fT n l (n + i)) (v1 := 0) (v2 := 0) h (f_key hnl) (f_way hnl) (by simp only [fT]; omega))) ?_
          clear hS; rintro e w ⟨rfl, hS⟩
          replace hS := (hS.drop 1).sel [1]
          simp only [selR, nth, del] at hS
          refine ⟨_, rfl, ?_⟩; clear hF; intro a hF
          refine s_pu hF rfl rfl rfl (pu_assign (hF.ev rfl)) ?_; clear hF; intro a hF
          refine s_done ?_
          refine hK16 _ _ ?_; clear hK16
          refine wp_seq_k fun K17 hK17 => ?_
          refine wp_seq_k fun K18 hK18 => ?_
          -- region 18
          refine wp_region_lit ?_
          refine s_pu hF rfl rfl rfl (pu_move (hF.ev rfl)) ?_; clear hF; intro a hF
          refine s_pu hF rfl rfl rfl (pu_neq (hF.ev rfl) (hF.ev rfl)) ?_; clear hF; intro a hF
          refine s_pu hF rfl rfl rfl (pu_move (hF.ev rfl)) ?_; clear hF; intro a hF
          refine s_pu hF rfl rfl rfl (pu_move (hF.ev rfl)) ?_; clear hF; intro a hF
          refine s_en hF rfl rfl rfl (run_fn fk11 (hF.ev rfl) (hF.evs rfl)) (at_place 1 hS rfl (fun h => len_c h)) ?_
          clear hS; rintro e w ⟨rfl, hS⟩
          replace hS := hS.sel [1]
          simp only [selR, nth, del] at hS
          have hwl2 : (waitsL (fT n l (n + i)).L).length = n := hwl
          rw [hwl2]
          refine ⟨_, rfl, ?_⟩; clear hF; intro a hF
          refine s_pu hF rfl rfl rfl (pu_move (hF.ev rfl)) ?_; clear hF; intro a hF
          refine s_pu hF rfl rfl rfl (pu_neq (hF.ev rfl) (hF.ev rfl)) ?_; clear hF; intro a hF
          refine s_pu hF rfl rfl rfl ((by first | exact pu_pick_t (hF.ev rfl) (hF.ev rfl) | exact pu_pick_f (hF.ev rfl) (hF.ev rfl) | exact pu_pick (hF.ev rfl) (hF.ev rfl) (hF.ev rfl))) ?_; clear hF; intro a hF
          refine s_done ?_
          refine hK18 _ _ ?_; clear hK18
          refine wp_cond_split (hF.ev rfl) (fun hc4 => ?_) (fun hc4 => ?_)
          · -- cond 4 true
            try simp only [decide_eq_true_eq, decide_eq_false_iff_not, Bool.not_eq_true', Bool.not_eq_false', Int.not_lt, Int.not_le, ne_eq, Decidable.not_not, Bool.or_eq_true, Bool.or_eq_false_iff, Bool.and_eq_true, Bool.and_eq_false_imp] at hc4
            first | exact absurd rfl hc4 | exact absurd trivial hc4 | (exfalso; simp at hc4)
          · -- cond 4 false
            try simp only [decide_eq_true_eq, decide_eq_false_iff_not, Bool.not_eq_true', Bool.not_eq_false', Int.not_lt, Int.not_le, ne_eq, Decidable.not_not, Bool.or_eq_true, Bool.or_eq_false_iff, Bool.and_eq_true, Bool.and_eq_false_imp] at hc4
            refine wp_skip ?_
            refine hK17 _ _ ?_; clear hK17
            refine wp_seq_k fun K19 hK19 => ?_
            refine wp_seq_k fun K20 hK20 => ?_
            -- region 20
            refine wp_region_lit ?_
            refine s_pu hF rfl rfl rfl (pu_move (hF.ev rfl)) ?_; clear hF; intro a hF
            refine s_pu hF rfl rfl rfl (pu_move (hF.ev rfl)) ?_; clear hF; intro a hF
            refine s_pu hF rfl rfl rfl (pu_len sl22 (hF.ev rfl)) ?_; clear hF; intro a hF
            refine s_pu hF rfl rfl rfl (pu_eql (hF.ev rfl) (hF.ev rfl)) ?_; clear hF; intro a hF
            refine s_pu hF rfl rfl rfl (pu_move (hF.ev rfl)) ?_; clear hF; intro a hF
            refine fr_split hF (t := 79) rfl ?_ ?_
            · clear hF; intro hg79 hF   -- slot 79 true
              try simp only [decide_eq_true_eq, decide_eq_false_iff_not, Bool.not_eq_true', Bool.not_eq_false', Int.not_lt, Int.not_le, ne_eq, Decidable.not_not, Bool.or_eq_true, Bool.or_eq_false_iff, Bool.and_eq_true, Bool.and_eq_false_imp] at hg79
              refine s_no hF rfl rfl rfl ?_; clear hF; intro a hF
              refine s_no hF rfl rfl rfl ?_; clear hF; intro a hF
              refine s_pu hF rfl rfl rfl ((by first | exact pu_pick_t (hF.ev rfl) (hF.ev rfl) | exact pu_pick_f (hF.ev rfl) (hF.ev rfl) | exact pu_pick (hF.ev rfl) (hF.ev rfl) (hF.ev rfl))) ?_; clear hF; intro a hF
              refine s_done ?_
              refine hK20 _ _ ?_; clear hK20
              refine wp_cond_true (hF.ev rfl) ?_
              refine wp_exit ?_
              refine then_exit ?_
              refine blk_other rfl ?_
              refine then_exit ?_
              refine then_exit ?_
              refine blk_exit ?_
              exact ⟨i, l, A, c, hO, by omega, hF.sub ⟨rfl, rfl, rfl, trivial⟩, hS⟩
            · clear hF; intro hg79 hF   -- slot 79 false
              try simp only [decide_eq_true_eq, decide_eq_false_iff_not, Bool.not_eq_true', Bool.not_eq_false', Int.not_lt, Int.not_le, ne_eq, Decidable.not_not, Bool.or_eq_true, Bool.or_eq_false_iff, Bool.and_eq_true, Bool.and_eq_false_imp] at hg79
              refine s_pu hF rfl rfl rfl (pu_move (hF.ev rfl)) ?_; clear hF; intro a hF
              refine s_pu hF rfl rfl rfl (pu_eql (hF.ev rfl) (hF.ev rfl)) ?_; clear hF; intro a hF
              refine s_pu hF rfl rfl rfl ((by first | exact pu_pick_t (hF.ev rfl) (hF.ev rfl) | exact pu_pick_f (hF.ev rfl) (hF.ev rfl) | exact pu_pick (hF.ev rfl) (hF.ev rfl) (hF.ev rfl))) ?_; clear hF; intro a hF
              refine s_done ?_
              refine hK20 _ _ ?_; clear hK20
              refine wp_cond_split (hF.ev rfl) (fun hc5 => ?_) (fun hc5 => ?_)
              · -- cond 5 true
                try simp only [decide_eq_true_eq, decide_eq_false_iff_not, Bool.not_eq_true', Bool.not_eq_false', Int.not_lt, Int.not_le, ne_eq, Decidable.not_not, Bool.or_eq_true, Bool.or_eq_false_iff, Bool.and_eq_true, Bool.and_eq_false_imp] at hc5
                refine wp_exit ?_
                refine then_exit ?_
                refine blk_other rfl ?_
                refine then_exit ?_
                refine then_exit ?_
                refine blk_exit ?_
                exact ⟨i, l, A, c, hO, by omega, hF.sub ⟨rfl, rfl, rfl, trivial⟩, hS⟩
              · -- cond 5 false
                try simp only [decide_eq_true_eq, decide_eq_false_iff_not, Bool.not_eq_true', Bool.not_eq_false', Int.not_lt, Int.not_le, ne_eq, Decidable.not_not, Bool.or_eq_true, Bool.or_eq_false_iff, Bool.and_eq_true, Bool.and_eq_false_imp] at hc5
                refine wp_skip ?_
                refine hK19 _ _ ?_; clear hK19
                refine wp_seq_k fun K21 hK21 => ?_
                -- region 21
                refine wp_region_lit ?_
                have hil2 : i < l1 := by omega
                obtain ⟨x, rfl, hv, hb⟩ := hz1.at_ i hil2
                have hv1 : w.cell? (x.add ((i : Int).toNat * 1)) = some (.int .i64 (z1.getD i 0)) := by
                  rw [Int.toNat_natCast, Nat.mul_one]
                  exact hS.whole_at (i := 2) rfl hv
                refine s_pu hF rfl rfl rfl (pu_move (hF.ev rfl)) ?_; clear hF; intro a hF
                refine s_pu hF rfl rfl rfl (pu_move (hF.ev rfl)) ?_; clear hF; intro a hF
                refine s_pu hF rfl rfl rfl ((by first | exact pu_elem sl22 (hF.ev rfl) (hF.ev rfl) (by first | omega | simp) (by first | omega | (simp; done) | (simp; omega)) | exact pu_elemA sl22 (hF.ev rfl) (hF.ev rfl) (by omega) (by omega))) ?_; clear hF; intro a hF
                refine s_rd hF rfl rfl rfl (by first | exact rd_load pl3 (hF.ev rfl) (by assumption) | exact rd_load pl3 (hF.ev rfl) (hS.cellL (i := 0) rfl rfl) | exact rd_load pl3 (hF.ev rfl) (hS.cellL (i := 1) rfl rfl) | exact rd_load pl3 (hF.ev rfl) (hS.cellL (i := 2) rfl rfl) | exact rd_load pl3 (hF.ev rfl) (hS.cellL (i := 3) rfl rfl) | exact rd_load pl3 (hF.ev rfl) (hS.cell (i := 0) rfl (by assumption)) | exact rd_load pl3 (hF.ev rfl) (hS.cell (i := 1) rfl (by assumption)) | exact rd_load pl3 (hF.ev rfl) (hS.cell (i := 2) rfl (by assumption)) | exact rd_load pl3 (hF.ev rfl) (hS.cell (i := 3) rfl (by assumption)) | exact rd_load pl3 (hF.ev rfl) (row_at (i := 0) hS rfl (by first | assumption | rfl)) | exact rd_load pl3 (hF.ev rfl) (row_at0 (i := 0) hS rfl (by first | assumption | rfl)) | exact rd_load pl3 (hF.ev rfl) (row_at (i := 1) hS rfl (by first | assumption | rfl)) | exact rd_load pl3 (hF.ev rfl) (row_at0 (i := 1) hS rfl (by first | assumption | rfl)) | exact rd_load pl3 (hF.ev rfl) (row_at (i := 2) hS rfl (by first | assumption | rfl)) | exact rd_load pl3 (hF.ev rfl) (row_at0 (i := 2) hS rfl (by first | assumption | rfl)) | exact rd_load pl3 (hF.ev rfl) (row_at (i := 3) hS rfl (by first | assumption | rfl)) | exact rd_load pl3 (hF.ev rfl) (row_at0 (i := 3) hS rfl (by first | assumption | rfl))) ?_; clear hF; intro a hF
                refine s_pu hF rfl rfl rfl (pu_move (hF.ev rfl)) ?_; clear hF; intro a hF
                refine s_en hF rfl rfl rfl (run_fn fk7 (hF.ev rfl) (hF.evs rfl)) (pick_c hS (by omega) hb.1 hb.2) ?_
                clear hS; rintro e w ⟨k, _, hk, rfl, hS⟩
                refine ⟨_, rfl, ?_⟩; clear hF; intro a hF
                refine s_pu hF rfl rfl rfl (pu_assign (hF.ev rfl)) ?_; clear hF; intro a hF
                refine s_done ?_
                refine hK21 _ _ ?_; clear hK21
                refine wp_seq_k fun K22 hK22 => ?_
                -- region 22
                refine wp_region_lit ?_
                have hkl : k < l.length := by omega
                obtain ⟨lk, hlk⟩ : ∃ lk, l[k]? = some lk := ⟨l[k], List.getElem?_eq_getElem _⟩
                obtain ⟨LA, LB, hlab, hlen⟩ : ∃ LA LB, l = LA ++ lk :: LB ∧ LA.length = k := by
                  refine ⟨l.take k, l.drop (k + 1), ?_, by rw [List.length_take]; omega⟩
                  have e : lk = l[k] := by rw [List.getElem?_eq_getElem hkl] at hlk; injection hlk with h; exact h.symm
                  rw [e, ← List.drop_eq_getElem_cons, List.take_append_drop]
                subst hlab
                have hlkn : lk < n + i := hO.lt _ (by simp)
                obtain ⟨ga, rfl⟩ := row_some (i := 0) hS rfl (by omega)
                have hlk2 : (ints (nats (LA ++ lk :: LB)))[k]? = some (.int .i64 (lk : Nat)) := by
                  have := ints_at (zs := nats (LA ++ lk :: LB)) (i := k) (by rw [nats_len]; omega)
                  rw [nats_getD hlk] at this
                  exact this
                have hv2 := row_at (i := 0) hS rfl hlk2
                have hcap : (LA ++ lk :: LB).length ≤ c := by
                  obtain ⟨A', c', e, h, _⟩ := row_val hS
                  injection e with _ _ e3
                  omega
                obtain ⟨hsw1, hsw2, hsw3⟩ := hO.swap
                have hnl2 : (n + i) ∉ LA ++ LB := fun h => by have := hsw2 _ h; omega
                have hll2 : (LA ++ LB).length + 1 = n := by have := hO.len; simp at this ⊢; omega
                have hwl3 : (waitsL ((LA ++ LB).map fE)).length = (LA ++ LB).length := by rw [f_waits, List.length_map]
                refine s_pu hF rfl rfl rfl (pu_move (hF.ev rfl)) ?_; clear hF; intro a hF
                refine s_pu hF rfl rfl rfl (pu_move (hF.ev rfl)) ?_; clear hF; intro a hF
                refine s_pu hF rfl rfl rfl ((by first | exact pu_elem sl22 (hF.ev rfl) (hF.ev rfl) (by first | omega | simp) (by first | omega | (simp; done) | (simp; omega)) | exact pu_elemA sl22 (hF.ev rfl) (hF.ev rfl) (by omega) (by omega))) ?_; clear hF; intro a hF
                refine s_rd hF rfl rfl rfl (by first | exact rd_load pl3 (hF.ev rfl) (by assumption) | exact rd_load pl3 (hF.ev rfl) (hS.cellL (i := 0) rfl rfl) | exact rd_load pl3 (hF.ev rfl) (hS.cellL (i := 1) rfl rfl) | exact rd_load pl3 (hF.ev rfl) (hS.cellL (i := 2) rfl rfl) | exact rd_load pl3 (hF.ev rfl) (hS.cellL (i := 3) rfl rfl) | exact rd_load pl3 (hF.ev rfl) (hS.cell (i := 0) rfl (by assumption)) | exact rd_load pl3 (hF.ev rfl) (hS.cell (i := 1) rfl (by assumption)) | exact rd_load pl3 (hF.ev rfl) (hS.cell (i := 2) rfl (by assumption)) | exact rd_load pl3 (hF.ev rfl) (hS.cell (i := 3) rfl (by assumption)) | exact rd_load pl3 (hF.ev rfl) (row_at (i := 0) hS rfl (by first | assumption | rfl)) | exact rd_load pl3 (hF.ev rfl) (row_at0 (i := 0) hS rfl (by first | assumption | rfl)) | exact rd_load pl3 (hF.ev rfl) (row_at (i := 1) hS rfl (by first | assumption | rfl)) | exact rd_load pl3 (hF.ev rfl) (row_at0 (i := 1) hS rfl (by first | assumption | rfl)) | exact rd_load pl3 (hF.ev rfl) (row_at (i := 2) hS rfl (by first | assumption | rfl)) | exact rd_load pl3 (hF.ev rfl) (row_at0 (i := 2) hS rfl (by first | assumption | rfl)) | exact rd_load pl3 (hF.ev rfl) (row_at (i := 3) hS rfl (by first | assumption | rfl)) | exact rd_load pl3 (hF.ev rfl) (row_at0 (i := 3) hS rfl (by first | assumption | rfl))) ?_; clear hF; intro a hF
                refine s_en hF rfl rfl rfl (run_fn fk10 (hF.ev rfl) (hF.evs rfl)) (request_c (n := lk) hS (by omega)) ?_
                clear hS; rintro e w ⟨P3, s3, y3, P4, s4, y4, rfl, hS⟩
                unfold Pnd.value
                refine ⟨_, rfl, ?_⟩; clear hF; intro a hF
                refine s_newp hF rfl rfl rfl (ef_alloc (cs := #[_, _, _, _, _, _, _, _, _, _, _, _]) ze35 rfl) hS ?_; clear hF hS; intro b15 w hS a hF
                (first | (refine s_store (vs := [_, _, _, _, _, _, _, _, _, _, _, _]) (cs' := #[_, _, _, _, _, _, _, _, _, _, _, _]) 0 hF rfl (hF.ev rfl) (hF.ev rfl) hS rfl rfl sz35 (by first | rfl | (simp only [List.all_cons, List.all_nil, Value.oneCell', Bool.and_true, Bool.true_and]; assumption) | (simp [Value.oneCell', *]; done)) (by first | exact Nat.le_of_ble_eq_true rfl | (simp [Value.cells]; omega)) rfl ?_) | (refine s_store (vs := [_, _, _, _, _, _, _, _, _, _, _, _]) (cs' := #[_, _, _, _, _, _, _, _, _, _, _, _]) 1 hF rfl (hF.ev rfl) (hF.ev rfl) hS rfl rfl sz35 (by first | rfl | (simp only [List.all_cons, List.all_nil, Value.oneCell', Bool.and_true, Bool.true_and]; assumption) | (simp [Value.oneCell', *]; done)) (by first | exact Nat.le_of_ble_eq_true rfl | (simp [Value.cells]; omega)) rfl ?_) | (refine s_store (vs := [_, _, _, _, _, _, _, _, _, _, _, _]) (cs' := #[_, _, _, _, _, _, _, _, _, _, _, _]) 2 hF rfl (hF.ev rfl) (hF.ev rfl) hS rfl rfl sz35 (by first | rfl | (simp only [List.all_cons, List.all_nil, Value.oneCell', Bool.and_true, Bool.true_and]; assumption) | (simp [Value.oneCell', *]; done)) (by first | exact Nat.le_of_ble_eq_true rfl | (simp [Value.cells]; omega)) rfl ?_) | (refine s_store (vs := [_, _, _, _, _, _, _, _, _, _, _, _]) (cs' := #[_, _, _, _, _, _, _, _, _, _, _, _]) 3 hF rfl (hF.ev rfl) (hF.ev rfl) hS rfl rfl sz35 (by first | rfl | (simp only [List.all_cons, List.all_nil, Value.oneCell', Bool.and_true, Bool.true_and]; assumption) | (simp [Value.oneCell', *]; done)) (by first | exact Nat.le_of_ble_eq_true rfl | (simp [Value.cells]; omega)) rfl ?_) | (refine s_store (vs := [_, _, _, _, _, _, _, _, _, _, _, _]) (cs' := _) 0 hF rfl (hF.ev rfl) (hF.ev rfl) hS rfl rfl sz35 (by first | rfl | (simp only [List.all_cons, List.all_nil, Value.oneCell', Bool.and_true, Bool.true_and]; assumption) | (simp [Value.oneCell', *]; done)) (by first | exact Nat.le_of_ble_eq_true rfl | (simp [Value.cells]; omega)) rfl ?_) | (refine s_store (vs := [_, _, _, _, _, _, _, _, _, _, _, _]) (cs' := _) 1 hF rfl (hF.ev rfl) (hF.ev rfl) hS rfl rfl sz35 (by first | rfl | (simp only [List.all_cons, List.all_nil, Value.oneCell', Bool.and_true, Bool.true_and]; assumption) | (simp [Value.oneCell', *]; done)) (by first | exact Nat.le_of_ble_eq_true rfl | (simp [Value.cells]; omega)) rfl ?_) | (refine s_store (vs := [_, _, _, _, _, _, _, _, _, _, _, _]) (cs' := _) 2 hF rfl (hF.ev rfl) (hF.ev rfl) hS rfl rfl sz35 (by first | rfl | (simp only [List.all_cons, List.all_nil, Value.oneCell', Bool.and_true, Bool.true_and]; assumption) | (simp [Value.oneCell', *]; done)) (by first | exact Nat.le_of_ble_eq_true rfl | (simp [Value.cells]; omega)) rfl ?_) | (refine s_store (vs := [_, _, _, _, _, _, _, _, _, _, _, _]) (cs' := _) 3 hF rfl (hF.ev rfl) (hF.ev rfl) hS rfl rfl sz35 (by first | rfl | (simp only [List.all_cons, List.all_nil, Value.oneCell', Bool.and_true, Bool.true_and]; assumption) | (simp [Value.oneCell', *]; done)) (by first | exact Nat.le_of_ble_eq_true rfl | (simp [Value.cells]; omega)) rfl ?_))
                clear hS; intro w hS; (try simp only [upd, del] at hS)
                refine s_done ?_
                refine hK22 _ _ ?_; clear hK22
                refine wp_seq_k fun K23 hK23 => ?_
                -- region 23
                refine wp_region_lit ?_
                refine s_pu hF rfl rfl rfl (pu_move (hF.ev rfl)) ?_; clear hF; intro a hF
                refine s_pu hF rfl rfl rfl ((by first | exact pu_field fd35_2 (hF.ev rfl) | exact pu_fieldA fd35_2 (hF.ev rfl))) ?_; clear hF; intro a hF
                refine s_rd hF rfl rfl rfl (by first | exact rd_load pl3 (hF.ev rfl) (by assumption) | exact rd_load pl3 (hF.ev rfl) (hS.cellL (i := 0) rfl rfl) | exact rd_load pl3 (hF.ev rfl) (hS.cellL (i := 1) rfl rfl) | exact rd_load pl3 (hF.ev rfl) (hS.cellL (i := 2) rfl rfl) | exact rd_load pl3 (hF.ev rfl) (hS.cellL (i := 3) rfl rfl) | exact rd_load pl3 (hF.ev rfl) (hS.cell (i := 0) rfl (by assumption)) | exact rd_load pl3 (hF.ev rfl) (hS.cell (i := 1) rfl (by assumption)) | exact rd_load pl3 (hF.ev rfl) (hS.cell (i := 2) rfl (by assumption)) | exact rd_load pl3 (hF.ev rfl) (hS.cell (i := 3) rfl (by assumption)) | exact rd_load pl3 (hF.ev rfl) (row_at (i := 0) hS rfl (by first | assumption | rfl)) | exact rd_load pl3 (hF.ev rfl) (row_at0 (i := 0) hS rfl (by first | assumption | rfl)) | exact rd_load pl3 (hF.ev rfl) (row_at (i := 1) hS rfl (by first | assumption | rfl)) | exact rd_load pl3 (hF.ev rfl) (row_at0 (i := 1) hS rfl (by first | assumption | rfl)) | exact rd_load pl3 (hF.ev rfl) (row_at (i := 2) hS rfl (by first | assumption | rfl)) | exact rd_load pl3 (hF.ev rfl) (row_at0 (i := 2) hS rfl (by first | assumption | rfl)) | exact rd_load pl3 (hF.ev rfl) (row_at (i := 3) hS rfl (by first | assumption | rfl)) | exact rd_load pl3 (hF.ev rfl) (row_at0 (i := 3) hS rfl (by first | assumption | rfl))) ?_; clear hF; intro a hF
                refine s_pu hF rfl rfl rfl ((by first | exact pu_field fd35_3 (hF.ev rfl) | exact pu_fieldA fd35_3 (hF.ev rfl))) ?_; clear hF; intro a hF
                refine s_rd hF rfl rfl rfl (by first | exact rd_load pl3 (hF.ev rfl) (by assumption) | exact rd_load pl3 (hF.ev rfl) (hS.cellL (i := 0) rfl rfl) | exact rd_load pl3 (hF.ev rfl) (hS.cellL (i := 1) rfl rfl) | exact rd_load pl3 (hF.ev rfl) (hS.cellL (i := 2) rfl rfl) | exact rd_load pl3 (hF.ev rfl) (hS.cellL (i := 3) rfl rfl) | exact rd_load pl3 (hF.ev rfl) (hS.cell (i := 0) rfl (by assumption)) | exact rd_load pl3 (hF.ev rfl) (hS.cell (i := 1) rfl (by assumption)) | exact rd_load pl3 (hF.ev rfl) (hS.cell (i := 2) rfl (by assumption)) | exact rd_load pl3 (hF.ev rfl) (hS.cell (i := 3) rfl (by assumption)) | exact rd_load pl3 (hF.ev rfl) (row_at (i := 0) hS rfl (by first | assumption | rfl)) | exact rd_load pl3 (hF.ev rfl) (row_at0 (i := 0) hS rfl (by first | assumption | rfl)) | exact rd_load pl3 (hF.ev rfl) (row_at (i := 1) hS rfl (by first | assumption | rfl)) | exact rd_load pl3 (hF.ev rfl) (row_at0 (i := 1) hS rfl (by first | assumption | rfl)) | exact rd_load pl3 (hF.ev rfl) (row_at (i := 2) hS rfl (by first | assumption | rfl)) | exact rd_load pl3 (hF.ev rfl) (row_at0 (i := 2) hS rfl (by first | assumption | rfl)) | exact rd_load pl3 (hF.ev rfl) (row_at (i := 3) hS rfl (by first | assumption | rfl)) | exact rd_load pl3 (hF.ev rfl) (row_at0 (i := 3) hS rfl (by first | assumption | rfl))) ?_; clear hF; intro a hF
                refine s_en hF rfl rfl rfl (run_fn fk12 (hF.ev rfl) (hF.evs rfl)) (at_place 3 hS rfl (fun h => answer_c (T := fT n (LA ++ lk :: LB) (n + i)) (A := LA.map fE) (B := LB.map fE) (e := fE lk) (en := fP lk) (by simp [fT]) rfl (by simp [fT]) rfl (by simp [fP]) (f_rising hO.up hO.lt) h (by simp only [fT, List.length_map]; omega) (by simp only [fT, List.length_map]; omega))) ?_
                clear hS; rintro e w ⟨B1, m1, d1, B2, m2, d2, rfl, hS⟩
                rw [f_ans hO.up] at hS
                unfold Pnd.value
                refine ⟨_, rfl, ?_⟩; clear hF; intro a hF
                refine s_pu hF rfl rfl rfl (pu_move (hF.ev rfl)) ?_; clear hF; intro a hF
                refine s_pu hF rfl rfl rfl (pu_extract (hF.ev rfl) rfl) ?_; clear hF; intro a hF
                refine s_pu hF rfl rfl rfl (pu_extract (hF.ev rfl) rfl) ?_; clear hF; intro a hF
                refine s_newp hF rfl rfl rfl (ef_alloc (cs := #[_, _, _, _, _, _, _, _, _, _, _, _]) ze35 rfl) hS ?_; clear hF hS; intro b16 w hS a hF
                (first | (refine s_store (vs := [_, _, _, _, _, _, _, _, _, _, _, _]) (cs' := #[_, _, _, _, _, _, _, _, _, _, _, _]) 0 hF rfl (hF.ev rfl) (hF.ev rfl) hS rfl rfl sz35 (by first | rfl | (simp only [List.all_cons, List.all_nil, Value.oneCell', Bool.and_true, Bool.true_and]; assumption) | (simp [Value.oneCell', *]; done)) (by first | exact Nat.le_of_ble_eq_true rfl | (simp [Value.cells]; omega)) rfl ?_) | (refine s_store (vs := [_, _, _, _, _, _, _, _, _, _, _, _]) (cs' := #[_, _, _, _, _, _, _, _, _, _, _, _]) 1 hF rfl (hF.ev rfl) (hF.ev rfl) hS rfl rfl sz35 (by first | rfl | (simp only [List.all_cons, List.all_nil, Value.oneCell', Bool.and_true, Bool.true_and]; assumption) | (simp [Value.oneCell', *]; done)) (by first | exact Nat.le_of_ble_eq_true rfl | (simp [Value.cells]; omega)) rfl ?_) | (refine s_store (vs := [_, _, _, _, _, _, _, _, _, _, _, _]) (cs' := #[_, _, _, _, _, _, _, _, _, _, _, _]) 2 hF rfl (hF.ev rfl) (hF.ev rfl) hS rfl rfl sz35 (by first | rfl | (simp only [List.all_cons, List.all_nil, Value.oneCell', Bool.and_true, Bool.true_and]; assumption) | (simp [Value.oneCell', *]; done)) (by first | exact Nat.le_of_ble_eq_true rfl | (simp [Value.cells]; omega)) rfl ?_) | (refine s_store (vs := [_, _, _, _, _, _, _, _, _, _, _, _]) (cs' := #[_, _, _, _, _, _, _, _, _, _, _, _]) 3 hF rfl (hF.ev rfl) (hF.ev rfl) hS rfl rfl sz35 (by first | rfl | (simp only [List.all_cons, List.all_nil, Value.oneCell', Bool.and_true, Bool.true_and]; assumption) | (simp [Value.oneCell', *]; done)) (by first | exact Nat.le_of_ble_eq_true rfl | (simp [Value.cells]; omega)) rfl ?_) | (refine s_store (vs := [_, _, _, _, _, _, _, _, _, _, _, _]) (cs' := _) 0 hF rfl (hF.ev rfl) (hF.ev rfl) hS rfl rfl sz35 (by first | rfl | (simp only [List.all_cons, List.all_nil, Value.oneCell', Bool.and_true, Bool.true_and]; assumption) | (simp [Value.oneCell', *]; done)) (by first | exact Nat.le_of_ble_eq_true rfl | (simp [Value.cells]; omega)) rfl ?_) | (refine s_store (vs := [_, _, _, _, _, _, _, _, _, _, _, _]) (cs' := _) 1 hF rfl (hF.ev rfl) (hF.ev rfl) hS rfl rfl sz35 (by first | rfl | (simp only [List.all_cons, List.all_nil, Value.oneCell', Bool.and_true, Bool.true_and]; assumption) | (simp [Value.oneCell', *]; done)) (by first | exact Nat.le_of_ble_eq_true rfl | (simp [Value.cells]; omega)) rfl ?_) | (refine s_store (vs := [_, _, _, _, _, _, _, _, _, _, _, _]) (cs' := _) 2 hF rfl (hF.ev rfl) (hF.ev rfl) hS rfl rfl sz35 (by first | rfl | (simp only [List.all_cons, List.all_nil, Value.oneCell', Bool.and_true, Bool.true_and]; assumption) | (simp [Value.oneCell', *]; done)) (by first | exact Nat.le_of_ble_eq_true rfl | (simp [Value.cells]; omega)) rfl ?_) | (refine s_store (vs := [_, _, _, _, _, _, _, _, _, _, _, _]) (cs' := _) 3 hF rfl (hF.ev rfl) (hF.ev rfl) hS rfl rfl sz35 (by first | rfl | (simp only [List.all_cons, List.all_nil, Value.oneCell', Bool.and_true, Bool.true_and]; assumption) | (simp [Value.oneCell', *]; done)) (by first | exact Nat.le_of_ble_eq_true rfl | (simp [Value.cells]; omega)) rfl ?_))
                clear hS; intro w hS; (try simp only [upd, del] at hS)
                refine s_pu hF rfl rfl rfl (pu_assign (hF.ev rfl)) ?_; clear hF; intro a hF
                refine s_done ?_
                refine hK23 _ _ ?_; clear hK23
                refine wp_seq_k fun K24 hK24 => ?_
                -- region 24
                replace hS := ((hS.drop 3).drop 3).sel [0, 2]
                simp only [selR, nth, del] at hS
                refine d_start (S := (fun w => Sat W w _)) (ds := [5]) (ord := [(0, .tk), (1, .pu), (2, .pu), (3, .pu), (4, .tk), (5, .ls), (6, .pu)]) mixed ⟨by kernel_rfl, fun _ d _ _ _ h => by cases d <;> exact h⟩ hS.drew fun hD => ?_
                replace hS := hS.drew; generalize w.drew = w at hS ⊢
                refine d_rd hD hF rfl rfl rfl rfl rfl hS (fun w hS => (by first | exact rd_loadB (i := 0) (vs := [_, _, _, _, _, _, _, _, _, _, _, _]) ag35 (hF.ev rfl) hS rfl rfl | exact rd_loadB (i := 1) (vs := [_, _, _, _, _, _, _, _, _, _, _, _]) ag35 (hF.ev rfl) hS rfl rfl | exact rd_loadB (i := 2) (vs := [_, _, _, _, _, _, _, _, _, _, _, _]) ag35 (hF.ev rfl) hS rfl rfl | exact rd_loadB (i := 3) (vs := [_, _, _, _, _, _, _, _, _, _, _, _]) ag35 (hF.ev rfl) hS rfl rfl)) ?_; clear hF; intro a hF
                refine d_pu hD hF rfl rfl rfl rfl rfl (pu_move (hF.ev rfl)) ?_; clear hF; intro a hF
                refine d_pu hD hF rfl rfl rfl rfl rfl (pu_move (hF.ev rfl)) ?_; clear hF; intro a hF
                refine d_pu hD hF rfl rfl rfl rfl rfl ((by first | exact pu_elem sl22 (hF.ev rfl) (hF.ev rfl) (by first | omega | simp) (by first | omega | (simp; done) | (simp; omega)) | exact pu_elemA sl22 (hF.ev rfl) (hF.ev rfl) (by omega) (by omega))) ?_; clear hF; intro a hF
                refine d_rd hD hF rfl rfl rfl rfl rfl hS (fun w hS => (by first | exact rd_load pl3 (hF.ev rfl) (by assumption) | exact rd_load pl3 (hF.ev rfl) (hS.cellL (i := 0) rfl rfl) | exact rd_load pl3 (hF.ev rfl) (hS.cellL (i := 1) rfl rfl) | exact rd_load pl3 (hF.ev rfl) (hS.cellL (i := 2) rfl rfl) | exact rd_load pl3 (hF.ev rfl) (hS.cellL (i := 3) rfl rfl) | exact rd_load pl3 (hF.ev rfl) (hS.cell (i := 0) rfl (by assumption)) | exact rd_load pl3 (hF.ev rfl) (hS.cell (i := 1) rfl (by assumption)) | exact rd_load pl3 (hF.ev rfl) (hS.cell (i := 2) rfl (by assumption)) | exact rd_load pl3 (hF.ev rfl) (hS.cell (i := 3) rfl (by assumption)) | exact rd_load pl3 (hF.ev rfl) (row_at (i := 0) hS rfl (by first | assumption | rfl)) | exact rd_load pl3 (hF.ev rfl) (row_at0 (i := 0) hS rfl (by first | assumption | rfl)) | exact rd_load pl3 (hF.ev rfl) (row_at (i := 1) hS rfl (by first | assumption | rfl)) | exact rd_load pl3 (hF.ev rfl) (row_at0 (i := 1) hS rfl (by first | assumption | rfl)) | exact rd_load pl3 (hF.ev rfl) (row_at (i := 2) hS rfl (by first | assumption | rfl)) | exact rd_load pl3 (hF.ev rfl) (row_at0 (i := 2) hS rfl (by first | assumption | rfl)) | exact rd_load pl3 (hF.ev rfl) (row_at (i := 3) hS rfl (by first | assumption | rfl)) | exact rd_load pl3 (hF.ev rfl) (row_at0 (i := 3) hS rfl (by first | assumption | rfl)))) ?_; clear hF; intro a hF
                refine l_en hD hF rfl rfl rfl rfl rfl (run_fn fk13 (hF.ev rfl) (hF.evs rfl)) (at_place 2 hS rfl (fun h => its_own (n := lk) (p := (fE lk).p) h (by omega))) ?_
                clear hS; rintro e w ⟨bb, rfl, hbb, hS⟩
                obtain rfl : bb = true := hbb.2 rfl
                simp only [del] at hS
                refine ⟨_, rfl, ?_⟩; clear hF; intro a hF
                refine d_pu hD hF rfl rfl rfl rfl rfl (pu_assign (hF.ev rfl)) ?_; clear hF; intro a hF
                refine d_done hD rfl ?_; clear hD
                refine hK24 _ _ ?_; clear hK24
                refine wp_seq_k fun K25 hK25 => ?_
                -- region 25
                refine wp_region_lit ?_
                refine s_pu hF rfl rfl rfl (pu_move (hF.ev rfl)) ?_; clear hF; intro a hF
                refine s_pu hF rfl rfl rfl (pu_move (hF.ev rfl)) ?_; clear hF; intro a hF
                refine s_en hF rfl rfl rfl (run_fn fk10 (hF.ev rfl) (hF.evs rfl)) (request_c (n := n + i) hS (by omega)) ?_
                clear hS; rintro e w ⟨P5, s5, y5, P6, s6, y6, rfl, hS⟩
                refine ⟨_, rfl, ?_⟩; clear hF; intro a hF
                refine s_en hF rfl rfl rfl (run_fn fk9 (hF.ev rfl) (hF.evs rfl)) (add_own (T := fT n (LA ++ LB) (n + i)) (hS.sel [0, 4 - 1]) (f_key hnl2) (f_way hnl2) (by simp only [fT]; omega) (f_nx hsw2) (f_rising hsw3 hsw2) (by simp [fT]) (by simp [fT]) (by simp [fT]) (by simp [fT]) (by simp only [fT]; omega) (by simp only [fT]; omega) (by simp only [fT]; omega) (by simp only [fT]; omega) (by simp only [fT, List.length_map]; omega) (by simp only [fT, List.length_map]; omega)) ?_
                clear hS; rintro e w ⟨rfl, hS⟩
                rw [f_add] at hS
                refine ⟨_, rfl, ?_⟩; clear hF; intro a hF
                refine s_pu hF rfl rfl rfl (pu_assign (hF.ev rfl)) ?_; clear hF; intro a hF
                refine s_done ?_
                refine hK25 _ _ ?_; clear hK25
                refine wp_seq_k fun K26 hK26 => ?_
                refine wp_seq_k fun K27 hK27 => ?_
                -- region 26
                refine wp_region_lit ?_
                refine s_pu hF rfl rfl rfl (pu_move (hF.ev rfl)) ?_; clear hF; intro a hF
                refine s_pu hF rfl rfl rfl (pu_neq (hF.ev rfl) (hF.ev rfl)) ?_; clear hF; intro a hF
                refine s_pu hF rfl rfl rfl (pu_move (hF.ev rfl)) ?_; clear hF; intro a hF
                refine s_pu hF rfl rfl rfl (pu_move (hF.ev rfl)) ?_; clear hF; intro a hF
                refine s_pu hF rfl rfl rfl (pu_not (hF.ev rfl)) ?_; clear hF; intro a hF
                refine s_pu hF rfl rfl rfl ((by first | exact pu_pick_t (hF.ev rfl) (hF.ev rfl) | exact pu_pick_f (hF.ev rfl) (hF.ev rfl) | exact pu_pick (hF.ev rfl) (hF.ev rfl) (hF.ev rfl))) ?_; clear hF; intro a hF
                refine s_pu hF rfl rfl rfl (pu_move (hF.ev rfl)) ?_; clear hF; intro a hF
                refine s_pu hF rfl rfl rfl (pu_move (hF.ev rfl)) ?_; clear hF; intro a hF
                refine s_pu hF rfl rfl rfl (pu_neq (hF.ev rfl) (hF.ev rfl)) ?_; clear hF; intro a hF
                refine s_pu hF rfl rfl rfl ((by first | exact pu_pick_t (hF.ev rfl) (hF.ev rfl) | exact pu_pick_f (hF.ev rfl) (hF.ev rfl) | exact pu_pick (hF.ev rfl) (hF.ev rfl) (hF.ev rfl))) ?_; clear hF; intro a hF
                refine s_done ?_
                refine hK27 _ _ ?_; clear hK27
                refine wp_cond_false (hF.ev rfl) ?_
                refine wp_skip ?_
                refine hK26 _ _ ?_; clear hK26
                refine wp_seq_j (fun a w => ∃ (A' : Option Addr) (q' : Nat), Fr a 160 [(1, .slice (some x) l1 q1), (5, .int .i64 n), (6, .pointer (some ⟨g, 0, none⟩)), (8, .slice A' (LA ++ LB ++ [n + i]).length q'), (11, .int .i64 (n + i : Nat)), (12, .int .i64 i)] ∧
                  Sat W w [rowC 3 1 (.slice A' (LA ++ LB ++ [n + i]).length q') (LA ++ LB ++ [n + i]).length (ints (nats (LA ++ LB ++ [n + i]))), tabC 1 g (fT n (LA ++ LB ++ [n + i]) (n + i + 1)), whole W]) ?_ ?_
                · -- up to the join s36
                  -- region 28
                  replace hS := ((hS.drop 1).drop 1).sel [1]
                  simp only [selR, nth, del] at hS
                  refine d_start (S := (fun _ => True)) (ds := []) (ord := [(1, .pu), (2, .pu), (3, .pu), (5, .pu), (6, .pu), (7, .pu), (8, .pu), (10, .pu), (0, .fk), (4, .fk), (9, .fk), (11, .on), (12, .on), (13, .pu)]) mixed ⟨by kernel_rfl, fun _ d _ _ _ h => by cases d <;> exact h⟩ trivial fun hD => ?_
                  replace hS := hS.drew; generalize w.drew = w at hS ⊢
                  refine d_pu hD hF rfl rfl rfl rfl rfl (pu_move (hF.ev rfl)) ?_; clear hF; intro a hF
                  refine d_pu hD hF rfl rfl rfl rfl rfl (pu_move (hF.ev rfl)) ?_; clear hF; intro a hF
                  refine d_pu hD hF rfl rfl rfl rfl rfl (pu_cutHi sl22 (hF.ev rfl) (hF.ev rfl) (by omega) (by omega)) ?_; clear hF; intro a hF
                  refine d_pu hD hF rfl rfl rfl rfl rfl (pu_move (hF.ev rfl)) ?_; clear hF; intro a hF
                  refine d_pu hD hF rfl rfl rfl rfl rfl (pu_move (hF.ev rfl)) ?_; clear hF; intro a hF
                  refine d_pu hD hF rfl rfl rfl rfl rfl ((by first | exact pu_add64 (hF.ev rfl) (hF.ev rfl) (by omega) | exact pu_add (hF.ev rfl) (hF.ev rfl))) ?_; clear hF; intro a hF
                  refine d_pu hD hF rfl rfl rfl rfl rfl (pu_cutLo sl22 (hF.ev rfl) (hF.ev rfl) (by omega) (by omega)) ?_; clear hF; intro a hF
                  refine d_pu hD hF rfl rfl rfl rfl rfl (pu_move (hF.ev rfl)) ?_; clear hF; intro a hF
                  refine d_fork2 (ord1 := [(1, .pu), (2, .pu), (3, .pu), (5, .pu), (6, .pu), (7, .pu), (8, .pu), (10, .pu), (0, .fk), (4, .fk), (9, .fk), (11, .on), (12, .on), (13, .pu)]) (ord2 := [(1, .pu), (2, .pu), (3, .pu), (5, .pu), (6, .pu), (7, .pu), (8, .pu), (10, .pu), (11, .fk), (0, .on), (4, .on), (9, .on), (12, .on), (13, .pu)]) (j1 := 0) (j2 := 11) rfl rfl rfl (by kernel_rfl) rfl rfl ⟨by kernel_rfl, fun _ d _ _ _ h => by cases d <;> exact h⟩ ⟨by kernel_rfl, fun _ d _ _ _ h => by cases d <;> exact h⟩ (fun hD => ?_) (fun hD => ?_)
                  · -- operation 0 first
                    refine f_news hD hF rfl rfl rfl rfl rfl (ef_lit0 sl22) hS (fun _ _ _ => trivial) ?_; clear hF hS; intro b123 w hS a hF
                    refine d_fork2 (ord1 := [(1, .pu), (2, .pu), (3, .pu), (5, .pu), (6, .pu), (7, .pu), (8, .pu), (10, .pu), (0, .fk), (4, .fk), (9, .fk), (11, .on), (12, .on), (13, .pu)]) (ord2 := [(1, .pu), (2, .pu), (3, .pu), (5, .pu), (6, .pu), (7, .pu), (8, .pu), (10, .pu), (0, .fk), (11, .fk), (4, .on), (9, .on), (12, .on), (13, .pu)]) (j1 := 4) (j2 := 11) rfl rfl rfl (by kernel_rfl) rfl rfl ⟨by kernel_rfl, fun _ d _ _ _ h => by cases d <;> exact h⟩ ⟨by kernel_rfl, fun _ d _ _ _ h => by cases d <;> exact h⟩ (fun hD => ?_) (fun hD => ?_)
                    · -- operation 4 first
                      first
                        | replace hS := row_shut (n := 0) (cap := 0) (sz := 1) (xs := []) hS (by omega) (by unfold maxLen; omega) rfl rfl
                        | replace hS := row_shut (n := 0) (cap := 0) (sz := 1) (xs := []) (hS.front 1 rfl) (by omega) (by unfold maxLen; omega) rfl rfl
                      (try simp only [upd, del] at hS)
                      first
                        | refine f_appendW 0 (news := ((ints (nats (LA ++ lk :: LB))).drop 0).take (k : Int).toNat) hD hF rfl rfl rfl rfl sl22 el3 (hF.ev rfl) (hF.ev rfl) hS rfl (row_win (jj := 1) hS rfl) (by simp [ints, nats] <;> omega) (fun u hu => ints_one u (List.mem_of_mem_drop (List.mem_of_mem_take hu))) (by unfold maxLen; omega) (by omega) (fun _ _ _ => trivial) ?_
                        | refine f_appendW 0 (news := ((ints (nats (LA ++ lk :: LB))).drop 0).take (k : Int).toNat) hD hF rfl rfl rfl rfl sl22 el3 (hF.ev rfl) (hF.ev rfl) hS rfl (row_win (jj := 2) hS rfl) (by simp [ints, nats] <;> omega) (fun u hu => ints_one u (List.mem_of_mem_drop (List.mem_of_mem_take hu))) (by unfold maxLen; omega) (by omega) (fun _ _ _ => trivial) ?_
                      clear hS hF; intro A127 q127 w hS a hF; (try simp only [upd, del] at hS)
                      refine d_fork2 (ord1 := [(1, .pu), (2, .pu), (3, .pu), (5, .pu), (6, .pu), (7, .pu), (8, .pu), (10, .pu), (0, .fk), (4, .fk), (9, .fk), (11, .on), (12, .on), (13, .pu)]) (ord2 := [(1, .pu), (2, .pu), (3, .pu), (5, .pu), (6, .pu), (7, .pu), (8, .pu), (10, .pu), (0, .fk), (4, .fk), (11, .fk), (9, .on), (12, .on), (13, .pu)]) (j1 := 9) (j2 := 11) rfl rfl rfl (by kernel_rfl) rfl rfl ⟨by kernel_rfl, fun _ d _ _ _ h => by cases d <;> exact h⟩ ⟨by kernel_rfl, fun _ d _ _ _ h => by cases d <;> exact h⟩ (fun hD => ?_) (fun hD => ?_)
                      · -- operation 9 first
                        have hwin : ∀ q u, (((ints (nats (LA ++ lk :: LB))).drop (k + 1)).take ((LA ++ lk :: LB).length - ((k : Int) + 1).toNat))[q]? = some u → w.cell? ((if c = ((k : Int) + 1).toNat then (⟨ga, 0, none⟩ : Addr) else (⟨ga, 0, none⟩ : Addr).add (((k : Int) + 1).toNat * 1)).add q) = some u := by
                          intro q u hu
                          by_cases hcc : c = ((k : Int) + 1).toNat
                          · rw [show (LA ++ lk :: LB).length - ((k : Int) + 1).toNat = 0 by omega, List.take_zero] at hu
                            simp at hu
                          · rw [if_neg hcc, addr_add ga 0, show 0 + ((k : Int) + 1).toNat * 1 = k + 1 by omega]
                            first | exact row_win (jj := 1) hS rfl q u hu | exact row_win (jj := 2) hS rfl q u hu
                        first
                          | refine f_appendW 0 (news := ((ints (nats (LA ++ lk :: LB))).drop (k + 1)).take ((LA ++ lk :: LB).length - ((k : Int) + 1).toNat)) hD hF rfl rfl rfl rfl sl22 el3 (hF.ev rfl) (hF.ev rfl) hS rfl hwin (by simp [ints, nats] <;> omega) (fun u hu => ints_one u (List.mem_of_mem_drop (List.mem_of_mem_take hu))) (by unfold maxLen; omega) (by omega) (fun _ _ _ => trivial) ?_
                          | refine f_appendW 1 (news := ((ints (nats (LA ++ lk :: LB))).drop (k + 1)).take ((LA ++ lk :: LB).length - ((k : Int) + 1).toNat)) hD hF rfl rfl rfl rfl sl22 el3 (hF.ev rfl) (hF.ev rfl) hS rfl hwin (by simp [ints, nats] <;> omega) (fun u hu => ints_one u (List.mem_of_mem_drop (List.mem_of_mem_take hu))) (by unfold maxLen; omega) (by omega) (fun _ _ _ => trivial) ?_
                        clear hS hF; intro A132 q132 w hS a hF; (try simp only [upd, del] at hS)
                        refine d_news hD hF rfl rfl rfl rfl rfl (ef_lit1 (cs := [_]) sl22 ze3 rfl (hF.ev rfl) (by first | rfl | exact cells_one (by assumption)) rfl (by omega) (by omega)) hS (fun _ _ _ => trivial) ?_; clear hF hS; intro b134 w hS a hF
                        (first | (refine d_append 0 1 hD hF rfl rfl rfl rfl sl22 el3 (hF.ev rfl) (hF.ev rfl) hS rfl rfl rfl (by first | rfl | (simp only [List.all_cons, List.all_nil, Value.oneCell', Bool.and_true, Bool.true_and]; assumption) | (simp [Value.oneCell', *]; done)) (by unfold maxLen; omega) (by omega) (fun _ _ _ => trivial) ?_) | (refine d_append 0 2 hD hF rfl rfl rfl rfl sl22 el3 (hF.ev rfl) (hF.ev rfl) hS rfl rfl rfl (by first | rfl | (simp only [List.all_cons, List.all_nil, Value.oneCell', Bool.and_true, Bool.true_and]; assumption) | (simp [Value.oneCell', *]; done)) (by unfold maxLen; omega) (by omega) (fun _ _ _ => trivial) ?_) | (refine d_append 0 3 hD hF rfl rfl rfl rfl sl22 el3 (hF.ev rfl) (hF.ev rfl) hS rfl rfl rfl (by first | rfl | (simp only [List.all_cons, List.all_nil, Value.oneCell', Bool.and_true, Bool.true_and]; assumption) | (simp [Value.oneCell', *]; done)) (by unfold maxLen; omega) (by omega) (fun _ _ _ => trivial) ?_) | (refine d_append 1 0 hD hF rfl rfl rfl rfl sl22 el3 (hF.ev rfl) (hF.ev rfl) hS rfl rfl rfl (by first | rfl | (simp only [List.all_cons, List.all_nil, Value.oneCell', Bool.and_true, Bool.true_and]; assumption) | (simp [Value.oneCell', *]; done)) (by unfold maxLen; omega) (by omega) (fun _ _ _ => trivial) ?_) | (refine d_append 1 2 hD hF rfl rfl rfl rfl sl22 el3 (hF.ev rfl) (hF.ev rfl) hS rfl rfl rfl (by first | rfl | (simp only [List.all_cons, List.all_nil, Value.oneCell', Bool.and_true, Bool.true_and]; assumption) | (simp [Value.oneCell', *]; done)) (by unfold maxLen; omega) (by omega) (fun _ _ _ => trivial) ?_) | (refine d_append 1 3 hD hF rfl rfl rfl rfl sl22 el3 (hF.ev rfl) (hF.ev rfl) hS rfl rfl rfl (by first | rfl | (simp only [List.all_cons, List.all_nil, Value.oneCell', Bool.and_true, Bool.true_and]; assumption) | (simp [Value.oneCell', *]; done)) (by unfold maxLen; omega) (by omega) (fun _ _ _ => trivial) ?_) | (refine d_append 2 0 hD hF rfl rfl rfl rfl sl22 el3 (hF.ev rfl) (hF.ev rfl) hS rfl rfl rfl (by first | rfl | (simp only [List.all_cons, List.all_nil, Value.oneCell', Bool.and_true, Bool.true_and]; assumption) | (simp [Value.oneCell', *]; done)) (by unfold maxLen; omega) (by omega) (fun _ _ _ => trivial) ?_) | (refine d_append 2 1 hD hF rfl rfl rfl rfl sl22 el3 (hF.ev rfl) (hF.ev rfl) hS rfl rfl rfl (by first | rfl | (simp only [List.all_cons, List.all_nil, Value.oneCell', Bool.and_true, Bool.true_and]; assumption) | (simp [Value.oneCell', *]; done)) (by unfold maxLen; omega) (by omega) (fun _ _ _ => trivial) ?_) | (refine d_append 2 3 hD hF rfl rfl rfl rfl sl22 el3 (hF.ev rfl) (hF.ev rfl) hS rfl rfl rfl (by first | rfl | (simp only [List.all_cons, List.all_nil, Value.oneCell', Bool.and_true, Bool.true_and]; assumption) | (simp [Value.oneCell', *]; done)) (by unfold maxLen; omega) (by omega) (fun _ _ _ => trivial) ?_) | (refine d_append 3 0 hD hF rfl rfl rfl rfl sl22 el3 (hF.ev rfl) (hF.ev rfl) hS rfl rfl rfl (by first | rfl | (simp only [List.all_cons, List.all_nil, Value.oneCell', Bool.and_true, Bool.true_and]; assumption) | (simp [Value.oneCell', *]; done)) (by unfold maxLen; omega) (by omega) (fun _ _ _ => trivial) ?_) | (refine d_append 3 1 hD hF rfl rfl rfl rfl sl22 el3 (hF.ev rfl) (hF.ev rfl) hS rfl rfl rfl (by first | rfl | (simp only [List.all_cons, List.all_nil, Value.oneCell', Bool.and_true, Bool.true_and]; assumption) | (simp [Value.oneCell', *]; done)) (by unfold maxLen; omega) (by omega) (fun _ _ _ => trivial) ?_) | (refine d_append 3 2 hD hF rfl rfl rfl rfl sl22 el3 (hF.ev rfl) (hF.ev rfl) hS rfl rfl rfl (by first | rfl | (simp only [List.all_cons, List.all_nil, Value.oneCell', Bool.and_true, Bool.true_and]; assumption) | (simp [Value.oneCell', *]; done)) (by unfold maxLen; omega) (by omega) (fun _ _ _ => trivial) ?_)); (clear hS hF; intro A135 q135 w hS a hF; (try simp only [upd, del] at hS))
                        refine d_pu hD hF rfl rfl rfl rfl rfl (pu_assign (hF.ev rfl)) ?_; clear hF; intro a hF
                        refine d_done hD rfl ?_; clear hD
                        have hlen3 : 0 + (k : Int).toNat + ((LA ++ lk :: LB).length - ((k : Int) + 1).toNat) + 1 = (LA ++ LB ++ [n + i]).length := by simp; omega
                        rw [hlen3] at hS hF
                        have hcon : [] ++ ((ints (nats (LA ++ lk :: LB))).drop 0).take (k : Int).toNat ++ ((ints (nats (LA ++ lk :: LB))).drop (k + 1)).take ((LA ++ lk :: LB).length - ((k : Int) + 1).toNat) ++ [.int .i64 (n + i : Nat)] = ints (nats (LA ++ LB ++ [n + i])) := by
                          subst hlen
                          have e1 : ints (nats (LA ++ lk :: LB)) = ints (nats LA) ++ .int .i64 (lk : Nat) :: ints (nats LB) := by simp [ints, nats]
                          have e2 : (ints (nats LA)).length = LA.length := by simp [ints, nats]
                          have e3 : (ints (nats LB)).length = LB.length := by simp [ints, nats]
                          obtain ⟨c1, c2⟩ := list_cut (A := ints (nats LA)) (B := ints (nats LB)) (x := .int .i64 (lk : Nat)) e2 e3
                          rw [e1, List.nil_append, List.drop_zero, Int.toNat_natCast, show (LA ++ lk :: LB).length - ((LA.length : Int) + 1).toNat = LB.length by simp; omega, c1, c2]
                          simp [ints, nats]
                        rw [← hcon]
                        exact ⟨_, _, hF.sub ⟨rfl, rfl, rfl, rfl, rfl, rfl, trivial⟩, (hS.drop 1).drop 1⟩
                      · -- operation 11 first
                        refine f_news hD hF rfl rfl rfl rfl rfl (ef_lit1 (cs := [_]) sl22 ze3 rfl (hF.ev rfl) (by first | rfl | exact cells_one (by assumption)) rfl (by omega) (by omega)) hS (fun _ _ _ => trivial) ?_; clear hF hS; intro b134 w hS a hF
                        have hwin : ∀ q u, (((ints (nats (LA ++ lk :: LB))).drop (k + 1)).take ((LA ++ lk :: LB).length - ((k : Int) + 1).toNat))[q]? = some u → w.cell? ((if c = ((k : Int) + 1).toNat then (⟨ga, 0, none⟩ : Addr) else (⟨ga, 0, none⟩ : Addr).add (((k : Int) + 1).toNat * 1)).add q) = some u := by
                          intro q u hu
                          by_cases hcc : c = ((k : Int) + 1).toNat
                          · rw [show (LA ++ lk :: LB).length - ((k : Int) + 1).toNat = 0 by omega, List.take_zero] at hu
                            simp at hu
                          · rw [if_neg hcc, addr_add ga 0, show 0 + ((k : Int) + 1).toNat * 1 = k + 1 by omega]
                            first | exact row_win (jj := 1) hS rfl q u hu | exact row_win (jj := 2) hS rfl q u hu
                        first
                          | refine d_appendW 0 (news := ((ints (nats (LA ++ lk :: LB))).drop (k + 1)).take ((LA ++ lk :: LB).length - ((k : Int) + 1).toNat)) hD hF rfl rfl rfl rfl sl22 el3 (hF.ev rfl) (hF.ev rfl) hS rfl hwin (by simp [ints, nats] <;> omega) (fun u hu => ints_one u (List.mem_of_mem_drop (List.mem_of_mem_take hu))) (by unfold maxLen; omega) (by omega) (fun _ _ _ => trivial) ?_
                          | refine d_appendW 1 (news := ((ints (nats (LA ++ lk :: LB))).drop (k + 1)).take ((LA ++ lk :: LB).length - ((k : Int) + 1).toNat)) hD hF rfl rfl rfl rfl sl22 el3 (hF.ev rfl) (hF.ev rfl) hS rfl hwin (by simp [ints, nats] <;> omega) (fun u hu => ints_one u (List.mem_of_mem_drop (List.mem_of_mem_take hu))) (by unfold maxLen; omega) (by omega) (fun _ _ _ => trivial) ?_
                        clear hS hF; intro A132 q132 w hS a hF; (try simp only [upd, del] at hS)
                        (first | (refine d_append 0 1 hD hF rfl rfl rfl rfl sl22 el3 (hF.ev rfl) (hF.ev rfl) hS rfl rfl rfl (by first | rfl | (simp only [List.all_cons, List.all_nil, Value.oneCell', Bool.and_true, Bool.true_and]; assumption) | (simp [Value.oneCell', *]; done)) (by unfold maxLen; omega) (by omega) (fun _ _ _ => trivial) ?_) | (refine d_append 0 2 hD hF rfl rfl rfl rfl sl22 el3 (hF.ev rfl) (hF.ev rfl) hS rfl rfl rfl (by first | rfl | (simp only [List.all_cons, List.all_nil, Value.oneCell', Bool.and_true, Bool.true_and]; assumption) | (simp [Value.oneCell', *]; done)) (by unfold maxLen; omega) (by omega) (fun _ _ _ => trivial) ?_) | (refine d_append 0 3 hD hF rfl rfl rfl rfl sl22 el3 (hF.ev rfl) (hF.ev rfl) hS rfl rfl rfl (by first | rfl | (simp only [List.all_cons, List.all_nil, Value.oneCell', Bool.and_true, Bool.true_and]; assumption) | (simp [Value.oneCell', *]; done)) (by unfold maxLen; omega) (by omega) (fun _ _ _ => trivial) ?_) | (refine d_append 1 0 hD hF rfl rfl rfl rfl sl22 el3 (hF.ev rfl) (hF.ev rfl) hS rfl rfl rfl (by first | rfl | (simp only [List.all_cons, List.all_nil, Value.oneCell', Bool.and_true, Bool.true_and]; assumption) | (simp [Value.oneCell', *]; done)) (by unfold maxLen; omega) (by omega) (fun _ _ _ => trivial) ?_) | (refine d_append 1 2 hD hF rfl rfl rfl rfl sl22 el3 (hF.ev rfl) (hF.ev rfl) hS rfl rfl rfl (by first | rfl | (simp only [List.all_cons, List.all_nil, Value.oneCell', Bool.and_true, Bool.true_and]; assumption) | (simp [Value.oneCell', *]; done)) (by unfold maxLen; omega) (by omega) (fun _ _ _ => trivial) ?_) | (refine d_append 1 3 hD hF rfl rfl rfl rfl sl22 el3 (hF.ev rfl) (hF.ev rfl) hS rfl rfl rfl (by first | rfl | (simp only [List.all_cons, List.all_nil, Value.oneCell', Bool.and_true, Bool.true_and]; assumption) | (simp [Value.oneCell', *]; done)) (by unfold maxLen; omega) (by omega) (fun _ _ _ => trivial) ?_) | (refine d_append 2 0 hD hF rfl rfl rfl rfl sl22 el3 (hF.ev rfl) (hF.ev rfl) hS rfl rfl rfl (by first | rfl | (simp only [List.all_cons, List.all_nil, Value.oneCell', Bool.and_true, Bool.true_and]; assumption) | (simp [Value.oneCell', *]; done)) (by unfold maxLen; omega) (by omega) (fun _ _ _ => trivial) ?_) | (refine d_append 2 1 hD hF rfl rfl rfl rfl sl22 el3 (hF.ev rfl) (hF.ev rfl) hS rfl rfl rfl (by first | rfl | (simp only [List.all_cons, List.all_nil, Value.oneCell', Bool.and_true, Bool.true_and]; assumption) | (simp [Value.oneCell', *]; done)) (by unfold maxLen; omega) (by omega) (fun _ _ _ => trivial) ?_) | (refine d_append 2 3 hD hF rfl rfl rfl rfl sl22 el3 (hF.ev rfl) (hF.ev rfl) hS rfl rfl rfl (by first | rfl | (simp only [List.all_cons, List.all_nil, Value.oneCell', Bool.and_true, Bool.true_and]; assumption) | (simp [Value.oneCell', *]; done)) (by unfold maxLen; omega) (by omega) (fun _ _ _ => trivial) ?_) | (refine d_append 3 0 hD hF rfl rfl rfl rfl sl22 el3 (hF.ev rfl) (hF.ev rfl) hS rfl rfl rfl (by first | rfl | (simp only [List.all_cons, List.all_nil, Value.oneCell', Bool.and_true, Bool.true_and]; assumption) | (simp [Value.oneCell', *]; done)) (by unfold maxLen; omega) (by omega) (fun _ _ _ => trivial) ?_) | (refine d_append 3 1 hD hF rfl rfl rfl rfl sl22 el3 (hF.ev rfl) (hF.ev rfl) hS rfl rfl rfl (by first | rfl | (simp only [List.all_cons, List.all_nil, Value.oneCell', Bool.and_true, Bool.true_and]; assumption) | (simp [Value.oneCell', *]; done)) (by unfold maxLen; omega) (by omega) (fun _ _ _ => trivial) ?_) | (refine d_append 3 2 hD hF rfl rfl rfl rfl sl22 el3 (hF.ev rfl) (hF.ev rfl) hS rfl rfl rfl (by first | rfl | (simp only [List.all_cons, List.all_nil, Value.oneCell', Bool.and_true, Bool.true_and]; assumption) | (simp [Value.oneCell', *]; done)) (by unfold maxLen; omega) (by omega) (fun _ _ _ => trivial) ?_)); (clear hS hF; intro A135 q135 w hS a hF; (try simp only [upd, del] at hS))
                        refine d_pu hD hF rfl rfl rfl rfl rfl (pu_assign (hF.ev rfl)) ?_; clear hF; intro a hF
                        refine d_done hD rfl ?_; clear hD
                        have hlen3 : 0 + (k : Int).toNat + ((LA ++ lk :: LB).length - ((k : Int) + 1).toNat) + 1 = (LA ++ LB ++ [n + i]).length := by simp; omega
                        rw [hlen3] at hS hF
                        have hcon : [] ++ ((ints (nats (LA ++ lk :: LB))).drop 0).take (k : Int).toNat ++ ((ints (nats (LA ++ lk :: LB))).drop (k + 1)).take ((LA ++ lk :: LB).length - ((k : Int) + 1).toNat) ++ [.int .i64 (n + i : Nat)] = ints (nats (LA ++ LB ++ [n + i])) := by
                          subst hlen
                          have e1 : ints (nats (LA ++ lk :: LB)) = ints (nats LA) ++ .int .i64 (lk : Nat) :: ints (nats LB) := by simp [ints, nats]
                          have e2 : (ints (nats LA)).length = LA.length := by simp [ints, nats]
                          have e3 : (ints (nats LB)).length = LB.length := by simp [ints, nats]
                          obtain ⟨c1, c2⟩ := list_cut (A := ints (nats LA)) (B := ints (nats LB)) (x := .int .i64 (lk : Nat)) e2 e3
                          rw [e1, List.nil_append, List.drop_zero, Int.toNat_natCast, show (LA ++ lk :: LB).length - ((LA.length : Int) + 1).toNat = LB.length by simp; omega, c1, c2]
                          simp [ints, nats]
                        rw [← hcon]
                        exact ⟨_, _, hF.sub ⟨rfl, rfl, rfl, rfl, rfl, rfl, trivial⟩, (hS.drop 1).drop 1⟩
                    · -- operation 11 first
                      refine f_news hD hF rfl rfl rfl rfl rfl (ef_lit1 (cs := [_]) sl22 ze3 rfl (hF.ev rfl) (by first | rfl | exact cells_one (by assumption)) rfl (by omega) (by omega)) hS (fun _ _ _ => trivial) ?_; clear hF hS; intro b134 w hS a hF
                      first
                        | replace hS := row_shut (n := 0) (cap := 0) (sz := 1) (xs := []) hS (by omega) (by unfold maxLen; omega) rfl rfl
                        | replace hS := row_shut (n := 0) (cap := 0) (sz := 1) (xs := []) (hS.front 1 rfl) (by omega) (by unfold maxLen; omega) rfl rfl
                      (try simp only [upd, del] at hS)
                      first
                        | refine d_appendW 0 (news := ((ints (nats (LA ++ lk :: LB))).drop 0).take (k : Int).toNat) hD hF rfl rfl rfl rfl sl22 el3 (hF.ev rfl) (hF.ev rfl) hS rfl (row_win (jj := 1) hS rfl) (by simp [ints, nats] <;> omega) (fun u hu => ints_one u (List.mem_of_mem_drop (List.mem_of_mem_take hu))) (by unfold maxLen; omega) (by omega) (fun _ _ _ => trivial) ?_
                        | refine d_appendW 0 (news := ((ints (nats (LA ++ lk :: LB))).drop 0).take (k : Int).toNat) hD hF rfl rfl rfl rfl sl22 el3 (hF.ev rfl) (hF.ev rfl) hS rfl (row_win (jj := 2) hS rfl) (by simp [ints, nats] <;> omega) (fun u hu => ints_one u (List.mem_of_mem_drop (List.mem_of_mem_take hu))) (by unfold maxLen; omega) (by omega) (fun _ _ _ => trivial) ?_
                      clear hS hF; intro A127 q127 w hS a hF; (try simp only [upd, del] at hS)
                      have hwin : ∀ q u, (((ints (nats (LA ++ lk :: LB))).drop (k + 1)).take ((LA ++ lk :: LB).length - ((k : Int) + 1).toNat))[q]? = some u → w.cell? ((if c = ((k : Int) + 1).toNat then (⟨ga, 0, none⟩ : Addr) else (⟨ga, 0, none⟩ : Addr).add (((k : Int) + 1).toNat * 1)).add q) = some u := by
                        intro q u hu
                        by_cases hcc : c = ((k : Int) + 1).toNat
                        · rw [show (LA ++ lk :: LB).length - ((k : Int) + 1).toNat = 0 by omega, List.take_zero] at hu
                          simp at hu
                        · rw [if_neg hcc, addr_add ga 0, show 0 + ((k : Int) + 1).toNat * 1 = k + 1 by omega]
                          first | exact row_win (jj := 1) hS rfl q u hu | exact row_win (jj := 2) hS rfl q u hu
                      first
                        | refine d_appendW 0 (news := ((ints (nats (LA ++ lk :: LB))).drop (k + 1)).take ((LA ++ lk :: LB).length - ((k : Int) + 1).toNat)) hD hF rfl rfl rfl rfl sl22 el3 (hF.ev rfl) (hF.ev rfl) hS rfl hwin (by simp [ints, nats] <;> omega) (fun u hu => ints_one u (List.mem_of_mem_drop (List.mem_of_mem_take hu))) (by unfold maxLen; omega) (by omega) (fun _ _ _ => trivial) ?_
                        | refine d_appendW 1 (news := ((ints (nats (LA ++ lk :: LB))).drop (k + 1)).take ((LA ++ lk :: LB).length - ((k : Int) + 1).toNat)) hD hF rfl rfl rfl rfl sl22 el3 (hF.ev rfl) (hF.ev rfl) hS rfl hwin (by simp [ints, nats] <;> omega) (fun u hu => ints_one u (List.mem_of_mem_drop (List.mem_of_mem_take hu))) (by unfold maxLen; omega) (by omega) (fun _ _ _ => trivial) ?_
                      clear hS hF; intro A132 q132 w hS a hF; (try simp only [upd, del] at hS)
                      (first | (refine d_append 0 1 hD hF rfl rfl rfl rfl sl22 el3 (hF.ev rfl) (hF.ev rfl) hS rfl rfl rfl (by first | rfl | (simp only [List.all_cons, List.all_nil, Value.oneCell', Bool.and_true, Bool.true_and]; assumption) | (simp [Value.oneCell', *]; done)) (by unfold maxLen; omega) (by omega) (fun _ _ _ => trivial) ?_) | (refine d_append 0 2 hD hF rfl rfl rfl rfl sl22 el3 (hF.ev rfl) (hF.ev rfl) hS rfl rfl rfl (by first | rfl | (simp only [List.all_cons, List.all_nil, Value.oneCell', Bool.and_true, Bool.true_and]; assumption) | (simp [Value.oneCell', *]; done)) (by unfold maxLen; omega) (by omega) (fun _ _ _ => trivial) ?_) | (refine d_append 0 3 hD hF rfl rfl rfl rfl sl22 el3 (hF.ev rfl) (hF.ev rfl) hS rfl rfl rfl (by first | rfl | (simp only [List.all_cons, List.all_nil, Value.oneCell', Bool.and_true, Bool.true_and]; assumption) | (simp [Value.oneCell', *]; done)) (by unfold maxLen; omega) (by omega) (fun _ _ _ => trivial) ?_) | (refine d_append 1 0 hD hF rfl rfl rfl rfl sl22 el3 (hF.ev rfl) (hF.ev rfl) hS rfl rfl rfl (by first | rfl | (simp only [List.all_cons, List.all_nil, Value.oneCell', Bool.and_true, Bool.true_and]; assumption) | (simp [Value.oneCell', *]; done)) (by unfold maxLen; omega) (by omega) (fun _ _ _ => trivial) ?_) | (refine d_append 1 2 hD hF rfl rfl rfl rfl sl22 el3 (hF.ev rfl) (hF.ev rfl) hS rfl rfl rfl (by first | rfl | (simp only [List.all_cons, List.all_nil, Value.oneCell', Bool.and_true, Bool.true_and]; assumption) | (simp [Value.oneCell', *]; done)) (by unfold maxLen; omega) (by omega) (fun _ _ _ => trivial) ?_) | (refine d_append 1 3 hD hF rfl rfl rfl rfl sl22 el3 (hF.ev rfl) (hF.ev rfl) hS rfl rfl rfl (by first | rfl | (simp only [List.all_cons, List.all_nil, Value.oneCell', Bool.and_true, Bool.true_and]; assumption) | (simp [Value.oneCell', *]; done)) (by unfold maxLen; omega) (by omega) (fun _ _ _ => trivial) ?_) | (refine d_append 2 0 hD hF rfl rfl rfl rfl sl22 el3 (hF.ev rfl) (hF.ev rfl) hS rfl rfl rfl (by first | rfl | (simp only [List.all_cons, List.all_nil, Value.oneCell', Bool.and_true, Bool.true_and]; assumption) | (simp [Value.oneCell', *]; done)) (by unfold maxLen; omega) (by omega) (fun _ _ _ => trivial) ?_) | (refine d_append 2 1 hD hF rfl rfl rfl rfl sl22 el3 (hF.ev rfl) (hF.ev rfl) hS rfl rfl rfl (by first | rfl | (simp only [List.all_cons, List.all_nil, Value.oneCell', Bool.and_true, Bool.true_and]; assumption) | (simp [Value.oneCell', *]; done)) (by unfold maxLen; omega) (by omega) (fun _ _ _ => trivial) ?_) | (refine d_append 2 3 hD hF rfl rfl rfl rfl sl22 el3 (hF.ev rfl) (hF.ev rfl) hS rfl rfl rfl (by first | rfl | (simp only [List.all_cons, List.all_nil, Value.oneCell', Bool.and_true, Bool.true_and]; assumption) | (simp [Value.oneCell', *]; done)) (by unfold maxLen; omega) (by omega) (fun _ _ _ => trivial) ?_) | (refine d_append 3 0 hD hF rfl rfl rfl rfl sl22 el3 (hF.ev rfl) (hF.ev rfl) hS rfl rfl rfl (by first | rfl | (simp only [List.all_cons, List.all_nil, Value.oneCell', Bool.and_true, Bool.true_and]; assumption) | (simp [Value.oneCell', *]; done)) (by unfold maxLen; omega) (by omega) (fun _ _ _ => trivial) ?_) | (refine d_append 3 1 hD hF rfl rfl rfl rfl sl22 el3 (hF.ev rfl) (hF.ev rfl) hS rfl rfl rfl (by first | rfl | (simp only [List.all_cons, List.all_nil, Value.oneCell', Bool.and_true, Bool.true_and]; assumption) | (simp [Value.oneCell', *]; done)) (by unfold maxLen; omega) (by omega) (fun _ _ _ => trivial) ?_) | (refine d_append 3 2 hD hF rfl rfl rfl rfl sl22 el3 (hF.ev rfl) (hF.ev rfl) hS rfl rfl rfl (by first | rfl | (simp only [List.all_cons, List.all_nil, Value.oneCell', Bool.and_true, Bool.true_and]; assumption) | (simp [Value.oneCell', *]; done)) (by unfold maxLen; omega) (by omega) (fun _ _ _ => trivial) ?_)); (clear hS hF; intro A135 q135 w hS a hF; (try simp only [upd, del] at hS))
                      refine d_pu hD hF rfl rfl rfl rfl rfl (pu_assign (hF.ev rfl)) ?_; clear hF; intro a hF
                      refine d_done hD rfl ?_; clear hD
                      have hlen3 : 0 + (k : Int).toNat + ((LA ++ lk :: LB).length - ((k : Int) + 1).toNat) + 1 = (LA ++ LB ++ [n + i]).length := by simp; omega
                      rw [hlen3] at hS hF
                      have hcon : [] ++ ((ints (nats (LA ++ lk :: LB))).drop 0).take (k : Int).toNat ++ ((ints (nats (LA ++ lk :: LB))).drop (k + 1)).take ((LA ++ lk :: LB).length - ((k : Int) + 1).toNat) ++ [.int .i64 (n + i : Nat)] = ints (nats (LA ++ LB ++ [n + i])) := by
                        subst hlen
                        have e1 : ints (nats (LA ++ lk :: LB)) = ints (nats LA) ++ .int .i64 (lk : Nat) :: ints (nats LB) := by simp [ints, nats]
                        have e2 : (ints (nats LA)).length = LA.length := by simp [ints, nats]
                        have e3 : (ints (nats LB)).length = LB.length := by simp [ints, nats]
                        obtain ⟨c1, c2⟩ := list_cut (A := ints (nats LA)) (B := ints (nats LB)) (x := .int .i64 (lk : Nat)) e2 e3
                        rw [e1, List.nil_append, List.drop_zero, Int.toNat_natCast, show (LA ++ lk :: LB).length - ((LA.length : Int) + 1).toNat = LB.length by simp; omega, c1, c2]
                        simp [ints, nats]
                      rw [← hcon]
                      exact ⟨_, _, hF.sub ⟨rfl, rfl, rfl, rfl, rfl, rfl, trivial⟩, (hS.drop 1).drop 1⟩
                  · -- operation 11 first
                    refine f_news hD hF rfl rfl rfl rfl rfl (ef_lit1 (cs := [_]) sl22 ze3 rfl (hF.ev rfl) (by first | rfl | exact cells_one (by assumption)) rfl (by omega) (by omega)) hS (fun _ _ _ => trivial) ?_; clear hF hS; intro b134 w hS a hF
                    refine d_news hD hF rfl rfl rfl rfl rfl (ef_lit0 sl22) hS (fun _ _ _ => trivial) ?_; clear hF hS; intro b123 w hS a hF
                    first
                      | replace hS := row_shut (n := 0) (cap := 0) (sz := 1) (xs := []) hS (by omega) (by unfold maxLen; omega) rfl rfl
                      | replace hS := row_shut (n := 0) (cap := 0) (sz := 1) (xs := []) (hS.front 1 rfl) (by omega) (by unfold maxLen; omega) rfl rfl
                    (try simp only [upd, del] at hS)
                    first
                      | refine d_appendW 0 (news := ((ints (nats (LA ++ lk :: LB))).drop 0).take (k : Int).toNat) hD hF rfl rfl rfl rfl sl22 el3 (hF.ev rfl) (hF.ev rfl) hS rfl (row_win (jj := 1) hS rfl) (by simp [ints, nats] <;> omega) (fun u hu => ints_one u (List.mem_of_mem_drop (List.mem_of_mem_take hu))) (by unfold maxLen; omega) (by omega) (fun _ _ _ => trivial) ?_
                      | refine d_appendW 0 (news := ((ints (nats (LA ++ lk :: LB))).drop 0).take (k : Int).toNat) hD hF rfl rfl rfl rfl sl22 el3 (hF.ev rfl) (hF.ev rfl) hS rfl (row_win (jj := 2) hS rfl) (by simp [ints, nats] <;> omega) (fun u hu => ints_one u (List.mem_of_mem_drop (List.mem_of_mem_take hu))) (by unfold maxLen; omega) (by omega) (fun _ _ _ => trivial) ?_
                    clear hS hF; intro A127 q127 w hS a hF; (try simp only [upd, del] at hS)
                    have hwin : ∀ q u, (((ints (nats (LA ++ lk :: LB))).drop (k + 1)).take ((LA ++ lk :: LB).length - ((k : Int) + 1).toNat))[q]? = some u → w.cell? ((if c = ((k : Int) + 1).toNat then (⟨ga, 0, none⟩ : Addr) else (⟨ga, 0, none⟩ : Addr).add (((k : Int) + 1).toNat * 1)).add q) = some u := by
                      intro q u hu
                      by_cases hcc : c = ((k : Int) + 1).toNat
                      · rw [show (LA ++ lk :: LB).length - ((k : Int) + 1).toNat = 0 by omega, List.take_zero] at hu
                        simp at hu
                      · rw [if_neg hcc, addr_add ga 0, show 0 + ((k : Int) + 1).toNat * 1 = k + 1 by omega]
                        first | exact row_win (jj := 1) hS rfl q u hu | exact row_win (jj := 2) hS rfl q u hu
                    first
                      | refine d_appendW 0 (news := ((ints (nats (LA ++ lk :: LB))).drop (k + 1)).take ((LA ++ lk :: LB).length - ((k : Int) + 1).toNat)) hD hF rfl rfl rfl rfl sl22 el3 (hF.ev rfl) (hF.ev rfl) hS rfl hwin (by simp [ints, nats] <;> omega) (fun u hu => ints_one u (List.mem_of_mem_drop (List.mem_of_mem_take hu))) (by unfold maxLen; omega) (by omega) (fun _ _ _ => trivial) ?_
                      | refine d_appendW 1 (news := ((ints (nats (LA ++ lk :: LB))).drop (k + 1)).take ((LA ++ lk :: LB).length - ((k : Int) + 1).toNat)) hD hF rfl rfl rfl rfl sl22 el3 (hF.ev rfl) (hF.ev rfl) hS rfl hwin (by simp [ints, nats] <;> omega) (fun u hu => ints_one u (List.mem_of_mem_drop (List.mem_of_mem_take hu))) (by unfold maxLen; omega) (by omega) (fun _ _ _ => trivial) ?_
                    clear hS hF; intro A132 q132 w hS a hF; (try simp only [upd, del] at hS)
                    (first | (refine d_append 0 1 hD hF rfl rfl rfl rfl sl22 el3 (hF.ev rfl) (hF.ev rfl) hS rfl rfl rfl (by first | rfl | (simp only [List.all_cons, List.all_nil, Value.oneCell', Bool.and_true, Bool.true_and]; assumption) | (simp [Value.oneCell', *]; done)) (by unfold maxLen; omega) (by omega) (fun _ _ _ => trivial) ?_) | (refine d_append 0 2 hD hF rfl rfl rfl rfl sl22 el3 (hF.ev rfl) (hF.ev rfl) hS rfl rfl rfl (by first | rfl | (simp only [List.all_cons, List.all_nil, Value.oneCell', Bool.and_true, Bool.true_and]; assumption) | (simp [Value.oneCell', *]; done)) (by unfold maxLen; omega) (by omega) (fun _ _ _ => trivial) ?_) | (refine d_append 0 3 hD hF rfl rfl rfl rfl sl22 el3 (hF.ev rfl) (hF.ev rfl) hS rfl rfl rfl (by first | rfl | (simp only [List.all_cons, List.all_nil, Value.oneCell', Bool.and_true, Bool.true_and]; assumption) | (simp [Value.oneCell', *]; done)) (by unfold maxLen; omega) (by omega) (fun _ _ _ => trivial) ?_) | (refine d_append 1 0 hD hF rfl rfl rfl rfl sl22 el3 (hF.ev rfl) (hF.ev rfl) hS rfl rfl rfl (by first | rfl | (simp only [List.all_cons, List.all_nil, Value.oneCell', Bool.and_true, Bool.true_and]; assumption) | (simp [Value.oneCell', *]; done)) (by unfold maxLen; omega) (by omega) (fun _ _ _ => trivial) ?_) | (refine d_append 1 2 hD hF rfl rfl rfl rfl sl22 el3 (hF.ev rfl) (hF.ev rfl) hS rfl rfl rfl (by first | rfl | (simp only [List.all_cons, List.all_nil, Value.oneCell', Bool.and_true, Bool.true_and]; assumption) | (simp [Value.oneCell', *]; done)) (by unfold maxLen; omega) (by omega) (fun _ _ _ => trivial) ?_) | (refine d_append 1 3 hD hF rfl rfl rfl rfl sl22 el3 (hF.ev rfl) (hF.ev rfl) hS rfl rfl rfl (by first | rfl | (simp only [List.all_cons, List.all_nil, Value.oneCell', Bool.and_true, Bool.true_and]; assumption) | (simp [Value.oneCell', *]; done)) (by unfold maxLen; omega) (by omega) (fun _ _ _ => trivial) ?_) | (refine d_append 2 0 hD hF rfl rfl rfl rfl sl22 el3 (hF.ev rfl) (hF.ev rfl) hS rfl rfl rfl (by first | rfl | (simp only [List.all_cons, List.all_nil, Value.oneCell', Bool.and_true, Bool.true_and]; assumption) | (simp [Value.oneCell', *]; done)) (by unfold maxLen; omega) (by omega) (fun _ _ _ => trivial) ?_) | (refine d_append 2 1 hD hF rfl rfl rfl rfl sl22 el3 (hF.ev rfl) (hF.ev rfl) hS rfl rfl rfl (by first | rfl | (simp only [List.all_cons, List.all_nil, Value.oneCell', Bool.and_true, Bool.true_and]; assumption) | (simp [Value.oneCell', *]; done)) (by unfold maxLen; omega) (by omega) (fun _ _ _ => trivial) ?_) | (refine d_append 2 3 hD hF rfl rfl rfl rfl sl22 el3 (hF.ev rfl) (hF.ev rfl) hS rfl rfl rfl (by first | rfl | (simp only [List.all_cons, List.all_nil, Value.oneCell', Bool.and_true, Bool.true_and]; assumption) | (simp [Value.oneCell', *]; done)) (by unfold maxLen; omega) (by omega) (fun _ _ _ => trivial) ?_) | (refine d_append 3 0 hD hF rfl rfl rfl rfl sl22 el3 (hF.ev rfl) (hF.ev rfl) hS rfl rfl rfl (by first | rfl | (simp only [List.all_cons, List.all_nil, Value.oneCell', Bool.and_true, Bool.true_and]; assumption) | (simp [Value.oneCell', *]; done)) (by unfold maxLen; omega) (by omega) (fun _ _ _ => trivial) ?_) | (refine d_append 3 1 hD hF rfl rfl rfl rfl sl22 el3 (hF.ev rfl) (hF.ev rfl) hS rfl rfl rfl (by first | rfl | (simp only [List.all_cons, List.all_nil, Value.oneCell', Bool.and_true, Bool.true_and]; assumption) | (simp [Value.oneCell', *]; done)) (by unfold maxLen; omega) (by omega) (fun _ _ _ => trivial) ?_) | (refine d_append 3 2 hD hF rfl rfl rfl rfl sl22 el3 (hF.ev rfl) (hF.ev rfl) hS rfl rfl rfl (by first | rfl | (simp only [List.all_cons, List.all_nil, Value.oneCell', Bool.and_true, Bool.true_and]; assumption) | (simp [Value.oneCell', *]; done)) (by unfold maxLen; omega) (by omega) (fun _ _ _ => trivial) ?_)); (clear hS hF; intro A135 q135 w hS a hF; (try simp only [upd, del] at hS))
                    refine d_pu hD hF rfl rfl rfl rfl rfl (pu_assign (hF.ev rfl)) ?_; clear hF; intro a hF
                    refine d_done hD rfl ?_; clear hD
                    have hlen3 : 0 + (k : Int).toNat + ((LA ++ lk :: LB).length - ((k : Int) + 1).toNat) + 1 = (LA ++ LB ++ [n + i]).length := by simp; omega
                    rw [hlen3] at hS hF
                    have hcon : [] ++ ((ints (nats (LA ++ lk :: LB))).drop 0).take (k : Int).toNat ++ ((ints (nats (LA ++ lk :: LB))).drop (k + 1)).take ((LA ++ lk :: LB).length - ((k : Int) + 1).toNat) ++ [.int .i64 (n + i : Nat)] = ints (nats (LA ++ LB ++ [n + i])) := by
                      subst hlen
                      have e1 : ints (nats (LA ++ lk :: LB)) = ints (nats LA) ++ .int .i64 (lk : Nat) :: ints (nats LB) := by simp [ints, nats]
                      have e2 : (ints (nats LA)).length = LA.length := by simp [ints, nats]
                      have e3 : (ints (nats LB)).length = LB.length := by simp [ints, nats]
                      obtain ⟨c1, c2⟩ := list_cut (A := ints (nats LA)) (B := ints (nats LB)) (x := .int .i64 (lk : Nat)) e2 e3
                      rw [e1, List.nil_append, List.drop_zero, Int.toNat_natCast, show (LA ++ lk :: LB).length - ((LA.length : Int) + 1).toNat = LB.length by simp; omega, c1, c2]
                      simp [ints, nats]
                    rw [← hcon]
                    exact ⟨_, _, hF.sub ⟨rfl, rfl, rfl, rfl, rfl, rfl, trivial⟩, (hS.drop 1).drop 1⟩
                · -- behind the join s36
                  clear hS hF
                  rintro a w ⟨A', q', hF, hS⟩
                  -- region 29
                  refine wp_region_lit ?_
                  refine s_pu hF rfl rfl rfl (pu_move (hF.ev rfl)) ?_; clear hF; intro a hF
                  refine s_pu hF rfl rfl rfl ((by first | exact pu_add64 (hF.ev rfl) (hF.ev rfl) (by omega) | exact pu_add (hF.ev rfl) (hF.ev rfl))) ?_; clear hF; intro a hF
                  refine s_pu hF rfl rfl rfl (pu_assign (hF.ev rfl)) ?_; clear hF; intro a hF
                  refine s_done ?_
                  refine blk_normal ?_
                  refine hK15 _ _ ?_; clear hK15
                  -- region 16
                  refine wp_region_lit ?_
                  refine s_pu hF rfl rfl rfl (pu_move (hF.ev rfl)) ?_; clear hF; intro a hF
                  refine s_pu hF rfl rfl rfl ((by first | exact pu_add64 (hF.ev rfl) (hF.ev rfl) (by omega) | exact pu_add (hF.ev rfl) (hF.ev rfl))) ?_; clear hF; intro a hF
                  refine s_pu hF rfl rfl rfl (pu_assign (hF.ev rfl)) ?_; clear hF; intro a hF
                  refine s_done ?_
                  exact ⟨_, by omega, i + 1, LA ++ LB ++ [n + i], A', q', rfl, by omega, by omega, hsw1, hF.sub ⟨rfl, rfl, rfl, rfl, rfl, rfl, trivial⟩, hS⟩
        · -- cond 3 false
          try simp only [decide_eq_true_eq, decide_eq_false_iff_not, Bool.not_eq_true', Bool.not_eq_false', Int.not_lt, Int.not_le, ne_eq, Decidable.not_not, Bool.or_eq_true, Bool.or_eq_false_iff, Bool.and_eq_true, Bool.and_eq_false_imp] at hc3
          omega
      · clear hF; intro hg57 hF   -- slot 57 false
        try simp only [decide_eq_true_eq, decide_eq_false_iff_not, Bool.not_eq_true', Bool.not_eq_false', Int.not_lt, Int.not_le, ne_eq, Decidable.not_not, Bool.or_eq_true, Bool.or_eq_false_iff, Bool.and_eq_true, Bool.and_eq_false_imp] at hg57
        omega
    · -- behind the join s17
      clear hS hF A c
      rintro a w ⟨i, l, A, c, hO, hi40, hF, hS⟩
      have hll := hO.len
      have hwl : (waitsL (l.map fE)).length = l.length := by rw [f_waits]; simp
      refine wp_seq_k fun K11 hK11 => ?_
      -- region 30
      refine wp_region_lit ?_
      refine s_pu hF rfl rfl rfl (pu_move (hF.ev rfl)) ?_; clear hF; intro a hF
      refine s_en hF rfl rfl rfl (run_fn fk14 (hF.ev rfl) (hF.evs rfl)) (at_place 1 hS rfl (fun h => tall_c h (by simp only [fT, List.length_map]; omega))) ?_
      clear hS; rintro e w ⟨A2, c2, rfl, hS⟩
      simp only [del] at hS
      have e1 : (waitsL (fT n l (n + i : Nat)).L).length = l.length := hwl
      have e2 : (waitsE (fT n l (n + i : Nat)).L).map Ety.p = l.map req := f_req
      rw [e1, e2] at hS
      rw [e1]
      refine ⟨_, rfl, ?_⟩; clear hF; intro a hF
      refine s_pu hF rfl rfl rfl (pu_assign (hF.ev rfl)) ?_; clear hF; intro a hF
      refine s_done ?_
      refine hK11 _ _ ?_; clear hK11
      refine wp_seq_k fun K12 hK12 => ?_
      refine wp_seq_k fun K13 hK13 => ?_
      -- region 31
      refine wp_region_lit ?_
      refine s_pu hF rfl rfl rfl (pu_move (hF.ev rfl)) ?_; clear hF; intro a hF
      refine s_pu hF rfl rfl rfl (pu_len sl41 (hF.ev rfl)) ?_; clear hF; intro a hF
      refine s_pu hF rfl rfl rfl (pu_move (hF.ev rfl)) ?_; clear hF; intro a hF
      refine s_pu hF rfl rfl rfl (pu_neq (hF.ev rfl) (hF.ev rfl)) ?_; clear hF; intro a hF
      refine s_done ?_
      refine hK13 _ _ ?_; clear hK13
      refine wp_cond_split (hF.ev rfl) (fun hc7 => ?_) (fun hc7 => ?_)
      · -- cond 7 true
        try simp only [decide_eq_true_eq, decide_eq_false_iff_not, Bool.not_eq_true', Bool.not_eq_false', Int.not_lt, Int.not_le, ne_eq, Decidable.not_not, Bool.or_eq_true, Bool.or_eq_false_iff, Bool.and_eq_true, Bool.and_eq_false_imp] at hc7
        omega
      · -- cond 7 false
        try simp only [decide_eq_true_eq, decide_eq_false_iff_not, Bool.not_eq_true', Bool.not_eq_false', Int.not_lt, Int.not_le, ne_eq, Decidable.not_not, Bool.or_eq_true, Bool.or_eq_false_iff, Bool.and_eq_true, Bool.and_eq_false_imp] at hc7
        refine wp_skip ?_
        refine hK12 _ _ ?_; clear hK12
        refine wp_seq_k fun K14 hK14 => ?_
        refine wp_seq_k fun K15 hK15 => ?_
        -- region 33
        refine wp_region_lit ?_
        refine s_pu hF rfl rfl rfl (pu_assign (hF.ev rfl)) ?_; clear hF; intro a hF
        refine s_done ?_
        refine hK15 _ _ ?_; clear hK15
        refine wp_block ?_
        obtain ⟨hs, hsl, hS⟩ := list_open.1 (hS.drop 1)
        rw [List.length_map] at hsl hS
        replace hS := hS.perm (List.perm_middle (l₁ := rowC 35 12 (.slice A2 l.length c2) l.length (pndCells (l.map req) hs) :: messC 1 hs (l.map req)))
        refine wp_ind (fun j a w => ∃ (i : Nat), j = n - i ∧ i ≤ n ∧ Fr a 160 [(5, .int .i64 n), (8, .slice A l.length c), (20, .slice A2 l.length c2), (21, .int .i64 i)] ∧
          Sat W w (rowC 3 1 (.slice A l.length c) l.length (ints (nats l)) :: rowC 35 12 (.slice A2 l.length c2) l.length (pndCells (l.map req) hs) :: (messC 1 hs (l.map req) ++ [whole W]))) n
          ⟨0, rfl, by omega, hF.sub ⟨rfl, rfl, rfl, rfl, trivial⟩, hS⟩ ?_
        clear hS hF
        rintro j a w ⟨q, rfl, hq, hF, hS⟩
        refine wp_seq_k fun K16 hK16 => ?_
        refine wp_seq_k fun K17 hK17 => ?_
        -- region 34
        refine wp_region_lit ?_
        refine s_pu hF rfl rfl rfl (pu_move (hF.ev rfl)) ?_; clear hF; intro a hF
        refine s_pu hF rfl rfl rfl (pu_move (hF.ev rfl)) ?_; clear hF; intro a hF
        refine s_pu hF rfl rfl rfl (pu_lss (hF.ev rfl) (hF.ev rfl)) ?_; clear hF; intro a hF
        refine s_done ?_
        refine hK17 _ _ ?_; clear hK17
        refine wp_cond_split (hF.ev rfl) (fun hc8 => ?_) (fun hc8 => ?_)
        · -- cond 8 true
          try simp only [decide_eq_true_eq, decide_eq_false_iff_not, Bool.not_eq_true', Bool.not_eq_false', Int.not_lt, Int.not_le, ne_eq, Decidable.not_not, Bool.or_eq_true, Bool.or_eq_false_iff, Bool.and_eq_true, Bool.and_eq_false_imp] at hc8
          have hql : q < l.length := by omega
          obtain ⟨lq, hlq⟩ : ∃ lq, l[q]? = some lq := ⟨l[q], List.getElem?_eq_getElem _⟩
          have hx : (l.map req)[q]? = some (req lq) := by rw [List.getElem?_map, hlq]; rfl
          obtain ⟨px, hpx⟩ : ∃ px, hs[q]? = some px := ⟨hs[q]'(by omega), List.getElem?_eq_getElem _⟩
          obtain ⟨ga, rfl⟩ := row_some (i := 0) hS rfl (by omega)
          obtain ⟨gb, rfl⟩ := row_some (i := 1) hS rfl (by omega)
          have hnth : nth (rowC 3 1 (.slice (some ⟨ga, 0, none⟩) l.length c) l.length (ints (nats l)) :: rowC 35 12 (.slice (some ⟨gb, 0, none⟩) l.length c2) l.length (pndCells (l.map req) hs) :: (messC 1 hs (l.map req) ++ [whole W])) (q + 2) = some (mesC 1 px (req lq)) := nth_mess hx hpx
          obtain ⟨B1, m1, B2, m2, rfl⟩ := mes_val (hS.front _ hnth)
          have hlk2 : (ints (nats l))[q]? = some (.int .i64 (lq : Nat)) := by
            have := ints_at (zs := nats l) (i := q) (by rw [nats_len]; omega)
            rw [nats_getD hlq] at this
            exact this
          have hlqn : lq < n + i := hO.lt _ (List.mem_of_getElem? hlq)
          refine wp_skip ?_
          refine hK16 _ _ ?_; clear hK16
          refine wp_seq_k fun K18 hK18 => ?_
          refine wp_block ?_
          refine wp_seq_k fun K19 hK19 => ?_
          -- region 36
          refine d_start (S := (fun w => Sat W w _)) (ds := [8]) (ord := [(0, .pu), (1, .pu), (2, .pu), (3, .tk), (4, .pu), (5, .pu), (6, .pu), (7, .tk), (8, .ls), (9, .pu)]) mixed ⟨by kernel_rfl, fun _ d _ _ _ h => by cases d <;> exact h⟩ hS.drew fun hD => ?_
          replace hS := hS.drew; generalize w.drew = w at hS ⊢
          refine d_pu hD hF rfl rfl rfl rfl rfl (pu_move (hF.ev rfl)) ?_; clear hF; intro a hF
          refine d_pu hD hF rfl rfl rfl rfl rfl (pu_move (hF.ev rfl)) ?_; clear hF; intro a hF
          refine d_pu hD hF rfl rfl rfl rfl rfl ((by first | exact pu_elem sl41 (hF.ev rfl) (hF.ev rfl) (by first | omega | simp) (by first | omega | (simp; done) | (simp; omega)) | exact pu_elemA sl41 (hF.ev rfl) (hF.ev rfl) (by omega) (by omega))) ?_; clear hF; intro a hF
          refine d_rd hD hF rfl rfl rfl rfl rfl hS (fun w hS => rd_loadN ag35 (hF.ev rfl) rfl (row_load (i := 1) hS rfl (by omega) (pndCells_at hx hpx))) ?_; clear hF; intro a hF
          refine d_pu hD hF rfl rfl rfl rfl rfl (pu_move (hF.ev rfl)) ?_; clear hF; intro a hF
          refine d_pu hD hF rfl rfl rfl rfl rfl (pu_move (hF.ev rfl)) ?_; clear hF; intro a hF
          refine d_pu hD hF rfl rfl rfl rfl rfl ((by first | exact pu_elem sl22 (hF.ev rfl) (hF.ev rfl) (by first | omega | simp) (by first | omega | (simp; done) | (simp; omega)) | exact pu_elemA sl22 (hF.ev rfl) (hF.ev rfl) (by omega) (by omega))) ?_; clear hF; intro a hF
          refine d_rd hD hF rfl rfl rfl rfl rfl hS (fun w hS => (by first | exact rd_load pl3 (hF.ev rfl) (by assumption) | exact rd_load pl3 (hF.ev rfl) (hS.cellL (i := 0) rfl rfl) | exact rd_load pl3 (hF.ev rfl) (hS.cellL (i := 1) rfl rfl) | exact rd_load pl3 (hF.ev rfl) (hS.cellL (i := 2) rfl rfl) | exact rd_load pl3 (hF.ev rfl) (hS.cellL (i := 3) rfl rfl) | exact rd_load pl3 (hF.ev rfl) (hS.cell (i := 0) rfl (by assumption)) | exact rd_load pl3 (hF.ev rfl) (hS.cell (i := 1) rfl (by assumption)) | exact rd_load pl3 (hF.ev rfl) (hS.cell (i := 2) rfl (by assumption)) | exact rd_load pl3 (hF.ev rfl) (hS.cell (i := 3) rfl (by assumption)) | exact rd_load pl3 (hF.ev rfl) (row_at (i := 0) hS rfl (by first | assumption | rfl)) | exact rd_load pl3 (hF.ev rfl) (row_at0 (i := 0) hS rfl (by first | assumption | rfl)) | exact rd_load pl3 (hF.ev rfl) (row_at (i := 1) hS rfl (by first | assumption | rfl)) | exact rd_load pl3 (hF.ev rfl) (row_at0 (i := 1) hS rfl (by first | assumption | rfl)) | exact rd_load pl3 (hF.ev rfl) (row_at (i := 2) hS rfl (by first | assumption | rfl)) | exact rd_load pl3 (hF.ev rfl) (row_at0 (i := 2) hS rfl (by first | assumption | rfl)) | exact rd_load pl3 (hF.ev rfl) (row_at (i := 3) hS rfl (by first | assumption | rfl)) | exact rd_load pl3 (hF.ev rfl) (row_at0 (i := 3) hS rfl (by first | assumption | rfl)))) ?_; clear hF; intro a hF
          refine l_en hD hF rfl rfl rfl rfl rfl (run_fn fk13 (hF.ev rfl) (hF.evs rfl)) (at_place (q + 2) hS hnth (fun h => its_own (n := lq) (p := req lq) h (by omega))) ?_
          clear hS; rintro e w ⟨bb, rfl, hbb, hS⟩
          obtain rfl : bb = true := hbb.2 rfl
          replace hS := same_place (q + 2) hS hnth
          refine ⟨_, rfl, ?_⟩; clear hF; intro a hF
          refine d_pu hD hF rfl rfl rfl rfl rfl (pu_assign (hF.ev rfl)) ?_; clear hF; intro a hF
          refine d_done hD rfl ?_; clear hD
          refine hK19 _ _ ?_; clear hK19
          refine wp_seq_k fun K20 hK20 => ?_
          -- region 37
          refine wp_region_lit ?_
          refine s_pu hF rfl rfl rfl (pu_move (hF.ev rfl)) ?_; clear hF; intro a hF
          refine s_pu hF rfl rfl rfl (pu_not (hF.ev rfl)) ?_; clear hF; intro a hF
          refine s_done ?_
          refine hK20 _ _ ?_; clear hK20
          refine wp_cond_false (hF.ev rfl) ?_
          refine wp_skip ?_
          refine blk_normal ?_
          refine hK18 _ _ ?_; clear hK18
          -- region 35
          refine wp_region_lit ?_
          refine s_pu hF rfl rfl rfl (pu_move (hF.ev rfl)) ?_; clear hF; intro a hF
          refine s_pu hF rfl rfl rfl ((by first | exact pu_add64 (hF.ev rfl) (hF.ev rfl) (by omega) | exact pu_add (hF.ev rfl) (hF.ev rfl))) ?_; clear hF; intro a hF
          refine s_pu hF rfl rfl rfl (pu_assign (hF.ev rfl)) ?_; clear hF; intro a hF
          refine s_done ?_
          exact ⟨_, by omega, q + 1, rfl, by omega, hF.sub ⟨rfl, rfl, rfl, rfl, trivial⟩, hS⟩
        · -- cond 8 false
          try simp only [decide_eq_true_eq, decide_eq_false_iff_not, Bool.not_eq_true', Bool.not_eq_false', Int.not_lt, Int.not_le, ne_eq, Decidable.not_not, Bool.or_eq_true, Bool.or_eq_false_iff, Bool.and_eq_true, Bool.and_eq_false_imp] at hc8
          refine wp_exit ?_
          refine then_exit ?_
          refine then_exit ?_
          refine blk_exit ?_
          refine hK14 _ _ ?_; clear hK14
          refine wp_seq_k fun K18 hK18 => ?_
          -- region 39
          refine wp_region_lit ?_
          refine s_pu hF rfl rfl rfl (pu_assign (hF.ev rfl)) ?_; clear hF; intro a hF
          refine s_done ?_
          refine hK18 _ _ ?_; clear hK18
          refine wp_ret ?_
          refine fin1 Try.results3 hF rfl ?_
          refine ⟨rfl, ?_⟩
          have h9 : Sat W w [whole W] := hS.tail.tail.right
          exact h9.below
end Go.Proofs.Ytbfdebddoncfhaa
