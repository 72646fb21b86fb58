import Derived.Test.YtgnepnjicmgkaaaSa8
/-! SafWaits. -/
namespace Go.Proofs.Ytgnepnjicmgkaaa
open Go Go.RowKit Go.Proofs.Ytgnepnjicmgkaaa.Sk
set_option linter.unusedVariables false
set_option linter.unusedSimpArgs false
set_option maxRecDepth 100000

def wQ (r t sent : Int) (under : Bool) (ticks : Int) : Que := ⟨1, r, t, [oneA 5], sent, under, ticks, [], 0⟩
def wU (k : Nat) : Bool := decide (0 < k)
def wT (r : Int) (k : Nat) : Int := if k = 0 then 0 else r
section
variable {r t : Int}
theorem wq_put : (Que.start 1 r t).put (oneA 5) = (wQ r t (0 : Nat) (wU 0) (wT r 0), 0) := by simp [Que.put, Que.start, wQ, wU, wT]
theorem wq_ok {s i : Int} {u : Bool} (hr : 1 ≤ r ∧ r ≤ 60) (ht : 1 ≤ t ∧ t ≤ 20) (hs : 0 ≤ s ∧ s ≤ 20) (hi : 0 ≤ i ∧ i ≤ 60) : QOk (wQ r t s u i) :=
  ⟨hs.1, by simp only [wQ]; omega, hi.1, by simp only [wQ]; omega, by simp [wQ], by simp [wQ], hr.1, by simp only [wQ]; omega, ht.1, by simp only [wQ]; omega, by simp [wQ]⟩
theorem wq_send {k : Nat} (hk : (k : Int) < t) : (wQ r t k (wU k) (wT r k)).next true = (wQ r t ((k : Int) + 1) true 0, some (if k = 0 then ((oneA 5).m1, (oneA 5).f1) else ((oneA 5).m2, (oneA 5).f2))) := by
  unfold Que.next
  rw [if_pos rfl]
  simp only [wQ, Que.nextL]
  rw [if_neg, if_neg (by omega)]
  · congr 2
    by_cases h : k = 0
    · rw [if_pos h, if_pos (by omega)]
    · rw [if_neg h, if_neg (by omega)]
  · rintro ⟨h1, h2⟩
    unfold wU at h1
    unfold wT at h2
    have := of_decide_eq_true h1
    rw [if_neg (by omega)] at h2
    omega
theorem wq_idle {s i : Int} (hi : i < r) : (wQ r t s true i).next true = (wQ r t s true i, none) := by
  unfold Que.next
  rw [if_pos rfl]
  simp only [wQ, Que.nextL]
  rw [if_pos ⟨by trivial, hi⟩]
theorem wq_off {s i : Int} {u : Bool} : (wQ r t s u i).next false = (wQ r t s u i, none) := rfl
theorem wq_tick {s i : Int} (hi : i < r) : { wQ r t s true i with ticks := min ((wQ r t s true i).ticks + 1) (wQ r t s true i).retry } = wQ r t s true (i + 1) := by
  simp only [wQ]
  congr 1
  omega
theorem wq_late {s : Int} : { wQ r t s true r with ticks := min ((wQ r t s true r).ticks + 1) (wQ r t s true r).retry } = wQ r t s true r := by
  simp only [wQ]
  congr 1
  omega
def wEnd (r t : Int) (gone : List Int) : Que := ⟨1, r, t, [], 0, false, 0, gone, 1⟩
theorem wq_end {k : Nat} (hk : (k : Int) = t) (h0 : 0 < k) : (wQ r t k (wU k) (wT r k)).next true = (wEnd r t [5], none) := by
  unfold Que.next
  rw [if_pos rfl]
  simp only [wQ, Que.nextL]
  rw [if_neg, if_pos (by omega)]
  · simp [Que.drop, wEnd, Que.nextL, oneA]
    decide
  · rintro ⟨h1, h2⟩
    unfold wT at h2
    rw [if_neg (by omega)] at h2
    omega
end

theorem safWaits_walk (W : World) (x0 : Int) (hx0 : (Lit.int .i64 x0).wf = true) (x1 : Int) (hx1 : (Lit.int .i64 x1).wf = true) (x2 : Int) (hx2 : (Lit.int .i64 x2).wf = true) :
    Calls Try.prog 3 #[.int .i64 x0, .int .i64 x1, .int .i64 x2] W fun e w' => e = .returned (.bool true) ∧ Below W.heap.size W w' := by
  have hx0 := wf64 hx0
  have hx1 := wf64 hx1
  have hx2 := wf64 hx2
  have hS0 := sat_whole W
  obtain ⟨w, hw⟩ : ∃ w, w = W := ⟨_, rfl⟩
  have hS : Sat W w [whole W] := by rw [hw]; exact hS0
  rw [show Calls Try.prog 3 #[.int .i64 x0, .int .i64 x1, .int .i64 x2] W = Calls Try.prog 3 #[.int .i64 x0, .int .i64 x1, .int .i64 x2] w by rw [hw]]
  clear hw hS0
  refine enter Try.func3 rfl Try.ntmps3 (Nat.le_of_ble_eq_true rfl) fun a hF => ?_
  refine wp_seq_k fun K0 hK0 => ?_
  -- region 0
  refine wp_region_lit ?_
  refine s_pu hF rfl rfl rfl (pu_assign (hF.ev rfl)) ?_; clear hF; intro a hF
  refine s_done ?_
  refine hK0 _ _ ?_; clear hK0
  refine wp_seq_k fun K1 hK1 => ?_
  -- region 1
  refine wp_region_lit ?_
  refine s_en hF rfl rfl rfl (run_fn fk6 (hF.ev rfl) (hF.evs rfl)) (examples_c hS) ?_
  clear hS; rintro e w ⟨rfl, hS⟩
  refine ⟨_, rfl, ?_⟩; clear hF; intro a hF
  refine s_pu hF rfl rfl rfl (pu_assign (hF.ev rfl)) ?_; clear hF; intro a hF
  refine s_done ?_
  refine hK1 _ _ ?_; clear hK1
  refine wp_seq_k fun K2 hK2 => ?_
  -- region 2
  refine wp_region_lit ?_
  refine s_pu hF rfl rfl rfl (pu_move (hF.ev rfl)) ?_; clear hF; intro a hF
  refine s_en hF rfl rfl rfl (run_fn fk7 (hF.ev rfl) (hF.evs rfl)) (pick_c hS (by omega) hx0.1 hx0.2) ?_
  clear hS; rintro e w ⟨pr, _, hpr, rfl, hS⟩
  refine ⟨_, rfl, ?_⟩; clear hF; intro a hF
  refine s_pu hF rfl rfl rfl ((by first | exact pu_add64 (hF.ev rfl) (hF.ev rfl) (by omega) | exact pu_add (hF.ev rfl) (hF.ev rfl))) ?_; clear hF; intro a hF
  refine s_pu hF rfl rfl rfl (pu_assign (hF.ev rfl)) ?_; clear hF; intro a hF
  refine s_done ?_
  refine hK2 _ _ ?_; clear hK2
  refine wp_seq_k fun K3 hK3 => ?_
  -- region 3
  refine wp_region_lit ?_
  refine s_pu hF rfl rfl rfl (pu_move (hF.ev rfl)) ?_; clear hF; intro a hF
  refine s_en hF rfl rfl rfl (run_fn fk7 (hF.ev rfl) (hF.evs rfl)) (pick_c hS (by omega) hx1.1 hx1.2) ?_
  clear hS; rintro e w ⟨pt, _, hpt, rfl, hS⟩
  refine ⟨_, rfl, ?_⟩; clear hF; intro a hF
  refine s_pu hF rfl rfl rfl ((by first | exact pu_add64 (hF.ev rfl) (hF.ev rfl) (by omega) | exact pu_add (hF.ev rfl) (hF.ev rfl))) ?_; clear hF; intro a hF
  refine s_pu hF rfl rfl rfl (pu_assign (hF.ev rfl)) ?_; clear hF; intro a hF
  refine s_done ?_
  refine hK3 _ _ ?_; clear hK3
  refine wp_seq_k fun K4 hK4 => ?_
  -- region 4
  refine wp_region_lit ?_
  obtain ⟨R, hR⟩ : ∃ R : Nat, (R : Int) = 1 + (pr : Int) := ⟨pr + 1, by omega⟩
  obtain ⟨T, hT⟩ : ∃ T : Nat, (T : Int) = 1 + (pt : Int) := ⟨pt + 1, by omega⟩
  rw [← hR, ← hT] at hF
  refine s_pu hF rfl rfl rfl (pu_move (hF.ev rfl)) ?_; clear hF; intro a hF
  refine s_pu hF rfl rfl rfl (pu_move (hF.ev rfl)) ?_; clear hF; intro a hF
  refine s_en hF rfl rfl rfl (run_fn fk8 (hF.ev rfl) (hF.evs rfl)) (new_c (k := 1) hS (by unfold newOk; omega)) ?_
  clear hS; rintro e w ⟨g, rfl, hS⟩
  refine ⟨_, rfl, ?_⟩; clear hF; intro a hF
  refine s_pu hF rfl rfl rfl (pu_move (hF.ev rfl)) ?_; clear hF; intro a hF
  refine s_pu hF rfl rfl rfl (pu_extract (hF.ev rfl) rfl) ?_; clear hF; intro a hF
  refine s_pu hF rfl rfl rfl (pu_extract (hF.ev rfl) rfl) ?_; clear hF; intro a hF
  refine s_pu hF rfl rfl rfl (pu_assign (hF.ev rfl)) ?_; clear hF; intro a hF
  refine s_pu hF rfl rfl rfl (pu_assign (hF.ev rfl)) ?_; clear hF; intro a hF
  refine s_done ?_
  refine hK4 _ _ ?_; clear hK4
  refine wp_seq_k fun K5 hK5 => ?_
  refine wp_seq_k fun K6 hK6 => ?_
  -- region 5
  refine wp_region_lit ?_
  refine s_pu hF rfl rfl rfl (pu_move (hF.ev rfl)) ?_; clear hF; intro a hF
  refine s_pu hF rfl rfl rfl (pu_not (hF.ev rfl)) ?_; clear hF; intro a hF
  refine s_pu hF rfl rfl rfl (pu_move (hF.ev rfl)) ?_; clear hF; intro a hF
  refine s_pu hF rfl rfl rfl (pu_move (hF.ev rfl)) ?_; clear hF; intro a hF
  refine s_pu hF rfl rfl rfl (pu_neq (hF.ev rfl) (hF.ev rfl)) ?_; clear hF; intro a hF
  refine s_pu hF rfl rfl rfl ((by first | exact pu_pick_t (hF.ev rfl) (hF.ev rfl) | exact pu_pick_f (hF.ev rfl) (hF.ev rfl) | exact pu_pick (hF.ev rfl) (hF.ev rfl) (hF.ev rfl))) ?_; clear hF; intro a hF
  refine s_pu hF rfl rfl rfl (pu_move (hF.ev rfl)) ?_; clear hF; intro a hF
  refine s_pu hF rfl rfl rfl (pu_move (hF.ev rfl)) ?_; clear hF; intro a hF
  refine s_pu hF rfl rfl rfl (pu_peq Try.underlying24 (hF.ev rfl) (hF.ev rfl)) ?_; clear hF; intro a hF
  refine s_pu hF rfl rfl rfl ((by first | exact pu_pick_t (hF.ev rfl) (hF.ev rfl) | exact pu_pick_f (hF.ev rfl) (hF.ev rfl) | exact pu_pick (hF.ev rfl) (hF.ev rfl) (hF.ev rfl))) ?_; clear hF; intro a hF
  refine s_done ?_
  refine hK6 _ _ ?_; clear hK6
  refine wp_cond_false (hF.ev rfl) ?_
  refine wp_skip ?_
  refine hK5 _ _ ?_; clear hK5
  refine wp_seq_k fun K7 hK7 => ?_
  -- region 7
  refine wp_region_lit ?_
  refine s_pu hF rfl rfl rfl (pu_move (hF.ev rfl)) ?_; clear hF; intro a hF
  refine s_en hF rfl rfl rfl (run_fn fk10 (hF.ev rfl) (hF.evs rfl)) (one_c hS (by omega) (by omega)) ?_
  clear hS; rintro e w ⟨p, rfl, ⟨_, _, _, _, _, _, rfl⟩, hS⟩
  refine ⟨_, rfl, ?_⟩; clear hF; intro a hF
  refine s_en hF rfl rfl rfl (run_fn fk9 (hF.ev rfl) (hF.evs rfl)) (put_own 1 hS (by simp [Que.start])) ?_
  clear hS; rintro e w ⟨rfl, hS⟩
  rw [wq_put] at hS ⊢
  refine ⟨_, rfl, ?_⟩; clear hF; intro a hF
  refine s_pu hF rfl rfl rfl (pu_assign (hF.ev rfl)) ?_; clear hF; intro a hF
  refine s_done ?_
  refine hK7 _ _ ?_; clear hK7
  refine wp_seq_k fun K8 hK8 => ?_
  refine wp_seq_k fun K9 hK9 => ?_
  -- region 8
  refine wp_region_lit ?_
  refine s_pu hF rfl rfl rfl (pu_move (hF.ev rfl)) ?_; clear hF; intro a hF
  refine s_pu hF rfl rfl rfl (pu_neq (hF.ev rfl) (hF.ev rfl)) ?_; clear hF; intro a hF
  refine s_done ?_
  refine hK9 _ _ ?_; clear hK9
  refine wp_cond_false (hF.ev rfl) ?_
  refine wp_skip ?_
  refine hK8 _ _ ?_; clear hK8
  refine wp_seq_k fun K10 hK10 => ?_
  refine wp_seq_k fun K11 hK11 => ?_
  -- region 10
  refine wp_region_lit ?_
  refine s_pu hF rfl rfl rfl (pu_assign (hF.ev rfl)) ?_; clear hF; intro a hF
  refine s_done ?_
  refine hK11 _ _ ?_; clear hK11
  refine wp_block ?_
  refine wp_ind (fun j a w => ∃ (k : Nat), j = T - k ∧ k ≤ T ∧ Fr a 142 [(2, .int .i64 x2), (8, .int .i64 R), (9, .int .i64 T), (10, .pointer (some ⟨g, 0, none⟩)), (13, .int .i64 k)] ∧
    Sat W w [queueC 1 g (wQ R T k (wU k) (wT R k)), whole W]) T
    ⟨0, by omega, by omega, hF.sub ⟨rfl, rfl, rfl, rfl, rfl, trivial⟩, hS⟩ ?_
  clear hS hF
  rintro j a w ⟨k, rfl, hk, hF, hS⟩
  refine wp_seq_k fun K12 hK12 => ?_
  refine wp_seq_k fun K13 hK13 => ?_
  -- region 11
  refine wp_region_lit ?_
  refine s_pu hF rfl rfl rfl (pu_move (hF.ev rfl)) ?_; clear hF; intro a hF
  refine s_pu hF rfl rfl rfl (pu_move (hF.ev rfl)) ?_; clear hF; intro a hF
  refine s_pu hF rfl rfl rfl (pu_lss (hF.ev rfl) (hF.ev rfl)) ?_; clear hF; intro a hF
  refine s_done ?_
  refine hK13 _ _ ?_; clear hK13
  refine wp_cond_split (hF.ev rfl) (fun hc2 => ?_) (fun hc2 => ?_)
  · -- cond 2 true
    try simp only [decide_eq_true_eq, decide_eq_false_iff_not, Bool.not_eq_true', Bool.not_eq_false', Int.not_lt, Int.not_le, ne_eq, Decidable.not_not, Bool.or_eq_true, Bool.or_eq_false_iff, Bool.and_eq_true, Bool.and_eq_false_imp] at hc2
    have hwT : 0 ≤ wT R k ∧ wT R k ≤ 60 := by unfold wT; split <;> omega
    refine wp_skip ?_
    refine hK12 _ _ ?_; clear hK12
    refine wp_seq_k fun K14 hK14 => ?_
    refine wp_block ?_
    refine wp_seq_k fun K15 hK15 => ?_
    -- region 13
    rcases Nat.eq_zero_or_pos k with hk0 | hk0
    · -- z
      -- region 13
      refine wp_region_lit ?_
      refine s_pu hF rfl rfl rfl (pu_move (hF.ev rfl)) ?_; clear hF; intro a hF
      refine s_en hF rfl rfl rfl (run_fn fk11 (hF.ev rfl) (hF.evs rfl)) (next_c 1 hS (wq_ok (by omega) (by omega) (by omega) hwT) (by simp [wQ])) ?_
      clear hS; rintro e w ⟨h, rfl, ⟨_, _, _, rfl⟩, hS⟩
      rw [wq_send (by omega), if_pos hk0] at hS ⊢
      refine ⟨_, rfl, ?_⟩; clear hF; intro a hF
      refine s_pu hF rfl rfl rfl (pu_move (hF.ev rfl)) ?_; clear hF; intro a hF
      refine s_pu hF rfl rfl rfl (pu_extract (hF.ev rfl) rfl) ?_; clear hF; intro a hF
      refine s_pu hF rfl rfl rfl (pu_extract (hF.ev rfl) rfl) ?_; clear hF; intro a hF
      refine s_newp hF rfl rfl rfl (ef_alloc (cs := #[_, _]) ze31 rfl) hS ?_; clear hF hS; intro b14 w hS a hF
      (first | (refine s_store (vs := [_, _]) (cs' := #[_, _]) 0 hF rfl (hF.ev rfl) (hF.ev rfl) hS rfl rfl sz31 (by first | rfl | (simp only [List.all_cons, List.all_nil, Value.oneCell', Bool.and_true, Bool.true_and]; assumption) | (simp [Value.oneCell', *]; done)) (by first | exact Nat.le_of_ble_eq_true rfl | (simp [Value.cells]; omega)) rfl ?_) | (refine s_store (vs := [_, _]) (cs' := #[_, _]) 1 hF rfl (hF.ev rfl) (hF.ev rfl) hS rfl rfl sz31 (by first | rfl | (simp only [List.all_cons, List.all_nil, Value.oneCell', Bool.and_true, Bool.true_and]; assumption) | (simp [Value.oneCell', *]; done)) (by first | exact Nat.le_of_ble_eq_true rfl | (simp [Value.cells]; omega)) rfl ?_) | (refine s_store (vs := [_, _]) (cs' := #[_, _]) 2 hF rfl (hF.ev rfl) (hF.ev rfl) hS rfl rfl sz31 (by first | rfl | (simp only [List.all_cons, List.all_nil, Value.oneCell', Bool.and_true, Bool.true_and]; assumption) | (simp [Value.oneCell', *]; done)) (by first | exact Nat.le_of_ble_eq_true rfl | (simp [Value.cells]; omega)) rfl ?_) | (refine s_store (vs := [_, _]) (cs' := #[_, _]) 3 hF rfl (hF.ev rfl) (hF.ev rfl) hS rfl rfl sz31 (by first | rfl | (simp only [List.all_cons, List.all_nil, Value.oneCell', Bool.and_true, Bool.true_and]; assumption) | (simp [Value.oneCell', *]; done)) (by first | exact Nat.le_of_ble_eq_true rfl | (simp [Value.cells]; omega)) rfl ?_) | (refine s_store (vs := [_, _]) (cs' := #[_, _]) 4 hF rfl (hF.ev rfl) (hF.ev rfl) hS rfl rfl sz31 (by first | rfl | (simp only [List.all_cons, List.all_nil, Value.oneCell', Bool.and_true, Bool.true_and]; assumption) | (simp [Value.oneCell', *]; done)) (by first | exact Nat.le_of_ble_eq_true rfl | (simp [Value.cells]; omega)) rfl ?_) | (refine s_store (vs := [_, _]) (cs' := #[_, _]) 5 hF rfl (hF.ev rfl) (hF.ev rfl) hS rfl rfl sz31 (by first | rfl | (simp only [List.all_cons, List.all_nil, Value.oneCell', Bool.and_true, Bool.true_and]; assumption) | (simp [Value.oneCell', *]; done)) (by first | exact Nat.le_of_ble_eq_true rfl | (simp [Value.cells]; omega)) rfl ?_) | (refine s_store (vs := [_, _]) (cs' := _) 0 hF rfl (hF.ev rfl) (hF.ev rfl) hS rfl rfl sz31 (by first | rfl | (simp only [List.all_cons, List.all_nil, Value.oneCell', Bool.and_true, Bool.true_and]; assumption) | (simp [Value.oneCell', *]; done)) (by first | exact Nat.le_of_ble_eq_true rfl | (simp [Value.cells]; omega)) rfl ?_) | (refine s_store (vs := [_, _]) (cs' := _) 1 hF rfl (hF.ev rfl) (hF.ev rfl) hS rfl rfl sz31 (by first | rfl | (simp only [List.all_cons, List.all_nil, Value.oneCell', Bool.and_true, Bool.true_and]; assumption) | (simp [Value.oneCell', *]; done)) (by first | exact Nat.le_of_ble_eq_true rfl | (simp [Value.cells]; omega)) rfl ?_) | (refine s_store (vs := [_, _]) (cs' := _) 2 hF rfl (hF.ev rfl) (hF.ev rfl) hS rfl rfl sz31 (by first | rfl | (simp only [List.all_cons, List.all_nil, Value.oneCell', Bool.and_true, Bool.true_and]; assumption) | (simp [Value.oneCell', *]; done)) (by first | exact Nat.le_of_ble_eq_true rfl | (simp [Value.cells]; omega)) rfl ?_) | (refine s_store (vs := [_, _]) (cs' := _) 3 hF rfl (hF.ev rfl) (hF.ev rfl) hS rfl rfl sz31 (by first | rfl | (simp only [List.all_cons, List.all_nil, Value.oneCell', Bool.and_true, Bool.true_and]; assumption) | (simp [Value.oneCell', *]; done)) (by first | exact Nat.le_of_ble_eq_true rfl | (simp [Value.cells]; omega)) rfl ?_) | (refine s_store (vs := [_, _]) (cs' := _) 4 hF rfl (hF.ev rfl) (hF.ev rfl) hS rfl rfl sz31 (by first | rfl | (simp only [List.all_cons, List.all_nil, Value.oneCell', Bool.and_true, Bool.true_and]; assumption) | (simp [Value.oneCell', *]; done)) (by first | exact Nat.le_of_ble_eq_true rfl | (simp [Value.cells]; omega)) rfl ?_) | (refine s_store (vs := [_, _]) (cs' := _) 5 hF rfl (hF.ev rfl) (hF.ev rfl) hS rfl rfl sz31 (by first | rfl | (simp only [List.all_cons, List.all_nil, Value.oneCell', Bool.and_true, Bool.true_and]; assumption) | (simp [Value.oneCell', *]; done)) (by first | exact Nat.le_of_ble_eq_true rfl | (simp [Value.cells]; omega)) rfl ?_))
      clear hS; intro w hS; (try simp only [upd, del] at hS)
      refine s_pu hF rfl rfl rfl (pu_assign (hF.ev rfl)) ?_; clear hF; intro a hF
      refine s_done ?_
      refine hK15 _ _ ?_; clear hK15
      refine wp_seq_k fun K16 hK16 => ?_
      -- region 14
      refine wp_region_lit ?_
      refine s_pu hF rfl rfl rfl (pu_assign (hF.ev rfl)) ?_; clear hF; intro a hF
      refine s_done ?_
      refine hK16 _ _ ?_; clear hK16
      refine wp_seq_k fun K17 hK17 => ?_
      refine wp_seq_k fun K18 hK18 => ?_
      -- region 15
      refine wp_region_lit ?_
      refine s_pu hF rfl rfl rfl (pu_move (hF.ev rfl)) ?_; clear hF; intro a hF
      refine s_pu hF rfl rfl rfl (pu_eql (hF.ev rfl) (hF.ev rfl)) ?_; clear hF; intro a hF
      refine s_done ?_
      refine hK18 _ _ ?_; clear hK18
      refine wp_cond_split (hF.ev rfl) (fun hc3 => ?_) (fun hc3 => ?_)
      · -- cond 3 true
        try simp only [decide_eq_true_eq, decide_eq_false_iff_not, Bool.not_eq_true', Bool.not_eq_false', Int.not_lt, Int.not_le, ne_eq, Decidable.not_not, Bool.or_eq_true, Bool.or_eq_false_iff, Bool.and_eq_true, Bool.and_eq_false_imp] at hc3
        -- region 16
        refine wp_region_lit ?_
        refine s_pu hF rfl rfl rfl (pu_assign (hF.ev rfl)) ?_; clear hF; intro a hF
        refine s_done ?_
        refine hK17 _ _ ?_; clear hK17
        refine wp_seq_k fun K19 hK19 => ?_
        refine wp_seq_k fun K20 hK20 => ?_
        -- region 17
        refine wp_region_lit ?_
        refine s_pu hF rfl rfl rfl (pu_move (hF.ev rfl)) ?_; clear hF; intro a hF
        refine s_pu hF rfl rfl rfl (pu_not (hF.ev rfl)) ?_; clear hF; intro a hF
        refine s_pu hF rfl rfl rfl (pu_move (hF.ev rfl)) ?_; clear hF; intro a hF
        refine s_pu hF rfl rfl rfl (pu_field fd31_0 (hF.ev rfl)) ?_; clear hF; intro a hF
        refine s_rd hF rfl rfl rfl (by first | exact rd_load pl9 (hF.ev rfl) (by assumption) | exact rd_load pl9 (hF.ev rfl) (hS.cellL (i := 0) rfl rfl) | exact rd_load pl9 (hF.ev rfl) (hS.cellL (i := 1) rfl rfl) | exact rd_load pl9 (hF.ev rfl) (hS.cellL (i := 2) rfl rfl) | exact rd_load pl9 (hF.ev rfl) (hS.cellL (i := 3) rfl rfl) | exact rd_load pl9 (hF.ev rfl) (hS.cellL (i := 4) rfl rfl) | exact rd_load pl9 (hF.ev rfl) (hS.cellL (i := 5) rfl rfl) | exact rd_load pl9 (hF.ev rfl) (hS.cell (i := 0) rfl (by assumption)) | exact rd_load pl9 (hF.ev rfl) (hS.cell (i := 1) rfl (by assumption)) | exact rd_load pl9 (hF.ev rfl) (hS.cell (i := 2) rfl (by assumption)) | exact rd_load pl9 (hF.ev rfl) (hS.cell (i := 3) rfl (by assumption)) | exact rd_load pl9 (hF.ev rfl) (hS.cell (i := 4) rfl (by assumption)) | exact rd_load pl9 (hF.ev rfl) (hS.cell (i := 5) rfl (by assumption)) | exact rd_load pl9 (hF.ev rfl) (row_at (i := 0) hS rfl (by first | assumption | rfl)) | exact rd_load pl9 (hF.ev rfl) (row_at0 (i := 0) hS rfl (by first | assumption | rfl)) | exact rd_load pl9 (hF.ev rfl) (row_at (i := 1) hS rfl (by first | assumption | rfl)) | exact rd_load pl9 (hF.ev rfl) (row_at0 (i := 1) hS rfl (by first | assumption | rfl)) | exact rd_load pl9 (hF.ev rfl) (row_at (i := 2) hS rfl (by first | assumption | rfl)) | exact rd_load pl9 (hF.ev rfl) (row_at0 (i := 2) hS rfl (by first | assumption | rfl)) | exact rd_load pl9 (hF.ev rfl) (row_at (i := 3) hS rfl (by first | assumption | rfl)) | exact rd_load pl9 (hF.ev rfl) (row_at0 (i := 3) hS rfl (by first | assumption | rfl)) | exact rd_load pl9 (hF.ev rfl) (row_at (i := 4) hS rfl (by first | assumption | rfl)) | exact rd_load pl9 (hF.ev rfl) (row_at0 (i := 4) hS rfl (by first | assumption | rfl)) | exact rd_load pl9 (hF.ev rfl) (row_at (i := 5) hS rfl (by first | assumption | rfl)) | exact rd_load pl9 (hF.ev rfl) (row_at0 (i := 5) hS rfl (by first | assumption | rfl))) ?_; clear hF; intro a hF
        refine s_pu hF rfl rfl rfl (pu_move (hF.ev rfl)) ?_; clear hF; intro a hF
        refine s_pu hF rfl rfl rfl (pu_sneq (hF.ev rfl) (hF.ev rfl)) ?_; clear hF; intro a hF
        refine s_pu hF rfl rfl rfl ((by first | exact pu_pick_t (hF.ev rfl) (hF.ev rfl) | exact pu_pick_f (hF.ev rfl) (hF.ev rfl) | exact pu_pick (hF.ev rfl) (hF.ev rfl) (hF.ev rfl))) ?_; clear hF; intro a hF
        refine s_done ?_
        refine hK20 _ _ ?_; clear hK20
        refine wp_cond_false (hF.ev rfl) ?_
        refine wp_skip ?_
        refine hK19 _ _ ?_; clear hK19
        refine wp_seq_k fun K21 hK21 => ?_
        refine wp_seq_k fun K22 hK22 => ?_
        -- region 19
        refine wp_region_lit ?_
        refine s_pu hF rfl rfl rfl (pu_assign (hF.ev rfl)) ?_; clear hF; intro a hF
        refine s_done ?_
        refine hK22 _ _ ?_; clear hK22
        refine wp_block ?_
        replace hS := hS.tail.tail
        refine wp_ind (fun j a w => ∃ (i : Nat), j = R - i ∧ i ≤ R ∧ Fr a 142 [(2, .int .i64 x2), (8, .int .i64 R), (9, .int .i64 T), (10, .pointer (some ⟨g, 0, none⟩)), (13, .int .i64 k), (17, .int .i64 i)] ∧
          Sat W w [queueC 1 g (wQ R T ((k : Int) + 1) true i), whole W]) R
          ⟨0, by omega, by omega, hF.sub ⟨rfl, rfl, rfl, rfl, rfl, rfl, trivial⟩, hS⟩ ?_
        clear hS hF
        rintro j a w ⟨i, rfl, hi, hF, hS⟩
        refine wp_seq_k fun K23 hK23 => ?_
        refine wp_seq_k fun K24 hK24 => ?_
        -- region 20
        refine wp_region_lit ?_
        refine s_pu hF rfl rfl rfl (pu_move (hF.ev rfl)) ?_; clear hF; intro a hF
        refine s_pu hF rfl rfl rfl (pu_move (hF.ev rfl)) ?_; clear hF; intro a hF
        refine s_pu hF rfl rfl rfl (pu_lss (hF.ev rfl) (hF.ev rfl)) ?_; clear hF; intro a hF
        refine s_done ?_
        refine hK24 _ _ ?_; clear hK24
        refine wp_cond_split (hF.ev rfl) (fun hc5 => ?_) (fun hc5 => ?_)
        · -- cond 5 true
          try simp only [decide_eq_true_eq, decide_eq_false_iff_not, Bool.not_eq_true', Bool.not_eq_false', Int.not_lt, Int.not_le, ne_eq, Decidable.not_not, Bool.or_eq_true, Bool.or_eq_false_iff, Bool.and_eq_true, Bool.and_eq_false_imp] at hc5
          refine wp_skip ?_
          refine hK23 _ _ ?_; clear hK23
          refine wp_seq_k fun K25 hK25 => ?_
          refine wp_block ?_
          refine wp_seq_k fun K26 hK26 => ?_
          -- region 22
          refine wp_region_lit ?_
          refine s_pu hF rfl rfl rfl (pu_move (hF.ev rfl)) ?_; clear hF; intro a hF
          refine s_en hF rfl rfl rfl (run_fn fk11 (hF.ev rfl) (hF.evs rfl)) (next_c 1 hS (wq_ok (by omega) (by omega) (by omega) (by omega)) (by simp [wQ])) ?_
          clear hS; rintro e w ⟨h, rfl, ⟨_, _, _, rfl⟩, hS⟩
          rw [wq_idle (by omega)] at hS ⊢
          refine ⟨_, rfl, ?_⟩; clear hF; intro a hF
          refine s_pu hF rfl rfl rfl (pu_move (hF.ev rfl)) ?_; clear hF; intro a hF
          refine s_pu hF rfl rfl rfl (pu_extract (hF.ev rfl) rfl) ?_; clear hF; intro a hF
          refine s_pu hF rfl rfl rfl (pu_extract (hF.ev rfl) rfl) ?_; clear hF; intro a hF
          refine s_newp hF rfl rfl rfl (ef_alloc (cs := #[_, _]) ze31 rfl) hS ?_; clear hF hS; intro b18 w hS a hF
          (first | (refine s_store (vs := [_, _]) (cs' := #[_, _]) 0 hF rfl (hF.ev rfl) (hF.ev rfl) hS rfl rfl sz31 (by first | rfl | (simp only [List.all_cons, List.all_nil, Value.oneCell', Bool.and_true, Bool.true_and]; assumption) | (simp [Value.oneCell', *]; done)) (by first | exact Nat.le_of_ble_eq_true rfl | (simp [Value.cells]; omega)) rfl ?_) | (refine s_store (vs := [_, _]) (cs' := #[_, _]) 1 hF rfl (hF.ev rfl) (hF.ev rfl) hS rfl rfl sz31 (by first | rfl | (simp only [List.all_cons, List.all_nil, Value.oneCell', Bool.and_true, Bool.true_and]; assumption) | (simp [Value.oneCell', *]; done)) (by first | exact Nat.le_of_ble_eq_true rfl | (simp [Value.cells]; omega)) rfl ?_) | (refine s_store (vs := [_, _]) (cs' := #[_, _]) 2 hF rfl (hF.ev rfl) (hF.ev rfl) hS rfl rfl sz31 (by first | rfl | (simp only [List.all_cons, List.all_nil, Value.oneCell', Bool.and_true, Bool.true_and]; assumption) | (simp [Value.oneCell', *]; done)) (by first | exact Nat.le_of_ble_eq_true rfl | (simp [Value.cells]; omega)) rfl ?_) | (refine s_store (vs := [_, _]) (cs' := #[_, _]) 3 hF rfl (hF.ev rfl) (hF.ev rfl) hS rfl rfl sz31 (by first | rfl | (simp only [List.all_cons, List.all_nil, Value.oneCell', Bool.and_true, Bool.true_and]; assumption) | (simp [Value.oneCell', *]; done)) (by first | exact Nat.le_of_ble_eq_true rfl | (simp [Value.cells]; omega)) rfl ?_) | (refine s_store (vs := [_, _]) (cs' := #[_, _]) 4 hF rfl (hF.ev rfl) (hF.ev rfl) hS rfl rfl sz31 (by first | rfl | (simp only [List.all_cons, List.all_nil, Value.oneCell', Bool.and_true, Bool.true_and]; assumption) | (simp [Value.oneCell', *]; done)) (by first | exact Nat.le_of_ble_eq_true rfl | (simp [Value.cells]; omega)) rfl ?_) | (refine s_store (vs := [_, _]) (cs' := #[_, _]) 5 hF rfl (hF.ev rfl) (hF.ev rfl) hS rfl rfl sz31 (by first | rfl | (simp only [List.all_cons, List.all_nil, Value.oneCell', Bool.and_true, Bool.true_and]; assumption) | (simp [Value.oneCell', *]; done)) (by first | exact Nat.le_of_ble_eq_true rfl | (simp [Value.cells]; omega)) rfl ?_) | (refine s_store (vs := [_, _]) (cs' := _) 0 hF rfl (hF.ev rfl) (hF.ev rfl) hS rfl rfl sz31 (by first | rfl | (simp only [List.all_cons, List.all_nil, Value.oneCell', Bool.and_true, Bool.true_and]; assumption) | (simp [Value.oneCell', *]; done)) (by first | exact Nat.le_of_ble_eq_true rfl | (simp [Value.cells]; omega)) rfl ?_) | (refine s_store (vs := [_, _]) (cs' := _) 1 hF rfl (hF.ev rfl) (hF.ev rfl) hS rfl rfl sz31 (by first | rfl | (simp only [List.all_cons, List.all_nil, Value.oneCell', Bool.and_true, Bool.true_and]; assumption) | (simp [Value.oneCell', *]; done)) (by first | exact Nat.le_of_ble_eq_true rfl | (simp [Value.cells]; omega)) rfl ?_) | (refine s_store (vs := [_, _]) (cs' := _) 2 hF rfl (hF.ev rfl) (hF.ev rfl) hS rfl rfl sz31 (by first | rfl | (simp only [List.all_cons, List.all_nil, Value.oneCell', Bool.and_true, Bool.true_and]; assumption) | (simp [Value.oneCell', *]; done)) (by first | exact Nat.le_of_ble_eq_true rfl | (simp [Value.cells]; omega)) rfl ?_) | (refine s_store (vs := [_, _]) (cs' := _) 3 hF rfl (hF.ev rfl) (hF.ev rfl) hS rfl rfl sz31 (by first | rfl | (simp only [List.all_cons, List.all_nil, Value.oneCell', Bool.and_true, Bool.true_and]; assumption) | (simp [Value.oneCell', *]; done)) (by first | exact Nat.le_of_ble_eq_true rfl | (simp [Value.cells]; omega)) rfl ?_) | (refine s_store (vs := [_, _]) (cs' := _) 4 hF rfl (hF.ev rfl) (hF.ev rfl) hS rfl rfl sz31 (by first | rfl | (simp only [List.all_cons, List.all_nil, Value.oneCell', Bool.and_true, Bool.true_and]; assumption) | (simp [Value.oneCell', *]; done)) (by first | exact Nat.le_of_ble_eq_true rfl | (simp [Value.cells]; omega)) rfl ?_) | (refine s_store (vs := [_, _]) (cs' := _) 5 hF rfl (hF.ev rfl) (hF.ev rfl) hS rfl rfl sz31 (by first | rfl | (simp only [List.all_cons, List.all_nil, Value.oneCell', Bool.and_true, Bool.true_and]; assumption) | (simp [Value.oneCell', *]; done)) (by first | exact Nat.le_of_ble_eq_true rfl | (simp [Value.cells]; omega)) rfl ?_))
          clear hS; intro w hS; (try simp only [upd, del] at hS)
          refine s_pu hF rfl rfl rfl (pu_assign (hF.ev rfl)) ?_; clear hF; intro a hF
          refine s_done ?_
          refine hK26 _ _ ?_; clear hK26
          refine wp_seq_k fun K27 hK27 => ?_
          refine wp_seq_k fun K28 hK28 => ?_
          -- region 23
          refine wp_region_lit ?_
          refine s_pu hF rfl rfl rfl (pu_move (hF.ev rfl)) ?_; clear hF; intro a hF
          refine s_pu hF rfl rfl rfl (pu_move (hF.ev rfl)) ?_; clear hF; intro a hF
          refine s_pu hF rfl rfl rfl (pu_move (hF.ev rfl)) ?_; clear hF; intro a hF
          refine s_en hF rfl rfl rfl (run_fn fk12 (hF.ev rfl) (hF.evs rfl)) (at_place 1 hS rfl (fun h => len_c h)) ?_
          clear hS; rintro e w ⟨rfl, hS⟩
          refine ⟨_, rfl, ?_⟩; clear hF; intro a hF
          refine s_pu hF rfl rfl rfl (pu_neq (hF.ev rfl) (hF.ev rfl)) ?_; clear hF; intro a hF
          refine s_pu hF rfl rfl rfl ((by first | exact pu_pick_t (hF.ev rfl) (hF.ev rfl) | exact pu_pick_f (hF.ev rfl) (hF.ev rfl) | exact pu_pick (hF.ev rfl) (hF.ev rfl) (hF.ev rfl))) ?_; clear hF; intro a hF
          refine s_done ?_
          refine hK28 _ _ ?_; clear hK28
          refine wp_cond_false (hF.ev rfl) ?_
          refine wp_skip ?_
          refine hK27 _ _ ?_; clear hK27
          -- region 25
          refine wp_region_lit ?_
          refine s_pu hF rfl rfl rfl (pu_move (hF.ev rfl)) ?_; clear hF; intro a hF
          refine s_en hF rfl rfl rfl (run_fn fk13 (hF.ev rfl) (hF.evs rfl)) (tick_c hS (by simp only [wQ]; omega) (by simp only [wQ]; omega)) ?_
          clear hS; rintro e w ⟨rfl, hS⟩
          rw [wq_tick (by omega)] at hS
          refine ⟨_, rfl, ?_⟩; clear hF; intro a hF
          refine s_done ?_
          refine blk_normal ?_
          refine hK25 _ _ ?_; clear hK25
          -- region 21
          refine wp_region_lit ?_
          refine s_pu hF rfl rfl rfl (pu_move (hF.ev rfl)) ?_; clear hF; intro a hF
          refine s_pu hF rfl rfl rfl ((by first | exact pu_add64 (hF.ev rfl) (hF.ev rfl) (by omega) | exact pu_add (hF.ev rfl) (hF.ev rfl))) ?_; clear hF; intro a hF
          refine s_pu hF rfl rfl rfl (pu_assign (hF.ev rfl)) ?_; clear hF; intro a hF
          refine s_done ?_
          exact ⟨_, by omega, i + 1, rfl, by omega, hF.sub ⟨rfl, rfl, rfl, rfl, rfl, rfl, trivial⟩, hS.drop 1⟩
        · -- cond 5 false
          try simp only [decide_eq_true_eq, decide_eq_false_iff_not, Bool.not_eq_true', Bool.not_eq_false', Int.not_lt, Int.not_le, ne_eq, Decidable.not_not, Bool.or_eq_true, Bool.or_eq_false_iff, Bool.and_eq_true, Bool.and_eq_false_imp] at hc5
          refine wp_exit ?_
          refine then_exit ?_
          refine then_exit ?_
          refine blk_exit ?_
          refine hK21 _ _ ?_; clear hK21
          refine wp_seq_k fun K25 hK25 => ?_
          -- region 26
          refine wp_region_lit ?_
          refine s_pu hF rfl rfl rfl (pu_assign (hF.ev rfl)) ?_; clear hF; intro a hF
          refine s_done ?_
          refine hK25 _ _ ?_; clear hK25
          refine wp_block ?_
          have hiR : i = R := by omega
          subst hiR
          refine wp_ind (fun j a w => ∃ (c : Nat), j = 5 - c ∧ c ≤ 5 ∧ Fr a 142 [(2, .int .i64 x2), (8, .int .i64 i), (9, .int .i64 T), (10, .pointer (some ⟨g, 0, none⟩)), (13, .int .i64 k), (20, .int .i64 c)] ∧
            Sat W w [queueC 1 g (wQ i T ((k : Int) + 1) true i), whole W]) 5
            ⟨0, by omega, by omega, hF.sub ⟨rfl, rfl, rfl, rfl, rfl, rfl, trivial⟩, hS⟩ ?_
          clear hS hF
          rintro j a w ⟨c, rfl, hc, hF, hS⟩
          refine wp_seq_k fun K26 hK26 => ?_
          refine wp_seq_k fun K27 hK27 => ?_
          -- region 27
          refine wp_region_lit ?_
          refine s_pu hF rfl rfl rfl (pu_move (hF.ev rfl)) ?_; clear hF; intro a hF
          refine s_pu hF rfl rfl rfl (pu_move (hF.ev rfl)) ?_; clear hF; intro a hF
          refine s_en hF rfl rfl rfl (run_fn fk7 (hF.ev rfl) (hF.evs rfl)) (pick_c hS (by omega) hx2.1 hx2.2) ?_
          clear hS; rintro e w ⟨pl, _, hpl, rfl, hS⟩
          refine ⟨_, rfl, ?_⟩; clear hF; intro a hF
          refine s_pu hF rfl rfl rfl (pu_lss (hF.ev rfl) (hF.ev rfl)) ?_; clear hF; intro a hF
          refine s_done ?_
          refine hK27 _ _ ?_; clear hK27
          refine wp_cond_split (hF.ev rfl) (fun hc7 => ?_) (fun hc7 => ?_)
          · -- cond 7 true
            try simp only [decide_eq_true_eq, decide_eq_false_iff_not, Bool.not_eq_true', Bool.not_eq_false', Int.not_lt, Int.not_le, ne_eq, Decidable.not_not, Bool.or_eq_true, Bool.or_eq_false_iff, Bool.and_eq_true, Bool.and_eq_false_imp] at hc7
            refine wp_skip ?_
            refine hK26 _ _ ?_; clear hK26
            refine wp_seq_k fun K28 hK28 => ?_
            refine wp_block ?_
            refine wp_seq_k fun K29 hK29 => ?_
            -- region 29
            refine wp_region_lit ?_
            refine s_pu hF rfl rfl rfl (pu_move (hF.ev rfl)) ?_; clear hF; intro a hF
            refine s_en hF rfl rfl rfl (run_fn fk11 (hF.ev rfl) (hF.evs rfl)) (next_c 1 hS (wq_ok (by omega) (by omega) (by omega) (by omega)) (by simp [wQ])) ?_
            clear hS; rintro e w ⟨h, rfl, ⟨_, _, _, rfl⟩, hS⟩
            rw [wq_off] at hS ⊢
            refine ⟨_, rfl, ?_⟩; clear hF; intro a hF
            refine s_pu hF rfl rfl rfl (pu_move (hF.ev rfl)) ?_; clear hF; intro a hF
            refine s_pu hF rfl rfl rfl (pu_extract (hF.ev rfl) rfl) ?_; clear hF; intro a hF
            refine s_pu hF rfl rfl rfl (pu_extract (hF.ev rfl) rfl) ?_; clear hF; intro a hF
            refine s_newp hF rfl rfl rfl (ef_alloc (cs := #[_, _]) ze31 rfl) hS ?_; clear hF hS; intro b21 w hS a hF
            (first | (refine s_store (vs := [_, _]) (cs' := #[_, _]) 0 hF rfl (hF.ev rfl) (hF.ev rfl) hS rfl rfl sz31 (by first | rfl | (simp only [List.all_cons, List.all_nil, Value.oneCell', Bool.and_true, Bool.true_and]; assumption) | (simp [Value.oneCell', *]; done)) (by first | exact Nat.le_of_ble_eq_true rfl | (simp [Value.cells]; omega)) rfl ?_) | (refine s_store (vs := [_, _]) (cs' := #[_, _]) 1 hF rfl (hF.ev rfl) (hF.ev rfl) hS rfl rfl sz31 (by first | rfl | (simp only [List.all_cons, List.all_nil, Value.oneCell', Bool.and_true, Bool.true_and]; assumption) | (simp [Value.oneCell', *]; done)) (by first | exact Nat.le_of_ble_eq_true rfl | (simp [Value.cells]; omega)) rfl ?_) | (refine s_store (vs := [_, _]) (cs' := #[_, _]) 2 hF rfl (hF.ev rfl) (hF.ev rfl) hS rfl rfl sz31 (by first | rfl | (simp only [List.all_cons, List.all_nil, Value.oneCell', Bool.and_true, Bool.true_and]; assumption) | (simp [Value.oneCell', *]; done)) (by first | exact Nat.le_of_ble_eq_true rfl | (simp [Value.cells]; omega)) rfl ?_) | (refine s_store (vs := [_, _]) (cs' := #[_, _]) 3 hF rfl (hF.ev rfl) (hF.ev rfl) hS rfl rfl sz31 (by first | rfl | (simp only [List.all_cons, List.all_nil, Value.oneCell', Bool.and_true, Bool.true_and]; assumption) | (simp [Value.oneCell', *]; done)) (by first | exact Nat.le_of_ble_eq_true rfl | (simp [Value.cells]; omega)) rfl ?_) | (refine s_store (vs := [_, _]) (cs' := #[_, _]) 4 hF rfl (hF.ev rfl) (hF.ev rfl) hS rfl rfl sz31 (by first | rfl | (simp only [List.all_cons, List.all_nil, Value.oneCell', Bool.and_true, Bool.true_and]; assumption) | (simp [Value.oneCell', *]; done)) (by first | exact Nat.le_of_ble_eq_true rfl | (simp [Value.cells]; omega)) rfl ?_) | (refine s_store (vs := [_, _]) (cs' := #[_, _]) 5 hF rfl (hF.ev rfl) (hF.ev rfl) hS rfl rfl sz31 (by first | rfl | (simp only [List.all_cons, List.all_nil, Value.oneCell', Bool.and_true, Bool.true_and]; assumption) | (simp [Value.oneCell', *]; done)) (by first | exact Nat.le_of_ble_eq_true rfl | (simp [Value.cells]; omega)) rfl ?_) | (refine s_store (vs := [_, _]) (cs' := _) 0 hF rfl (hF.ev rfl) (hF.ev rfl) hS rfl rfl sz31 (by first | rfl | (simp only [List.all_cons, List.all_nil, Value.oneCell', Bool.and_true, Bool.true_and]; assumption) | (simp [Value.oneCell', *]; done)) (by first | exact Nat.le_of_ble_eq_true rfl | (simp [Value.cells]; omega)) rfl ?_) | (refine s_store (vs := [_, _]) (cs' := _) 1 hF rfl (hF.ev rfl) (hF.ev rfl) hS rfl rfl sz31 (by first | rfl | (simp only [List.all_cons, List.all_nil, Value.oneCell', Bool.and_true, Bool.true_and]; assumption) | (simp [Value.oneCell', *]; done)) (by first | exact Nat.le_of_ble_eq_true rfl | (simp [Value.cells]; omega)) rfl ?_) | (refine s_store (vs := [_, _]) (cs' := _) 2 hF rfl (hF.ev rfl) (hF.ev rfl) hS rfl rfl sz31 (by first | rfl | (simp only [List.all_cons, List.all_nil, Value.oneCell', Bool.and_true, Bool.true_and]; assumption) | (simp [Value.oneCell', *]; done)) (by first | exact Nat.le_of_ble_eq_true rfl | (simp [Value.cells]; omega)) rfl ?_) | (refine s_store (vs := [_, _]) (cs' := _) 3 hF rfl (hF.ev rfl) (hF.ev rfl) hS rfl rfl sz31 (by first | rfl | (simp only [List.all_cons, List.all_nil, Value.oneCell', Bool.and_true, Bool.true_and]; assumption) | (simp [Value.oneCell', *]; done)) (by first | exact Nat.le_of_ble_eq_true rfl | (simp [Value.cells]; omega)) rfl ?_) | (refine s_store (vs := [_, _]) (cs' := _) 4 hF rfl (hF.ev rfl) (hF.ev rfl) hS rfl rfl sz31 (by first | rfl | (simp only [List.all_cons, List.all_nil, Value.oneCell', Bool.and_true, Bool.true_and]; assumption) | (simp [Value.oneCell', *]; done)) (by first | exact Nat.le_of_ble_eq_true rfl | (simp [Value.cells]; omega)) rfl ?_) | (refine s_store (vs := [_, _]) (cs' := _) 5 hF rfl (hF.ev rfl) (hF.ev rfl) hS rfl rfl sz31 (by first | rfl | (simp only [List.all_cons, List.all_nil, Value.oneCell', Bool.and_true, Bool.true_and]; assumption) | (simp [Value.oneCell', *]; done)) (by first | exact Nat.le_of_ble_eq_true rfl | (simp [Value.cells]; omega)) rfl ?_))
            clear hS; intro w hS; (try simp only [upd, del] at hS)
            refine s_pu hF rfl rfl rfl (pu_assign (hF.ev rfl)) ?_; clear hF; intro a hF
            refine s_done ?_
            refine hK29 _ _ ?_; clear hK29
            refine wp_seq_k fun K30 hK30 => ?_
            -- region 30
            refine wp_region_lit ?_
            refine s_pu hF rfl rfl rfl (pu_move (hF.ev rfl)) ?_; clear hF; intro a hF
            refine s_en hF rfl rfl rfl (run_fn fk13 (hF.ev rfl) (hF.evs rfl)) (at_place 1 hS rfl (fun h => tick_c h (by simp only [wQ]; omega) (by simp only [wQ]; omega))) ?_
            clear hS; rintro e w ⟨rfl, hS⟩
            rw [wq_late] at hS
            refine ⟨_, rfl, ?_⟩; clear hF; intro a hF
            refine s_done ?_
            refine hK30 _ _ ?_; clear hK30
            refine wp_seq_k fun K31 hK31 => ?_
            -- region 31
            refine wp_region_lit ?_
            refine s_pu hF rfl rfl rfl (pu_move (hF.ev rfl)) ?_; clear hF; intro a hF
            refine s_done ?_
            refine hK31 _ _ ?_; clear hK31
            refine wp_cond_false (hF.ev rfl) ?_
            refine wp_skip ?_
            refine blk_normal ?_
            refine hK28 _ _ ?_; clear hK28
            -- region 28
            refine wp_region_lit ?_
            refine s_pu hF rfl rfl rfl (pu_move (hF.ev rfl)) ?_; clear hF; intro a hF
            refine s_pu hF rfl rfl rfl ((by first | exact pu_add64 (hF.ev rfl) (hF.ev rfl) (by omega) | exact pu_add (hF.ev rfl) (hF.ev rfl))) ?_; clear hF; intro a hF
            refine s_pu hF rfl rfl rfl (pu_assign (hF.ev rfl)) ?_; clear hF; intro a hF
            refine s_done ?_
            exact ⟨_, by omega, c + 1, rfl, by omega, hF.sub ⟨rfl, rfl, rfl, rfl, rfl, rfl, trivial⟩, hS.drop 1⟩
          · -- cond 7 false
            try simp only [decide_eq_true_eq, decide_eq_false_iff_not, Bool.not_eq_true', Bool.not_eq_false', Int.not_lt, Int.not_le, ne_eq, Decidable.not_not, Bool.or_eq_true, Bool.or_eq_false_iff, Bool.and_eq_true, Bool.and_eq_false_imp] at hc7
            refine wp_exit ?_
            refine then_exit ?_
            refine then_exit ?_
            refine blk_exit ?_
            refine blk_normal ?_
            refine hK14 _ _ ?_; clear hK14
            -- region 12
            refine wp_region_lit ?_
            refine s_pu hF rfl rfl rfl (pu_move (hF.ev rfl)) ?_; clear hF; intro a hF
            refine s_pu hF rfl rfl rfl ((by first | exact pu_add64 (hF.ev rfl) (hF.ev rfl) (by omega) | exact pu_add (hF.ev rfl) (hF.ev rfl))) ?_; clear hF; intro a hF
            refine s_pu hF rfl rfl rfl (pu_assign (hF.ev rfl)) ?_; clear hF; intro a hF
            refine s_done ?_
            have e1 : wU (k + 1) = true := by simp [wU]
            have e2 : wT i (k + 1) = i := by simp [wT]
            refine ⟨_, by omega, k + 1, rfl, by omega, hF.sub ⟨rfl, rfl, rfl, rfl, rfl, trivial⟩, ?_⟩
            rw [e1, e2]
            exact hS
      · -- cond 3 false
        try simp only [decide_eq_true_eq, decide_eq_false_iff_not, Bool.not_eq_true', Bool.not_eq_false', Int.not_lt, Int.not_le, ne_eq, Decidable.not_not, Bool.or_eq_true, Bool.or_eq_false_iff, Bool.and_eq_true, Bool.and_eq_false_imp] at hc3
        omega
    · -- s
      -- region 13
      refine wp_region_lit ?_
      refine s_pu hF rfl rfl rfl (pu_move (hF.ev rfl)) ?_; clear hF; intro a hF
      refine s_en hF rfl rfl rfl (run_fn fk11 (hF.ev rfl) (hF.evs rfl)) (next_c 1 hS (wq_ok (by omega) (by omega) (by omega) hwT) (by simp [wQ])) ?_
      clear hS; rintro e w ⟨h, rfl, ⟨_, _, _, rfl⟩, hS⟩
      rw [wq_send (by omega), if_neg (by omega)] at hS ⊢
      refine ⟨_, rfl, ?_⟩; clear hF; intro a hF
      refine s_pu hF rfl rfl rfl (pu_move (hF.ev rfl)) ?_; clear hF; intro a hF
      refine s_pu hF rfl rfl rfl (pu_extract (hF.ev rfl) rfl) ?_; clear hF; intro a hF
      refine s_pu hF rfl rfl rfl (pu_extract (hF.ev rfl) rfl) ?_; clear hF; intro a hF
      refine s_newp hF rfl rfl rfl (ef_alloc (cs := #[_, _]) ze31 rfl) hS ?_; clear hF hS; intro b14 w hS a hF
      (first | (refine s_store (vs := [_, _]) (cs' := #[_, _]) 0 hF rfl (hF.ev rfl) (hF.ev rfl) hS rfl rfl sz31 (by first | rfl | (simp only [List.all_cons, List.all_nil, Value.oneCell', Bool.and_true, Bool.true_and]; assumption) | (simp [Value.oneCell', *]; done)) (by first | exact Nat.le_of_ble_eq_true rfl | (simp [Value.cells]; omega)) rfl ?_) | (refine s_store (vs := [_, _]) (cs' := #[_, _]) 1 hF rfl (hF.ev rfl) (hF.ev rfl) hS rfl rfl sz31 (by first | rfl | (simp only [List.all_cons, List.all_nil, Value.oneCell', Bool.and_true, Bool.true_and]; assumption) | (simp [Value.oneCell', *]; done)) (by first | exact Nat.le_of_ble_eq_true rfl | (simp [Value.cells]; omega)) rfl ?_) | (refine s_store (vs := [_, _]) (cs' := #[_, _]) 2 hF rfl (hF.ev rfl) (hF.ev rfl) hS rfl rfl sz31 (by first | rfl | (simp only [List.all_cons, List.all_nil, Value.oneCell', Bool.and_true, Bool.true_and]; assumption) | (simp [Value.oneCell', *]; done)) (by first | exact Nat.le_of_ble_eq_true rfl | (simp [Value.cells]; omega)) rfl ?_) | (refine s_store (vs := [_, _]) (cs' := #[_, _]) 3 hF rfl (hF.ev rfl) (hF.ev rfl) hS rfl rfl sz31 (by first | rfl | (simp only [List.all_cons, List.all_nil, Value.oneCell', Bool.and_true, Bool.true_and]; assumption) | (simp [Value.oneCell', *]; done)) (by first | exact Nat.le_of_ble_eq_true rfl | (simp [Value.cells]; omega)) rfl ?_) | (refine s_store (vs := [_, _]) (cs' := #[_, _]) 4 hF rfl (hF.ev rfl) (hF.ev rfl) hS rfl rfl sz31 (by first | rfl | (simp only [List.all_cons, List.all_nil, Value.oneCell', Bool.and_true, Bool.true_and]; assumption) | (simp [Value.oneCell', *]; done)) (by first | exact Nat.le_of_ble_eq_true rfl | (simp [Value.cells]; omega)) rfl ?_) | (refine s_store (vs := [_, _]) (cs' := #[_, _]) 5 hF rfl (hF.ev rfl) (hF.ev rfl) hS rfl rfl sz31 (by first | rfl | (simp only [List.all_cons, List.all_nil, Value.oneCell', Bool.and_true, Bool.true_and]; assumption) | (simp [Value.oneCell', *]; done)) (by first | exact Nat.le_of_ble_eq_true rfl | (simp [Value.cells]; omega)) rfl ?_) | (refine s_store (vs := [_, _]) (cs' := _) 0 hF rfl (hF.ev rfl) (hF.ev rfl) hS rfl rfl sz31 (by first | rfl | (simp only [List.all_cons, List.all_nil, Value.oneCell', Bool.and_true, Bool.true_and]; assumption) | (simp [Value.oneCell', *]; done)) (by first | exact Nat.le_of_ble_eq_true rfl | (simp [Value.cells]; omega)) rfl ?_) | (refine s_store (vs := [_, _]) (cs' := _) 1 hF rfl (hF.ev rfl) (hF.ev rfl) hS rfl rfl sz31 (by first | rfl | (simp only [List.all_cons, List.all_nil, Value.oneCell', Bool.and_true, Bool.true_and]; assumption) | (simp [Value.oneCell', *]; done)) (by first | exact Nat.le_of_ble_eq_true rfl | (simp [Value.cells]; omega)) rfl ?_) | (refine s_store (vs := [_, _]) (cs' := _) 2 hF rfl (hF.ev rfl) (hF.ev rfl) hS rfl rfl sz31 (by first | rfl | (simp only [List.all_cons, List.all_nil, Value.oneCell', Bool.and_true, Bool.true_and]; assumption) | (simp [Value.oneCell', *]; done)) (by first | exact Nat.le_of_ble_eq_true rfl | (simp [Value.cells]; omega)) rfl ?_) | (refine s_store (vs := [_, _]) (cs' := _) 3 hF rfl (hF.ev rfl) (hF.ev rfl) hS rfl rfl sz31 (by first | rfl | (simp only [List.all_cons, List.all_nil, Value.oneCell', Bool.and_true, Bool.true_and]; assumption) | (simp [Value.oneCell', *]; done)) (by first | exact Nat.le_of_ble_eq_true rfl | (simp [Value.cells]; omega)) rfl ?_) | (refine s_store (vs := [_, _]) (cs' := _) 4 hF rfl (hF.ev rfl) (hF.ev rfl) hS rfl rfl sz31 (by first | rfl | (simp only [List.all_cons, List.all_nil, Value.oneCell', Bool.and_true, Bool.true_and]; assumption) | (simp [Value.oneCell', *]; done)) (by first | exact Nat.le_of_ble_eq_true rfl | (simp [Value.cells]; omega)) rfl ?_) | (refine s_store (vs := [_, _]) (cs' := _) 5 hF rfl (hF.ev rfl) (hF.ev rfl) hS rfl rfl sz31 (by first | rfl | (simp only [List.all_cons, List.all_nil, Value.oneCell', Bool.and_true, Bool.true_and]; assumption) | (simp [Value.oneCell', *]; done)) (by first | exact Nat.le_of_ble_eq_true rfl | (simp [Value.cells]; omega)) rfl ?_))
      clear hS; intro w hS; (try simp only [upd, del] at hS)
      refine s_pu hF rfl rfl rfl (pu_assign (hF.ev rfl)) ?_; clear hF; intro a hF
      refine s_done ?_
      refine hK15 _ _ ?_; clear hK15
      refine wp_seq_k fun K16 hK16 => ?_
      -- region 14
      refine wp_region_lit ?_
      refine s_pu hF rfl rfl rfl (pu_assign (hF.ev rfl)) ?_; clear hF; intro a hF
      refine s_done ?_
      refine hK16 _ _ ?_; clear hK16
      refine wp_seq_k fun K17 hK17 => ?_
      refine wp_seq_k fun K18 hK18 => ?_
      -- region 15
      refine wp_region_lit ?_
      refine s_pu hF rfl rfl rfl (pu_move (hF.ev rfl)) ?_; clear hF; intro a hF
      refine s_pu hF rfl rfl rfl (pu_eql (hF.ev rfl) (hF.ev rfl)) ?_; clear hF; intro a hF
      refine s_done ?_
      refine hK18 _ _ ?_; clear hK18
      refine wp_cond_split (hF.ev rfl) (fun hc3 => ?_) (fun hc3 => ?_)
      · -- cond 3 true
        try simp only [decide_eq_true_eq, decide_eq_false_iff_not, Bool.not_eq_true', Bool.not_eq_false', Int.not_lt, Int.not_le, ne_eq, Decidable.not_not, Bool.or_eq_true, Bool.or_eq_false_iff, Bool.and_eq_true, Bool.and_eq_false_imp] at hc3
        omega
      · -- cond 3 false
        try simp only [decide_eq_true_eq, decide_eq_false_iff_not, Bool.not_eq_true', Bool.not_eq_false', Int.not_lt, Int.not_le, ne_eq, Decidable.not_not, Bool.or_eq_true, Bool.or_eq_false_iff, Bool.and_eq_true, Bool.and_eq_false_imp] at hc3
        refine wp_skip ?_
        refine hK17 _ _ ?_; clear hK17
        refine wp_seq_k fun K19 hK19 => ?_
        refine wp_seq_k fun K20 hK20 => ?_
        -- region 17
        refine wp_region_lit ?_
        refine s_pu hF rfl rfl rfl (pu_move (hF.ev rfl)) ?_; clear hF; intro a hF
        refine s_pu hF rfl rfl rfl (pu_not (hF.ev rfl)) ?_; clear hF; intro a hF
        refine s_pu hF rfl rfl rfl (pu_move (hF.ev rfl)) ?_; clear hF; intro a hF
        refine s_pu hF rfl rfl rfl (pu_field fd31_0 (hF.ev rfl)) ?_; clear hF; intro a hF
        refine s_rd hF rfl rfl rfl (by first | exact rd_load pl9 (hF.ev rfl) (by assumption) | exact rd_load pl9 (hF.ev rfl) (hS.cellL (i := 0) rfl rfl) | exact rd_load pl9 (hF.ev rfl) (hS.cellL (i := 1) rfl rfl) | exact rd_load pl9 (hF.ev rfl) (hS.cellL (i := 2) rfl rfl) | exact rd_load pl9 (hF.ev rfl) (hS.cellL (i := 3) rfl rfl) | exact rd_load pl9 (hF.ev rfl) (hS.cellL (i := 4) rfl rfl) | exact rd_load pl9 (hF.ev rfl) (hS.cellL (i := 5) rfl rfl) | exact rd_load pl9 (hF.ev rfl) (hS.cell (i := 0) rfl (by assumption)) | exact rd_load pl9 (hF.ev rfl) (hS.cell (i := 1) rfl (by assumption)) | exact rd_load pl9 (hF.ev rfl) (hS.cell (i := 2) rfl (by assumption)) | exact rd_load pl9 (hF.ev rfl) (hS.cell (i := 3) rfl (by assumption)) | exact rd_load pl9 (hF.ev rfl) (hS.cell (i := 4) rfl (by assumption)) | exact rd_load pl9 (hF.ev rfl) (hS.cell (i := 5) rfl (by assumption)) | exact rd_load pl9 (hF.ev rfl) (row_at (i := 0) hS rfl (by first | assumption | rfl)) | exact rd_load pl9 (hF.ev rfl) (row_at0 (i := 0) hS rfl (by first | assumption | rfl)) | exact rd_load pl9 (hF.ev rfl) (row_at (i := 1) hS rfl (by first | assumption | rfl)) | exact rd_load pl9 (hF.ev rfl) (row_at0 (i := 1) hS rfl (by first | assumption | rfl)) | exact rd_load pl9 (hF.ev rfl) (row_at (i := 2) hS rfl (by first | assumption | rfl)) | exact rd_load pl9 (hF.ev rfl) (row_at0 (i := 2) hS rfl (by first | assumption | rfl)) | exact rd_load pl9 (hF.ev rfl) (row_at (i := 3) hS rfl (by first | assumption | rfl)) | exact rd_load pl9 (hF.ev rfl) (row_at0 (i := 3) hS rfl (by first | assumption | rfl)) | exact rd_load pl9 (hF.ev rfl) (row_at (i := 4) hS rfl (by first | assumption | rfl)) | exact rd_load pl9 (hF.ev rfl) (row_at0 (i := 4) hS rfl (by first | assumption | rfl)) | exact rd_load pl9 (hF.ev rfl) (row_at (i := 5) hS rfl (by first | assumption | rfl)) | exact rd_load pl9 (hF.ev rfl) (row_at0 (i := 5) hS rfl (by first | assumption | rfl))) ?_; clear hF; intro a hF
        refine s_pu hF rfl rfl rfl (pu_move (hF.ev rfl)) ?_; clear hF; intro a hF
        refine s_pu hF rfl rfl rfl (pu_sneq (hF.ev rfl) (hF.ev rfl)) ?_; clear hF; intro a hF
        refine s_pu hF rfl rfl rfl ((by first | exact pu_pick_t (hF.ev rfl) (hF.ev rfl) | exact pu_pick_f (hF.ev rfl) (hF.ev rfl) | exact pu_pick (hF.ev rfl) (hF.ev rfl) (hF.ev rfl))) ?_; clear hF; intro a hF
        refine s_done ?_
        refine hK20 _ _ ?_; clear hK20
        refine wp_cond_false (hF.ev rfl) ?_
        refine wp_skip ?_
        refine hK19 _ _ ?_; clear hK19
        refine wp_seq_k fun K21 hK21 => ?_
        refine wp_seq_k fun K22 hK22 => ?_
        -- region 19
        refine wp_region_lit ?_
        refine s_pu hF rfl rfl rfl (pu_assign (hF.ev rfl)) ?_; clear hF; intro a hF
        refine s_done ?_
        refine hK22 _ _ ?_; clear hK22
        refine wp_block ?_
        replace hS := hS.tail.tail
        refine wp_ind (fun j a w => ∃ (i : Nat), j = R - i ∧ i ≤ R ∧ Fr a 142 [(2, .int .i64 x2), (8, .int .i64 R), (9, .int .i64 T), (10, .pointer (some ⟨g, 0, none⟩)), (13, .int .i64 k), (17, .int .i64 i)] ∧
          Sat W w [queueC 1 g (wQ R T ((k : Int) + 1) true i), whole W]) R
          ⟨0, by omega, by omega, hF.sub ⟨rfl, rfl, rfl, rfl, rfl, rfl, trivial⟩, hS⟩ ?_
        clear hS hF
        rintro j a w ⟨i, rfl, hi, hF, hS⟩
        refine wp_seq_k fun K23 hK23 => ?_
        refine wp_seq_k fun K24 hK24 => ?_
        -- region 20
        refine wp_region_lit ?_
        refine s_pu hF rfl rfl rfl (pu_move (hF.ev rfl)) ?_; clear hF; intro a hF
        refine s_pu hF rfl rfl rfl (pu_move (hF.ev rfl)) ?_; clear hF; intro a hF
        refine s_pu hF rfl rfl rfl (pu_lss (hF.ev rfl) (hF.ev rfl)) ?_; clear hF; intro a hF
        refine s_done ?_
        refine hK24 _ _ ?_; clear hK24
        refine wp_cond_split (hF.ev rfl) (fun hc5 => ?_) (fun hc5 => ?_)
        · -- cond 5 true
          try simp only [decide_eq_true_eq, decide_eq_false_iff_not, Bool.not_eq_true', Bool.not_eq_false', Int.not_lt, Int.not_le, ne_eq, Decidable.not_not, Bool.or_eq_true, Bool.or_eq_false_iff, Bool.and_eq_true, Bool.and_eq_false_imp] at hc5
          refine wp_skip ?_
          refine hK23 _ _ ?_; clear hK23
          refine wp_seq_k fun K25 hK25 => ?_
          refine wp_block ?_
          refine wp_seq_k fun K26 hK26 => ?_
          -- region 22
          refine wp_region_lit ?_
          refine s_pu hF rfl rfl rfl (pu_move (hF.ev rfl)) ?_; clear hF; intro a hF
          refine s_en hF rfl rfl rfl (run_fn fk11 (hF.ev rfl) (hF.evs rfl)) (next_c 1 hS (wq_ok (by omega) (by omega) (by omega) (by omega)) (by simp [wQ])) ?_
          clear hS; rintro e w ⟨h, rfl, ⟨_, _, _, rfl⟩, hS⟩
          rw [wq_idle (by omega)] at hS ⊢
          refine ⟨_, rfl, ?_⟩; clear hF; intro a hF
          refine s_pu hF rfl rfl rfl (pu_move (hF.ev rfl)) ?_; clear hF; intro a hF
          refine s_pu hF rfl rfl rfl (pu_extract (hF.ev rfl) rfl) ?_; clear hF; intro a hF
          refine s_pu hF rfl rfl rfl (pu_extract (hF.ev rfl) rfl) ?_; clear hF; intro a hF
          refine s_newp hF rfl rfl rfl (ef_alloc (cs := #[_, _]) ze31 rfl) hS ?_; clear hF hS; intro b18 w hS a hF
          (first | (refine s_store (vs := [_, _]) (cs' := #[_, _]) 0 hF rfl (hF.ev rfl) (hF.ev rfl) hS rfl rfl sz31 (by first | rfl | (simp only [List.all_cons, List.all_nil, Value.oneCell', Bool.and_true, Bool.true_and]; assumption) | (simp [Value.oneCell', *]; done)) (by first | exact Nat.le_of_ble_eq_true rfl | (simp [Value.cells]; omega)) rfl ?_) | (refine s_store (vs := [_, _]) (cs' := #[_, _]) 1 hF rfl (hF.ev rfl) (hF.ev rfl) hS rfl rfl sz31 (by first | rfl | (simp only [List.all_cons, List.all_nil, Value.oneCell', Bool.and_true, Bool.true_and]; assumption) | (simp [Value.oneCell', *]; done)) (by first | exact Nat.le_of_ble_eq_true rfl | (simp [Value.cells]; omega)) rfl ?_) | (refine s_store (vs := [_, _]) (cs' := #[_, _]) 2 hF rfl (hF.ev rfl) (hF.ev rfl) hS rfl rfl sz31 (by first | rfl | (simp only [List.all_cons, List.all_nil, Value.oneCell', Bool.and_true, Bool.true_and]; assumption) | (simp [Value.oneCell', *]; done)) (by first | exact Nat.le_of_ble_eq_true rfl | (simp [Value.cells]; omega)) rfl ?_) | (refine s_store (vs := [_, _]) (cs' := #[_, _]) 3 hF rfl (hF.ev rfl) (hF.ev rfl) hS rfl rfl sz31 (by first | rfl | (simp only [List.all_cons, List.all_nil, Value.oneCell', Bool.and_true, Bool.true_and]; assumption) | (simp [Value.oneCell', *]; done)) (by first | exact Nat.le_of_ble_eq_true rfl | (simp [Value.cells]; omega)) rfl ?_) | (refine s_store (vs := [_, _]) (cs' := #[_, _]) 4 hF rfl (hF.ev rfl) (hF.ev rfl) hS rfl rfl sz31 (by first | rfl | (simp only [List.all_cons, List.all_nil, Value.oneCell', Bool.and_true, Bool.true_and]; assumption) | (simp [Value.oneCell', *]; done)) (by first | exact Nat.le_of_ble_eq_true rfl | (simp [Value.cells]; omega)) rfl ?_) | (refine s_store (vs := [_, _]) (cs' := #[_, _]) 5 hF rfl (hF.ev rfl) (hF.ev rfl) hS rfl rfl sz31 (by first | rfl | (simp only [List.all_cons, List.all_nil, Value.oneCell', Bool.and_true, Bool.true_and]; assumption) | (simp [Value.oneCell', *]; done)) (by first | exact Nat.le_of_ble_eq_true rfl | (simp [Value.cells]; omega)) rfl ?_) | (refine s_store (vs := [_, _]) (cs' := _) 0 hF rfl (hF.ev rfl) (hF.ev rfl) hS rfl rfl sz31 (by first | rfl | (simp only [List.all_cons, List.all_nil, Value.oneCell', Bool.and_true, Bool.true_and]; assumption) | (simp [Value.oneCell', *]; done)) (by first | exact Nat.le_of_ble_eq_true rfl | (simp [Value.cells]; omega)) rfl ?_) | (refine s_store (vs := [_, _]) (cs' := _) 1 hF rfl (hF.ev rfl) (hF.ev rfl) hS rfl rfl sz31 (by first | rfl | (simp only [List.all_cons, List.all_nil, Value.oneCell', Bool.and_true, Bool.true_and]; assumption) | (simp [Value.oneCell', *]; done)) (by first | exact Nat.le_of_ble_eq_true rfl | (simp [Value.cells]; omega)) rfl ?_) | (refine s_store (vs := [_, _]) (cs' := _) 2 hF rfl (hF.ev rfl) (hF.ev rfl) hS rfl rfl sz31 (by first | rfl | (simp only [List.all_cons, List.all_nil, Value.oneCell', Bool.and_true, Bool.true_and]; assumption) | (simp [Value.oneCell', *]; done)) (by first | exact Nat.le_of_ble_eq_true rfl | (simp [Value.cells]; omega)) rfl ?_) | (refine s_store (vs := [_, _]) (cs' := _) 3 hF rfl (hF.ev rfl) (hF.ev rfl) hS rfl rfl sz31 (by first | rfl | (simp only [List.all_cons, List.all_nil, Value.oneCell', Bool.and_true, Bool.true_and]; assumption) | (simp [Value.oneCell', *]; done)) (by first | exact Nat.le_of_ble_eq_true rfl | (simp [Value.cells]; omega)) rfl ?_) | (refine s_store (vs := [_, _]) (cs' := _) 4 hF rfl (hF.ev rfl) (hF.ev rfl) hS rfl rfl sz31 (by first | rfl | (simp only [List.all_cons, List.all_nil, Value.oneCell', Bool.and_true, Bool.true_and]; assumption) | (simp [Value.oneCell', *]; done)) (by first | exact Nat.le_of_ble_eq_true rfl | (simp [Value.cells]; omega)) rfl ?_) | (refine s_store (vs := [_, _]) (cs' := _) 5 hF rfl (hF.ev rfl) (hF.ev rfl) hS rfl rfl sz31 (by first | rfl | (simp only [List.all_cons, List.all_nil, Value.oneCell', Bool.and_true, Bool.true_and]; assumption) | (simp [Value.oneCell', *]; done)) (by first | exact Nat.le_of_ble_eq_true rfl | (simp [Value.cells]; omega)) rfl ?_))
          clear hS; intro w hS; (try simp only [upd, del] at hS)
          refine s_pu hF rfl rfl rfl (pu_assign (hF.ev rfl)) ?_; clear hF; intro a hF
          refine s_done ?_
          refine hK26 _ _ ?_; clear hK26
          refine wp_seq_k fun K27 hK27 => ?_
          refine wp_seq_k fun K28 hK28 => ?_
          -- region 23
          refine wp_region_lit ?_
          refine s_pu hF rfl rfl rfl (pu_move (hF.ev rfl)) ?_; clear hF; intro a hF
          refine s_pu hF rfl rfl rfl (pu_move (hF.ev rfl)) ?_; clear hF; intro a hF
          refine s_pu hF rfl rfl rfl (pu_move (hF.ev rfl)) ?_; clear hF; intro a hF
          refine s_en hF rfl rfl rfl (run_fn fk12 (hF.ev rfl) (hF.evs rfl)) (at_place 1 hS rfl (fun h => len_c h)) ?_
          clear hS; rintro e w ⟨rfl, hS⟩
          refine ⟨_, rfl, ?_⟩; clear hF; intro a hF
          refine s_pu hF rfl rfl rfl (pu_neq (hF.ev rfl) (hF.ev rfl)) ?_; clear hF; intro a hF
          refine s_pu hF rfl rfl rfl ((by first | exact pu_pick_t (hF.ev rfl) (hF.ev rfl) | exact pu_pick_f (hF.ev rfl) (hF.ev rfl) | exact pu_pick (hF.ev rfl) (hF.ev rfl) (hF.ev rfl))) ?_; clear hF; intro a hF
          refine s_done ?_
          refine hK28 _ _ ?_; clear hK28
          refine wp_cond_false (hF.ev rfl) ?_
          refine wp_skip ?_
          refine hK27 _ _ ?_; clear hK27
          -- region 25
          refine wp_region_lit ?_
          refine s_pu hF rfl rfl rfl (pu_move (hF.ev rfl)) ?_; clear hF; intro a hF
          refine s_en hF rfl rfl rfl (run_fn fk13 (hF.ev rfl) (hF.evs rfl)) (tick_c hS (by simp only [wQ]; omega) (by simp only [wQ]; omega)) ?_
          clear hS; rintro e w ⟨rfl, hS⟩
          rw [wq_tick (by omega)] at hS
          refine ⟨_, rfl, ?_⟩; clear hF; intro a hF
          refine s_done ?_
          refine blk_normal ?_
          refine hK25 _ _ ?_; clear hK25
          -- region 21
          refine wp_region_lit ?_
          refine s_pu hF rfl rfl rfl (pu_move (hF.ev rfl)) ?_; clear hF; intro a hF
          refine s_pu hF rfl rfl rfl ((by first | exact pu_add64 (hF.ev rfl) (hF.ev rfl) (by omega) | exact pu_add (hF.ev rfl) (hF.ev rfl))) ?_; clear hF; intro a hF
          refine s_pu hF rfl rfl rfl (pu_assign (hF.ev rfl)) ?_; clear hF; intro a hF
          refine s_done ?_
          exact ⟨_, by omega, i + 1, rfl, by omega, hF.sub ⟨rfl, rfl, rfl, rfl, rfl, rfl, trivial⟩, hS.drop 1⟩
        · -- cond 5 false
          try simp only [decide_eq_true_eq, decide_eq_false_iff_not, Bool.not_eq_true', Bool.not_eq_false', Int.not_lt, Int.not_le, ne_eq, Decidable.not_not, Bool.or_eq_true, Bool.or_eq_false_iff, Bool.and_eq_true, Bool.and_eq_false_imp] at hc5
          refine wp_exit ?_
          refine then_exit ?_
          refine then_exit ?_
          refine blk_exit ?_
          refine hK21 _ _ ?_; clear hK21
          refine wp_seq_k fun K25 hK25 => ?_
          -- region 26
          refine wp_region_lit ?_
          refine s_pu hF rfl rfl rfl (pu_assign (hF.ev rfl)) ?_; clear hF; intro a hF
          refine s_done ?_
          refine hK25 _ _ ?_; clear hK25
          refine wp_block ?_
          have hiR : i = R := by omega
          subst hiR
          refine wp_ind (fun j a w => ∃ (c : Nat), j = 5 - c ∧ c ≤ 5 ∧ Fr a 142 [(2, .int .i64 x2), (8, .int .i64 i), (9, .int .i64 T), (10, .pointer (some ⟨g, 0, none⟩)), (13, .int .i64 k), (20, .int .i64 c)] ∧
            Sat W w [queueC 1 g (wQ i T ((k : Int) + 1) true i), whole W]) 5
            ⟨0, by omega, by omega, hF.sub ⟨rfl, rfl, rfl, rfl, rfl, rfl, trivial⟩, hS⟩ ?_
          clear hS hF
          rintro j a w ⟨c, rfl, hc, hF, hS⟩
          refine wp_seq_k fun K26 hK26 => ?_
          refine wp_seq_k fun K27 hK27 => ?_
          -- region 27
          refine wp_region_lit ?_
          refine s_pu hF rfl rfl rfl (pu_move (hF.ev rfl)) ?_; clear hF; intro a hF
          refine s_pu hF rfl rfl rfl (pu_move (hF.ev rfl)) ?_; clear hF; intro a hF
          refine s_en hF rfl rfl rfl (run_fn fk7 (hF.ev rfl) (hF.evs rfl)) (pick_c hS (by omega) hx2.1 hx2.2) ?_
          clear hS; rintro e w ⟨pl, _, hpl, rfl, hS⟩
          refine ⟨_, rfl, ?_⟩; clear hF; intro a hF
          refine s_pu hF rfl rfl rfl (pu_lss (hF.ev rfl) (hF.ev rfl)) ?_; clear hF; intro a hF
          refine s_done ?_
          refine hK27 _ _ ?_; clear hK27
          refine wp_cond_split (hF.ev rfl) (fun hc7 => ?_) (fun hc7 => ?_)
          · -- cond 7 true
            try simp only [decide_eq_true_eq, decide_eq_false_iff_not, Bool.not_eq_true', Bool.not_eq_false', Int.not_lt, Int.not_le, ne_eq, Decidable.not_not, Bool.or_eq_true, Bool.or_eq_false_iff, Bool.and_eq_true, Bool.and_eq_false_imp] at hc7
            refine wp_skip ?_
            refine hK26 _ _ ?_; clear hK26
            refine wp_seq_k fun K28 hK28 => ?_
            refine wp_block ?_
            refine wp_seq_k fun K29 hK29 => ?_
            -- region 29
            refine wp_region_lit ?_
            refine s_pu hF rfl rfl rfl (pu_move (hF.ev rfl)) ?_; clear hF; intro a hF
            refine s_en hF rfl rfl rfl (run_fn fk11 (hF.ev rfl) (hF.evs rfl)) (next_c 1 hS (wq_ok (by omega) (by omega) (by omega) (by omega)) (by simp [wQ])) ?_
            clear hS; rintro e w ⟨h, rfl, ⟨_, _, _, rfl⟩, hS⟩
            rw [wq_off] at hS ⊢
            refine ⟨_, rfl, ?_⟩; clear hF; intro a hF
            refine s_pu hF rfl rfl rfl (pu_move (hF.ev rfl)) ?_; clear hF; intro a hF
            refine s_pu hF rfl rfl rfl (pu_extract (hF.ev rfl) rfl) ?_; clear hF; intro a hF
            refine s_pu hF rfl rfl rfl (pu_extract (hF.ev rfl) rfl) ?_; clear hF; intro a hF
            refine s_newp hF rfl rfl rfl (ef_alloc (cs := #[_, _]) ze31 rfl) hS ?_; clear hF hS; intro b21 w hS a hF
            (first | (refine s_store (vs := [_, _]) (cs' := #[_, _]) 0 hF rfl (hF.ev rfl) (hF.ev rfl) hS rfl rfl sz31 (by first | rfl | (simp only [List.all_cons, List.all_nil, Value.oneCell', Bool.and_true, Bool.true_and]; assumption) | (simp [Value.oneCell', *]; done)) (by first | exact Nat.le_of_ble_eq_true rfl | (simp [Value.cells]; omega)) rfl ?_) | (refine s_store (vs := [_, _]) (cs' := #[_, _]) 1 hF rfl (hF.ev rfl) (hF.ev rfl) hS rfl rfl sz31 (by first | rfl | (simp only [List.all_cons, List.all_nil, Value.oneCell', Bool.and_true, Bool.true_and]; assumption) | (simp [Value.oneCell', *]; done)) (by first | exact Nat.le_of_ble_eq_true rfl | (simp [Value.cells]; omega)) rfl ?_) | (refine s_store (vs := [_, _]) (cs' := #[_, _]) 2 hF rfl (hF.ev rfl) (hF.ev rfl) hS rfl rfl sz31 (by first | rfl | (simp only [List.all_cons, List.all_nil, Value.oneCell', Bool.and_true, Bool.true_and]; assumption) | (simp [Value.oneCell', *]; done)) (by first | exact Nat.le_of_ble_eq_true rfl | (simp [Value.cells]; omega)) rfl ?_) | (refine s_store (vs := [_, _]) (cs' := #[_, _]) 3 hF rfl (hF.ev rfl) (hF.ev rfl) hS rfl rfl sz31 (by first | rfl | (simp only [List.all_cons, List.all_nil, Value.oneCell', Bool.and_true, Bool.true_and]; assumption) | (simp [Value.oneCell', *]; done)) (by first | exact Nat.le_of_ble_eq_true rfl | (simp [Value.cells]; omega)) rfl ?_) | (refine s_store (vs := [_, _]) (cs' := #[_, _]) 4 hF rfl (hF.ev rfl) (hF.ev rfl) hS rfl rfl sz31 (by first | rfl | (simp only [List.all_cons, List.all_nil, Value.oneCell', Bool.and_true, Bool.true_and]; assumption) | (simp [Value.oneCell', *]; done)) (by first | exact Nat.le_of_ble_eq_true rfl | (simp [Value.cells]; omega)) rfl ?_) | (refine s_store (vs := [_, _]) (cs' := #[_, _]) 5 hF rfl (hF.ev rfl) (hF.ev rfl) hS rfl rfl sz31 (by first | rfl | (simp only [List.all_cons, List.all_nil, Value.oneCell', Bool.and_true, Bool.true_and]; assumption) | (simp [Value.oneCell', *]; done)) (by first | exact Nat.le_of_ble_eq_true rfl | (simp [Value.cells]; omega)) rfl ?_) | (refine s_store (vs := [_, _]) (cs' := _) 0 hF rfl (hF.ev rfl) (hF.ev rfl) hS rfl rfl sz31 (by first | rfl | (simp only [List.all_cons, List.all_nil, Value.oneCell', Bool.and_true, Bool.true_and]; assumption) | (simp [Value.oneCell', *]; done)) (by first | exact Nat.le_of_ble_eq_true rfl | (simp [Value.cells]; omega)) rfl ?_) | (refine s_store (vs := [_, _]) (cs' := _) 1 hF rfl (hF.ev rfl) (hF.ev rfl) hS rfl rfl sz31 (by first | rfl | (simp only [List.all_cons, List.all_nil, Value.oneCell', Bool.and_true, Bool.true_and]; assumption) | (simp [Value.oneCell', *]; done)) (by first | exact Nat.le_of_ble_eq_true rfl | (simp [Value.cells]; omega)) rfl ?_) | (refine s_store (vs := [_, _]) (cs' := _) 2 hF rfl (hF.ev rfl) (hF.ev rfl) hS rfl rfl sz31 (by first | rfl | (simp only [List.all_cons, List.all_nil, Value.oneCell', Bool.and_true, Bool.true_and]; assumption) | (simp [Value.oneCell', *]; done)) (by first | exact Nat.le_of_ble_eq_true rfl | (simp [Value.cells]; omega)) rfl ?_) | (refine s_store (vs := [_, _]) (cs' := _) 3 hF rfl (hF.ev rfl) (hF.ev rfl) hS rfl rfl sz31 (by first | rfl | (simp only [List.all_cons, List.all_nil, Value.oneCell', Bool.and_true, Bool.true_and]; assumption) | (simp [Value.oneCell', *]; done)) (by first | exact Nat.le_of_ble_eq_true rfl | (simp [Value.cells]; omega)) rfl ?_) | (refine s_store (vs := [_, _]) (cs' := _) 4 hF rfl (hF.ev rfl) (hF.ev rfl) hS rfl rfl sz31 (by first | rfl | (simp only [List.all_cons, List.all_nil, Value.oneCell', Bool.and_true, Bool.true_and]; assumption) | (simp [Value.oneCell', *]; done)) (by first | exact Nat.le_of_ble_eq_true rfl | (simp [Value.cells]; omega)) rfl ?_) | (refine s_store (vs := [_, _]) (cs' := _) 5 hF rfl (hF.ev rfl) (hF.ev rfl) hS rfl rfl sz31 (by first | rfl | (simp only [List.all_cons, List.all_nil, Value.oneCell', Bool.and_true, Bool.true_and]; assumption) | (simp [Value.oneCell', *]; done)) (by first | exact Nat.le_of_ble_eq_true rfl | (simp [Value.cells]; omega)) rfl ?_))
            clear hS; intro w hS; (try simp only [upd, del] at hS)
            refine s_pu hF rfl rfl rfl (pu_assign (hF.ev rfl)) ?_; clear hF; intro a hF
            refine s_done ?_
            refine hK29 _ _ ?_; clear hK29
            refine wp_seq_k fun K30 hK30 => ?_
            -- region 30
            refine wp_region_lit ?_
            refine s_pu hF rfl rfl rfl (pu_move (hF.ev rfl)) ?_; clear hF; intro a hF
            refine s_en hF rfl rfl rfl (run_fn fk13 (hF.ev rfl) (hF.evs rfl)) (at_place 1 hS rfl (fun h => tick_c h (by simp only [wQ]; omega) (by simp only [wQ]; omega))) ?_
            clear hS; rintro e w ⟨rfl, hS⟩
            rw [wq_late] at hS
            refine ⟨_, rfl, ?_⟩; clear hF; intro a hF
            refine s_done ?_
            refine hK30 _ _ ?_; clear hK30
            refine wp_seq_k fun K31 hK31 => ?_
            -- region 31
            refine wp_region_lit ?_
            refine s_pu hF rfl rfl rfl (pu_move (hF.ev rfl)) ?_; clear hF; intro a hF
            refine s_done ?_
            refine hK31 _ _ ?_; clear hK31
            refine wp_cond_false (hF.ev rfl) ?_
            refine wp_skip ?_
            refine blk_normal ?_
            refine hK28 _ _ ?_; clear hK28
            -- region 28
            refine wp_region_lit ?_
            refine s_pu hF rfl rfl rfl (pu_move (hF.ev rfl)) ?_; clear hF; intro a hF
            refine s_pu hF rfl rfl rfl ((by first | exact pu_add64 (hF.ev rfl) (hF.ev rfl) (by omega) | exact pu_add (hF.ev rfl) (hF.ev rfl))) ?_; clear hF; intro a hF
            refine s_pu hF rfl rfl rfl (pu_assign (hF.ev rfl)) ?_; clear hF; intro a hF
            refine s_done ?_
            exact ⟨_, by omega, c + 1, rfl, by omega, hF.sub ⟨rfl, rfl, rfl, rfl, rfl, rfl, trivial⟩, hS.drop 1⟩
          · -- cond 7 false
            try simp only [decide_eq_true_eq, decide_eq_false_iff_not, Bool.not_eq_true', Bool.not_eq_false', Int.not_lt, Int.not_le, ne_eq, Decidable.not_not, Bool.or_eq_true, Bool.or_eq_false_iff, Bool.and_eq_true, Bool.and_eq_false_imp] at hc7
            refine wp_exit ?_
            refine then_exit ?_
            refine then_exit ?_
            refine blk_exit ?_
            refine blk_normal ?_
            refine hK14 _ _ ?_; clear hK14
            -- region 12
            refine wp_region_lit ?_
            refine s_pu hF rfl rfl rfl (pu_move (hF.ev rfl)) ?_; clear hF; intro a hF
            refine s_pu hF rfl rfl rfl ((by first | exact pu_add64 (hF.ev rfl) (hF.ev rfl) (by omega) | exact pu_add (hF.ev rfl) (hF.ev rfl))) ?_; clear hF; intro a hF
            refine s_pu hF rfl rfl rfl (pu_assign (hF.ev rfl)) ?_; clear hF; intro a hF
            refine s_done ?_
            have e1 : wU (k + 1) = true := by simp [wU]
            have e2 : wT i (k + 1) = i := by simp [wT]
            refine ⟨_, by omega, k + 1, rfl, by omega, hF.sub ⟨rfl, rfl, rfl, rfl, rfl, trivial⟩, ?_⟩
            rw [e1, e2]
            exact hS
  · -- cond 2 false
    try simp only [decide_eq_true_eq, decide_eq_false_iff_not, Bool.not_eq_true', Bool.not_eq_false', Int.not_lt, Int.not_le, ne_eq, Decidable.not_not, Bool.or_eq_true, Bool.or_eq_false_iff, Bool.and_eq_true, Bool.and_eq_false_imp] at hc2
    refine wp_exit ?_
    refine then_exit ?_
    refine then_exit ?_
    refine blk_exit ?_
    refine hK10 _ _ ?_; clear hK10
    refine wp_seq_k fun K14 hK14 => ?_
    -- region 33
    refine wp_region_lit ?_
    have hwT : 0 ≤ wT R k ∧ wT R k ≤ 60 := by unfold wT; split <;> omega
    refine s_pu hF rfl rfl rfl (pu_move (hF.ev rfl)) ?_; clear hF; intro a hF
    refine s_en hF rfl rfl rfl (run_fn fk11 (hF.ev rfl) (hF.evs rfl)) (next_c 1 hS (wq_ok (by omega) (by omega) (by omega) hwT) (by simp [wQ])) ?_
    clear hS; rintro e w ⟨h, rfl, ⟨_, _, _, rfl⟩, hS⟩
    rw [wq_end (by omega) (by omega)] at hS ⊢
    refine ⟨_, rfl, ?_⟩; clear hF; intro a hF
    refine s_pu hF rfl rfl rfl (pu_move (hF.ev rfl)) ?_; clear hF; intro a hF
    refine s_pu hF rfl rfl rfl (pu_extract (hF.ev rfl) rfl) ?_; clear hF; intro a hF
    refine s_pu hF rfl rfl rfl (pu_extract (hF.ev rfl) rfl) ?_; clear hF; intro a hF
    refine s_newp hF rfl rfl rfl (ef_alloc (cs := #[_, _]) ze31 rfl) hS ?_; clear hF hS; intro b23 w hS a hF
    (first | (refine s_store (vs := [_, _]) (cs' := #[_, _]) 0 hF rfl (hF.ev rfl) (hF.ev rfl) hS rfl rfl sz31 (by first | rfl | (simp only [List.all_cons, List.all_nil, Value.oneCell', Bool.and_true, Bool.true_and]; assumption) | (simp [Value.oneCell', *]; done)) (by first | exact Nat.le_of_ble_eq_true rfl | (simp [Value.cells]; omega)) rfl ?_) | (refine s_store (vs := [_, _]) (cs' := #[_, _]) 1 hF rfl (hF.ev rfl) (hF.ev rfl) hS rfl rfl sz31 (by first | rfl | (simp only [List.all_cons, List.all_nil, Value.oneCell', Bool.and_true, Bool.true_and]; assumption) | (simp [Value.oneCell', *]; done)) (by first | exact Nat.le_of_ble_eq_true rfl | (simp [Value.cells]; omega)) rfl ?_) | (refine s_store (vs := [_, _]) (cs' := #[_, _]) 2 hF rfl (hF.ev rfl) (hF.ev rfl) hS rfl rfl sz31 (by first | rfl | (simp only [List.all_cons, List.all_nil, Value.oneCell', Bool.and_true, Bool.true_and]; assumption) | (simp [Value.oneCell', *]; done)) (by first | exact Nat.le_of_ble_eq_true rfl | (simp [Value.cells]; omega)) rfl ?_) | (refine s_store (vs := [_, _]) (cs' := #[_, _]) 3 hF rfl (hF.ev rfl) (hF.ev rfl) hS rfl rfl sz31 (by first | rfl | (simp only [List.all_cons, List.all_nil, Value.oneCell', Bool.and_true, Bool.true_and]; assumption) | (simp [Value.oneCell', *]; done)) (by first | exact Nat.le_of_ble_eq_true rfl | (simp [Value.cells]; omega)) rfl ?_) | (refine s_store (vs := [_, _]) (cs' := #[_, _]) 4 hF rfl (hF.ev rfl) (hF.ev rfl) hS rfl rfl sz31 (by first | rfl | (simp only [List.all_cons, List.all_nil, Value.oneCell', Bool.and_true, Bool.true_and]; assumption) | (simp [Value.oneCell', *]; done)) (by first | exact Nat.le_of_ble_eq_true rfl | (simp [Value.cells]; omega)) rfl ?_) | (refine s_store (vs := [_, _]) (cs' := #[_, _]) 5 hF rfl (hF.ev rfl) (hF.ev rfl) hS rfl rfl sz31 (by first | rfl | (simp only [List.all_cons, List.all_nil, Value.oneCell', Bool.and_true, Bool.true_and]; assumption) | (simp [Value.oneCell', *]; done)) (by first | exact Nat.le_of_ble_eq_true rfl | (simp [Value.cells]; omega)) rfl ?_) | (refine s_store (vs := [_, _]) (cs' := _) 0 hF rfl (hF.ev rfl) (hF.ev rfl) hS rfl rfl sz31 (by first | rfl | (simp only [List.all_cons, List.all_nil, Value.oneCell', Bool.and_true, Bool.true_and]; assumption) | (simp [Value.oneCell', *]; done)) (by first | exact Nat.le_of_ble_eq_true rfl | (simp [Value.cells]; omega)) rfl ?_) | (refine s_store (vs := [_, _]) (cs' := _) 1 hF rfl (hF.ev rfl) (hF.ev rfl) hS rfl rfl sz31 (by first | rfl | (simp only [List.all_cons, List.all_nil, Value.oneCell', Bool.and_true, Bool.true_and]; assumption) | (simp [Value.oneCell', *]; done)) (by first | exact Nat.le_of_ble_eq_true rfl | (simp [Value.cells]; omega)) rfl ?_) | (refine s_store (vs := [_, _]) (cs' := _) 2 hF rfl (hF.ev rfl) (hF.ev rfl) hS rfl rfl sz31 (by first | rfl | (simp only [List.all_cons, List.all_nil, Value.oneCell', Bool.and_true, Bool.true_and]; assumption) | (simp [Value.oneCell', *]; done)) (by first | exact Nat.le_of_ble_eq_true rfl | (simp [Value.cells]; omega)) rfl ?_) | (refine s_store (vs := [_, _]) (cs' := _) 3 hF rfl (hF.ev rfl) (hF.ev rfl) hS rfl rfl sz31 (by first | rfl | (simp only [List.all_cons, List.all_nil, Value.oneCell', Bool.and_true, Bool.true_and]; assumption) | (simp [Value.oneCell', *]; done)) (by first | exact Nat.le_of_ble_eq_true rfl | (simp [Value.cells]; omega)) rfl ?_) | (refine s_store (vs := [_, _]) (cs' := _) 4 hF rfl (hF.ev rfl) (hF.ev rfl) hS rfl rfl sz31 (by first | rfl | (simp only [List.all_cons, List.all_nil, Value.oneCell', Bool.and_true, Bool.true_and]; assumption) | (simp [Value.oneCell', *]; done)) (by first | exact Nat.le_of_ble_eq_true rfl | (simp [Value.cells]; omega)) rfl ?_) | (refine s_store (vs := [_, _]) (cs' := _) 5 hF rfl (hF.ev rfl) (hF.ev rfl) hS rfl rfl sz31 (by first | rfl | (simp only [List.all_cons, List.all_nil, Value.oneCell', Bool.and_true, Bool.true_and]; assumption) | (simp [Value.oneCell', *]; done)) (by first | exact Nat.le_of_ble_eq_true rfl | (simp [Value.cells]; omega)) rfl ?_))
    clear hS; intro w hS; (try simp only [upd, del] at hS)
    refine s_pu hF rfl rfl rfl (pu_assign (hF.ev rfl)) ?_; clear hF; intro a hF
    refine s_done ?_
    refine hK14 _ _ ?_; clear hK14
    refine wp_seq_k fun K15 hK15 => ?_
    -- region 34
    refine wp_region_lit ?_
    refine s_pu hF rfl rfl rfl (pu_move (hF.ev rfl)) ?_; clear hF; intro a hF
    refine s_en hF rfl rfl rfl (run_fn fk14 (hF.ev rfl) (hF.evs rfl)) (at_place 1 hS rfl (fun h => gone_c h)) ?_
    clear hS; rintro e w ⟨gp, gq, rfl, hS⟩
    refine ⟨_, rfl, ?_⟩; clear hF; intro a hF
    refine s_pu hF rfl rfl rfl (pu_assign (hF.ev rfl)) ?_; clear hF; intro a hF
    refine s_done ?_
    obtain ⟨gg, rfl⟩ := row_some (i := 0) hS rfl (by simp [wEnd])
    have hgl : (wEnd R T [5]).gone.length = 1 := rfl
    have hgone := row_at0 (i := 0) hS rfl (v := .int .i64 5) rfl
    refine hK15 _ _ ?_; clear hK15
    refine wp_seq_k fun K16 hK16 => ?_
    -- region 35
    refine wp_region_lit ?_
    refine s_pu hF rfl rfl rfl (pu_move (hF.ev rfl)) ?_; clear hF; intro a hF
    refine s_pu hF rfl rfl rfl (pu_not (hF.ev rfl)) ?_; clear hF; intro a hF
    refine s_pu hF rfl rfl rfl (pu_move (hF.ev rfl)) ?_; clear hF; intro a hF
    refine s_pu hF rfl rfl rfl (pu_move (hF.ev rfl)) ?_; clear hF; intro a hF
    refine s_en hF rfl rfl rfl (run_fn fk12 (hF.ev rfl) (hF.evs rfl)) (at_place 1 hS rfl (fun h => len_c h)) ?_
    clear hS; rintro e w ⟨rfl, hS⟩
    refine ⟨_, rfl, ?_⟩; clear hF; intro a hF
    refine s_pu hF rfl rfl rfl (pu_eql (hF.ev rfl) (hF.ev rfl)) ?_; clear hF; intro a hF
    refine s_pu hF rfl rfl rfl ((by first | exact pu_pick_t (hF.ev rfl) (hF.ev rfl) | exact pu_pick_f (hF.ev rfl) (hF.ev rfl) | exact pu_pick (hF.ev rfl) (hF.ev rfl) (hF.ev rfl))) ?_; clear hF; intro a hF
    refine s_pu hF rfl rfl rfl (pu_move (hF.ev rfl)) ?_; clear hF; intro a hF
    refine s_pu hF rfl rfl rfl (pu_move (hF.ev rfl)) ?_; clear hF; intro a hF
    refine s_en hF rfl rfl rfl (run_fn fk15 (hF.ev rfl) (hF.evs rfl)) (dead_c hS) ?_
    clear hS; rintro e w ⟨rfl, hS⟩
    refine ⟨_, rfl, ?_⟩; clear hF; intro a hF
    refine s_pu hF rfl rfl rfl (pu_eql (hF.ev rfl) (hF.ev rfl)) ?_; clear hF; intro a hF
    refine s_pu hF rfl rfl rfl ((by first | exact pu_pick_t (hF.ev rfl) (hF.ev rfl) | exact pu_pick_f (hF.ev rfl) (hF.ev rfl) | exact pu_pick (hF.ev rfl) (hF.ev rfl) (hF.ev rfl))) ?_; clear hF; intro a hF
    refine s_pu hF rfl rfl rfl (pu_move (hF.ev rfl)) ?_; clear hF; intro a hF
    refine s_pu hF rfl rfl rfl (pu_move (hF.ev rfl)) ?_; clear hF; intro a hF
    refine s_pu hF rfl rfl rfl (pu_len sl38 (hF.ev rfl)) ?_; clear hF; intro a hF
    refine s_pu hF rfl rfl rfl (pu_eql (hF.ev rfl) (hF.ev rfl)) ?_; clear hF; intro a hF
    refine s_pu hF rfl rfl rfl ((by first | exact pu_pick_t (hF.ev rfl) (hF.ev rfl) | exact pu_pick_f (hF.ev rfl) (hF.ev rfl) | exact pu_pick (hF.ev rfl) (hF.ev rfl) (hF.ev rfl))) ?_; clear hF; intro a hF
    refine s_pu hF rfl rfl rfl (pu_move (hF.ev rfl)) ?_; clear hF; intro a hF
    refine s_pu hF rfl rfl rfl (pu_move (hF.ev rfl)) ?_; clear hF; intro a hF
    refine s_pu hF rfl rfl rfl ((by first | exact pu_elem sl38 (hF.ev rfl) (hF.ev rfl) (by first | omega | simp) (by first | omega | (simp; done) | (simp; omega)) | exact pu_elemA sl38 (hF.ev rfl) (hF.ev rfl) (by omega) (by omega))) ?_; clear hF; intro a hF
    refine s_rd hF rfl rfl rfl (rd_load pl3 (hF.ev rfl) (row_at0 (i := 1) hS rfl (v := .int .i64 5) rfl)) ?_; clear hF; intro a hF
    refine s_pu hF rfl rfl rfl (pu_eql (hF.ev rfl) (hF.ev rfl)) ?_; clear hF; intro a hF
    refine s_pu hF rfl rfl rfl ((by first | exact pu_pick_t (hF.ev rfl) (hF.ev rfl) | exact pu_pick_f (hF.ev rfl) (hF.ev rfl) | exact pu_pick (hF.ev rfl) (hF.ev rfl) (hF.ev rfl))) ?_; clear hF; intro a hF
    refine s_pu hF rfl rfl rfl (pu_move (hF.ev rfl)) ?_; clear hF; intro a hF
    refine s_pu hF rfl rfl rfl (pu_move (hF.ev rfl)) ?_; clear hF; intro a hF
    refine s_en hF rfl rfl rfl (run_fn fk14 (hF.ev rfl) (hF.evs rfl)) (gone_c hS) ?_
    clear hS; rintro e w ⟨_, _, rfl, hS⟩
    refine ⟨_, rfl, ?_⟩; clear hF; intro a hF
    refine s_pu hF rfl rfl rfl (pu_len sl38 (hF.ev rfl)) ?_; clear hF; intro a hF
    refine s_pu hF rfl rfl rfl (pu_eql (hF.ev rfl) (hF.ev rfl)) ?_; clear hF; intro a hF
    refine s_pu hF rfl rfl rfl ((by first | exact pu_pick_t (hF.ev rfl) (hF.ev rfl) | exact pu_pick_f (hF.ev rfl) (hF.ev rfl) | exact pu_pick (hF.ev rfl) (hF.ev rfl) (hF.ev rfl))) ?_; clear hF; intro a hF
    refine s_pu hF rfl rfl rfl (pu_assign (hF.ev rfl)) ?_; clear hF; intro a hF
    refine s_done ?_
    refine hK16 _ _ ?_; clear hK16
    refine wp_ret ?_
    refine fin1 Try.results3 hF rfl ?_
    exact ⟨rfl, (hS.front 4 rfl).below⟩
end Go.Proofs.Ytgnepnjicmgkaaa
