import Derived.Test.YtgnepnjicmgkaaaSa7
/-! The examples. -/
namespace Go.Proofs.Ytgnepnjicmgkaaa
open Go Go.RowKit Go.Proofs.Ytgnepnjicmgkaaa.Sk
set_option linter.unusedVariables false
set_option linter.unusedSimpArgs false
set_option maxRecDepth 100000

def exQ (l : List Adv) (sent : Int) (under : Bool) (ticks : Int) : Que := ⟨2, 3, 2, l, sent, under, ticks, [], 0⟩
theorem exQ_ok {l : List Adv} {sent ticks : Int} {under : Bool} (h0 : 0 ≤ sent) (h1 : sent ≤ 2) (h2 : 0 ≤ ticks) (h3 : ticks ≤ 3) : QOk (exQ l sent under ticks) :=
  ⟨h0, by simp only [exQ]; omega, h2, by simp only [exQ]; omega, by simp [exQ], by simp [exQ], by simp [exQ], by simp [exQ], by simp [exQ], by simp [exQ], by simp [exQ]⟩
theorem ex_put7 : (Que.start 2 3 2).put (oneA 7) = (exQ [oneA 7] 0 false 0, 0) := by simp [Que.put, Que.start, exQ]
theorem ex_put8 : (exQ [oneA 7] 0 false 0).put (oneA 8) = (exQ [oneA 7, oneA 8] 0 false 0, 0) := by simp [Que.put, exQ, oneA]
theorem ex_put9 : (exQ [oneA 7, oneA 8] 0 false 0).put (oneA 9) = (exQ [oneA 7, oneA 8] 0 false 0, 200) := by simp [Que.put, exQ, oneA]
theorem ex_n1 : (exQ [oneA 7, oneA 8] 0 false 0).next false = (exQ [oneA 7, oneA 8] 0 false 0, none) := rfl
theorem ex_n2 : (exQ [oneA 7, oneA 8] 0 false 0).next true = (exQ [oneA 7, oneA 8] 1 true 0, some ((oneA 7).m1, (oneA 7).f1)) := by simp [Que.next, Que.nextL, exQ]
theorem ex_n3 : (exQ [oneA 7, oneA 8] 1 true 0).next true = (exQ [oneA 7, oneA 8] 1 true 0, none) := by simp [Que.next, Que.nextL, exQ]
theorem ex_n4 : (exQ [oneA 7, oneA 8] 1 true 3).next true = (exQ [oneA 7, oneA 8] 2 true 0, some ((oneA 7).m2, (oneA 7).f2)) := by simp [Que.next, Que.nextL, exQ]
theorem ex_t1 : { exQ [oneA 7, oneA 8] 1 true 0 with ticks := min ((exQ [oneA 7, oneA 8] 1 true 0).ticks + 1) (exQ [oneA 7, oneA 8] 1 true 0).retry } = exQ [oneA 7, oneA 8] 1 true 1 := rfl
theorem ex_t2 : { exQ [oneA 7, oneA 8] 1 true 1 with ticks := min ((exQ [oneA 7, oneA 8] 1 true 1).ticks + 1) (exQ [oneA 7, oneA 8] 1 true 1).retry } = exQ [oneA 7, oneA 8] 1 true 2 := rfl
theorem ex_t3 : { exQ [oneA 7, oneA 8] 1 true 2 with ticks := min ((exQ [oneA 7, oneA 8] 1 true 2).ticks + 1) (exQ [oneA 7, oneA 8] 1 true 2).retry } = exQ [oneA 7, oneA 8] 1 true 3 := rfl
theorem oneS7 : oneS 7 = ⟨#[55]⟩ := by decide
theorem examples_c {w0 w : World} {F : List Chunk} (hS : Sat w0 w F) : Calls Try.prog 6 #[] w fun e w' => e = .returned (.bool true) ∧ Sat w0 w' F := by
  refine enter Try.func6 rfl Try.ntmps6 (Nat.le_of_ble_eq_true rfl) fun a hF => ?_
  refine wp_seq_k fun K0 hK0 => ?_
  -- region 0
  refine wp_region_lit ?_
  refine s_pu hF rfl rfl rfl (pu_assign (hF.ev rfl)) ?_; clear hF; intro a hF
  refine s_done ?_
  refine hK0 _ _ ?_; clear hK0
  refine wp_seq_k fun K1 hK1 => ?_
  -- region 1
  refine wp_region_lit ?_
  refine s_en hF rfl rfl rfl (run_fn fk8 (hF.ev rfl) (hF.evs rfl)) (new_c (k := 1) hS (by unfold newOk; omega)) ?_
  clear hS; rintro e w ⟨g, rfl, hS⟩
  refine ⟨_, rfl, ?_⟩; clear hF; intro a hF
  refine s_pu hF rfl rfl rfl (pu_move (hF.ev rfl)) ?_; clear hF; intro a hF
  refine s_pu hF rfl rfl rfl (pu_extract (hF.ev rfl) rfl) ?_; clear hF; intro a hF
  refine s_pu hF rfl rfl rfl (pu_extract (hF.ev rfl) rfl) ?_; clear hF; intro a hF
  refine s_pu hF rfl rfl rfl (pu_assign (hF.ev rfl)) ?_; clear hF; intro a hF
  refine s_pu hF rfl rfl rfl (pu_assign (hF.ev rfl)) ?_; clear hF; intro a hF
  refine s_done ?_
  refine hK1 _ _ ?_; clear hK1
  refine wp_seq_k fun K2 hK2 => ?_
  refine wp_seq_k fun K3 hK3 => ?_
  -- region 2
  refine wp_region_lit ?_
  refine s_pu hF rfl rfl rfl (pu_move (hF.ev rfl)) ?_; clear hF; intro a hF
  refine s_pu hF rfl rfl rfl (pu_peq Try.underlying24 (hF.ev rfl) (hF.ev rfl)) ?_; clear hF; intro a hF
  refine s_pu hF rfl rfl rfl (pu_move (hF.ev rfl)) ?_; clear hF; intro a hF
  refine s_pu hF rfl rfl rfl (pu_move (hF.ev rfl)) ?_; clear hF; intro a hF
  refine s_pu hF rfl rfl rfl (pu_neq (hF.ev rfl) (hF.ev rfl)) ?_; clear hF; intro a hF
  refine s_pu hF rfl rfl rfl ((by first | exact pu_pick_t (hF.ev rfl) (hF.ev rfl) | exact pu_pick_f (hF.ev rfl) (hF.ev rfl) | exact pu_pick (hF.ev rfl) (hF.ev rfl) (hF.ev rfl))) ?_; clear hF; intro a hF
  refine s_done ?_
  refine hK3 _ _ ?_; clear hK3
  refine wp_cond_false (hF.ev rfl) ?_
  refine wp_skip ?_
  refine hK2 _ _ ?_; clear hK2
  refine wp_seq_k fun K4 hK4 => ?_
  -- region 4
  refine wp_region_lit ?_
  refine s_pu hF rfl rfl rfl (pu_move (hF.ev rfl)) ?_; clear hF; intro a hF
  refine s_en hF rfl rfl rfl (run_fn fk10 (hF.ev rfl) (hF.evs rfl)) (one_c hS (by omega) (by omega)) ?_
  clear hS; rintro e w ⟨p, rfl, ⟨_, _, _, _, _, _, rfl⟩, hS⟩
  refine ⟨_, rfl, ?_⟩; clear hF; intro a hF
  refine s_en hF rfl rfl rfl (run_fn fk9 (hF.ev rfl) (hF.evs rfl)) (put_own 1 hS (by simp [Que.start])) ?_
  clear hS; rintro e w ⟨rfl, hS⟩
  rw [ex_put7] at hS ⊢
  refine ⟨_, rfl, ?_⟩; clear hF; intro a hF
  refine s_pu hF rfl rfl rfl (pu_assign (hF.ev rfl)) ?_; clear hF; intro a hF
  refine s_done ?_
  refine hK4 _ _ ?_; clear hK4
  refine wp_seq_k fun K5 hK5 => ?_
  -- region 5
  refine wp_region_lit ?_
  refine s_pu hF rfl rfl rfl (pu_move (hF.ev rfl)) ?_; clear hF; intro a hF
  refine s_en hF rfl rfl rfl (run_fn fk10 (hF.ev rfl) (hF.evs rfl)) (one_c hS (by omega) (by omega)) ?_
  clear hS; rintro e w ⟨p, rfl, ⟨_, _, _, _, _, _, rfl⟩, hS⟩
  refine ⟨_, rfl, ?_⟩; clear hF; intro a hF
  refine s_en hF rfl rfl rfl (run_fn fk9 (hF.ev rfl) (hF.evs rfl)) (put_own 1 hS (by simp [exQ])) ?_
  clear hS; rintro e w ⟨rfl, hS⟩
  rw [ex_put8] at hS ⊢
  refine ⟨_, rfl, ?_⟩; clear hF; intro a hF
  refine s_pu hF rfl rfl rfl (pu_assign (hF.ev rfl)) ?_; clear hF; intro a hF
  refine s_done ?_
  refine hK5 _ _ ?_; clear hK5
  refine wp_seq_k fun K6 hK6 => ?_
  -- region 6
  refine wp_region_lit ?_
  refine s_pu hF rfl rfl rfl (pu_move (hF.ev rfl)) ?_; clear hF; intro a hF
  refine s_en hF rfl rfl rfl (run_fn fk10 (hF.ev rfl) (hF.evs rfl)) (one_c hS (by omega) (by omega)) ?_
  clear hS; rintro e w ⟨p, rfl, ⟨_, _, _, _, _, _, rfl⟩, hS⟩
  refine ⟨_, rfl, ?_⟩; clear hF; intro a hF
  refine s_en hF rfl rfl rfl (run_fn fk9 (hF.ev rfl) (hF.evs rfl)) (put_own 1 hS (by simp [exQ])) ?_
  clear hS; rintro e w ⟨rfl, hS⟩
  rw [ex_put9] at hS ⊢
  refine ⟨_, rfl, ?_⟩; clear hF; intro a hF
  refine s_pu hF rfl rfl rfl (pu_assign (hF.ev rfl)) ?_; clear hF; intro a hF
  refine s_done ?_
  refine hK6 _ _ ?_; clear hK6
  refine wp_seq_k fun K7 hK7 => ?_
  -- region 7
  refine wp_region_lit ?_
  refine s_pu hF rfl rfl rfl (pu_move (hF.ev rfl)) ?_; clear hF; intro a hF
  refine s_en hF rfl rfl rfl (run_fn fk11 (hF.ev rfl) (hF.evs rfl)) (next_c 1 hS (exQ_ok (by omega) (by omega) (by omega) (by omega)) (by simp [exQ])) ?_
  clear hS; rintro e w ⟨h, rfl, ⟨_, _, _, rfl⟩, hS⟩
  rw [ex_n1] at hS ⊢
  refine ⟨_, rfl, ?_⟩; clear hF; intro a hF
  refine s_pu hF rfl rfl rfl (pu_move (hF.ev rfl)) ?_; clear hF; intro a hF
  refine s_pu hF rfl rfl rfl (pu_extract (hF.ev rfl) rfl) ?_; clear hF; intro a hF
  refine s_pu hF rfl rfl rfl (pu_extract (hF.ev rfl) rfl) ?_; clear hF; intro a hF
  refine s_newp hF rfl rfl rfl (ef_alloc (cs := #[_, _]) ze31 rfl) hS ?_; clear hF hS; intro b6 w hS a hF
  (first | (refine s_store (vs := [_, _]) (cs' := #[_, _]) 0 hF rfl (hF.ev rfl) (hF.ev rfl) hS rfl rfl sz31 (by first | rfl | (simp only [List.all_cons, List.all_nil, Value.oneCell', Bool.and_true, Bool.true_and]; assumption) | (simp [Value.oneCell', *]; done)) (by first | exact Nat.le_of_ble_eq_true rfl | (simp [Value.cells]; omega)) rfl ?_) | (refine s_store (vs := [_, _]) (cs' := #[_, _]) 1 hF rfl (hF.ev rfl) (hF.ev rfl) hS rfl rfl sz31 (by first | rfl | (simp only [List.all_cons, List.all_nil, Value.oneCell', Bool.and_true, Bool.true_and]; assumption) | (simp [Value.oneCell', *]; done)) (by first | exact Nat.le_of_ble_eq_true rfl | (simp [Value.cells]; omega)) rfl ?_) | (refine s_store (vs := [_, _]) (cs' := #[_, _]) 2 hF rfl (hF.ev rfl) (hF.ev rfl) hS rfl rfl sz31 (by first | rfl | (simp only [List.all_cons, List.all_nil, Value.oneCell', Bool.and_true, Bool.true_and]; assumption) | (simp [Value.oneCell', *]; done)) (by first | exact Nat.le_of_ble_eq_true rfl | (simp [Value.cells]; omega)) rfl ?_) | (refine s_store (vs := [_, _]) (cs' := #[_, _]) 3 hF rfl (hF.ev rfl) (hF.ev rfl) hS rfl rfl sz31 (by first | rfl | (simp only [List.all_cons, List.all_nil, Value.oneCell', Bool.and_true, Bool.true_and]; assumption) | (simp [Value.oneCell', *]; done)) (by first | exact Nat.le_of_ble_eq_true rfl | (simp [Value.cells]; omega)) rfl ?_) | (refine s_store (vs := [_, _]) (cs' := #[_, _]) 4 hF rfl (hF.ev rfl) (hF.ev rfl) hS rfl rfl sz31 (by first | rfl | (simp only [List.all_cons, List.all_nil, Value.oneCell', Bool.and_true, Bool.true_and]; assumption) | (simp [Value.oneCell', *]; done)) (by first | exact Nat.le_of_ble_eq_true rfl | (simp [Value.cells]; omega)) rfl ?_) | (refine s_store (vs := [_, _]) (cs' := #[_, _]) 5 hF rfl (hF.ev rfl) (hF.ev rfl) hS rfl rfl sz31 (by first | rfl | (simp only [List.all_cons, List.all_nil, Value.oneCell', Bool.and_true, Bool.true_and]; assumption) | (simp [Value.oneCell', *]; done)) (by first | exact Nat.le_of_ble_eq_true rfl | (simp [Value.cells]; omega)) rfl ?_) | (refine s_store (vs := [_, _]) (cs' := #[_, _]) 6 hF rfl (hF.ev rfl) (hF.ev rfl) hS rfl rfl sz31 (by first | rfl | (simp only [List.all_cons, List.all_nil, Value.oneCell', Bool.and_true, Bool.true_and]; assumption) | (simp [Value.oneCell', *]; done)) (by first | exact Nat.le_of_ble_eq_true rfl | (simp [Value.cells]; omega)) rfl ?_) | (refine s_store (vs := [_, _]) (cs' := #[_, _]) 7 hF rfl (hF.ev rfl) (hF.ev rfl) hS rfl rfl sz31 (by first | rfl | (simp only [List.all_cons, List.all_nil, Value.oneCell', Bool.and_true, Bool.true_and]; assumption) | (simp [Value.oneCell', *]; done)) (by first | exact Nat.le_of_ble_eq_true rfl | (simp [Value.cells]; omega)) rfl ?_) | (refine s_store (vs := [_, _]) (cs' := _) 0 hF rfl (hF.ev rfl) (hF.ev rfl) hS rfl rfl sz31 (by first | rfl | (simp only [List.all_cons, List.all_nil, Value.oneCell', Bool.and_true, Bool.true_and]; assumption) | (simp [Value.oneCell', *]; done)) (by first | exact Nat.le_of_ble_eq_true rfl | (simp [Value.cells]; omega)) rfl ?_) | (refine s_store (vs := [_, _]) (cs' := _) 1 hF rfl (hF.ev rfl) (hF.ev rfl) hS rfl rfl sz31 (by first | rfl | (simp only [List.all_cons, List.all_nil, Value.oneCell', Bool.and_true, Bool.true_and]; assumption) | (simp [Value.oneCell', *]; done)) (by first | exact Nat.le_of_ble_eq_true rfl | (simp [Value.cells]; omega)) rfl ?_) | (refine s_store (vs := [_, _]) (cs' := _) 2 hF rfl (hF.ev rfl) (hF.ev rfl) hS rfl rfl sz31 (by first | rfl | (simp only [List.all_cons, List.all_nil, Value.oneCell', Bool.and_true, Bool.true_and]; assumption) | (simp [Value.oneCell', *]; done)) (by first | exact Nat.le_of_ble_eq_true rfl | (simp [Value.cells]; omega)) rfl ?_) | (refine s_store (vs := [_, _]) (cs' := _) 3 hF rfl (hF.ev rfl) (hF.ev rfl) hS rfl rfl sz31 (by first | rfl | (simp only [List.all_cons, List.all_nil, Value.oneCell', Bool.and_true, Bool.true_and]; assumption) | (simp [Value.oneCell', *]; done)) (by first | exact Nat.le_of_ble_eq_true rfl | (simp [Value.cells]; omega)) rfl ?_) | (refine s_store (vs := [_, _]) (cs' := _) 4 hF rfl (hF.ev rfl) (hF.ev rfl) hS rfl rfl sz31 (by first | rfl | (simp only [List.all_cons, List.all_nil, Value.oneCell', Bool.and_true, Bool.true_and]; assumption) | (simp [Value.oneCell', *]; done)) (by first | exact Nat.le_of_ble_eq_true rfl | (simp [Value.cells]; omega)) rfl ?_) | (refine s_store (vs := [_, _]) (cs' := _) 5 hF rfl (hF.ev rfl) (hF.ev rfl) hS rfl rfl sz31 (by first | rfl | (simp only [List.all_cons, List.all_nil, Value.oneCell', Bool.and_true, Bool.true_and]; assumption) | (simp [Value.oneCell', *]; done)) (by first | exact Nat.le_of_ble_eq_true rfl | (simp [Value.cells]; omega)) rfl ?_) | (refine s_store (vs := [_, _]) (cs' := _) 6 hF rfl (hF.ev rfl) (hF.ev rfl) hS rfl rfl sz31 (by first | rfl | (simp only [List.all_cons, List.all_nil, Value.oneCell', Bool.and_true, Bool.true_and]; assumption) | (simp [Value.oneCell', *]; done)) (by first | exact Nat.le_of_ble_eq_true rfl | (simp [Value.cells]; omega)) rfl ?_) | (refine s_store (vs := [_, _]) (cs' := _) 7 hF rfl (hF.ev rfl) (hF.ev rfl) hS rfl rfl sz31 (by first | rfl | (simp only [List.all_cons, List.all_nil, Value.oneCell', Bool.and_true, Bool.true_and]; assumption) | (simp [Value.oneCell', *]; done)) (by first | exact Nat.le_of_ble_eq_true rfl | (simp [Value.cells]; omega)) rfl ?_))
  clear hS; intro w hS; (try simp only [upd, del] at hS)
  refine s_pu hF rfl rfl rfl (pu_assign (hF.ev rfl)) ?_; clear hF; intro a hF
  refine s_done ?_
  replace hS := hS.tail
  refine hK7 _ _ ?_; clear hK7
  refine wp_seq_k fun K8 hK8 => ?_
  -- region 8
  refine wp_region_lit ?_
  refine s_pu hF rfl rfl rfl (pu_move (hF.ev rfl)) ?_; clear hF; intro a hF
  refine s_en hF rfl rfl rfl (run_fn fk11 (hF.ev rfl) (hF.evs rfl)) (next_c 1 hS (exQ_ok (by omega) (by omega) (by omega) (by omega)) (by simp [exQ])) ?_
  clear hS; rintro e w ⟨h, rfl, ⟨_, _, _, rfl⟩, hS⟩
  rw [ex_n2] at hS ⊢
  obtain ⟨A8, c8, e8⟩ := nodes_val hS
  rw [e8] at hS ⊢
  refine ⟨_, rfl, ?_⟩; clear hF; intro a hF
  refine s_pu hF rfl rfl rfl (pu_move (hF.ev rfl)) ?_; clear hF; intro a hF
  refine s_pu hF rfl rfl rfl (pu_extract (hF.ev rfl) rfl) ?_; clear hF; intro a hF
  refine s_pu hF rfl rfl rfl (pu_extract (hF.ev rfl) rfl) ?_; clear hF; intro a hF
  refine s_newp hF rfl rfl rfl (ef_alloc (cs := #[_, _]) ze31 rfl) hS ?_; clear hF hS; intro b8 w hS a hF
  (first | (refine s_store (vs := [_, _]) (cs' := #[_, _]) 0 hF rfl (hF.ev rfl) (hF.ev rfl) hS rfl rfl sz31 (by first | rfl | (simp only [List.all_cons, List.all_nil, Value.oneCell', Bool.and_true, Bool.true_and]; assumption) | (simp [Value.oneCell', *]; done)) (by first | exact Nat.le_of_ble_eq_true rfl | (simp [Value.cells]; omega)) rfl ?_) | (refine s_store (vs := [_, _]) (cs' := #[_, _]) 1 hF rfl (hF.ev rfl) (hF.ev rfl) hS rfl rfl sz31 (by first | rfl | (simp only [List.all_cons, List.all_nil, Value.oneCell', Bool.and_true, Bool.true_and]; assumption) | (simp [Value.oneCell', *]; done)) (by first | exact Nat.le_of_ble_eq_true rfl | (simp [Value.cells]; omega)) rfl ?_) | (refine s_store (vs := [_, _]) (cs' := #[_, _]) 2 hF rfl (hF.ev rfl) (hF.ev rfl) hS rfl rfl sz31 (by first | rfl | (simp only [List.all_cons, List.all_nil, Value.oneCell', Bool.and_true, Bool.true_and]; assumption) | (simp [Value.oneCell', *]; done)) (by first | exact Nat.le_of_ble_eq_true rfl | (simp [Value.cells]; omega)) rfl ?_) | (refine s_store (vs := [_, _]) (cs' := #[_, _]) 3 hF rfl (hF.ev rfl) (hF.ev rfl) hS rfl rfl sz31 (by first | rfl | (simp only [List.all_cons, List.all_nil, Value.oneCell', Bool.and_true, Bool.true_and]; assumption) | (simp [Value.oneCell', *]; done)) (by first | exact Nat.le_of_ble_eq_true rfl | (simp [Value.cells]; omega)) rfl ?_) | (refine s_store (vs := [_, _]) (cs' := #[_, _]) 4 hF rfl (hF.ev rfl) (hF.ev rfl) hS rfl rfl sz31 (by first | rfl | (simp only [List.all_cons, List.all_nil, Value.oneCell', Bool.and_true, Bool.true_and]; assumption) | (simp [Value.oneCell', *]; done)) (by first | exact Nat.le_of_ble_eq_true rfl | (simp [Value.cells]; omega)) rfl ?_) | (refine s_store (vs := [_, _]) (cs' := #[_, _]) 5 hF rfl (hF.ev rfl) (hF.ev rfl) hS rfl rfl sz31 (by first | rfl | (simp only [List.all_cons, List.all_nil, Value.oneCell', Bool.and_true, Bool.true_and]; assumption) | (simp [Value.oneCell', *]; done)) (by first | exact Nat.le_of_ble_eq_true rfl | (simp [Value.cells]; omega)) rfl ?_) | (refine s_store (vs := [_, _]) (cs' := #[_, _]) 6 hF rfl (hF.ev rfl) (hF.ev rfl) hS rfl rfl sz31 (by first | rfl | (simp only [List.all_cons, List.all_nil, Value.oneCell', Bool.and_true, Bool.true_and]; assumption) | (simp [Value.oneCell', *]; done)) (by first | exact Nat.le_of_ble_eq_true rfl | (simp [Value.cells]; omega)) rfl ?_) | (refine s_store (vs := [_, _]) (cs' := #[_, _]) 7 hF rfl (hF.ev rfl) (hF.ev rfl) hS rfl rfl sz31 (by first | rfl | (simp only [List.all_cons, List.all_nil, Value.oneCell', Bool.and_true, Bool.true_and]; assumption) | (simp [Value.oneCell', *]; done)) (by first | exact Nat.le_of_ble_eq_true rfl | (simp [Value.cells]; omega)) rfl ?_) | (refine s_store (vs := [_, _]) (cs' := _) 0 hF rfl (hF.ev rfl) (hF.ev rfl) hS rfl rfl sz31 (by first | rfl | (simp only [List.all_cons, List.all_nil, Value.oneCell', Bool.and_true, Bool.true_and]; assumption) | (simp [Value.oneCell', *]; done)) (by first | exact Nat.le_of_ble_eq_true rfl | (simp [Value.cells]; omega)) rfl ?_) | (refine s_store (vs := [_, _]) (cs' := _) 1 hF rfl (hF.ev rfl) (hF.ev rfl) hS rfl rfl sz31 (by first | rfl | (simp only [List.all_cons, List.all_nil, Value.oneCell', Bool.and_true, Bool.true_and]; assumption) | (simp [Value.oneCell', *]; done)) (by first | exact Nat.le_of_ble_eq_true rfl | (simp [Value.cells]; omega)) rfl ?_) | (refine s_store (vs := [_, _]) (cs' := _) 2 hF rfl (hF.ev rfl) (hF.ev rfl) hS rfl rfl sz31 (by first | rfl | (simp only [List.all_cons, List.all_nil, Value.oneCell', Bool.and_true, Bool.true_and]; assumption) | (simp [Value.oneCell', *]; done)) (by first | exact Nat.le_of_ble_eq_true rfl | (simp [Value.cells]; omega)) rfl ?_) | (refine s_store (vs := [_, _]) (cs' := _) 3 hF rfl (hF.ev rfl) (hF.ev rfl) hS rfl rfl sz31 (by first | rfl | (simp only [List.all_cons, List.all_nil, Value.oneCell', Bool.and_true, Bool.true_and]; assumption) | (simp [Value.oneCell', *]; done)) (by first | exact Nat.le_of_ble_eq_true rfl | (simp [Value.cells]; omega)) rfl ?_) | (refine s_store (vs := [_, _]) (cs' := _) 4 hF rfl (hF.ev rfl) (hF.ev rfl) hS rfl rfl sz31 (by first | rfl | (simp only [List.all_cons, List.all_nil, Value.oneCell', Bool.and_true, Bool.true_and]; assumption) | (simp [Value.oneCell', *]; done)) (by first | exact Nat.le_of_ble_eq_true rfl | (simp [Value.cells]; omega)) rfl ?_) | (refine s_store (vs := [_, _]) (cs' := _) 5 hF rfl (hF.ev rfl) (hF.ev rfl) hS rfl rfl sz31 (by first | rfl | (simp only [List.all_cons, List.all_nil, Value.oneCell', Bool.and_true, Bool.true_and]; assumption) | (simp [Value.oneCell', *]; done)) (by first | exact Nat.le_of_ble_eq_true rfl | (simp [Value.cells]; omega)) rfl ?_) | (refine s_store (vs := [_, _]) (cs' := _) 6 hF rfl (hF.ev rfl) (hF.ev rfl) hS rfl rfl sz31 (by first | rfl | (simp only [List.all_cons, List.all_nil, Value.oneCell', Bool.and_true, Bool.true_and]; assumption) | (simp [Value.oneCell', *]; done)) (by first | exact Nat.le_of_ble_eq_true rfl | (simp [Value.cells]; omega)) rfl ?_) | (refine s_store (vs := [_, _]) (cs' := _) 7 hF rfl (hF.ev rfl) (hF.ev rfl) hS rfl rfl sz31 (by first | rfl | (simp only [List.all_cons, List.all_nil, Value.oneCell', Bool.and_true, Bool.true_and]; assumption) | (simp [Value.oneCell', *]; done)) (by first | exact Nat.le_of_ble_eq_true rfl | (simp [Value.cells]; omega)) rfl ?_))
  clear hS; intro w hS; (try simp only [upd, del] at hS)
  refine s_pu hF rfl rfl rfl (pu_assign (hF.ev rfl)) ?_; clear hF; intro a hF
  refine s_done ?_
  refine hK8 _ _ ?_; clear hK8
  refine wp_seq_k fun K9 hK9 => ?_
  -- region 9
  refine wp_region_lit ?_
  refine s_pu hF rfl rfl rfl (pu_move (hF.ev rfl)) ?_; clear hF; intro a hF
  refine s_en hF rfl rfl rfl (run_fn fk11 (hF.ev rfl) (hF.evs rfl)) (at_place 2 hS rfl (fun h => next_c 1 h (exQ_ok (by omega) (by omega) (by omega) (by omega)) (by simp [exQ]))) ?_
  clear hS; rintro e w ⟨h, rfl, ⟨_, _, _, rfl⟩, hS⟩
  rw [ex_n3] at hS ⊢
  refine ⟨_, rfl, ?_⟩; clear hF; intro a hF
  refine s_pu hF rfl rfl rfl (pu_move (hF.ev rfl)) ?_; clear hF; intro a hF
  refine s_pu hF rfl rfl rfl (pu_extract (hF.ev rfl) rfl) ?_; clear hF; intro a hF
  refine s_pu hF rfl rfl rfl (pu_extract (hF.ev rfl) rfl) ?_; clear hF; intro a hF
  refine s_newp hF rfl rfl rfl (ef_alloc (cs := #[_, _]) ze31 rfl) hS ?_; clear hF hS; intro b10 w hS a hF
  (first | (refine s_store (vs := [_, _]) (cs' := #[_, _]) 0 hF rfl (hF.ev rfl) (hF.ev rfl) hS rfl rfl sz31 (by first | rfl | (simp only [List.all_cons, List.all_nil, Value.oneCell', Bool.and_true, Bool.true_and]; assumption) | (simp [Value.oneCell', *]; done)) (by first | exact Nat.le_of_ble_eq_true rfl | (simp [Value.cells]; omega)) rfl ?_) | (refine s_store (vs := [_, _]) (cs' := #[_, _]) 1 hF rfl (hF.ev rfl) (hF.ev rfl) hS rfl rfl sz31 (by first | rfl | (simp only [List.all_cons, List.all_nil, Value.oneCell', Bool.and_true, Bool.true_and]; assumption) | (simp [Value.oneCell', *]; done)) (by first | exact Nat.le_of_ble_eq_true rfl | (simp [Value.cells]; omega)) rfl ?_) | (refine s_store (vs := [_, _]) (cs' := #[_, _]) 2 hF rfl (hF.ev rfl) (hF.ev rfl) hS rfl rfl sz31 (by first | rfl | (simp only [List.all_cons, List.all_nil, Value.oneCell', Bool.and_true, Bool.true_and]; assumption) | (simp [Value.oneCell', *]; done)) (by first | exact Nat.le_of_ble_eq_true rfl | (simp [Value.cells]; omega)) rfl ?_) | (refine s_store (vs := [_, _]) (cs' := #[_, _]) 3 hF rfl (hF.ev rfl) (hF.ev rfl) hS rfl rfl sz31 (by first | rfl | (simp only [List.all_cons, List.all_nil, Value.oneCell', Bool.and_true, Bool.true_and]; assumption) | (simp [Value.oneCell', *]; done)) (by first | exact Nat.le_of_ble_eq_true rfl | (simp [Value.cells]; omega)) rfl ?_) | (refine s_store (vs := [_, _]) (cs' := #[_, _]) 4 hF rfl (hF.ev rfl) (hF.ev rfl) hS rfl rfl sz31 (by first | rfl | (simp only [List.all_cons, List.all_nil, Value.oneCell', Bool.and_true, Bool.true_and]; assumption) | (simp [Value.oneCell', *]; done)) (by first | exact Nat.le_of_ble_eq_true rfl | (simp [Value.cells]; omega)) rfl ?_) | (refine s_store (vs := [_, _]) (cs' := #[_, _]) 5 hF rfl (hF.ev rfl) (hF.ev rfl) hS rfl rfl sz31 (by first | rfl | (simp only [List.all_cons, List.all_nil, Value.oneCell', Bool.and_true, Bool.true_and]; assumption) | (simp [Value.oneCell', *]; done)) (by first | exact Nat.le_of_ble_eq_true rfl | (simp [Value.cells]; omega)) rfl ?_) | (refine s_store (vs := [_, _]) (cs' := #[_, _]) 6 hF rfl (hF.ev rfl) (hF.ev rfl) hS rfl rfl sz31 (by first | rfl | (simp only [List.all_cons, List.all_nil, Value.oneCell', Bool.and_true, Bool.true_and]; assumption) | (simp [Value.oneCell', *]; done)) (by first | exact Nat.le_of_ble_eq_true rfl | (simp [Value.cells]; omega)) rfl ?_) | (refine s_store (vs := [_, _]) (cs' := #[_, _]) 7 hF rfl (hF.ev rfl) (hF.ev rfl) hS rfl rfl sz31 (by first | rfl | (simp only [List.all_cons, List.all_nil, Value.oneCell', Bool.and_true, Bool.true_and]; assumption) | (simp [Value.oneCell', *]; done)) (by first | exact Nat.le_of_ble_eq_true rfl | (simp [Value.cells]; omega)) rfl ?_) | (refine s_store (vs := [_, _]) (cs' := _) 0 hF rfl (hF.ev rfl) (hF.ev rfl) hS rfl rfl sz31 (by first | rfl | (simp only [List.all_cons, List.all_nil, Value.oneCell', Bool.and_true, Bool.true_and]; assumption) | (simp [Value.oneCell', *]; done)) (by first | exact Nat.le_of_ble_eq_true rfl | (simp [Value.cells]; omega)) rfl ?_) | (refine s_store (vs := [_, _]) (cs' := _) 1 hF rfl (hF.ev rfl) (hF.ev rfl) hS rfl rfl sz31 (by first | rfl | (simp only [List.all_cons, List.all_nil, Value.oneCell', Bool.and_true, Bool.true_and]; assumption) | (simp [Value.oneCell', *]; done)) (by first | exact Nat.le_of_ble_eq_true rfl | (simp [Value.cells]; omega)) rfl ?_) | (refine s_store (vs := [_, _]) (cs' := _) 2 hF rfl (hF.ev rfl) (hF.ev rfl) hS rfl rfl sz31 (by first | rfl | (simp only [List.all_cons, List.all_nil, Value.oneCell', Bool.and_true, Bool.true_and]; assumption) | (simp [Value.oneCell', *]; done)) (by first | exact Nat.le_of_ble_eq_true rfl | (simp [Value.cells]; omega)) rfl ?_) | (refine s_store (vs := [_, _]) (cs' := _) 3 hF rfl (hF.ev rfl) (hF.ev rfl) hS rfl rfl sz31 (by first | rfl | (simp only [List.all_cons, List.all_nil, Value.oneCell', Bool.and_true, Bool.true_and]; assumption) | (simp [Value.oneCell', *]; done)) (by first | exact Nat.le_of_ble_eq_true rfl | (simp [Value.cells]; omega)) rfl ?_) | (refine s_store (vs := [_, _]) (cs' := _) 4 hF rfl (hF.ev rfl) (hF.ev rfl) hS rfl rfl sz31 (by first | rfl | (simp only [List.all_cons, List.all_nil, Value.oneCell', Bool.and_true, Bool.true_and]; assumption) | (simp [Value.oneCell', *]; done)) (by first | exact Nat.le_of_ble_eq_true rfl | (simp [Value.cells]; omega)) rfl ?_) | (refine s_store (vs := [_, _]) (cs' := _) 5 hF rfl (hF.ev rfl) (hF.ev rfl) hS rfl rfl sz31 (by first | rfl | (simp only [List.all_cons, List.all_nil, Value.oneCell', Bool.and_true, Bool.true_and]; assumption) | (simp [Value.oneCell', *]; done)) (by first | exact Nat.le_of_ble_eq_true rfl | (simp [Value.cells]; omega)) rfl ?_) | (refine s_store (vs := [_, _]) (cs' := _) 6 hF rfl (hF.ev rfl) (hF.ev rfl) hS rfl rfl sz31 (by first | rfl | (simp only [List.all_cons, List.all_nil, Value.oneCell', Bool.and_true, Bool.true_and]; assumption) | (simp [Value.oneCell', *]; done)) (by first | exact Nat.le_of_ble_eq_true rfl | (simp [Value.cells]; omega)) rfl ?_) | (refine s_store (vs := [_, _]) (cs' := _) 7 hF rfl (hF.ev rfl) (hF.ev rfl) hS rfl rfl sz31 (by first | rfl | (simp only [List.all_cons, List.all_nil, Value.oneCell', Bool.and_true, Bool.true_and]; assumption) | (simp [Value.oneCell', *]; done)) (by first | exact Nat.le_of_ble_eq_true rfl | (simp [Value.cells]; omega)) rfl ?_))
  clear hS; intro w hS; (try simp only [upd, del] at hS)
  refine s_pu hF rfl rfl rfl (pu_assign (hF.ev rfl)) ?_; clear hF; intro a hF
  refine s_done ?_
  replace hS := hS.tail
  refine hK9 _ _ ?_; clear hK9
  refine wp_seq_k fun K10 hK10 => ?_
  -- region 10
  refine wp_region_lit ?_
  refine s_pu hF rfl rfl rfl (pu_move (hF.ev rfl)) ?_; clear hF; intro a hF
  refine s_en hF rfl rfl rfl (run_fn fk13 (hF.ev rfl) (hF.evs rfl)) (tick_c hS (by simp [exQ]) (by simp [exQ])) ?_
  clear hS; rintro e w ⟨rfl, hS⟩
  rw [ex_t1] at hS
  refine ⟨_, rfl, ?_⟩; clear hF; intro a hF
  refine s_done ?_
  refine hK10 _ _ ?_; clear hK10
  refine wp_seq_k fun K11 hK11 => ?_
  -- region 11
  refine wp_region_lit ?_
  refine s_pu hF rfl rfl rfl (pu_move (hF.ev rfl)) ?_; clear hF; intro a hF
  refine s_en hF rfl rfl rfl (run_fn fk13 (hF.ev rfl) (hF.evs rfl)) (tick_c hS (by simp [exQ]) (by simp [exQ])) ?_
  clear hS; rintro e w ⟨rfl, hS⟩
  rw [ex_t2] at hS
  refine ⟨_, rfl, ?_⟩; clear hF; intro a hF
  refine s_done ?_
  refine hK11 _ _ ?_; clear hK11
  refine wp_seq_k fun K12 hK12 => ?_
  -- region 12
  refine wp_region_lit ?_
  refine s_pu hF rfl rfl rfl (pu_move (hF.ev rfl)) ?_; clear hF; intro a hF
  refine s_en hF rfl rfl rfl (run_fn fk13 (hF.ev rfl) (hF.evs rfl)) (tick_c hS (by simp [exQ]) (by simp [exQ])) ?_
  clear hS; rintro e w ⟨rfl, hS⟩
  rw [ex_t3] at hS
  refine ⟨_, rfl, ?_⟩; clear hF; intro a hF
  refine s_done ?_
  refine hK12 _ _ ?_; clear hK12
  refine wp_seq_k fun K13 hK13 => ?_
  -- region 13
  refine wp_region_lit ?_
  refine s_pu hF rfl rfl rfl (pu_move (hF.ev rfl)) ?_; clear hF; intro a hF
  refine s_en hF rfl rfl rfl (run_fn fk11 (hF.ev rfl) (hF.evs rfl)) (next_c 1 hS (exQ_ok (by omega) (by omega) (by omega) (by omega)) (by simp [exQ])) ?_
  clear hS; rintro e w ⟨h, rfl, ⟨_, _, _, rfl⟩, hS⟩
  rw [ex_n4] at hS ⊢
  refine ⟨_, rfl, ?_⟩; clear hF; intro a hF
  refine s_pu hF rfl rfl rfl (pu_move (hF.ev rfl)) ?_; clear hF; intro a hF
  refine s_pu hF rfl rfl rfl (pu_extract (hF.ev rfl) rfl) ?_; clear hF; intro a hF
  refine s_pu hF rfl rfl rfl (pu_extract (hF.ev rfl) rfl) ?_; clear hF; intro a hF
  refine s_newp hF rfl rfl rfl (ef_alloc (cs := #[_, _]) ze31 rfl) hS ?_; clear hF hS; intro b12 w hS a hF
  (first | (refine s_store (vs := [_, _]) (cs' := #[_, _]) 0 hF rfl (hF.ev rfl) (hF.ev rfl) hS rfl rfl sz31 (by first | rfl | (simp only [List.all_cons, List.all_nil, Value.oneCell', Bool.and_true, Bool.true_and]; assumption) | (simp [Value.oneCell', *]; done)) (by first | exact Nat.le_of_ble_eq_true rfl | (simp [Value.cells]; omega)) rfl ?_) | (refine s_store (vs := [_, _]) (cs' := #[_, _]) 1 hF rfl (hF.ev rfl) (hF.ev rfl) hS rfl rfl sz31 (by first | rfl | (simp only [List.all_cons, List.all_nil, Value.oneCell', Bool.and_true, Bool.true_and]; assumption) | (simp [Value.oneCell', *]; done)) (by first | exact Nat.le_of_ble_eq_true rfl | (simp [Value.cells]; omega)) rfl ?_) | (refine s_store (vs := [_, _]) (cs' := #[_, _]) 2 hF rfl (hF.ev rfl) (hF.ev rfl) hS rfl rfl sz31 (by first | rfl | (simp only [List.all_cons, List.all_nil, Value.oneCell', Bool.and_true, Bool.true_and]; assumption) | (simp [Value.oneCell', *]; done)) (by first | exact Nat.le_of_ble_eq_true rfl | (simp [Value.cells]; omega)) rfl ?_) | (refine s_store (vs := [_, _]) (cs' := #[_, _]) 3 hF rfl (hF.ev rfl) (hF.ev rfl) hS rfl rfl sz31 (by first | rfl | (simp only [List.all_cons, List.all_nil, Value.oneCell', Bool.and_true, Bool.true_and]; assumption) | (simp [Value.oneCell', *]; done)) (by first | exact Nat.le_of_ble_eq_true rfl | (simp [Value.cells]; omega)) rfl ?_) | (refine s_store (vs := [_, _]) (cs' := #[_, _]) 4 hF rfl (hF.ev rfl) (hF.ev rfl) hS rfl rfl sz31 (by first | rfl | (simp only [List.all_cons, List.all_nil, Value.oneCell', Bool.and_true, Bool.true_and]; assumption) | (simp [Value.oneCell', *]; done)) (by first | exact Nat.le_of_ble_eq_true rfl | (simp [Value.cells]; omega)) rfl ?_) | (refine s_store (vs := [_, _]) (cs' := #[_, _]) 5 hF rfl (hF.ev rfl) (hF.ev rfl) hS rfl rfl sz31 (by first | rfl | (simp only [List.all_cons, List.all_nil, Value.oneCell', Bool.and_true, Bool.true_and]; assumption) | (simp [Value.oneCell', *]; done)) (by first | exact Nat.le_of_ble_eq_true rfl | (simp [Value.cells]; omega)) rfl ?_) | (refine s_store (vs := [_, _]) (cs' := #[_, _]) 6 hF rfl (hF.ev rfl) (hF.ev rfl) hS rfl rfl sz31 (by first | rfl | (simp only [List.all_cons, List.all_nil, Value.oneCell', Bool.and_true, Bool.true_and]; assumption) | (simp [Value.oneCell', *]; done)) (by first | exact Nat.le_of_ble_eq_true rfl | (simp [Value.cells]; omega)) rfl ?_) | (refine s_store (vs := [_, _]) (cs' := #[_, _]) 7 hF rfl (hF.ev rfl) (hF.ev rfl) hS rfl rfl sz31 (by first | rfl | (simp only [List.all_cons, List.all_nil, Value.oneCell', Bool.and_true, Bool.true_and]; assumption) | (simp [Value.oneCell', *]; done)) (by first | exact Nat.le_of_ble_eq_true rfl | (simp [Value.cells]; omega)) rfl ?_) | (refine s_store (vs := [_, _]) (cs' := _) 0 hF rfl (hF.ev rfl) (hF.ev rfl) hS rfl rfl sz31 (by first | rfl | (simp only [List.all_cons, List.all_nil, Value.oneCell', Bool.and_true, Bool.true_and]; assumption) | (simp [Value.oneCell', *]; done)) (by first | exact Nat.le_of_ble_eq_true rfl | (simp [Value.cells]; omega)) rfl ?_) | (refine s_store (vs := [_, _]) (cs' := _) 1 hF rfl (hF.ev rfl) (hF.ev rfl) hS rfl rfl sz31 (by first | rfl | (simp only [List.all_cons, List.all_nil, Value.oneCell', Bool.and_true, Bool.true_and]; assumption) | (simp [Value.oneCell', *]; done)) (by first | exact Nat.le_of_ble_eq_true rfl | (simp [Value.cells]; omega)) rfl ?_) | (refine s_store (vs := [_, _]) (cs' := _) 2 hF rfl (hF.ev rfl) (hF.ev rfl) hS rfl rfl sz31 (by first | rfl | (simp only [List.all_cons, List.all_nil, Value.oneCell', Bool.and_true, Bool.true_and]; assumption) | (simp [Value.oneCell', *]; done)) (by first | exact Nat.le_of_ble_eq_true rfl | (simp [Value.cells]; omega)) rfl ?_) | (refine s_store (vs := [_, _]) (cs' := _) 3 hF rfl (hF.ev rfl) (hF.ev rfl) hS rfl rfl sz31 (by first | rfl | (simp only [List.all_cons, List.all_nil, Value.oneCell', Bool.and_true, Bool.true_and]; assumption) | (simp [Value.oneCell', *]; done)) (by first | exact Nat.le_of_ble_eq_true rfl | (simp [Value.cells]; omega)) rfl ?_) | (refine s_store (vs := [_, _]) (cs' := _) 4 hF rfl (hF.ev rfl) (hF.ev rfl) hS rfl rfl sz31 (by first | rfl | (simp only [List.all_cons, List.all_nil, Value.oneCell', Bool.and_true, Bool.true_and]; assumption) | (simp [Value.oneCell', *]; done)) (by first | exact Nat.le_of_ble_eq_true rfl | (simp [Value.cells]; omega)) rfl ?_) | (refine s_store (vs := [_, _]) (cs' := _) 5 hF rfl (hF.ev rfl) (hF.ev rfl) hS rfl rfl sz31 (by first | rfl | (simp only [List.all_cons, List.all_nil, Value.oneCell', Bool.and_true, Bool.true_and]; assumption) | (simp [Value.oneCell', *]; done)) (by first | exact Nat.le_of_ble_eq_true rfl | (simp [Value.cells]; omega)) rfl ?_) | (refine s_store (vs := [_, _]) (cs' := _) 6 hF rfl (hF.ev rfl) (hF.ev rfl) hS rfl rfl sz31 (by first | rfl | (simp only [List.all_cons, List.all_nil, Value.oneCell', Bool.and_true, Bool.true_and]; assumption) | (simp [Value.oneCell', *]; done)) (by first | exact Nat.le_of_ble_eq_true rfl | (simp [Value.cells]; omega)) rfl ?_) | (refine s_store (vs := [_, _]) (cs' := _) 7 hF rfl (hF.ev rfl) (hF.ev rfl) hS rfl rfl sz31 (by first | rfl | (simp only [List.all_cons, List.all_nil, Value.oneCell', Bool.and_true, Bool.true_and]; assumption) | (simp [Value.oneCell', *]; done)) (by first | exact Nat.le_of_ble_eq_true rfl | (simp [Value.cells]; omega)) rfl ?_))
  clear hS; intro w hS; (try simp only [upd, del] at hS)
  refine s_pu hF rfl rfl rfl (pu_assign (hF.ev rfl)) ?_; clear hF; intro a hF
  refine s_done ?_
  refine hK13 _ _ ?_; clear hK13
  refine wp_seq_k fun K14 hK14 => ?_
  -- region 14
  refine wp_region_lit ?_
  replace hS := hS.front 4 rfl
  obtain ⟨hs8, ⟨hl8, _⟩, hS⟩ := nodes_open.1 hS
  obtain ⟨h8, rfl⟩ : ∃ h8, hs8 = [h8] := by
    cases hs8 with
    | nil => simp [oneA] at hl8
    | cons h8 r => cases r with
      | nil => exact ⟨h8, rfl⟩
      | cons _ _ => simp [oneA] at hl8
  replace hS := hS.drop 1
  obtain ⟨gA, rfl⟩ := row_some (i := 0) hS rfl (by simp [oneA])
  have hval := row_load (i := 0) (k := 0) (cs := [.int .i64 11, .string (oneS 7), h8]) hS rfl (by simp [oneA]) (fun j v h => by rw [Nat.zero_mul, Nat.zero_add]; exact h) 1 _ rfl
  rw [oneS7] at hval
  have hlen1 : (oneA 7).f1.length = 1 := rfl
  refine s_pu hF rfl rfl rfl (pu_move (hF.ev rfl)) ?_; clear hF; intro a hF
  refine s_pu hF rfl rfl rfl (pu_eql (hF.ev rfl) (hF.ev rfl)) ?_; clear hF; intro a hF
  refine s_pu hF rfl rfl rfl (pu_move (hF.ev rfl)) ?_; clear hF; intro a hF
  refine s_pu hF rfl rfl rfl (pu_move (hF.ev rfl)) ?_; clear hF; intro a hF
  refine s_pu hF rfl rfl rfl (pu_eql (hF.ev rfl) (hF.ev rfl)) ?_; clear hF; intro a hF
  refine s_pu hF rfl rfl rfl ((by first | exact pu_pick_t (hF.ev rfl) (hF.ev rfl) | exact pu_pick_f (hF.ev rfl) (hF.ev rfl) | exact pu_pick (hF.ev rfl) (hF.ev rfl) (hF.ev rfl))) ?_; clear hF; intro a hF
  refine s_pu hF rfl rfl rfl (pu_move (hF.ev rfl)) ?_; clear hF; intro a hF
  refine s_pu hF rfl rfl rfl (pu_move (hF.ev rfl)) ?_; clear hF; intro a hF
  refine s_pu hF rfl rfl rfl (pu_eql (hF.ev rfl) (hF.ev rfl)) ?_; clear hF; intro a hF
  refine s_pu hF rfl rfl rfl ((by first | exact pu_pick_t (hF.ev rfl) (hF.ev rfl) | exact pu_pick_f (hF.ev rfl) (hF.ev rfl) | exact pu_pick (hF.ev rfl) (hF.ev rfl) (hF.ev rfl))) ?_; clear hF; intro a hF
  refine s_pu hF rfl rfl rfl (pu_move (hF.ev rfl)) ?_; clear hF; intro a hF
  refine s_pu hF rfl rfl rfl (pu_move (hF.ev rfl)) ?_; clear hF; intro a hF
  refine s_pu hF rfl rfl rfl (pu_not (hF.ev rfl)) ?_; clear hF; intro a hF
  refine s_pu hF rfl rfl rfl ((by first | exact pu_pick_t (hF.ev rfl) (hF.ev rfl) | exact pu_pick_f (hF.ev rfl) (hF.ev rfl) | exact pu_pick (hF.ev rfl) (hF.ev rfl) (hF.ev rfl))) ?_; clear hF; intro a hF
  refine s_pu hF rfl rfl rfl (pu_move (hF.ev rfl)) ?_; clear hF; intro a hF
  refine s_pu hF rfl rfl rfl (pu_move (hF.ev rfl)) ?_; clear hF; intro a hF
  refine s_pu hF rfl rfl rfl ((by first | exact pu_pick_t (hF.ev rfl) (hF.ev rfl) | exact pu_pick_f (hF.ev rfl) (hF.ev rfl) | exact pu_pick (hF.ev rfl) (hF.ev rfl) (hF.ev rfl))) ?_; clear hF; intro a hF
  refine s_pu hF rfl rfl rfl (pu_move (hF.ev rfl)) ?_; clear hF; intro a hF
  refine s_pu hF rfl rfl rfl (pu_move (hF.ev rfl)) ?_; clear hF; intro a hF
  refine s_pu hF rfl rfl rfl (pu_not (hF.ev rfl)) ?_; clear hF; intro a hF
  refine s_pu hF rfl rfl rfl ((by first | exact pu_pick_t (hF.ev rfl) (hF.ev rfl) | exact pu_pick_f (hF.ev rfl) (hF.ev rfl) | exact pu_pick (hF.ev rfl) (hF.ev rfl) (hF.ev rfl))) ?_; clear hF; intro a hF
  refine s_pu hF rfl rfl rfl (pu_move (hF.ev rfl)) ?_; clear hF; intro a hF
  refine s_pu hF rfl rfl rfl (pu_move (hF.ev rfl)) ?_; clear hF; intro a hF
  refine s_pu hF rfl rfl rfl ((by first | exact pu_pick_t (hF.ev rfl) (hF.ev rfl) | exact pu_pick_f (hF.ev rfl) (hF.ev rfl) | exact pu_pick (hF.ev rfl) (hF.ev rfl) (hF.ev rfl))) ?_; clear hF; intro a hF
  refine s_pu hF rfl rfl rfl (pu_move (hF.ev rfl)) ?_; clear hF; intro a hF
  refine s_pu hF rfl rfl rfl (pu_field fd31_0 (hF.ev rfl)) ?_; clear hF; intro a hF
  refine s_rd hF rfl rfl rfl (by first | exact rd_load pl9 (hF.ev rfl) (by assumption) | exact rd_load pl9 (hF.ev rfl) (hS.cellL (i := 0) rfl rfl) | exact rd_load pl9 (hF.ev rfl) (hS.cellL (i := 1) rfl rfl) | exact rd_load pl9 (hF.ev rfl) (hS.cellL (i := 2) rfl rfl) | exact rd_load pl9 (hF.ev rfl) (hS.cellL (i := 3) rfl rfl) | exact rd_load pl9 (hF.ev rfl) (hS.cellL (i := 4) rfl rfl) | exact rd_load pl9 (hF.ev rfl) (hS.cellL (i := 5) rfl rfl) | exact rd_load pl9 (hF.ev rfl) (hS.cellL (i := 6) rfl rfl) | exact rd_load pl9 (hF.ev rfl) (hS.cellL (i := 7) rfl rfl) | exact rd_load pl9 (hF.ev rfl) (hS.cell (i := 0) rfl (by assumption)) | exact rd_load pl9 (hF.ev rfl) (hS.cell (i := 1) rfl (by assumption)) | exact rd_load pl9 (hF.ev rfl) (hS.cell (i := 2) rfl (by assumption)) | exact rd_load pl9 (hF.ev rfl) (hS.cell (i := 3) rfl (by assumption)) | exact rd_load pl9 (hF.ev rfl) (hS.cell (i := 4) rfl (by assumption)) | exact rd_load pl9 (hF.ev rfl) (hS.cell (i := 5) rfl (by assumption)) | exact rd_load pl9 (hF.ev rfl) (hS.cell (i := 6) rfl (by assumption)) | exact rd_load pl9 (hF.ev rfl) (hS.cell (i := 7) rfl (by assumption)) | exact rd_load pl9 (hF.ev rfl) (row_at (i := 0) hS rfl (by first | assumption | rfl)) | exact rd_load pl9 (hF.ev rfl) (row_at0 (i := 0) hS rfl (by first | assumption | rfl)) | exact rd_load pl9 (hF.ev rfl) (row_at (i := 1) hS rfl (by first | assumption | rfl)) | exact rd_load pl9 (hF.ev rfl) (row_at0 (i := 1) hS rfl (by first | assumption | rfl)) | exact rd_load pl9 (hF.ev rfl) (row_at (i := 2) hS rfl (by first | assumption | rfl)) | exact rd_load pl9 (hF.ev rfl) (row_at0 (i := 2) hS rfl (by first | assumption | rfl)) | exact rd_load pl9 (hF.ev rfl) (row_at (i := 3) hS rfl (by first | assumption | rfl)) | exact rd_load pl9 (hF.ev rfl) (row_at0 (i := 3) hS rfl (by first | assumption | rfl)) | exact rd_load pl9 (hF.ev rfl) (row_at (i := 4) hS rfl (by first | assumption | rfl)) | exact rd_load pl9 (hF.ev rfl) (row_at0 (i := 4) hS rfl (by first | assumption | rfl)) | exact rd_load pl9 (hF.ev rfl) (row_at (i := 5) hS rfl (by first | assumption | rfl)) | exact rd_load pl9 (hF.ev rfl) (row_at0 (i := 5) hS rfl (by first | assumption | rfl)) | exact rd_load pl9 (hF.ev rfl) (row_at (i := 6) hS rfl (by first | assumption | rfl)) | exact rd_load pl9 (hF.ev rfl) (row_at0 (i := 6) hS rfl (by first | assumption | rfl)) | exact rd_load pl9 (hF.ev rfl) (row_at (i := 7) hS rfl (by first | assumption | rfl)) | exact rd_load pl9 (hF.ev rfl) (row_at0 (i := 7) hS rfl (by first | assumption | rfl))) ?_; clear hF; intro a hF
  refine s_pu hF rfl rfl rfl (pu_seql (hF.ev rfl) (hF.ev rfl)) ?_; clear hF; intro a hF
  refine s_pu hF rfl rfl rfl ((by first | exact pu_pick_t (hF.ev rfl) (hF.ev rfl) | exact pu_pick_f (hF.ev rfl) (hF.ev rfl) | exact pu_pick (hF.ev rfl) (hF.ev rfl) (hF.ev rfl))) ?_; clear hF; intro a hF
  refine s_pu hF rfl rfl rfl (pu_move (hF.ev rfl)) ?_; clear hF; intro a hF
  refine s_pu hF rfl rfl rfl (pu_field fd31_0 (hF.ev rfl)) ?_; clear hF; intro a hF
  refine s_rd hF rfl rfl rfl (by first | exact rd_load pl9 (hF.ev rfl) (by assumption) | exact rd_load pl9 (hF.ev rfl) (hS.cellL (i := 0) rfl rfl) | exact rd_load pl9 (hF.ev rfl) (hS.cellL (i := 1) rfl rfl) | exact rd_load pl9 (hF.ev rfl) (hS.cellL (i := 2) rfl rfl) | exact rd_load pl9 (hF.ev rfl) (hS.cellL (i := 3) rfl rfl) | exact rd_load pl9 (hF.ev rfl) (hS.cellL (i := 4) rfl rfl) | exact rd_load pl9 (hF.ev rfl) (hS.cellL (i := 5) rfl rfl) | exact rd_load pl9 (hF.ev rfl) (hS.cellL (i := 6) rfl rfl) | exact rd_load pl9 (hF.ev rfl) (hS.cellL (i := 7) rfl rfl) | exact rd_load pl9 (hF.ev rfl) (hS.cell (i := 0) rfl (by assumption)) | exact rd_load pl9 (hF.ev rfl) (hS.cell (i := 1) rfl (by assumption)) | exact rd_load pl9 (hF.ev rfl) (hS.cell (i := 2) rfl (by assumption)) | exact rd_load pl9 (hF.ev rfl) (hS.cell (i := 3) rfl (by assumption)) | exact rd_load pl9 (hF.ev rfl) (hS.cell (i := 4) rfl (by assumption)) | exact rd_load pl9 (hF.ev rfl) (hS.cell (i := 5) rfl (by assumption)) | exact rd_load pl9 (hF.ev rfl) (hS.cell (i := 6) rfl (by assumption)) | exact rd_load pl9 (hF.ev rfl) (hS.cell (i := 7) rfl (by assumption)) | exact rd_load pl9 (hF.ev rfl) (row_at (i := 0) hS rfl (by first | assumption | rfl)) | exact rd_load pl9 (hF.ev rfl) (row_at0 (i := 0) hS rfl (by first | assumption | rfl)) | exact rd_load pl9 (hF.ev rfl) (row_at (i := 1) hS rfl (by first | assumption | rfl)) | exact rd_load pl9 (hF.ev rfl) (row_at0 (i := 1) hS rfl (by first | assumption | rfl)) | exact rd_load pl9 (hF.ev rfl) (row_at (i := 2) hS rfl (by first | assumption | rfl)) | exact rd_load pl9 (hF.ev rfl) (row_at0 (i := 2) hS rfl (by first | assumption | rfl)) | exact rd_load pl9 (hF.ev rfl) (row_at (i := 3) hS rfl (by first | assumption | rfl)) | exact rd_load pl9 (hF.ev rfl) (row_at0 (i := 3) hS rfl (by first | assumption | rfl)) | exact rd_load pl9 (hF.ev rfl) (row_at (i := 4) hS rfl (by first | assumption | rfl)) | exact rd_load pl9 (hF.ev rfl) (row_at0 (i := 4) hS rfl (by first | assumption | rfl)) | exact rd_load pl9 (hF.ev rfl) (row_at (i := 5) hS rfl (by first | assumption | rfl)) | exact rd_load pl9 (hF.ev rfl) (row_at0 (i := 5) hS rfl (by first | assumption | rfl)) | exact rd_load pl9 (hF.ev rfl) (row_at (i := 6) hS rfl (by first | assumption | rfl)) | exact rd_load pl9 (hF.ev rfl) (row_at0 (i := 6) hS rfl (by first | assumption | rfl)) | exact rd_load pl9 (hF.ev rfl) (row_at (i := 7) hS rfl (by first | assumption | rfl)) | exact rd_load pl9 (hF.ev rfl) (row_at0 (i := 7) hS rfl (by first | assumption | rfl))) ?_; clear hF; intro a hF
  refine s_pu hF rfl rfl rfl (pu_seql (hF.ev rfl) (hF.ev rfl)) ?_; clear hF; intro a hF
  refine s_pu hF rfl rfl rfl ((by first | exact pu_pick_t (hF.ev rfl) (hF.ev rfl) | exact pu_pick_f (hF.ev rfl) (hF.ev rfl) | exact pu_pick (hF.ev rfl) (hF.ev rfl) (hF.ev rfl))) ?_; clear hF; intro a hF
  refine s_pu hF rfl rfl rfl (pu_move (hF.ev rfl)) ?_; clear hF; intro a hF
  refine s_pu hF rfl rfl rfl (pu_field fd31_1 (hF.ev rfl)) ?_; clear hF; intro a hF
  refine s_rd hF rfl rfl rfl (by first | exact rd_load pl29 (hF.ev rfl) (by assumption) | exact rd_load pl29 (hF.ev rfl) (hS.cellL (i := 0) rfl rfl) | exact rd_load pl29 (hF.ev rfl) (hS.cellL (i := 1) rfl rfl) | exact rd_load pl29 (hF.ev rfl) (hS.cellL (i := 2) rfl rfl) | exact rd_load pl29 (hF.ev rfl) (hS.cellL (i := 3) rfl rfl) | exact rd_load pl29 (hF.ev rfl) (hS.cellL (i := 4) rfl rfl) | exact rd_load pl29 (hF.ev rfl) (hS.cellL (i := 5) rfl rfl) | exact rd_load pl29 (hF.ev rfl) (hS.cellL (i := 6) rfl rfl) | exact rd_load pl29 (hF.ev rfl) (hS.cellL (i := 7) rfl rfl) | exact rd_load pl29 (hF.ev rfl) (hS.cell (i := 0) rfl (by assumption)) | exact rd_load pl29 (hF.ev rfl) (hS.cell (i := 1) rfl (by assumption)) | exact rd_load pl29 (hF.ev rfl) (hS.cell (i := 2) rfl (by assumption)) | exact rd_load pl29 (hF.ev rfl) (hS.cell (i := 3) rfl (by assumption)) | exact rd_load pl29 (hF.ev rfl) (hS.cell (i := 4) rfl (by assumption)) | exact rd_load pl29 (hF.ev rfl) (hS.cell (i := 5) rfl (by assumption)) | exact rd_load pl29 (hF.ev rfl) (hS.cell (i := 6) rfl (by assumption)) | exact rd_load pl29 (hF.ev rfl) (hS.cell (i := 7) rfl (by assumption)) | exact rd_load pl29 (hF.ev rfl) (row_at (i := 0) hS rfl (by first | assumption | rfl)) | exact rd_load pl29 (hF.ev rfl) (row_at0 (i := 0) hS rfl (by first | assumption | rfl)) | exact rd_load pl29 (hF.ev rfl) (row_at (i := 1) hS rfl (by first | assumption | rfl)) | exact rd_load pl29 (hF.ev rfl) (row_at0 (i := 1) hS rfl (by first | assumption | rfl)) | exact rd_load pl29 (hF.ev rfl) (row_at (i := 2) hS rfl (by first | assumption | rfl)) | exact rd_load pl29 (hF.ev rfl) (row_at0 (i := 2) hS rfl (by first | assumption | rfl)) | exact rd_load pl29 (hF.ev rfl) (row_at (i := 3) hS rfl (by first | assumption | rfl)) | exact rd_load pl29 (hF.ev rfl) (row_at0 (i := 3) hS rfl (by first | assumption | rfl)) | exact rd_load pl29 (hF.ev rfl) (row_at (i := 4) hS rfl (by first | assumption | rfl)) | exact rd_load pl29 (hF.ev rfl) (row_at0 (i := 4) hS rfl (by first | assumption | rfl)) | exact rd_load pl29 (hF.ev rfl) (row_at (i := 5) hS rfl (by first | assumption | rfl)) | exact rd_load pl29 (hF.ev rfl) (row_at0 (i := 5) hS rfl (by first | assumption | rfl)) | exact rd_load pl29 (hF.ev rfl) (row_at (i := 6) hS rfl (by first | assumption | rfl)) | exact rd_load pl29 (hF.ev rfl) (row_at0 (i := 6) hS rfl (by first | assumption | rfl)) | exact rd_load pl29 (hF.ev rfl) (row_at (i := 7) hS rfl (by first | assumption | rfl)) | exact rd_load pl29 (hF.ev rfl) (row_at0 (i := 7) hS rfl (by first | assumption | rfl))) ?_; clear hF; intro a hF
  refine s_pu hF rfl rfl rfl (pu_len sl29 (hF.ev rfl)) ?_; clear hF; intro a hF
  refine s_pu hF rfl rfl rfl (pu_eql (hF.ev rfl) (hF.ev rfl)) ?_; clear hF; intro a hF
  refine s_pu hF rfl rfl rfl ((by first | exact pu_pick_t (hF.ev rfl) (hF.ev rfl) | exact pu_pick_f (hF.ev rfl) (hF.ev rfl) | exact pu_pick (hF.ev rfl) (hF.ev rfl) (hF.ev rfl))) ?_; clear hF; intro a hF
  refine s_pu hF rfl rfl rfl (pu_move (hF.ev rfl)) ?_; clear hF; intro a hF
  refine s_pu hF rfl rfl rfl (pu_field fd31_1 (hF.ev rfl)) ?_; clear hF; intro a hF
  refine s_rd hF rfl rfl rfl (by first | exact rd_load pl29 (hF.ev rfl) (by assumption) | exact rd_load pl29 (hF.ev rfl) (hS.cellL (i := 0) rfl rfl) | exact rd_load pl29 (hF.ev rfl) (hS.cellL (i := 1) rfl rfl) | exact rd_load pl29 (hF.ev rfl) (hS.cellL (i := 2) rfl rfl) | exact rd_load pl29 (hF.ev rfl) (hS.cellL (i := 3) rfl rfl) | exact rd_load pl29 (hF.ev rfl) (hS.cellL (i := 4) rfl rfl) | exact rd_load pl29 (hF.ev rfl) (hS.cellL (i := 5) rfl rfl) | exact rd_load pl29 (hF.ev rfl) (hS.cellL (i := 6) rfl rfl) | exact rd_load pl29 (hF.ev rfl) (hS.cellL (i := 7) rfl rfl) | exact rd_load pl29 (hF.ev rfl) (hS.cell (i := 0) rfl (by assumption)) | exact rd_load pl29 (hF.ev rfl) (hS.cell (i := 1) rfl (by assumption)) | exact rd_load pl29 (hF.ev rfl) (hS.cell (i := 2) rfl (by assumption)) | exact rd_load pl29 (hF.ev rfl) (hS.cell (i := 3) rfl (by assumption)) | exact rd_load pl29 (hF.ev rfl) (hS.cell (i := 4) rfl (by assumption)) | exact rd_load pl29 (hF.ev rfl) (hS.cell (i := 5) rfl (by assumption)) | exact rd_load pl29 (hF.ev rfl) (hS.cell (i := 6) rfl (by assumption)) | exact rd_load pl29 (hF.ev rfl) (hS.cell (i := 7) rfl (by assumption)) | exact rd_load pl29 (hF.ev rfl) (row_at (i := 0) hS rfl (by first | assumption | rfl)) | exact rd_load pl29 (hF.ev rfl) (row_at0 (i := 0) hS rfl (by first | assumption | rfl)) | exact rd_load pl29 (hF.ev rfl) (row_at (i := 1) hS rfl (by first | assumption | rfl)) | exact rd_load pl29 (hF.ev rfl) (row_at0 (i := 1) hS rfl (by first | assumption | rfl)) | exact rd_load pl29 (hF.ev rfl) (row_at (i := 2) hS rfl (by first | assumption | rfl)) | exact rd_load pl29 (hF.ev rfl) (row_at0 (i := 2) hS rfl (by first | assumption | rfl)) | exact rd_load pl29 (hF.ev rfl) (row_at (i := 3) hS rfl (by first | assumption | rfl)) | exact rd_load pl29 (hF.ev rfl) (row_at0 (i := 3) hS rfl (by first | assumption | rfl)) | exact rd_load pl29 (hF.ev rfl) (row_at (i := 4) hS rfl (by first | assumption | rfl)) | exact rd_load pl29 (hF.ev rfl) (row_at0 (i := 4) hS rfl (by first | assumption | rfl)) | exact rd_load pl29 (hF.ev rfl) (row_at (i := 5) hS rfl (by first | assumption | rfl)) | exact rd_load pl29 (hF.ev rfl) (row_at0 (i := 5) hS rfl (by first | assumption | rfl)) | exact rd_load pl29 (hF.ev rfl) (row_at (i := 6) hS rfl (by first | assumption | rfl)) | exact rd_load pl29 (hF.ev rfl) (row_at0 (i := 6) hS rfl (by first | assumption | rfl)) | exact rd_load pl29 (hF.ev rfl) (row_at (i := 7) hS rfl (by first | assumption | rfl)) | exact rd_load pl29 (hF.ev rfl) (row_at0 (i := 7) hS rfl (by first | assumption | rfl))) ?_; clear hF; intro a hF
  refine s_pu hF rfl rfl rfl ((by first | exact pu_elem sl29 (hF.ev rfl) (hF.ev rfl) (by first | omega | simp) (by first | omega | (simp; done) | (simp; omega)) | exact pu_elemA sl29 (hF.ev rfl) (hF.ev rfl) (by omega) (by omega))) ?_; clear hF; intro a hF
  refine s_pu hF rfl rfl rfl (pu_field fd64_1 (hF.ev rfl)) ?_; clear hF; intro a hF
  refine s_rd hF rfl rfl rfl (by first | exact rd_load pl9 (hF.ev rfl) (by assumption) | exact rd_load pl9 (hF.ev rfl) (hS.cellL (i := 0) rfl rfl) | exact rd_load pl9 (hF.ev rfl) (hS.cellL (i := 1) rfl rfl) | exact rd_load pl9 (hF.ev rfl) (hS.cellL (i := 2) rfl rfl) | exact rd_load pl9 (hF.ev rfl) (hS.cellL (i := 3) rfl rfl) | exact rd_load pl9 (hF.ev rfl) (hS.cellL (i := 4) rfl rfl) | exact rd_load pl9 (hF.ev rfl) (hS.cellL (i := 5) rfl rfl) | exact rd_load pl9 (hF.ev rfl) (hS.cellL (i := 6) rfl rfl) | exact rd_load pl9 (hF.ev rfl) (hS.cellL (i := 7) rfl rfl) | exact rd_load pl9 (hF.ev rfl) (hS.cell (i := 0) rfl (by assumption)) | exact rd_load pl9 (hF.ev rfl) (hS.cell (i := 1) rfl (by assumption)) | exact rd_load pl9 (hF.ev rfl) (hS.cell (i := 2) rfl (by assumption)) | exact rd_load pl9 (hF.ev rfl) (hS.cell (i := 3) rfl (by assumption)) | exact rd_load pl9 (hF.ev rfl) (hS.cell (i := 4) rfl (by assumption)) | exact rd_load pl9 (hF.ev rfl) (hS.cell (i := 5) rfl (by assumption)) | exact rd_load pl9 (hF.ev rfl) (hS.cell (i := 6) rfl (by assumption)) | exact rd_load pl9 (hF.ev rfl) (hS.cell (i := 7) rfl (by assumption)) | exact rd_load pl9 (hF.ev rfl) (row_at (i := 0) hS rfl (by first | assumption | rfl)) | exact rd_load pl9 (hF.ev rfl) (row_at0 (i := 0) hS rfl (by first | assumption | rfl)) | exact rd_load pl9 (hF.ev rfl) (row_at (i := 1) hS rfl (by first | assumption | rfl)) | exact rd_load pl9 (hF.ev rfl) (row_at0 (i := 1) hS rfl (by first | assumption | rfl)) | exact rd_load pl9 (hF.ev rfl) (row_at (i := 2) hS rfl (by first | assumption | rfl)) | exact rd_load pl9 (hF.ev rfl) (row_at0 (i := 2) hS rfl (by first | assumption | rfl)) | exact rd_load pl9 (hF.ev rfl) (row_at (i := 3) hS rfl (by first | assumption | rfl)) | exact rd_load pl9 (hF.ev rfl) (row_at0 (i := 3) hS rfl (by first | assumption | rfl)) | exact rd_load pl9 (hF.ev rfl) (row_at (i := 4) hS rfl (by first | assumption | rfl)) | exact rd_load pl9 (hF.ev rfl) (row_at0 (i := 4) hS rfl (by first | assumption | rfl)) | exact rd_load pl9 (hF.ev rfl) (row_at (i := 5) hS rfl (by first | assumption | rfl)) | exact rd_load pl9 (hF.ev rfl) (row_at0 (i := 5) hS rfl (by first | assumption | rfl)) | exact rd_load pl9 (hF.ev rfl) (row_at (i := 6) hS rfl (by first | assumption | rfl)) | exact rd_load pl9 (hF.ev rfl) (row_at0 (i := 6) hS rfl (by first | assumption | rfl)) | exact rd_load pl9 (hF.ev rfl) (row_at (i := 7) hS rfl (by first | assumption | rfl)) | exact rd_load pl9 (hF.ev rfl) (row_at0 (i := 7) hS rfl (by first | assumption | rfl))) ?_; clear hF; intro a hF
  refine s_pu hF rfl rfl rfl (pu_seql (hF.ev rfl) (hF.ev rfl)) ?_; clear hF; intro a hF
  refine s_pu hF rfl rfl rfl ((by first | exact pu_pick_t (hF.ev rfl) (hF.ev rfl) | exact pu_pick_f (hF.ev rfl) (hF.ev rfl) | exact pu_pick (hF.ev rfl) (hF.ev rfl) (hF.ev rfl))) ?_; clear hF; intro a hF
  refine s_pu hF rfl rfl rfl (pu_move (hF.ev rfl)) ?_; clear hF; intro a hF
  refine s_pu hF rfl rfl rfl (pu_move (hF.ev rfl)) ?_; clear hF; intro a hF
  refine s_en hF rfl rfl rfl (run_fn fk12 (hF.ev rfl) (hF.evs rfl)) (at_place 3 hS rfl (fun h => len_c h)) ?_
  clear hS; rintro e w ⟨rfl, hS⟩
  refine ⟨_, rfl, ?_⟩; clear hF; intro a hF
  refine s_pu hF rfl rfl rfl (pu_eql (hF.ev rfl) (hF.ev rfl)) ?_; clear hF; intro a hF
  refine s_pu hF rfl rfl rfl ((by first | exact pu_pick_t (hF.ev rfl) (hF.ev rfl) | exact pu_pick_f (hF.ev rfl) (hF.ev rfl) | exact pu_pick (hF.ev rfl) (hF.ev rfl) (hF.ev rfl))) ?_; clear hF; intro a hF
  refine s_pu hF rfl rfl rfl (pu_move (hF.ev rfl)) ?_; clear hF; intro a hF
  refine s_pu hF rfl rfl rfl (pu_move (hF.ev rfl)) ?_; clear hF; intro a hF
  refine s_en hF rfl rfl rfl (run_fn fk15 (hF.ev rfl) (hF.evs rfl)) (dead_c hS) ?_
  clear hS; rintro e w ⟨rfl, hS⟩
  refine ⟨_, rfl, ?_⟩; clear hF; intro a hF
  refine s_pu hF rfl rfl rfl (pu_eql (hF.ev rfl) (hF.ev rfl)) ?_; clear hF; intro a hF
  refine s_pu hF rfl rfl rfl ((by first | exact pu_pick_t (hF.ev rfl) (hF.ev rfl) | exact pu_pick_f (hF.ev rfl) (hF.ev rfl) | exact pu_pick (hF.ev rfl) (hF.ev rfl) (hF.ev rfl))) ?_; clear hF; intro a hF
  refine s_pu hF rfl rfl rfl (pu_assign (hF.ev rfl)) ?_; clear hF; intro a hF
  refine s_done ?_
  refine hK14 _ _ ?_; clear hK14
  refine wp_ret ?_
  refine fin1 Try.results6 hF rfl ?_
  exact ⟨rfl, (((hS.tail.drop 0).drop 0).drop 0).drop 0⟩
end Go.Proofs.Ytgnepnjicmgkaaa
