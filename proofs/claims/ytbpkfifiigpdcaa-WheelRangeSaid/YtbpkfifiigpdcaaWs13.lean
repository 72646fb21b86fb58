import Derived.Test.YtbpkfifiigpdcaaWs12
/-! WheelRange: the walk. -/
namespace Go.Proofs.Ytbpkfifiigpdcaa
open Go Go.RowKit Go.Proofs.Ytbpkfifiigpdcaa.Sk
set_option linter.unusedVariables false
set_option linter.unusedSimpArgs false
set_option maxRecDepth 100000

set_option maxHeartbeats 4000000 in
theorem wheelRange_walk (W : World) (x0 : Int) (hx0 : (Lit.int .i64 x0).wf = true) (a1 : Option Addr) (l1 q1 : Nat) (z1 : List Int) (h1 : IsRow .i64 W a1 l1 q1 z1) (y1 : l1 * 8 ≤ 140737488351232) (a2 : Option Addr) (l2 q2 : Nat) (z2 : List Int) (h2 : IsRow .i64 W a2 l2 q2 z2) (y2 : l2 * 8 ≤ 140737488351232) :
    Calls Try.prog 5 #[.int .i64 x0, .slice a1 l1 q1, .slice a2 l2 q2] W fun e w' => e = .returned (.bool true) ∧ Below W.heap.size W w' := by
  have hS0 := sat_whole W
  obtain ⟨w, hw⟩ : ∃ w, w = W := ⟨_, rfl⟩
  have hS : Sat W w [whole W] := by rw [hw]; exact hS0
  rw [show Calls Try.prog 5 #[.int .i64 x0, .slice a1 l1 q1, .slice a2 l2 q2] W = Calls Try.prog 5 #[.int .i64 x0, .slice a1 l1 q1, .slice a2 l2 q2] w by rw [hw]]
  clear hw hS0
  have hxb := wf64 hx0
  refine enterM Try.func5 rfl Try.ntmps5 (Nat.le_of_ble_eq_true rfl) fun a hF => ?_
  refine wpIn_seq_k fun K0 hK0 => ?_
  refine wr_region rfl ?_
  refine s_newp hF rfl rfl rfl (ef_box (cs := #[_]) (hF.ev rfl) rfl) hS ?_; clear hF hS; intro b5 w hS a hF
  refine s_newp hF rfl rfl rfl (ef_alloc (cs := #[_]) ze4 rfl) hS ?_; clear hF hS; intro b6 w hS a hF
  refine s_done ?_
  refine sure_in ?_
  refine hK0 _ _ ?_; clear hK0
  refine wpIn_seq_k fun K1 hK1 => ?_
  refine wr_region rfl ?_
  refine s_en hF rfl rfl rfl (run_fn fk7 (hF.ev rfl) (hF.evs rfl)) (examples_c hS) ?_
  clear hS; rintro e w ⟨rfl, hS⟩
  refine ⟨_, rfl, ?_⟩; clear hF; intro a hF
  refine s_pu hF rfl rfl rfl (pu_assign (hF.ev rfl)) ?_; clear hF; intro a hF
  refine s_done ?_
  refine sure_in ?_
  refine hK1 _ _ ?_; clear hK1
  refine wr_seq_j (fun a w => ∃ s : Int, 0 ≤ s ∧ s ≤ 9223372036854775807 ∧ Fr a 201 [(0, .int .i64 s), (1, .slice a1 l1 q1), (5, .pointer (some ⟨b5, 0, none⟩)), (6, .pointer (some ⟨b6, 0, none⟩)), (7, .bool true)] ∧
    Sat W w [.obj b6 (.cells #[.bool false] 4 (0, 0)), .obj b5 (.cells #[.slice a2 l2 q2] 22 (0, 0)), whole W]) ?_ ?_
  · -- up to the join s2
    refine wpIn_seq_k fun K3 hK3 => ?_
    refine wr_region rfl ?_
    refine s_pu hF rfl rfl rfl (pu_move (hF.ev rfl)) ?_; clear hF; intro a hF
    refine s_pu hF rfl rfl rfl (pu_lss (hF.ev rfl) (hF.ev rfl)) ?_; clear hF; intro a hF
    refine s_done ?_
    refine sure_in ?_
    refine hK3 _ _ ?_; clear hK3
    refine wpIn_cond_split (hF.ev rfl) (fun hc0 => ?_) (fun hc0 => ?_)
    · -- cond 0 true
      try simp only [decide_eq_true_eq, decide_eq_false_iff_not, Bool.not_eq_true', Bool.not_eq_false', Int.not_lt, Int.not_le, ne_eq, Decidable.not_not, Bool.or_eq_true, Bool.or_eq_false_iff, Bool.and_eq_true, Bool.and_eq_false_imp] at hc0
      refine wr_region rfl ?_
      refine s_pu hF rfl rfl rfl (pu_move (hF.ev rfl)) ?_; clear hF; intro a hF
      refine s_pu hF rfl rfl rfl ((by exact pu_add64 (hF.ev rfl) (hF.ev rfl) (by omega))) ?_; clear hF; intro a hF
      refine s_pu hF rfl rfl rfl (pu_neg (hF.ev rfl) (by omega)) ?_; clear hF; intro a hF
      refine s_pu hF rfl rfl rfl (pu_assign (hF.ev rfl)) ?_; clear hF; intro a hF
      refine s_done ?_
      refine sure_in ?_
      exact ⟨_, by omega, by omega, hF.sub ⟨rfl, rfl, rfl, rfl, rfl, trivial⟩, hS⟩
    · -- cond 0 false
      try simp only [decide_eq_true_eq, decide_eq_false_iff_not, Bool.not_eq_true', Bool.not_eq_false', Int.not_lt, Int.not_le, ne_eq, Decidable.not_not, Bool.or_eq_true, Bool.or_eq_false_iff, Bool.and_eq_true, Bool.and_eq_false_imp] at hc0
      refine wpIn_skip ?_
      exact ⟨_, by omega, by omega, hF.sub ⟨rfl, rfl, rfl, rfl, rfl, trivial⟩, hS⟩
  · -- behind the join s2
    clear hS hF
    rintro a w ⟨s, hs0, hs1, hF, hS⟩
    obtain ⟨n0, hn0⟩ : ∃ n0 : Nat, (n0 : Int) = 1 + s % 4096 := ⟨(1 + s % 4096).toNat, by omega⟩
    have h01 : 1 ≤ n0 := by omega
    have h02 : n0 ≤ 4096 := by omega
    refine wpIn_seq_k fun K2 hK2 => ?_
    refine wr_region rfl ?_
    refine s_pu hF rfl rfl rfl (pu_move (hF.ev rfl)) ?_; clear hF; intro a hF
    refine s_pu hF rfl rfl rfl (pu_rem64 (hF.ev rfl) (hF.ev rfl) (by omega)) ?_; clear hF; intro a hF
    refine s_pu hF rfl rfl rfl ((by exact pu_add64 (hF.ev rfl) (hF.ev rfl) (by omega))) ?_; clear hF; intro a hF
    rw [← hn0] at hF
    refine s_en hF rfl rfl rfl (run_fn fk15 (hF.ev rfl) (hF.evs rfl)) (wNew_i hS h01 h02) ?_
    clear hS; rintro e w ⟨ga, rfl, hS⟩
    refine ⟨_, rfl, ?_⟩; clear hF; intro a hF
    refine s_pu hF rfl rfl rfl (pu_move (hF.ev rfl)) ?_; clear hF; intro a hF
    refine s_pu hF rfl rfl rfl (pu_extract (hF.ev rfl) rfl) ?_; clear hF; intro a hF
    refine s_pu hF rfl rfl rfl (pu_extract (hF.ev rfl) rfl) ?_; clear hF; intro a hF
    refine s_newp hF rfl rfl rfl (ef_alloc (cs := #[_]) ze38 rfl) hS ?_; clear hF hS; intro b8 w hS a hF
    ((refine s_store (vs := [_]) (cs' := #[_]) 0 hF rfl (hF.ev rfl) (hF.ev rfl) hS rfl rfl sz38 (by rfl) (by exact Nat.le_of_ble_eq_true rfl) rfl ?_))
    clear hS; intro w hS; (try simp only [upd, del] at hS)
    refine s_pu hF rfl rfl rfl (pu_assign (hF.ev rfl)) ?_; clear hF; intro a hF
    refine s_done ?_
    refine sure_in ?_
    refine hK2 _ _ ?_; clear hK2
    refine wpIn_seq_k fun K3 hK3 => ?_
    refine wr_region rfl ?_
    refine s_en hF rfl rfl rfl (run_fn fk16 (hF.ev rfl) (hF.evs rfl)) (rNew_c hS (by omega) (by omega)) ?_
    clear hS; rintro e w ⟨xa, rfl, hS⟩
    refine ⟨_, rfl, ?_⟩; clear hF; intro a hF
    refine s_pu hF rfl rfl rfl (pu_move (hF.ev rfl)) ?_; clear hF; intro a hF
    refine s_pu hF rfl rfl rfl (pu_extract (hF.ev rfl) rfl) ?_; clear hF; intro a hF
    refine s_pu hF rfl rfl rfl (pu_extract (hF.ev rfl) rfl) ?_; clear hF; intro a hF
    refine s_newp hF rfl rfl rfl (ef_alloc (cs := #[_]) ze41 rfl) hS ?_; clear hF hS; intro b10 w hS a hF
    ((refine s_store (vs := [_]) (cs' := #[_]) 0 hF rfl (hF.ev rfl) (hF.ev rfl) hS rfl rfl sz41 (by rfl) (by exact Nat.le_of_ble_eq_true rfl) rfl ?_))
    clear hS; intro w hS; (try simp only [upd, del] at hS)
    refine s_pu hF rfl rfl rfl (pu_assign (hF.ev rfl)) ?_; clear hF; intro a hF
    refine s_done ?_
    refine sure_in ?_
    refine hK3 _ _ ?_; clear hK3
    refine wpIn_seq_k fun K4 hK4 => ?_
    refine wpIn_seq_k fun K5 hK5 => ?_
    refine wr_region rfl ?_
    refine s_pu hF rfl rfl rfl (pu_move (hF.ev rfl)) ?_; clear hF; intro a hF
    refine s_pu hF rfl rfl rfl (pu_not (hF.ev rfl)) ?_; clear hF; intro a hF
    refine s_pu hF rfl rfl rfl (pu_move (hF.ev rfl)) ?_; clear hF; intro a hF
    refine s_pu hF rfl rfl rfl (pu_move (hF.ev rfl)) ?_; clear hF; intro a hF
    refine s_pu hF rfl rfl rfl (pu_neq (hF.ev rfl) (hF.ev rfl)) ?_; clear hF; intro a hF
    refine s_pu hF rfl rfl rfl ((by exact pu_pick_f (hF.ev rfl) (hF.ev rfl))) ?_; clear hF; intro a hF
    refine s_pu hF rfl rfl rfl (pu_move (hF.ev rfl)) ?_; clear hF; intro a hF
    refine s_rd hF rfl rfl rfl (by exact rd_load pl38 (hF.ev rfl) (hS.cellL (i := 2) rfl rfl)) ?_; clear hF; intro a hF
    refine s_pu hF rfl rfl rfl (pu_peq Try.underlying38 (hF.ev rfl) (hF.ev rfl)) ?_; clear hF; intro a hF
    refine s_pu hF rfl rfl rfl ((by exact pu_pick_f (hF.ev rfl) (hF.ev rfl))) ?_; clear hF; intro a hF
    refine s_done ?_
    refine sure_in ?_
    refine hK5 _ _ ?_; clear hK5
    refine wpIn_cond_false (hF.ev rfl) ?_
    refine wpIn_skip ?_
    refine hK4 _ _ ?_; clear hK4
    refine wr_seq_j (fun a w => ∃ (P : List Ent) (last : Int), POk P 0 last 60 ∧ 
      Fr a 201 [(5, .pointer (some ⟨b5, 0, none⟩)), (6, .pointer (some ⟨b6, 0, none⟩)), (8, .pointer (some ⟨b8, 0, none⟩)), (10, .pointer (some ⟨b10, 0, none⟩))] ∧
      Sat W w [whC_i ga n0 P 0 last, refC xa P 0 last, .obj b8 (.cells #[.pointer (some ⟨ga, 0, none⟩)] 38 (0, 0)), .obj b10 (.cells #[.pointer (some ⟨xa, 0, none⟩)] 41 (0, 0)), .obj b5 (.cells #[.slice a2 l2 q2] 22 (0, 0)), .obj b6 (.cells #[.bool false] 4 (0, 0)), whole W]) ?_ ?_
    · -- up to the join s9
      refine wpIn_seq_k fun K7 hK7 => ?_
      refine wr_region rfl ?_
      refine s_pu hF rfl rfl rfl (pu_assign (hF.ev rfl)) ?_; clear hF; intro a hF
      refine s_done ?_
      refine sure_in ?_
      refine hK7 _ _ ?_; clear hK7
      refine wpIn_block ?_
      replace hS := hS.sel [3, 1, 1, 0, 1, 0]
      simp only [selR, nth, del] at hS
      refine wr_ind (fun j a' w => ∃ (i : Nat) (P : List Ent) (last : Int), j = l1 - i ∧ i ≤ l1 ∧ i ≤ 60 ∧ POk P 0 last i ∧
        Fr a' 201 [(1, .slice a1 l1 q1), (5, .pointer (some ⟨b5, 0, none⟩)), (6, .pointer (some ⟨b6, 0, none⟩)), (8, .pointer (some ⟨b8, 0, none⟩)), (10, .pointer (some ⟨b10, 0, none⟩)), (12, .int .i64 i)] ∧
        Sat W w [whC_i ga n0 P 0 last, refC xa P 0 last, .obj b8 (.cells #[.pointer (some ⟨ga, 0, none⟩)] 38 (0, 0)), .obj b10 (.cells #[.pointer (some ⟨xa, 0, none⟩)] 41 (0, 0)), .obj b5 (.cells #[.slice a2 l2 q2] 22 (0, 0)), .obj b6 (.cells #[.bool false] 4 (0, 0)), whole W]) l1
        ⟨0, [], 0, by omega, by omega, by omega, .nil, hF.sub ⟨rfl, rfl, rfl, rfl, rfl, rfl, trivial⟩, hS⟩ ?_
      clear hS hF
      rintro j a' w ⟨i, P, last, rfl, hi, hi6, hp, hF, hS⟩
      refine wpIn_seq_k fun K8 hK8 => ?_
      refine wpIn_seq_k fun K9 hK9 => ?_
      refine wr_region rfl ?_
      refine s_pu hF rfl rfl rfl (pu_move (hF.ev rfl)) ?_; clear hF; intro a hF
      refine s_pu hF rfl rfl rfl (pu_move (hF.ev rfl)) ?_; clear hF; intro a hF
      refine s_pu hF rfl rfl rfl (pu_len sl22 (hF.ev rfl)) ?_; clear hF; intro a hF
      refine s_pu hF rfl rfl rfl (pu_lss (hF.ev rfl) (hF.ev rfl)) ?_; clear hF; intro a hF
      refine s_pu hF rfl rfl rfl (pu_move (hF.ev rfl)) ?_; clear hF; intro a hF
      refine fr_split hF (t := 56) rfl ?_ ?_
      · clear hF; intro hg56 hF   -- slot 56 true
        try simp only [decide_eq_true_eq, decide_eq_false_iff_not, Bool.not_eq_true', Bool.not_eq_false', Int.not_lt, Int.not_le, ne_eq, Decidable.not_not, Bool.or_eq_true, Bool.or_eq_false_iff, Bool.and_eq_true, Bool.and_eq_false_imp] at hg56
        refine s_pu hF rfl rfl rfl (pu_move (hF.ev rfl)) ?_; clear hF; intro a hF
        refine s_pu hF rfl rfl rfl (pu_lss (hF.ev rfl) (hF.ev rfl)) ?_; clear hF; intro a hF
        refine s_pu hF rfl rfl rfl ((by exact pu_pick_t (hF.ev rfl) (hF.ev rfl))) ?_; clear hF; intro a hF
        refine s_done ?_
        refine sure_in ?_
        refine hK9 _ _ ?_; clear hK9
        refine wpIn_cond_split (hF.ev rfl) (fun hc2 => ?_) (fun hc2 => ?_)
        · -- cond 2 true
          try simp only [decide_eq_true_eq, decide_eq_false_iff_not, Bool.not_eq_true', Bool.not_eq_false', Int.not_lt, Int.not_le, ne_eq, Decidable.not_not, Bool.or_eq_true, Bool.or_eq_false_iff, Bool.and_eq_true, Bool.and_eq_false_imp] at hc2
          have hil : i < l1 := by omega
          have hi6' : i < 60 := by omega
          have hpl := hp.len
          have hpz := hp.l0
          have hpy := hp.l1
          have hroom : (P.length + 1) * 24 ≤ 140737488355328 := by omega
          obtain ⟨xt, rfl, hv, hlo, hhi⟩ := h1.ints.at_ i hil
          obtain ⟨N, hN⟩ : ∃ N, N = z1.getD i 0 := ⟨_, rfl⟩
          rw [← hN] at hv hlo hhi
          refine wpIn_skip ?_
          refine hK8 _ _ ?_; clear hK8
          refine wpIn_seq_k fun K10 hK10 => ?_
          refine wpIn_block ?_
          refine wpIn_seq_k fun K11 hK11 => ?_
          rcases Classical.em (1 ≤ N ∧ N ≤ 100000) with hNr | hNr
          · -- ok
            refine wr_start (S := (fun w => Sat W w _)) (ds := [6]) (ord := [(0, .tk), (1, .pu), (2, .pu), (3, .pu), (4, .tk), (5, .pu), (6, .ls), (7, .pu), (8, .pu), (9, .pu), (10, .pu), (11, .pu)]) rfl mixed ⟨by kernel_rfl, fun _ d _ _ _ h => by cases d <;> exact h⟩ hS.drew fun hD => ?_
            replace hS := hS.drew; generalize w.drew = w at hS ⊢
            refine d_rd hD hF rfl rfl rfl rfl rfl hS (fun w hS => (by exact rd_load pl38 (hF.ev rfl) (hS.cellL (i := 2) rfl rfl))) ?_; clear hF; intro a hF
            refine d_pu hD hF rfl rfl rfl rfl rfl (pu_move (hF.ev rfl)) ?_; clear hF; intro a hF
            refine d_pu hD hF rfl rfl rfl rfl rfl (pu_move (hF.ev rfl)) ?_; clear hF; intro a hF
            refine d_pu hD hF rfl rfl rfl rfl rfl ((by exact pu_elemA sl22 (hF.ev rfl) (hF.ev rfl) (by omega) (by omega))) ?_; clear hF; intro a hF
            refine d_rd hD hF rfl rfl rfl rfl rfl hS (fun w hS => rd_load pl3 (hF.ev rfl) (show w.cell? (xt.add ((i : Int).toNat * 1)) = _ by rw [Int.toNat_natCast, Nat.mul_one]; exact hS.whole_at (i := 6) rfl hv)) ?_; clear hF; intro a hF
            refine d_pu hD hF rfl rfl rfl rfl rfl (pu_move (hF.ev rfl)) ?_; clear hF; intro a hF
            refine l_en hD hF rfl rfl rfl rfl rfl (run_fn fk23 (hF.ev rfl) (hF.evs rfl)) (wAdd_i (t := N) (x := (i : Int)) hS hp.rising h01 h02 hNr.1 hNr.2 (by omega) (by omega) hpz (by omega) hroom) ?_
            clear hS; rintro e w ⟨rfl, hS⟩
            refine ⟨_, rfl, ?_⟩; clear hF; intro a hF
            refine d_pu hD hF rfl rfl rfl rfl rfl (pu_move (hF.ev rfl)) ?_; clear hF; intro a hF
            refine d_pu hD hF rfl rfl rfl rfl rfl (pu_extract (hF.ev rfl) rfl) ?_; clear hF; intro a hF
            refine d_pu hD hF rfl rfl rfl rfl rfl (pu_extract (hF.ev rfl) rfl) ?_; clear hF; intro a hF
            refine d_pu hD hF rfl rfl rfl rfl rfl (pu_assign (hF.ev rfl)) ?_; clear hF; intro a hF
            refine d_pu hD hF rfl rfl rfl rfl rfl (pu_assign (hF.ev rfl)) ?_; clear hF; intro a hF
            refine d_done hD rfl ?_; clear hD
            refine sure_in ?_
            refine hK11 _ _ ?_; clear hK11
            refine wpIn_seq_k fun K12 hK12 => ?_
            refine wr_start (S := (fun w => Sat W w _)) (ds := [6]) (ord := [(0, .tk), (1, .pu), (2, .pu), (3, .pu), (4, .tk), (5, .pu), (6, .ls), (7, .pu), (8, .pu), (9, .pu), (10, .pu), (11, .pu)]) rfl mixed ⟨by kernel_rfl, fun _ d _ _ _ h => by cases d <;> exact h⟩ hS.drew fun hD => ?_
            replace hS := hS.drew; generalize w.drew = w at hS ⊢
            refine d_rd hD hF rfl rfl rfl rfl rfl hS (fun w hS => (by exact rd_load pl41 (hF.ev rfl) (hS.cellL (i := 3) rfl rfl))) ?_; clear hF; intro a hF
            refine d_pu hD hF rfl rfl rfl rfl rfl (pu_move (hF.ev rfl)) ?_; clear hF; intro a hF
            refine d_pu hD hF rfl rfl rfl rfl rfl (pu_move (hF.ev rfl)) ?_; clear hF; intro a hF
            refine d_pu hD hF rfl rfl rfl rfl rfl ((by exact pu_elemA sl22 (hF.ev rfl) (hF.ev rfl) (by omega) (by omega))) ?_; clear hF; intro a hF
            refine d_rd hD hF rfl rfl rfl rfl rfl hS (fun w hS => rd_load pl3 (hF.ev rfl) (show w.cell? (xt.add ((i : Int).toNat * 1)) = _ by rw [Int.toNat_natCast, Nat.mul_one]; exact hS.whole_at (i := 6) rfl hv)) ?_; clear hF; intro a hF
            refine d_pu hD hF rfl rfl rfl rfl rfl (pu_move (hF.ev rfl)) ?_; clear hF; intro a hF
            refine l_en hD hF rfl rfl rfl rfl rfl (run_fn fk24 (hF.ev rfl) (hF.evs rfl)) (at_place 1 hS rfl (fun h => rAdd_c (t := N) (x := (i : Int)) h hNr.1 hNr.2 (by omega) (by omega) hpz (by omega) hroom)) ?_
            clear hS; rintro e w ⟨rfl, hS⟩
            refine ⟨_, rfl, ?_⟩; clear hF; intro a hF
            refine d_pu hD hF rfl rfl rfl rfl rfl (pu_move (hF.ev rfl)) ?_; clear hF; intro a hF
            refine d_pu hD hF rfl rfl rfl rfl rfl (pu_extract (hF.ev rfl) rfl) ?_; clear hF; intro a hF
            refine d_pu hD hF rfl rfl rfl rfl rfl (pu_extract (hF.ev rfl) rfl) ?_; clear hF; intro a hF
            refine d_pu hD hF rfl rfl rfl rfl rfl (pu_assign (hF.ev rfl)) ?_; clear hF; intro a hF
            refine d_pu hD hF rfl rfl rfl rfl rfl (pu_assign (hF.ev rfl)) ?_; clear hF; intro a hF
            refine d_done hD rfl ?_; clear hD
            refine sure_in ?_
            refine hK12 _ _ ?_; clear hK12
            refine wpIn_seq_k fun K13 hK13 => ?_
            refine wr_region rfl ?_
            refine s_pu hF rfl rfl rfl (pu_move (hF.ev rfl)) ?_; clear hF; intro a hF
            refine s_pu hF rfl rfl rfl (pu_move (hF.ev rfl)) ?_; clear hF; intro a hF
            refine s_pu hF rfl rfl rfl (pu_neq (hF.ev rfl) (hF.ev rfl)) ?_; clear hF; intro a hF
            refine s_pu hF rfl rfl rfl (pu_move (hF.ev rfl)) ?_; clear hF; intro a hF
            refine fr_split hF (t := 85) rfl ?_ ?_
            · clear hF; intro hg85 hF   -- slot 85 true
              try simp only [decide_eq_true_eq, decide_eq_false_iff_not, Bool.not_eq_true', Bool.not_eq_false', Int.not_lt, Int.not_le, ne_eq, Decidable.not_not, Bool.or_eq_true, Bool.or_eq_false_iff, Bool.and_eq_true, Bool.and_eq_false_imp] at hg85
              simp at hg85
            · clear hF; intro hg85 hF   -- slot 85 false
              try simp only [decide_eq_true_eq, decide_eq_false_iff_not, Bool.not_eq_true', Bool.not_eq_false', Int.not_lt, Int.not_le, ne_eq, Decidable.not_not, Bool.or_eq_true, Bool.or_eq_false_iff, Bool.and_eq_true, Bool.and_eq_false_imp] at hg85
              refine s_pu hF rfl rfl rfl (pu_move (hF.ev rfl)) ?_; clear hF; intro a hF
              refine s_pu hF rfl rfl rfl (pu_move (hF.ev rfl)) ?_; clear hF; intro a hF
              refine s_pu hF rfl rfl rfl (pu_neq (hF.ev rfl) (hF.ev rfl)) ?_; clear hF; intro a hF
              refine s_pu hF rfl rfl rfl ((by exact pu_pick_f (hF.ev rfl) (hF.ev rfl))) ?_; clear hF; intro a hF
              refine s_done ?_
              refine sure_in ?_
              refine hK13 _ _ ?_; clear hK13
              refine wpIn_cond_split (hF.ev rfl) (fun hc3 => ?_) (fun hc3 => ?_)
              · -- cond 3 true
                try simp only [decide_eq_true_eq, decide_eq_false_iff_not, Bool.not_eq_true', Bool.not_eq_false', Int.not_lt, Int.not_le, ne_eq, Decidable.not_not, Bool.or_eq_true, Bool.or_eq_false_iff, Bool.and_eq_true, Bool.and_eq_false_imp] at hc3
                simp at hc3
              · -- cond 3 false
                try simp only [decide_eq_true_eq, decide_eq_false_iff_not, Bool.not_eq_true', Bool.not_eq_false', Int.not_lt, Int.not_le, ne_eq, Decidable.not_not, Bool.or_eq_true, Bool.or_eq_false_iff, Bool.and_eq_true, Bool.and_eq_false_imp] at hc3
                refine wpIn_skip ?_
                refine blk_normal ?_
                refine hK10 _ _ ?_; clear hK10
                refine wr_region rfl ?_
                refine s_pu hF rfl rfl rfl (pu_move (hF.ev rfl)) ?_; clear hF; intro a hF
                refine s_pu hF rfl rfl rfl ((by exact pu_add64 (hF.ev rfl) (hF.ev rfl) (by omega))) ?_; clear hF; intro a hF
                refine s_pu hF rfl rfl rfl (pu_assign (hF.ev rfl)) ?_; clear hF; intro a hF
                refine s_done ?_
                refine sure_in ?_
                replace hS := hS.sel [1]
                exact ⟨l1 - (i + 1), by omega, i + 1, _, last + 1, rfl, by omega, by omega, hp.add (x := (i : Int)) hNr.1 hNr.2, hF.sub ⟨rfl, rfl, rfl, rfl, rfl, rfl, trivial⟩, hS⟩
          · -- no
            refine wr_start (S := (fun w => Sat W w _)) (ds := [6]) (ord := [(0, .tk), (1, .pu), (2, .pu), (3, .pu), (4, .tk), (5, .pu), (6, .ls), (7, .pu), (8, .pu), (9, .pu), (10, .pu), (11, .pu)]) rfl mixed ⟨by kernel_rfl, fun _ d _ _ _ h => by cases d <;> exact h⟩ hS.drew fun hD => ?_
            replace hS := hS.drew; generalize w.drew = w at hS ⊢
            refine d_rd hD hF rfl rfl rfl rfl rfl hS (fun w hS => (by exact rd_load pl38 (hF.ev rfl) (hS.cellL (i := 2) rfl rfl))) ?_; clear hF; intro a hF
            refine d_pu hD hF rfl rfl rfl rfl rfl (pu_move (hF.ev rfl)) ?_; clear hF; intro a hF
            refine d_pu hD hF rfl rfl rfl rfl rfl (pu_move (hF.ev rfl)) ?_; clear hF; intro a hF
            refine d_pu hD hF rfl rfl rfl rfl rfl ((by exact pu_elemA sl22 (hF.ev rfl) (hF.ev rfl) (by omega) (by omega))) ?_; clear hF; intro a hF
            refine d_rd hD hF rfl rfl rfl rfl rfl hS (fun w hS => rd_load pl3 (hF.ev rfl) (show w.cell? (xt.add ((i : Int).toNat * 1)) = _ by rw [Int.toNat_natCast, Nat.mul_one]; exact hS.whole_at (i := 6) rfl hv)) ?_; clear hF; intro a hF
            refine d_pu hD hF rfl rfl rfl rfl rfl (pu_move (hF.ev rfl)) ?_; clear hF; intro a hF
            refine l_en hD hF rfl rfl rfl rfl rfl (run_fn fk23 (hF.ev rfl) (hF.evs rfl)) (wAddNo_i (t := N) (v := .int .i64 i) hS (by omega)) ?_
            clear hS; rintro e w ⟨rfl, hS⟩
            refine ⟨_, rfl, ?_⟩; clear hF; intro a hF
            refine d_pu hD hF rfl rfl rfl rfl rfl (pu_move (hF.ev rfl)) ?_; clear hF; intro a hF
            refine d_pu hD hF rfl rfl rfl rfl rfl (pu_extract (hF.ev rfl) rfl) ?_; clear hF; intro a hF
            refine d_pu hD hF rfl rfl rfl rfl rfl (pu_extract (hF.ev rfl) rfl) ?_; clear hF; intro a hF
            refine d_pu hD hF rfl rfl rfl rfl rfl (pu_assign (hF.ev rfl)) ?_; clear hF; intro a hF
            refine d_pu hD hF rfl rfl rfl rfl rfl (pu_assign (hF.ev rfl)) ?_; clear hF; intro a hF
            refine d_done hD rfl ?_; clear hD
            refine sure_in ?_
            refine hK11 _ _ ?_; clear hK11
            refine wpIn_seq_k fun K12 hK12 => ?_
            refine wr_start (S := (fun w => Sat W w _)) (ds := [6]) (ord := [(0, .tk), (1, .pu), (2, .pu), (3, .pu), (4, .tk), (5, .pu), (6, .ls), (7, .pu), (8, .pu), (9, .pu), (10, .pu), (11, .pu)]) rfl mixed ⟨by kernel_rfl, fun _ d _ _ _ h => by cases d <;> exact h⟩ hS.drew fun hD => ?_
            replace hS := hS.drew; generalize w.drew = w at hS ⊢
            refine d_rd hD hF rfl rfl rfl rfl rfl hS (fun w hS => (by exact rd_load pl41 (hF.ev rfl) (hS.cellL (i := 3) rfl rfl))) ?_; clear hF; intro a hF
            refine d_pu hD hF rfl rfl rfl rfl rfl (pu_move (hF.ev rfl)) ?_; clear hF; intro a hF
            refine d_pu hD hF rfl rfl rfl rfl rfl (pu_move (hF.ev rfl)) ?_; clear hF; intro a hF
            refine d_pu hD hF rfl rfl rfl rfl rfl ((by exact pu_elemA sl22 (hF.ev rfl) (hF.ev rfl) (by omega) (by omega))) ?_; clear hF; intro a hF
            refine d_rd hD hF rfl rfl rfl rfl rfl hS (fun w hS => rd_load pl3 (hF.ev rfl) (show w.cell? (xt.add ((i : Int).toNat * 1)) = _ by rw [Int.toNat_natCast, Nat.mul_one]; exact hS.whole_at (i := 6) rfl hv)) ?_; clear hF; intro a hF
            refine d_pu hD hF rfl rfl rfl rfl rfl (pu_move (hF.ev rfl)) ?_; clear hF; intro a hF
            refine l_en hD hF rfl rfl rfl rfl rfl (run_fn fk24 (hF.ev rfl) (hF.evs rfl)) (at_place 1 hS rfl (fun h => rAdd_no (t := N) (v := .int .i64 i) h (by omega))) ?_
            clear hS; rintro e w ⟨rfl, hS⟩
            refine ⟨_, rfl, ?_⟩; clear hF; intro a hF
            refine d_pu hD hF rfl rfl rfl rfl rfl (pu_move (hF.ev rfl)) ?_; clear hF; intro a hF
            refine d_pu hD hF rfl rfl rfl rfl rfl (pu_extract (hF.ev rfl) rfl) ?_; clear hF; intro a hF
            refine d_pu hD hF rfl rfl rfl rfl rfl (pu_extract (hF.ev rfl) rfl) ?_; clear hF; intro a hF
            refine d_pu hD hF rfl rfl rfl rfl rfl (pu_assign (hF.ev rfl)) ?_; clear hF; intro a hF
            refine d_pu hD hF rfl rfl rfl rfl rfl (pu_assign (hF.ev rfl)) ?_; clear hF; intro a hF
            refine d_done hD rfl ?_; clear hD
            refine sure_in ?_
            refine hK12 _ _ ?_; clear hK12
            refine wpIn_seq_k fun K13 hK13 => ?_
            refine wr_region rfl ?_
            refine s_pu hF rfl rfl rfl (pu_move (hF.ev rfl)) ?_; clear hF; intro a hF
            refine s_pu hF rfl rfl rfl (pu_move (hF.ev rfl)) ?_; clear hF; intro a hF
            refine s_pu hF rfl rfl rfl (pu_neq (hF.ev rfl) (hF.ev rfl)) ?_; clear hF; intro a hF
            refine s_pu hF rfl rfl rfl (pu_move (hF.ev rfl)) ?_; clear hF; intro a hF
            refine fr_split hF (t := 85) rfl ?_ ?_
            · clear hF; intro hg85 hF   -- slot 85 true
              try simp only [decide_eq_true_eq, decide_eq_false_iff_not, Bool.not_eq_true', Bool.not_eq_false', Int.not_lt, Int.not_le, ne_eq, Decidable.not_not, Bool.or_eq_true, Bool.or_eq_false_iff, Bool.and_eq_true, Bool.and_eq_false_imp] at hg85
              simp at hg85
            · clear hF; intro hg85 hF   -- slot 85 false
              try simp only [decide_eq_true_eq, decide_eq_false_iff_not, Bool.not_eq_true', Bool.not_eq_false', Int.not_lt, Int.not_le, ne_eq, Decidable.not_not, Bool.or_eq_true, Bool.or_eq_false_iff, Bool.and_eq_true, Bool.and_eq_false_imp] at hg85
              refine s_pu hF rfl rfl rfl (pu_move (hF.ev rfl)) ?_; clear hF; intro a hF
              refine s_pu hF rfl rfl rfl (pu_move (hF.ev rfl)) ?_; clear hF; intro a hF
              refine s_pu hF rfl rfl rfl (pu_neq (hF.ev rfl) (hF.ev rfl)) ?_; clear hF; intro a hF
              refine s_pu hF rfl rfl rfl ((by exact pu_pick_f (hF.ev rfl) (hF.ev rfl))) ?_; clear hF; intro a hF
              refine s_done ?_
              refine sure_in ?_
              refine hK13 _ _ ?_; clear hK13
              refine wpIn_cond_split (hF.ev rfl) (fun hc3 => ?_) (fun hc3 => ?_)
              · -- cond 3 true
                try simp only [decide_eq_true_eq, decide_eq_false_iff_not, Bool.not_eq_true', Bool.not_eq_false', Int.not_lt, Int.not_le, ne_eq, Decidable.not_not, Bool.or_eq_true, Bool.or_eq_false_iff, Bool.and_eq_true, Bool.and_eq_false_imp] at hc3
                simp at hc3
              · -- cond 3 false
                try simp only [decide_eq_true_eq, decide_eq_false_iff_not, Bool.not_eq_true', Bool.not_eq_false', Int.not_lt, Int.not_le, ne_eq, Decidable.not_not, Bool.or_eq_true, Bool.or_eq_false_iff, Bool.and_eq_true, Bool.and_eq_false_imp] at hc3
                refine wpIn_skip ?_
                refine blk_normal ?_
                refine hK10 _ _ ?_; clear hK10
                refine wr_region rfl ?_
                refine s_pu hF rfl rfl rfl (pu_move (hF.ev rfl)) ?_; clear hF; intro a hF
                refine s_pu hF rfl rfl rfl ((by exact pu_add64 (hF.ev rfl) (hF.ev rfl) (by omega))) ?_; clear hF; intro a hF
                refine s_pu hF rfl rfl rfl (pu_assign (hF.ev rfl)) ?_; clear hF; intro a hF
                refine s_done ?_
                refine sure_in ?_
                replace hS := hS.sel [1]
                exact ⟨l1 - (i + 1), by omega, i + 1, P, last, rfl, by omega, by omega, hp.more, hF.sub ⟨rfl, rfl, rfl, rfl, rfl, rfl, trivial⟩, hS⟩
        · -- cond 2 false
          try simp only [decide_eq_true_eq, decide_eq_false_iff_not, Bool.not_eq_true', Bool.not_eq_false', Int.not_lt, Int.not_le, ne_eq, Decidable.not_not, Bool.or_eq_true, Bool.or_eq_false_iff, Bool.and_eq_true, Bool.and_eq_false_imp] at hc2
          refine wpIn_exit ?_
          refine then_exit ?_
          refine then_exit ?_
          refine blk_exit ?_
          exact ⟨P, last, hp.upto (by omega), hF.sub ⟨rfl, rfl, rfl, rfl, trivial⟩, hS⟩
      · clear hF; intro hg56 hF   -- slot 56 false
        try simp only [decide_eq_true_eq, decide_eq_false_iff_not, Bool.not_eq_true', Bool.not_eq_false', Int.not_lt, Int.not_le, ne_eq, Decidable.not_not, Bool.or_eq_true, Bool.or_eq_false_iff, Bool.and_eq_true, Bool.and_eq_false_imp] at hg56
        refine s_no hF rfl rfl rfl ?_; clear hF; intro a hF
        refine s_no hF rfl rfl rfl ?_; clear hF; intro a hF
        refine s_pu hF rfl rfl rfl ((by exact pu_pick_f (hF.ev rfl) (hF.ev rfl))) ?_; clear hF; intro a hF
        refine s_done ?_
        refine sure_in ?_
        refine hK9 _ _ ?_; clear hK9
        refine wpIn_cond_false (hF.ev rfl) ?_
        refine wpIn_exit ?_
        refine then_exit ?_
        refine then_exit ?_
        refine blk_exit ?_
        exact ⟨P, last, hp.upto (by omega), hF.sub ⟨rfl, rfl, rfl, rfl, trivial⟩, hS⟩
    · -- behind the join s9
      clear hS hF
      rintro a w ⟨P, last, hp, hF, hS⟩
      refine wpIn_seq_k fun K6 hK6 => ?_
      refine wr_region rfl ?_
      refine s_rd hF rfl rfl rfl (by exact rd_load pl38 (hF.ev rfl) (hS.cellL (i := 2) rfl rfl)) ?_; clear hF; intro a hF
      refine s_en hF rfl rfl rfl (run_fn fk25 (hF.ev rfl) (hF.evs rfl)) (wAll_c hS) ?_
      clear hS; rintro e w ⟨ba, rfl, hS⟩
      refine ⟨_, rfl, ?_⟩; clear hF; intro a hF
      refine s_pu hF rfl rfl rfl (pu_assign (hF.ev rfl)) ?_; clear hF; intro a hF
      refine s_done ?_
      refine sure_in ?_
      refine hK6 _ _ ?_; clear hK6
      refine wpIn_seq_k fun K7 hK7 => ?_
      refine wpIn_seq_k fun K8 hK8 => ?_
      refine wr_region rfl ?_
      refine s_pu hF rfl rfl rfl (pu_move (hF.ev rfl)) ?_; clear hF; intro a hF
      refine s_pu hF rfl rfl rfl (pu_feq Try.underlying59 (hF.ev rfl) (hF.ev rfl)) ?_; clear hF; intro a hF
      refine s_done ?_
      refine sure_in ?_
      refine hK8 _ _ ?_; clear hK8
      refine wpIn_cond_false (hF.ev rfl) ?_
      refine wpIn_skip ?_
      refine hK7 _ _ ?_; clear hK7
      refine wpIn_seq_k fun K9 hK9 => ?_
      refine wpIn_seq_k fun K10 hK10 => ?_
      refine wr_region rfl ?_
      refine s_pu hF rfl rfl rfl (pu_assign (hF.ev rfl)) ?_; clear hF; intro a hF
      refine s_done ?_
      refine sure_in ?_
      refine hK10 _ _ ?_; clear hK10
      refine wpIn_block ?_
      have hS1 : Sat W w (star (([] : List Nat).map dfC) :: .obj ba (.cells #[.pointer (some ⟨ga, 0, none⟩)] 38 (0, 0)) :: [whC_i ga n0 P 0 last, refC xa P 0 last, .obj b8 (.cells #[.pointer (some ⟨ga, 0, none⟩)] 38 (0, 0)), .obj b10 (.cells #[.pointer (some ⟨xa, 0, none⟩)] 41 (0, 0)), .obj b5 (.cells #[.slice a2 l2 q2] 22 (0, 0)), .obj b6 (.cells #[.bool false] 4 (0, 0)), whole W]) := sat_star.2 hS
      refine wr_ind (fun j a w => ∃ (t : Nat) (P : List Ent) (now last : Int) (ds : List Nat) (K : Nat), j = 2 - t ∧ t ≤ 2 ∧ POk P now last K ∧ now ≤ K ∧ K ≤ 60 + 60 * t + 60 * (t / 2) ∧
        Fr a ⟨201, ds⟩ [(5, .pointer (some ⟨b5, 0, none⟩)), (6, .pointer (some ⟨b6, 0, none⟩)), (8, .pointer (some ⟨b8, 0, none⟩)), (10, .pointer (some ⟨b10, 0, none⟩)), (17, .func (.func 44) #[] #[.pointer (some ⟨ba, 0, none⟩)]), (18, .int .i64 t)] ∧
        Sat W w (star (ds.map dfC) :: .obj ba (.cells #[.pointer (some ⟨ga, 0, none⟩)] 38 (0, 0)) :: [whC_i ga n0 P now last, refC xa P now last, .obj b8 (.cells #[.pointer (some ⟨ga, 0, none⟩)] 38 (0, 0)), .obj b10 (.cells #[.pointer (some ⟨xa, 0, none⟩)] 41 (0, 0)), .obj b5 (.cells #[.slice a2 l2 q2] 22 (0, 0)), .obj b6 (.cells #[.bool false] 4 (0, 0)), whole W])) 2
        ⟨0, P, 0, last, [], 60, rfl, by omega, hp, by omega, by omega, hF.sub ⟨rfl, rfl, rfl, rfl, rfl, rfl, trivial⟩, hS1⟩ ?_
      clear hS hF hS1 hp P last
      rintro j a w ⟨t, P, now, last, ds, K, rfl, ht, hp, hnow, hK, hF, hS⟩
      have hpl := hp.len
      have hroom : (P.length + 1) * 24 ≤ 140737488355328 := by omega
      refine wpIn_seq_k fun K11 hK11 => ?_
      refine wpIn_seq_k fun K12 hK12 => ?_
      refine wr_region rfl ?_
      refine s_pu hF rfl rfl rfl (pu_move (hF.ev rfl)) ?_; clear hF; intro a hF
      refine s_pu hF rfl rfl rfl (pu_lss (hF.ev rfl) (hF.ev rfl)) ?_; clear hF; intro a hF
      refine s_done ?_
      refine sure_in ?_
      refine hK12 _ _ ?_; clear hK12
      refine wpIn_cond_split (hF.ev rfl) (fun hc5 => ?_) (fun hc5 => ?_)
      · -- cond 5 true
        try simp only [decide_eq_true_eq, decide_eq_false_iff_not, Bool.not_eq_true', Bool.not_eq_false', Int.not_lt, Int.not_le, ne_eq, Decidable.not_not, Bool.or_eq_true, Bool.or_eq_false_iff, Bool.and_eq_true, Bool.and_eq_false_imp] at hc5
        refine wpIn_skip ?_
        refine hK11 _ _ ?_; clear hK11
        refine wpIn_seq_k fun K13 hK13 => ?_
        refine wpIn_block ?_
        refine wpIn_seq_k fun K14 hK14 => ?_
        refine wr_region rfl ?_
        refine s_rd hF rfl rfl rfl (by exact rd_load pl41 (hF.ev rfl) (hS.cellL (i := 5) rfl rfl)) ?_; clear hF; intro a hF
        replace hS := hS.front 3 rfl
        simp only [del] at hS
        refine s_en hF rfl rfl rfl (run_fn fk22 (hF.ev rfl) (hF.evs rfl)) (rAll_c hS hp.rising (by omega)) ?_
        clear hS; rintro e w ⟨A, c, rfl, hS⟩
        refine ⟨_, rfl, ?_⟩; clear hF; intro a hF
        refine s_newp hF rfl rfl rfl (ef_alloc (cs := #[_]) ze51 rfl) hS ?_; clear hF hS; intro b19 w hS a hF
        ((refine s_store (vs := [_]) (cs' := #[_]) 0 hF rfl (hF.ev rfl) (hF.ev rfl) hS rfl rfl sz51 (by rfl) (by exact Nat.le_of_ble_eq_true rfl) rfl ?_))
        clear hS; intro w hS; (try simp only [upd, del] at hS)
        refine s_done ?_
        refine sure_in ?_
        refine hK14 _ _ ?_; clear hK14
        refine wpIn_seq_k fun K15 hK15 => ?_
        refine wr_region rfl ?_
        refine s_newp hF rfl rfl rfl (ef_alloc (cs := #[_]) ze3 rfl) hS ?_; clear hF hS; intro b20 w hS a hF
        ((refine s_store (vs := [_]) (cs' := #[_]) 0 hF rfl (hF.ev rfl) (hF.ev rfl) hS rfl rfl sz3 (by rfl) (by exact Nat.le_of_ble_eq_true rfl) rfl ?_))
        clear hS; intro w hS; (try simp only [upd, del] at hS)
        refine s_done ?_
        refine sure_in ?_
        refine hK15 _ _ ?_; clear hK15
        refine wpIn_seq_k fun K16 hK16 => ?_
        refine wpIn_seq_k fun K17 hK17 => ?_
        refine wr_region rfl ?_
        refine s_pu hF rfl rfl rfl (pu_move (hF.ev rfl)) ?_; clear hF; intro a hF
        refine s_done ?_
        refine sure_in ?_
        refine hK17 _ _ ?_; clear hK17
        refine wpIn_block ?_
        refine range_out (σ := Nat × List Ent × Int × Int) (τ := Nat) P.length (encE (sortE P)) (fun i s => s.1 = i ∧ POk s.2.1 s.2.2.1 s.2.2.2 (K + i) ∧ s.2.2.1 ≤ K + i)
          (fun s => [.obj b20 (.cells #[.int .i64 (s.1 : Nat)] 3 (0, 0)), .obj b19 (.cells #[.slice A P.length c] 51 (0, 0)), rowC 62 3 (.slice A P.length c) P.length (entCells (sortE P)), refC xa s.2.1 s.2.2.1 s.2.2.2, star (ds.map dfC), .obj ba (.cells #[.pointer (some ⟨ga, 0, none⟩)] 38 (0, 0)), whC_i ga n0 s.2.1 s.2.2.1 s.2.2.2, .obj b8 (.cells #[.pointer (some ⟨ga, 0, none⟩)] 38 (0, 0)), .obj b10 (.cells #[.pointer (some ⟨xa, 0, none⟩)] 41 (0, 0)), .obj b5 (.cells #[.slice a2 l2 q2] 22 (0, 0)), .obj b6 (.cells #[.bool false] 4 (0, 0)), whole W])
          (fun _ => False) (fun _ => .ret) (fun _ => [])
          (C := [_, _, _, _, _, _, _, _, _, _, _, _]) hF hS (hF.ev rfl) fk44 rfl (fun _ _ => rfl) (fun _ _ => .inl rfl) (fun d l rec D X' w hS hD hR => by
            subst hD
            exact wAll_it (hS.sel [7, 7]) (fun w G h => ⟨(0, P, now, last), ⟨rfl, hp, by show now ≤ (K : Int) + ((0 : Nat) : Int); omega⟩, sat_star.2 (h.sel [2, 2, 2, 2, 2, 2, 2, 0, 0])⟩) hR h01 h02 hp.rising hroom) ?_ ?_ ?_
        · -- a round of g0
          clear hF hS; intro d0 l0 rec0 F0 i0 s0 a w hi0 hs0 hF hS KA hKA
          obtain ⟨k, Q, nw, ls⟩ := s0
          obtain ⟨hk, hq, hnq⟩ := hs0
          simp only at hk hq hnq hS
          subst hk
          simp only [List.cons_append] at hS
          have hsl := sortE_len P
          obtain ⟨e, he⟩ : ∃ e, (sortE P)[k]? = some e := ⟨(sortE P)[k]'(by omega), List.getElem?_eq_getElem _⟩
          have hen : encE (sortE P) k = [.int .i64 e.timer, e.v] := by
            unfold encE
            rw [List.getD_eq_getElem?_getD, he]
            rfl
          obtain ⟨x, hx⟩ := hp.nums e ((sortE_perm P).subset (List.mem_of_getElem? he))
          rw [hen, hx] at hF
          simp only [List.zip, List.zipWith, List.reverse, List.reverseAux, List.cons_append, List.nil_append] at hF
          obtain ⟨gr, rfl⟩ := row_some (i := 4) hS rfl (by omega)
          have hql := hq.len
          have hqz := hq.l0
          have hqy := hq.l1
          have hqn := hq.n0
          have hqroom : (Q.length + 1) * 24 ≤ 140737488355328 := by omega
          refine wpIn_seq_k fun K19 hK19 => ?_
          refine wr_region rfl ?_
          refine s_pu hF rfl rfl rfl (pu_assign (hF.ev rfl)) ?_; clear hF; intro a hF
          refine s_done ?_
          refine sure_in ?_
          refine hK19 _ _ ?_; clear hK19
          refine wr_region rfl ?_
          refine s_pu hF rfl rfl rfl (pu_assign (hF.ev rfl)) ?_; clear hF; intro a hF
          refine s_done ?_
          refine sure_in ?_
          refine hKA _ _ _ hS fun w hS => ?_
          refine wpIn_block ?_
          refine wpIn_seq_k fun K20 hK20 => ?_
          refine wpIn_seq_k fun K21 hK21 => ?_
          refine wr_region rfl ?_
          refine s_rd hF rfl rfl rfl (by exact rd_load pl3 (hF.ev rfl) (hS.cellL (i := 2) rfl rfl)) ?_; clear hF; intro a hF
          refine s_rd hF rfl rfl rfl (by exact rd_load pl51 (hF.ev rfl) (hS.cellL (i := 3) rfl rfl)) ?_; clear hF; intro a hF
          refine s_pu hF rfl rfl rfl (pu_len sl51 (hF.ev rfl)) ?_; clear hF; intro a hF
          refine s_pu hF rfl rfl rfl (pu_geq (hF.ev rfl) (hF.ev rfl)) ?_; clear hF; intro a hF
          refine s_pu hF rfl rfl rfl (pu_move (hF.ev rfl)) ?_; clear hF; intro a hF
          refine fr_split hF (t := 107) rfl ?_ ?_
          · clear hF; intro hg107 hF   -- slot 107 true
            try simp only [decide_eq_true_eq, decide_eq_false_iff_not, Bool.not_eq_true', Bool.not_eq_false', Int.not_lt, Int.not_le, ne_eq, Decidable.not_not, Bool.or_eq_true, Bool.or_eq_false_iff, Bool.and_eq_true, Bool.and_eq_false_imp] at hg107
            omega
          · clear hF; intro hg107 hF   -- slot 107 false
            try simp only [decide_eq_true_eq, decide_eq_false_iff_not, Bool.not_eq_true', Bool.not_eq_false', Int.not_lt, Int.not_le, ne_eq, Decidable.not_not, Bool.or_eq_true, Bool.or_eq_false_iff, Bool.and_eq_true, Bool.and_eq_false_imp] at hg107
            refine s_pu hF rfl rfl rfl (pu_move (hF.ev rfl)) ?_; clear hF; intro a hF
            refine s_rd hF rfl rfl rfl (by exact rd_load pl51 (hF.ev rfl) (hS.cellL (i := 3) rfl rfl)) ?_; clear hF; intro a hF
            refine s_rd hF rfl rfl rfl (by exact rd_load pl3 (hF.ev rfl) (hS.cellL (i := 2) rfl rfl)) ?_; clear hF; intro a hF
            refine s_pu hF rfl rfl rfl ((by exact pu_elem sl51 (hF.ev rfl) (hF.ev rfl) (by omega) (by omega))) ?_; clear hF; intro a hF
            refine s_pu hF rfl rfl rfl ((by exact pu_field fd62_0 (hF.ev rfl))) ?_; clear hF; intro a hF
            refine s_rd hF rfl rfl rfl (rd_load pl3 (hF.ev rfl) (row_load (i := 4) hS rfl (by omega) (entCells_at he) 0 _ rfl)) ?_; clear hF; intro a hF
            refine s_pu hF rfl rfl rfl (pu_neq (hF.ev rfl) (hF.ev rfl)) ?_; clear hF; intro a hF
            refine s_pu hF rfl rfl rfl ((by exact pu_pick_f (hF.ev rfl) (hF.ev rfl))) ?_; clear hF; intro a hF
            refine s_pu hF rfl rfl rfl (pu_move (hF.ev rfl)) ?_; clear hF; intro a hF
            refine fr_split hF (t := 116) rfl ?_ ?_
            · clear hF; intro hg116 hF   -- slot 116 true
              try simp only [decide_eq_true_eq, decide_eq_false_iff_not, Bool.not_eq_true', Bool.not_eq_false', Int.not_lt, Int.not_le, ne_eq, Decidable.not_not, Bool.or_eq_true, Bool.or_eq_false_iff, Bool.and_eq_true, Bool.and_eq_false_imp] at hg116
              simp at hg116
            · clear hF; intro hg116 hF   -- slot 116 false
              try simp only [decide_eq_true_eq, decide_eq_false_iff_not, Bool.not_eq_true', Bool.not_eq_false', Int.not_lt, Int.not_le, ne_eq, Decidable.not_not, Bool.or_eq_true, Bool.or_eq_false_iff, Bool.and_eq_true, Bool.and_eq_false_imp] at hg116
              refine s_pu hF rfl rfl rfl (pu_move (hF.ev rfl)) ?_; clear hF; intro a hF
              refine s_rd hF rfl rfl rfl (by exact rd_load pl51 (hF.ev rfl) (hS.cellL (i := 3) rfl rfl)) ?_; clear hF; intro a hF
              refine s_rd hF rfl rfl rfl (by exact rd_load pl3 (hF.ev rfl) (hS.cellL (i := 2) rfl rfl)) ?_; clear hF; intro a hF
              refine s_pu hF rfl rfl rfl ((by exact pu_elem sl51 (hF.ev rfl) (hF.ev rfl) (by omega) (by omega))) ?_; clear hF; intro a hF
              refine s_pu hF rfl rfl rfl ((by exact pu_field fd62_2 (hF.ev rfl))) ?_; clear hF; intro a hF
              refine s_rd hF rfl rfl rfl (rd_load pl3 (hF.ev rfl) (by
                have h9 := row_load (i := 4) hS rfl (by omega) (entCells_at he) 2 e.v rfl
                rw [hx] at h9
                exact h9)) ?_; clear hF; intro a hF
              refine s_pu hF rfl rfl rfl (pu_neq (hF.ev rfl) (hF.ev rfl)) ?_; clear hF; intro a hF
              refine s_pu hF rfl rfl rfl ((by exact pu_pick_f (hF.ev rfl) (hF.ev rfl))) ?_; clear hF; intro a hF
              refine s_done ?_
              refine sure_in ?_
              refine hK21 _ _ ?_; clear hK21
              refine wpIn_cond_split (hF.ev rfl) (fun hc6 => ?_) (fun hc6 => ?_)
              · -- cond 6 true
                try simp only [decide_eq_true_eq, decide_eq_false_iff_not, Bool.not_eq_true', Bool.not_eq_false', Int.not_lt, Int.not_le, ne_eq, Decidable.not_not, Bool.or_eq_true, Bool.or_eq_false_iff, Bool.and_eq_true, Bool.and_eq_false_imp] at hc6
                simp at hc6
              · -- cond 6 false
                try simp only [decide_eq_true_eq, decide_eq_false_iff_not, Bool.not_eq_true', Bool.not_eq_false', Int.not_lt, Int.not_le, ne_eq, Decidable.not_not, Bool.or_eq_true, Bool.or_eq_false_iff, Bool.and_eq_true, Bool.and_eq_false_imp] at hc6
                refine wpIn_skip ?_
                refine hK20 _ _ ?_; clear hK20
                refine wpIn_seq_k fun K22 hK22 => ?_
                refine wr_region rfl ?_
                refine s_pu hF rfl rfl rfl (pu_assign (hF.ev rfl)) ?_; clear hF; intro a hF
                refine s_done ?_
                refine sure_in ?_
                refine hK22 _ _ ?_; clear hK22
                refine wr_seq_j (fun a w => ∃ z : Int, Fr a ⟨201, []⟩ [(5, .pointer (some ⟨b5, 0, none⟩)), (6, .pointer (some ⟨b6, 0, none⟩)), (8, .pointer (some ⟨b8, 0, none⟩)), (10, .pointer (some ⟨b10, 0, none⟩)), (19, .pointer (some ⟨b19, 0, none⟩)), (20, .pointer (some ⟨b20, 0, none⟩)), (21, .int .i64 e.timer), (23, .int .i64 z)] ∧ Sat W w (.obj l0 (.loop { rec0 with state := .busy }) :: dfC d0 :: .obj b20 (.cells #[.int .i64 (k : Nat)] 3 (0, 0)) :: .obj b19 (.cells #[.slice (some ⟨gr, 0, none⟩) P.length c] 51 (0, 0)) :: rowC 62 3 (.slice (some ⟨gr, 0, none⟩) P.length c) P.length (entCells (sortE P)) :: refC xa Q nw ls :: star (ds.map dfC) :: .obj ba (.cells #[.pointer (some ⟨ga, 0, none⟩)] 38 (0, 0)) :: whC_i ga n0 Q nw ls :: .obj b8 (.cells #[.pointer (some ⟨ga, 0, none⟩)] 38 (0, 0)) :: .obj b10 (.cells #[.pointer (some ⟨xa, 0, none⟩)] 41 (0, 0)) :: .obj b5 (.cells #[.slice a2 l2 q2] 22 (0, 0)) :: .obj b6 (.cells #[.bool false] 4 (0, 0)) :: whole W :: F0)) ?_ ?_
                · -- up to the join s36
                  refine wpIn_seq_k fun K24 hK24 => ?_
                  refine wr_region rfl ?_
                  refine s_rd hF rfl rfl rfl (by exact rd_load pl3 (hF.ev rfl) (hS.cellL (i := 2) rfl rfl)) ?_; clear hF; intro a hF
                  refine s_rd hF rfl rfl rfl (by exact rd_load pl22 (hF.ev rfl) (hS.cellL (i := 11) rfl rfl)) ?_; clear hF; intro a hF
                  refine s_pu hF rfl rfl rfl (pu_len sl22 (hF.ev rfl)) ?_; clear hF; intro a hF
                  refine s_pu hF rfl rfl rfl (pu_lss (hF.ev rfl) (hF.ev rfl)) ?_; clear hF; intro a hF
                  refine s_done ?_
                  refine sure_in ?_
                  refine hK24 _ _ ?_; clear hK24
                  refine wpIn_cond_split (hF.ev rfl) (fun hc7 => ?_) (fun hc7 => ?_)
                  · -- cond 7 true
                    try simp only [decide_eq_true_eq, decide_eq_false_iff_not, Bool.not_eq_true', Bool.not_eq_false', Int.not_lt, Int.not_le, ne_eq, Decidable.not_not, Bool.or_eq_true, Bool.or_eq_false_iff, Bool.and_eq_true, Bool.and_eq_false_imp] at hc7
                    refine wr_region rfl ?_
                    have hkl : k < l2 := by omega
                    obtain ⟨xt, rfl, hv, hlo, hhi⟩ := h2.ints.at_ k hkl
                    refine s_rd hF rfl rfl rfl (by exact rd_load pl22 (hF.ev rfl) (hS.cellL (i := 11) rfl rfl)) ?_; clear hF; intro a hF
                    refine s_rd hF rfl rfl rfl (by exact rd_load pl3 (hF.ev rfl) (hS.cellL (i := 2) rfl rfl)) ?_; clear hF; intro a hF
                    refine s_pu hF rfl rfl rfl ((by exact pu_elemA sl22 (hF.ev rfl) (hF.ev rfl) (by omega) (by omega))) ?_; clear hF; intro a hF
                    refine s_rd hF rfl rfl rfl (rd_load pl3 (hF.ev rfl) (show w.cell? (xt.add ((k : Int).toNat * 1)) = _ by rw [Int.toNat_natCast, Nat.mul_one]; exact hS.whole_at (i := 13) rfl hv)) ?_; clear hF; intro a hF
                    refine s_pu hF rfl rfl rfl (pu_assign (hF.ev rfl)) ?_; clear hF; intro a hF
                    refine s_done ?_
                    refine sure_in ?_
                    exact ⟨_, hF.sub ⟨rfl, rfl, rfl, rfl, rfl, rfl, rfl, rfl, trivial⟩, hS⟩
                  · -- cond 7 false
                    try simp only [decide_eq_true_eq, decide_eq_false_iff_not, Bool.not_eq_true', Bool.not_eq_false', Int.not_lt, Int.not_le, ne_eq, Decidable.not_not, Bool.or_eq_true, Bool.or_eq_false_iff, Bool.and_eq_true, Bool.and_eq_false_imp] at hc7
                    refine wpIn_skip ?_
                    exact ⟨_, hF.sub ⟨rfl, rfl, rfl, rfl, rfl, rfl, rfl, rfl, trivial⟩, hS⟩
                · -- behind the join s36
                  clear hS hF
                  rintro a w ⟨z, hF, hS⟩
                  refine wr_seq_j (fun a w => ∃ (Q' : List Ent) (nw' ls' : Int), POk Q' nw' ls' (K + (k + 1)) ∧ nw' ≤ K + (k + 1) ∧ Fr a ⟨201, []⟩ [(5, .pointer (some ⟨b5, 0, none⟩)), (6, .pointer (some ⟨b6, 0, none⟩)), (8, .pointer (some ⟨b8, 0, none⟩)), (10, .pointer (some ⟨b10, 0, none⟩)), (19, .pointer (some ⟨b19, 0, none⟩)), (20, .pointer (some ⟨b20, 0, none⟩))] ∧ Sat W w (.obj l0 (.loop { rec0 with state := .busy }) :: dfC d0 :: .obj b20 (.cells #[.int .i64 (k : Nat)] 3 (0, 0)) :: .obj b19 (.cells #[.slice (some ⟨gr, 0, none⟩) P.length c] 51 (0, 0)) :: rowC 62 3 (.slice (some ⟨gr, 0, none⟩) P.length c) P.length (entCells (sortE P)) :: refC xa Q' nw' ls' :: star (ds.map dfC) :: .obj ba (.cells #[.pointer (some ⟨ga, 0, none⟩)] 38 (0, 0)) :: whC_i ga n0 Q' nw' ls' :: .obj b8 (.cells #[.pointer (some ⟨ga, 0, none⟩)] 38 (0, 0)) :: .obj b10 (.cells #[.pointer (some ⟨xa, 0, none⟩)] 41 (0, 0)) :: .obj b5 (.cells #[.slice a2 l2 q2] 22 (0, 0)) :: .obj b6 (.cells #[.bool false] 4 (0, 0)) :: whole W :: F0)) ?_ ?_
                  · -- up to the join s38
                    refine wpIn_seq_k fun K24 hK24 => ?_
                    refine wr_region rfl ?_
                    refine s_pu hF rfl rfl rfl (pu_move (hF.ev rfl)) ?_; clear hF; intro a hF
                    refine s_done ?_
                    refine sure_in ?_
                    refine hK24 _ _ ?_; clear hK24
                    refine wpIn_block ?_
                    refine wpIn_seq_k fun K25 hK25 => ?_
                    refine wr_region rfl ?_
                    refine s_pu hF rfl rfl rfl (pu_eql (hF.ev rfl) (hF.ev rfl)) ?_; clear hF; intro a hF
                    refine s_pu hF rfl rfl rfl (pu_assign (hF.ev rfl)) ?_; clear hF; intro a hF
                    refine s_done ?_
                    refine sure_in ?_
                    refine hK25 _ _ ?_; clear hK25
                    refine wpIn_cond_split (hF.ev rfl) (fun hc8 => ?_) (fun hc8 => ?_)
                    · -- cond 8 true
                      try simp only [decide_eq_true_eq, decide_eq_false_iff_not, Bool.not_eq_true', Bool.not_eq_false', Int.not_lt, Int.not_le, ne_eq, Decidable.not_not, Bool.or_eq_true, Bool.or_eq_false_iff, Bool.and_eq_true, Bool.and_eq_false_imp] at hc8
                      refine wpIn_seq_k fun K26 hK26 => ?_
                      · -- k1
                        refine wr_region rfl ?_
                        refine s_rd hF rfl rfl rfl (by exact rd_load pl38 (hF.ev rfl) (hS.cellL (i := 9) rfl rfl)) ?_; clear hF; intro a hF
                        refine s_rd hF rfl rfl rfl (by exact rd_load pl3 (hF.ev rfl) (hS.cellL (i := 2) rfl rfl)) ?_; clear hF; intro a hF
                        refine s_pu hF rfl rfl rfl ((by exact pu_add64 (hF.ev rfl) (hF.ev rfl) (by omega))) ?_; clear hF; intro a hF
                        refine s_en hF rfl rfl rfl (run_fn fk23 (hF.ev rfl) (hF.evs rfl)) (at_place 8 hS rfl (fun h => wAdd_i (t := 3) (x := 900 + (k : Int)) h hq.rising h01 h02 (by omega) (by omega) hqn (by omega) hqz (by omega) hqroom)) ?_
                        clear hS; rintro e w ⟨rfl, hS⟩
                        refine ⟨_, rfl, ?_⟩; clear hF; intro a hF
                        refine s_done ?_
                        refine sure_in ?_
                        refine hK26 _ _ ?_; clear hK26
                        refine wr_region rfl ?_
                        refine s_rd hF rfl rfl rfl (by exact rd_load pl41 (hF.ev rfl) (hS.cellL (i := 10) rfl rfl)) ?_; clear hF; intro a hF
                        refine s_rd hF rfl rfl rfl (by exact rd_load pl3 (hF.ev rfl) (hS.cellL (i := 3) rfl rfl)) ?_; clear hF; intro a hF
                        refine s_pu hF rfl rfl rfl ((by exact pu_add64 (hF.ev rfl) (hF.ev rfl) (by omega))) ?_; clear hF; intro a hF
                        refine s_en hF rfl rfl rfl (run_fn fk24 (hF.ev rfl) (hF.evs rfl)) (at_place 6 hS rfl (fun h => rAdd_c (t := 3) (x := 900 + (k : Int)) h (by omega) (by omega) hqn (by omega) hqz (by omega) hqroom)) ?_
                        clear hS; rintro e w ⟨rfl, hS⟩
                        refine ⟨_, rfl, ?_⟩; clear hF; intro a hF
                        refine s_done ?_
                        refine sure_in ?_
                        refine blk_normal ?_
                        exact ⟨_, nw, ls + 1, hq.add (t := 3) (x := 900 + (k : Int)) (by omega) (by omega), by omega, hF.sub ⟨rfl, rfl, rfl, rfl, rfl, rfl, trivial⟩, hS.sel [2, 2, 2, 2, 2, 0, 1, 1, 0]⟩
                    · -- cond 8 false
                      try simp only [decide_eq_true_eq, decide_eq_false_iff_not, Bool.not_eq_true', Bool.not_eq_false', Int.not_lt, Int.not_le, ne_eq, Decidable.not_not, Bool.or_eq_true, Bool.or_eq_false_iff, Bool.and_eq_true, Bool.and_eq_false_imp] at hc8
                      refine wpIn_seq_k fun K26 hK26 => ?_
                      refine wr_region rfl ?_
                      refine s_pu hF rfl rfl rfl (pu_eql (hF.ev rfl) (hF.ev rfl)) ?_; clear hF; intro a hF
                      refine s_pu hF rfl rfl rfl (pu_assign (hF.ev rfl)) ?_; clear hF; intro a hF
                      refine s_done ?_
                      refine sure_in ?_
                      refine hK26 _ _ ?_; clear hK26
                      refine wpIn_cond_split (hF.ev rfl) (fun hc9 => ?_) (fun hc9 => ?_)
                      · -- cond 9 true
                        try simp only [decide_eq_true_eq, decide_eq_false_iff_not, Bool.not_eq_true', Bool.not_eq_false', Int.not_lt, Int.not_le, ne_eq, Decidable.not_not, Bool.or_eq_true, Bool.or_eq_false_iff, Bool.and_eq_true, Bool.and_eq_false_imp] at hc9
                        refine wpIn_seq_k fun K27 hK27 => ?_
                        rcases find_case Q e.timer with hnf | ⟨A0, en, B0, hP, hA, hen⟩
                        · -- k2a
                          refine wr_region rfl ?_
                          refine s_rd hF rfl rfl rfl (by exact rd_load pl38 (hF.ev rfl) (hS.cellL (i := 9) rfl rfl)) ?_; clear hF; intro a hF
                          refine s_pu hF rfl rfl rfl (pu_move (hF.ev rfl)) ?_; clear hF; intro a hF
                          refine s_en hF rfl rfl rfl (run_fn fk26 (hF.ev rfl) (hF.evs rfl)) (at_place 8 hS rfl (fun h => wCancelNo_i (t := e.timer) h hnf)) ?_
                          clear hS; rintro e w ⟨rfl, hS⟩
                          refine ⟨_, rfl, ?_⟩; clear hF; intro a hF
                          refine s_done ?_
                          refine sure_in ?_
                          refine hK27 _ _ ?_; clear hK27
                          refine wr_region rfl ?_
                          refine s_rd hF rfl rfl rfl (by exact rd_load pl41 (hF.ev rfl) (hS.cellL (i := 10) rfl rfl)) ?_; clear hF; intro a hF
                          refine s_pu hF rfl rfl rfl (pu_move (hF.ev rfl)) ?_; clear hF; intro a hF
                          refine s_en hF rfl rfl rfl (run_fn fk27 (hF.ev rfl) (hF.evs rfl)) (at_place 6 hS rfl (fun h => rCancel_no (t := e.timer) h (by omega) hnf)) ?_
                          clear hS; rintro e w ⟨rfl, hS⟩
                          refine ⟨_, rfl, ?_⟩; clear hF; intro a hF
                          refine s_done ?_
                          refine sure_in ?_
                          refine blk_normal ?_
                          exact ⟨Q, nw, ls, hq.more, by omega, hF.sub ⟨rfl, rfl, rfl, rfl, rfl, rfl, trivial⟩, hS.sel [2, 2, 2, 2, 2, 0, 1, 1, 0]⟩
                        · -- k2b
                          have henm : en ∈ Q := by rw [hP]; simp
                          have hb0 := hq.at_ en henm
                          have hrs := rising_split (hP ▸ hq.rising) hen
                          have hfl : Q.filter (fun x => !decide (x.timer = e.timer)) = A0 ++ B0 := by rw [hP]; exact hrs.1
                          refine wr_region rfl ?_
                          refine s_rd hF rfl rfl rfl (by exact rd_load pl38 (hF.ev rfl) (hS.cellL (i := 9) rfl rfl)) ?_; clear hF; intro a hF
                          refine s_pu hF rfl rfl rfl (pu_move (hF.ev rfl)) ?_; clear hF; intro a hF
                          refine s_en hF rfl rfl rfl (run_fn fk26 (hF.ev rfl) (hF.evs rfl)) (at_place 8 hS rfl (fun h => wCancel_i (t := e.timer) h hq.rising h01 henm hen hb0.1 hqroom)) ?_
                          clear hS; rintro e w ⟨rfl, hS⟩
                          refine ⟨_, rfl, ?_⟩; clear hF; intro a hF
                          refine s_done ?_
                          refine sure_in ?_
                          refine hK27 _ _ ?_; clear hK27
                          refine wr_region rfl ?_
                          refine s_rd hF rfl rfl rfl (by exact rd_load pl41 (hF.ev rfl) (hS.cellL (i := 10) rfl rfl)) ?_; clear hF; intro a hF
                          refine s_pu hF rfl rfl rfl (pu_move (hF.ev rfl)) ?_; clear hF; intro a hF
                          refine s_en hF rfl rfl rfl (run_fn fk27 (hF.ev rfl) (hF.evs rfl)) (at_place 6 hS rfl (fun h => rCancel_c (t := e.timer) h (by omega) hP hA hen)) ?_
                          clear hS; rintro e w ⟨rfl, hS⟩
                          refine ⟨_, rfl, ?_⟩; clear hF; intro a hF
                          refine s_done ?_
                          refine sure_in ?_
                          refine blk_normal ?_
                          replace hS := hS.sel [2, 2, 2, 2, 2, 0, 1, 1, 0]
                          simp only [selR, nth, del] at hS
                          rw [hfl] at hS
                          exact ⟨A0 ++ B0, nw, ls, hfl ▸ hq.more.filter _, by omega, hF.sub ⟨rfl, rfl, rfl, rfl, rfl, rfl, trivial⟩, hS⟩
                      · -- cond 9 false
                        try simp only [decide_eq_true_eq, decide_eq_false_iff_not, Bool.not_eq_true', Bool.not_eq_false', Int.not_lt, Int.not_le, ne_eq, Decidable.not_not, Bool.or_eq_true, Bool.or_eq_false_iff, Bool.and_eq_true, Bool.and_eq_false_imp] at hc9
                        refine wpIn_seq_k fun K27 hK27 => ?_
                        refine wr_region rfl ?_
                        refine s_pu hF rfl rfl rfl (pu_eql (hF.ev rfl) (hF.ev rfl)) ?_; clear hF; intro a hF
                        refine s_pu hF rfl rfl rfl (pu_assign (hF.ev rfl)) ?_; clear hF; intro a hF
                        refine s_done ?_
                        refine sure_in ?_
                        refine hK27 _ _ ?_; clear hK27
                        refine wpIn_cond_split (hF.ev rfl) (fun hc10 => ?_) (fun hc10 => ?_)
                        · -- cond 10 true
                          try simp only [decide_eq_true_eq, decide_eq_false_iff_not, Bool.not_eq_true', Bool.not_eq_false', Int.not_lt, Int.not_le, ne_eq, Decidable.not_not, Bool.or_eq_true, Bool.or_eq_false_iff, Bool.and_eq_true, Bool.and_eq_false_imp] at hc10
                          refine wpIn_seq_k fun K28 hK28 => ?_
                          refine wr_region rfl ?_
                          refine s_rd hF rfl rfl rfl (by exact rd_load pl3 (hF.ev rfl) (hS.cellL (i := 2) rfl rfl)) ?_; clear hF; intro a hF
                          refine s_pu hF rfl rfl rfl ((by exact pu_add64 (hF.ev rfl) (hF.ev rfl) (by omega))) ?_; clear hF; intro a hF
                          refine s_rd hF rfl rfl rfl (by exact rd_load pl51 (hF.ev rfl) (hS.cellL (i := 3) rfl rfl)) ?_; clear hF; intro a hF
                          refine s_pu hF rfl rfl rfl (pu_len sl51 (hF.ev rfl)) ?_; clear hF; intro a hF
                          refine s_pu hF rfl rfl rfl (pu_lss (hF.ev rfl) (hF.ev rfl)) ?_; clear hF; intro a hF
                          refine s_done ?_
                          refine sure_in ?_
                          refine hK28 _ _ ?_; clear hK28
                          refine wpIn_cond_split (hF.ev rfl) (fun hc11 => ?_) (fun hc11 => ?_)
                          · -- cond 11 true
                            try simp only [decide_eq_true_eq, decide_eq_false_iff_not, Bool.not_eq_true', Bool.not_eq_false', Int.not_lt, Int.not_le, ne_eq, Decidable.not_not, Bool.or_eq_true, Bool.or_eq_false_iff, Bool.and_eq_true, Bool.and_eq_false_imp] at hc11
                            have hk1 : k + 1 < P.length := by omega
                            obtain ⟨e2, he2⟩ : ∃ e2, (sortE P)[k + 1]? = some e2 := ⟨(sortE P)[k + 1]'(by omega), List.getElem?_eq_getElem _⟩
                            refine wpIn_seq_k fun K29 hK29 => ?_
                            rcases find_case Q e2.timer with hnf | ⟨A0, en, B0, hP, hA, hen⟩
                            · -- k3a
                              refine wr_start (S := (fun w => Sat W w _)) (ds := [7]) (ord := [(0, .tk), (1, .tk), (2, .tk), (3, .pu), (4, .pu), (5, .pu), (6, .tk), (7, .ls)]) rfl mixed ⟨by kernel_rfl, fun _ d _ _ _ h => by cases d <;> exact h⟩ hS.drew fun hD => ?_
                              replace hS := hS.drew; generalize w.drew = w at hS ⊢
                              refine d_rd hD hF rfl rfl rfl rfl rfl hS (fun w hS => (by exact rd_load pl38 (hF.ev rfl) (hS.cellL (i := 9) rfl rfl))) ?_; clear hF; intro a hF
                              refine d_rd hD hF rfl rfl rfl rfl rfl hS (fun w hS => (by exact rd_load pl51 (hF.ev rfl) (hS.cellL (i := 3) rfl rfl))) ?_; clear hF; intro a hF
                              refine d_rd hD hF rfl rfl rfl rfl rfl hS (fun w hS => (by exact rd_load pl3 (hF.ev rfl) (hS.cellL (i := 2) rfl rfl))) ?_; clear hF; intro a hF
                              refine d_pu hD hF rfl rfl rfl rfl rfl ((by exact pu_add64 (hF.ev rfl) (hF.ev rfl) (by omega))) ?_; clear hF; intro a hF
                              refine d_pu hD hF rfl rfl rfl rfl rfl ((by exact pu_elem sl51 (hF.ev rfl) (hF.ev rfl) (by omega) (by omega))) ?_; clear hF; intro a hF
                              refine d_pu hD hF rfl rfl rfl rfl rfl ((by exact pu_field fd62_0 (hF.ev rfl))) ?_; clear hF; intro a hF
                              refine d_rd hD hF rfl rfl rfl rfl rfl hS (fun w hS => rd_load pl3 (hF.ev rfl) (row_load (i := 4) (k := k + 1) hS rfl (by omega) (entCells_at he2) 0 _ rfl)) ?_; clear hF; intro a hF
                              refine l_en hD hF rfl rfl rfl rfl rfl (run_fn fk26 (hF.ev rfl) (hF.evs rfl)) (at_place 8 hS rfl (fun h => wCancelNo_i (t := e2.timer) h hnf)) ?_
                              clear hS; rintro e w ⟨rfl, hS⟩
                              refine ⟨_, rfl, ?_⟩; clear hF; intro a hF
                              refine d_done hD rfl ?_; clear hD
                              refine sure_in ?_
                              refine hK29 _ _ ?_; clear hK29
                              refine wr_start (S := (fun w => Sat W w _)) (ds := [7]) (ord := [(0, .tk), (1, .tk), (2, .tk), (3, .pu), (4, .pu), (5, .pu), (6, .tk), (7, .ls)]) rfl mixed ⟨by kernel_rfl, fun _ d _ _ _ h => by cases d <;> exact h⟩ hS.drew fun hD => ?_
                              replace hS := hS.drew; generalize w.drew = w at hS ⊢
                              refine d_rd hD hF rfl rfl rfl rfl rfl hS (fun w hS => (by exact rd_load pl41 (hF.ev rfl) (hS.cellL (i := 10) rfl rfl))) ?_; clear hF; intro a hF
                              refine d_rd hD hF rfl rfl rfl rfl rfl hS (fun w hS => (by exact rd_load pl51 (hF.ev rfl) (hS.cellL (i := 4) rfl rfl))) ?_; clear hF; intro a hF
                              refine d_rd hD hF rfl rfl rfl rfl rfl hS (fun w hS => (by exact rd_load pl3 (hF.ev rfl) (hS.cellL (i := 3) rfl rfl))) ?_; clear hF; intro a hF
                              refine d_pu hD hF rfl rfl rfl rfl rfl ((by exact pu_add64 (hF.ev rfl) (hF.ev rfl) (by omega))) ?_; clear hF; intro a hF
                              refine d_pu hD hF rfl rfl rfl rfl rfl ((by exact pu_elem sl51 (hF.ev rfl) (hF.ev rfl) (by omega) (by omega))) ?_; clear hF; intro a hF
                              refine d_pu hD hF rfl rfl rfl rfl rfl ((by exact pu_field fd62_0 (hF.ev rfl))) ?_; clear hF; intro a hF
                              refine d_rd hD hF rfl rfl rfl rfl rfl hS (fun w hS => rd_load pl3 (hF.ev rfl) (row_load (i := 5) (k := k + 1) hS rfl (by omega) (entCells_at he2) 0 _ rfl)) ?_; clear hF; intro a hF
                              refine l_en hD hF rfl rfl rfl rfl rfl (run_fn fk27 (hF.ev rfl) (hF.evs rfl)) (at_place 6 hS rfl (fun h => rCancel_no (t := e2.timer) h (by omega) hnf)) ?_
                              clear hS; rintro e w ⟨rfl, hS⟩
                              refine ⟨_, rfl, ?_⟩; clear hF; intro a hF
                              refine d_done hD rfl ?_; clear hD
                              refine sure_in ?_
                              refine blk_normal ?_
                              exact ⟨Q, nw, ls, hq.more, by omega, hF.sub ⟨rfl, rfl, rfl, rfl, rfl, rfl, trivial⟩, hS.sel [2, 2, 2, 2, 2, 0, 1, 1, 0]⟩
                            · -- k3b
                              have henm : en ∈ Q := by rw [hP]; simp
                              have hb0 := hq.at_ en henm
                              have hrs := rising_split (hP ▸ hq.rising) hen
                              have hfl : Q.filter (fun x => !decide (x.timer = e2.timer)) = A0 ++ B0 := by rw [hP]; exact hrs.1
                              refine wr_start (S := (fun w => Sat W w _)) (ds := [7]) (ord := [(0, .tk), (1, .tk), (2, .tk), (3, .pu), (4, .pu), (5, .pu), (6, .tk), (7, .ls)]) rfl mixed ⟨by kernel_rfl, fun _ d _ _ _ h => by cases d <;> exact h⟩ hS.drew fun hD => ?_
                              replace hS := hS.drew; generalize w.drew = w at hS ⊢
                              refine d_rd hD hF rfl rfl rfl rfl rfl hS (fun w hS => (by exact rd_load pl38 (hF.ev rfl) (hS.cellL (i := 9) rfl rfl))) ?_; clear hF; intro a hF
                              refine d_rd hD hF rfl rfl rfl rfl rfl hS (fun w hS => (by exact rd_load pl51 (hF.ev rfl) (hS.cellL (i := 3) rfl rfl))) ?_; clear hF; intro a hF
                              refine d_rd hD hF rfl rfl rfl rfl rfl hS (fun w hS => (by exact rd_load pl3 (hF.ev rfl) (hS.cellL (i := 2) rfl rfl))) ?_; clear hF; intro a hF
                              refine d_pu hD hF rfl rfl rfl rfl rfl ((by exact pu_add64 (hF.ev rfl) (hF.ev rfl) (by omega))) ?_; clear hF; intro a hF
                              refine d_pu hD hF rfl rfl rfl rfl rfl ((by exact pu_elem sl51 (hF.ev rfl) (hF.ev rfl) (by omega) (by omega))) ?_; clear hF; intro a hF
                              refine d_pu hD hF rfl rfl rfl rfl rfl ((by exact pu_field fd62_0 (hF.ev rfl))) ?_; clear hF; intro a hF
                              refine d_rd hD hF rfl rfl rfl rfl rfl hS (fun w hS => rd_load pl3 (hF.ev rfl) (row_load (i := 4) (k := k + 1) hS rfl (by omega) (entCells_at he2) 0 _ rfl)) ?_; clear hF; intro a hF
                              refine l_en hD hF rfl rfl rfl rfl rfl (run_fn fk26 (hF.ev rfl) (hF.evs rfl)) (at_place 8 hS rfl (fun h => wCancel_i (t := e2.timer) h hq.rising h01 henm hen hb0.1 hqroom)) ?_
                              clear hS; rintro e w ⟨rfl, hS⟩
                              refine ⟨_, rfl, ?_⟩; clear hF; intro a hF
                              refine d_done hD rfl ?_; clear hD
                              refine sure_in ?_
                              refine hK29 _ _ ?_; clear hK29
                              refine wr_start (S := (fun w => Sat W w _)) (ds := [7]) (ord := [(0, .tk), (1, .tk), (2, .tk), (3, .pu), (4, .pu), (5, .pu), (6, .tk), (7, .ls)]) rfl mixed ⟨by kernel_rfl, fun _ d _ _ _ h => by cases d <;> exact h⟩ hS.drew fun hD => ?_
                              replace hS := hS.drew; generalize w.drew = w at hS ⊢
                              refine d_rd hD hF rfl rfl rfl rfl rfl hS (fun w hS => (by exact rd_load pl41 (hF.ev rfl) (hS.cellL (i := 10) rfl rfl))) ?_; clear hF; intro a hF
                              refine d_rd hD hF rfl rfl rfl rfl rfl hS (fun w hS => (by exact rd_load pl51 (hF.ev rfl) (hS.cellL (i := 4) rfl rfl))) ?_; clear hF; intro a hF
                              refine d_rd hD hF rfl rfl rfl rfl rfl hS (fun w hS => (by exact rd_load pl3 (hF.ev rfl) (hS.cellL (i := 3) rfl rfl))) ?_; clear hF; intro a hF
                              refine d_pu hD hF rfl rfl rfl rfl rfl ((by exact pu_add64 (hF.ev rfl) (hF.ev rfl) (by omega))) ?_; clear hF; intro a hF
                              refine d_pu hD hF rfl rfl rfl rfl rfl ((by exact pu_elem sl51 (hF.ev rfl) (hF.ev rfl) (by omega) (by omega))) ?_; clear hF; intro a hF
                              refine d_pu hD hF rfl rfl rfl rfl rfl ((by exact pu_field fd62_0 (hF.ev rfl))) ?_; clear hF; intro a hF
                              refine d_rd hD hF rfl rfl rfl rfl rfl hS (fun w hS => rd_load pl3 (hF.ev rfl) (row_load (i := 5) (k := k + 1) hS rfl (by omega) (entCells_at he2) 0 _ rfl)) ?_; clear hF; intro a hF
                              refine l_en hD hF rfl rfl rfl rfl rfl (run_fn fk27 (hF.ev rfl) (hF.evs rfl)) (at_place 6 hS rfl (fun h => rCancel_c (t := e2.timer) h (by omega) hP hA hen)) ?_
                              clear hS; rintro e w ⟨rfl, hS⟩
                              refine ⟨_, rfl, ?_⟩; clear hF; intro a hF
                              refine d_done hD rfl ?_; clear hD
                              refine sure_in ?_
                              refine blk_normal ?_
                              replace hS := hS.sel [2, 2, 2, 2, 2, 0, 1, 1, 0]
                              simp only [selR, nth, del] at hS
                              rw [hfl] at hS
                              exact ⟨A0 ++ B0, nw, ls, hfl ▸ hq.more.filter _, by omega, hF.sub ⟨rfl, rfl, rfl, rfl, rfl, rfl, trivial⟩, hS⟩
                          · -- cond 11 false
                            try simp only [decide_eq_true_eq, decide_eq_false_iff_not, Bool.not_eq_true', Bool.not_eq_false', Int.not_lt, Int.not_le, ne_eq, Decidable.not_not, Bool.or_eq_true, Bool.or_eq_false_iff, Bool.and_eq_true, Bool.and_eq_false_imp] at hc11
                            refine wpIn_skip ?_
                            refine blk_normal ?_
                            exact ⟨Q, nw, ls, hq.more, by omega, hF.sub ⟨rfl, rfl, rfl, rfl, rfl, rfl, trivial⟩, hS⟩
                        · -- cond 10 false
                          try simp only [decide_eq_true_eq, decide_eq_false_iff_not, Bool.not_eq_true', Bool.not_eq_false', Int.not_lt, Int.not_le, ne_eq, Decidable.not_not, Bool.or_eq_true, Bool.or_eq_false_iff, Bool.and_eq_true, Bool.and_eq_false_imp] at hc10
                          refine wpIn_seq_k fun K28 hK28 => ?_
                          refine wr_region rfl ?_
                          refine s_pu hF rfl rfl rfl (pu_eql (hF.ev rfl) (hF.ev rfl)) ?_; clear hF; intro a hF
                          refine s_pu hF rfl rfl rfl (pu_assign (hF.ev rfl)) ?_; clear hF; intro a hF
                          refine s_done ?_
                          refine sure_in ?_
                          refine hK28 _ _ ?_; clear hK28
                          refine wpIn_cond_split (hF.ev rfl) (fun hc12 => ?_) (fun hc12 => ?_)
                          · -- cond 12 true
                            try simp only [decide_eq_true_eq, decide_eq_false_iff_not, Bool.not_eq_true', Bool.not_eq_false', Int.not_lt, Int.not_le, ne_eq, Decidable.not_not, Bool.or_eq_true, Bool.or_eq_false_iff, Bool.and_eq_true, Bool.and_eq_false_imp] at hc12
                            refine wpIn_seq_k fun K29 hK29 => ?_
                            · -- k4
                              refine wr_region rfl ?_
                              refine s_rd hF rfl rfl rfl (by exact rd_load pl38 (hF.ev rfl) (hS.cellL (i := 9) rfl rfl)) ?_; clear hF; intro a hF
                              replace hS := hS.front 8 rfl
                              simp only [del] at hS
                              refine s_en hF rfl rfl rfl (run_fn fk28 (hF.ev rfl) (hF.evs rfl)) (wTick_i hS hq.rising h01 hqn (by omega) hqroom) ?_
                              clear hS; rintro e w ⟨A1, c1, rfl, hS⟩
                              refine ⟨_, rfl, ?_⟩; clear hF; intro a hF
                              refine s_done ?_
                              refine sure_in ?_
                              refine hK29 _ _ ?_; clear hK29
                              refine wr_region rfl ?_
                              refine s_rd hF rfl rfl rfl (by exact rd_load pl41 (hF.ev rfl) (hS.cellL (i := 11) rfl rfl)) ?_; clear hF; intro a hF
                              replace hS := hS.front 7 rfl
                              simp only [del] at hS
                              refine s_en hF rfl rfl rfl (run_fn fk29 (hF.ev rfl) (hF.evs rfl)) (rTick_c hS (by omega) hqn (by omega)) ?_
                              clear hS; rintro e w ⟨A2, c2, rfl, hS⟩
                              refine ⟨_, rfl, ?_⟩; clear hF; intro a hF
                              refine s_done ?_
                              refine sure_in ?_
                              refine blk_normal ?_
                              exact ⟨_, nw + 1, ls, hq.more.ring, by omega, hF.sub ⟨rfl, rfl, rfl, rfl, rfl, rfl, trivial⟩, (hS.tail.drop 1).sel [2, 2, 2, 2, 2, 0, 1, 1, 0]⟩
                          · -- cond 12 false
                            try simp only [decide_eq_true_eq, decide_eq_false_iff_not, Bool.not_eq_true', Bool.not_eq_false', Int.not_lt, Int.not_le, ne_eq, Decidable.not_not, Bool.or_eq_true, Bool.or_eq_false_iff, Bool.and_eq_true, Bool.and_eq_false_imp] at hc12
                            refine wpIn_seq_k fun K29 hK29 => ?_
                            refine wr_region rfl ?_
                            refine s_pu hF rfl rfl rfl (pu_eql (hF.ev rfl) (hF.ev rfl)) ?_; clear hF; intro a hF
                            refine s_pu hF rfl rfl rfl (pu_assign (hF.ev rfl)) ?_; clear hF; intro a hF
                            refine s_done ?_
                            refine sure_in ?_
                            refine hK29 _ _ ?_; clear hK29
                            refine wpIn_cond_split (hF.ev rfl) (fun hc13 => ?_) (fun hc13 => ?_)
                            · -- cond 13 true
                              try simp only [decide_eq_true_eq, decide_eq_false_iff_not, Bool.not_eq_true', Bool.not_eq_false', Int.not_lt, Int.not_le, ne_eq, Decidable.not_not, Bool.or_eq_true, Bool.or_eq_false_iff, Bool.and_eq_true, Bool.and_eq_false_imp] at hc13
                              refine wpIn_seq_k fun K30 hK30 => ?_
                              · -- k5
                                replace hS := hS.sel [9, 9, 2]
                                simp only [selR, nth, del] at hS
                                refine wr_start (S := (fun w => Sat W w [_, _, _])) (ds := [5]) (ord := [(0, .tk), (1, .tk), (3, .tk), (4, .pu), (2, .on), (5, .ls), (6, .pu)]) rfl mixed ⟨by kernel_rfl, fun _ d _ _ _ h => by cases d <;> exact h⟩ (hS.left (C := [_, _, _])).drew fun hD => ?_
                                replace hS := hS.drew; generalize w.drew = w at hS ⊢
                                refine d_rd hD hF rfl rfl rfl rfl rfl (by exact hS.left (C := [_, _, _])) (fun w hS => (by exact rd_load pl38 (hF.ev rfl) (hS.cellL (i := 0) rfl rfl))) ?_; clear hF; intro a hF
                                refine d_rd hD hF rfl rfl rfl rfl rfl (by exact hS.left (C := [_, _, _])) (fun w hS => (by exact rd_load pl41 (hF.ev rfl) (hS.cellL (i := 1) rfl rfl))) ?_; clear hF; intro a hF
                                refine d_rd hD hF rfl rfl rfl rfl rfl (by exact hS.left (C := [_, _, _])) (fun w hS => (by exact rd_load pl3 (hF.ev rfl) (hS.cellL (i := 2) rfl rfl))) ?_; clear hF; intro a hF
                                refine d_pu hD hF rfl rfl rfl rfl rfl (pu_rem64 (hF.ev rfl) (hF.ev rfl) (by omega)) ?_; clear hF; intro a hF
                                replace hS := hS.front 7 rfl
                                simp only [del] at hS
                                refine d_en hD hF rfl rfl rfl rfl rfl (run_fn fk22 (hF.ev rfl) (hF.evs rfl)) (rAll_c hS hq.rising (by omega)) ?_
                                clear hS; rintro e w ⟨A3, c3, rfl, hS⟩
                                refine ⟨_, rfl, hS.tail.tail.left (C := [_, _, _]), ?_⟩; clear hF; intro a hF
                                replace hS := hS.sel [11, 0]
                                simp only [selR, nth, del] at hS
                                refine l_en hD hF rfl rfl rfl rfl rfl (run_fn fk21 (hF.ev rfl) (hF.evs rfl)) (goes_c hS hq.nums h01 h02 hq.rising hqroom) ?_
                                clear hS; rintro e w ⟨rfl, hS⟩
                                refine ⟨_, rfl, ?_⟩; clear hF; intro a hF
                                refine d_pu hD hF rfl rfl rfl rfl rfl (pu_assign (hF.ev rfl)) ?_; clear hF; intro a hF
                                refine d_done hD rfl ?_; clear hD
                                refine sure_in ?_
                                refine hK30 _ _ ?_; clear hK30
                                refine wpIn_seq_k fun K31 hK31 => ?_
                                refine wr_region rfl ?_
                                refine s_pu hF rfl rfl rfl (pu_move (hF.ev rfl)) ?_; clear hF; intro a hF
                                refine s_pu hF rfl rfl rfl (pu_not (hF.ev rfl)) ?_; clear hF; intro a hF
                                refine s_done ?_
                                refine sure_in ?_
                                refine hK31 _ _ ?_; clear hK31
                                refine wpIn_cond_false (hF.ev rfl) ?_
                                refine wpIn_skip ?_
                                refine blk_normal ?_
                                exact ⟨Q, nw, ls, hq.more, by omega, hF.sub ⟨rfl, rfl, rfl, rfl, rfl, rfl, trivial⟩, (hS.drop 1).sel [5, 5, 4, 4, 4, 1, 3, 3, 0]⟩
                            · -- cond 13 false
                              try simp only [decide_eq_true_eq, decide_eq_false_iff_not, Bool.not_eq_true', Bool.not_eq_false', Int.not_lt, Int.not_le, ne_eq, Decidable.not_not, Bool.or_eq_true, Bool.or_eq_false_iff, Bool.and_eq_true, Bool.and_eq_false_imp] at hc13
                              refine wpIn_skip ?_
                              refine blk_normal ?_
                              exact ⟨Q, nw, ls, hq.more, by omega, hF.sub ⟨rfl, rfl, rfl, rfl, rfl, rfl, trivial⟩, hS⟩
                  · -- behind the join s38
                    clear hS hF
                    rintro a w ⟨Q', nw', ls', hq', hnq', hF, hS⟩
                    refine wr_region rfl ?_
                    refine s_rd hF rfl rfl rfl (by exact rd_load pl3 (hF.ev rfl) (hS.cellL (i := 2) rfl rfl)) ?_; clear hF; intro a hF
                    refine s_pu hF rfl rfl rfl ((by exact pu_add64 (hF.ev rfl) (hF.ev rfl) (by omega))) ?_; clear hF; intro a hF
                    ((refine s_store (vs := [_]) (cs' := #[_]) 2 hF rfl (hF.ev rfl) (hF.ev rfl) hS rfl rfl sz3 (by rfl) (by exact Nat.le_of_ble_eq_true rfl) rfl ?_))
                    clear hS; intro w hS; (try simp only [upd, del] at hS)
                    refine s_done ?_
                    refine sure_in ?_
                    refine blk_normal ?_
                    exact ⟨(k + 1, Q', nw', ls'), ⟨rfl, hq', by show nw' ≤ (K : Int) + ((k + 1 : Nat) : Int); omega⟩, hS⟩
        · -- behind g0
          clear hF hS; intro d0 a w s0 hs0 hF hS
          obtain ⟨k, Q, nw, ls⟩ := s0
          obtain ⟨hk, hq, hnq⟩ := hs0
          simp only at hk hq hnq hS
          subst hk
          refine blk_normal ?_
          refine hK16 _ _ ?_; clear hK16
          refine wpIn_seq_k fun K18 hK18 => ?_
          refine wr_region rfl ?_
          refine s_rd hF rfl rfl rfl (by exact rd_load pl3 (hF.ev rfl) (hS.cellL (i := 1) rfl rfl)) ?_; clear hF; intro a hF
          refine s_rd hF rfl rfl rfl (by exact rd_load pl51 (hF.ev rfl) (hS.cellL (i := 2) rfl rfl)) ?_; clear hF; intro a hF
          refine s_pu hF rfl rfl rfl (pu_len sl51 (hF.ev rfl)) ?_; clear hF; intro a hF
          refine s_pu hF rfl rfl rfl (pu_neq (hF.ev rfl) (hF.ev rfl)) ?_; clear hF; intro a hF
          refine s_done ?_
          refine sure_in ?_
          refine hK18 _ _ ?_; clear hK18
          refine wpIn_cond_split (hF.ev rfl) (fun hc15 => ?_) (fun hc15 => ?_)
          · -- cond 15 true
            try simp only [decide_eq_true_eq, decide_eq_false_iff_not, Bool.not_eq_true', Bool.not_eq_false', Int.not_lt, Int.not_le, ne_eq, Decidable.not_not, Bool.or_eq_true, Bool.or_eq_false_iff, Bool.and_eq_true, Bool.and_eq_false_imp] at hc15
            simp at hc15
          · -- cond 15 false
            try simp only [decide_eq_true_eq, decide_eq_false_iff_not, Bool.not_eq_true', Bool.not_eq_false', Int.not_lt, Int.not_le, ne_eq, Decidable.not_not, Bool.or_eq_true, Bool.or_eq_false_iff, Bool.and_eq_true, Bool.and_eq_false_imp] at hc15
            refine wpIn_skip ?_
            refine blk_normal ?_
            refine hK13 _ _ ?_; clear hK13
            refine wr_region rfl ?_
            refine s_pu hF rfl rfl rfl (pu_move (hF.ev rfl)) ?_; clear hF; intro a hF
            refine s_pu hF rfl rfl rfl ((by exact pu_add64 (hF.ev rfl) (hF.ev rfl) (by omega))) ?_; clear hF; intro a hF
            refine s_pu hF rfl rfl rfl (pu_assign (hF.ev rfl)) ?_; clear hF; intro a hF
            refine s_done ?_
            refine sure_in ?_
            replace hS := hS.sel [0, 4, 4, 4, 3]
            simp only [selR, nth, del] at hS
            replace hS := ((hS.drop 5).drop 5).drop 5
            simp only [del] at hS
            replace hS := sat_star.1 (hS.front 1 rfl)
            exact ⟨2 - (t + 1), by omega, t + 1, Q, nw, ls, d0 :: ds, K + P.length, rfl, by omega, hq, by omega, by omega, hF.sub ⟨rfl, rfl, rfl, rfl, rfl, rfl, trivial⟩, sat_star.2 (hS.perm List.perm_middle)⟩
        · -- g0 is left
          clear hF hS; intro d0 a w t0 ht0 hF hS
          exact ht0.elim
      · -- cond 5 false
        try simp only [decide_eq_true_eq, decide_eq_false_iff_not, Bool.not_eq_true', Bool.not_eq_false', Int.not_lt, Int.not_le, ne_eq, Decidable.not_not, Bool.or_eq_true, Bool.or_eq_false_iff, Bool.and_eq_true, Bool.and_eq_false_imp] at hc5
        refine wpIn_exit ?_
        refine then_exit ?_
        refine then_exit ?_
        refine blk_exit ?_
        refine hK9 _ _ ?_; clear hK9
        refine wpIn_seq_k fun K13 hK13 => ?_
        replace hS := hS.sel [4, 4]
        simp only [selR, nth, del] at hS
        refine wr_start (S := (fun w => Sat W w [_, _])) (ds := [4]) (ord := [(0, .tk), (1, .tk), (2, .on), (3, .on), (4, .ls)]) rfl mixed ⟨by kernel_rfl, fun _ d _ _ _ h => by cases d <;> exact h⟩ (hS.left (C := [_, _])).drew fun hD => ?_
        replace hS := hS.drew; generalize w.drew = w at hS ⊢
        refine d_rd hD hF rfl rfl rfl rfl rfl (by exact hS.left (C := [_, _])) (fun w hS => (by exact rd_load pl38 (hF.ev rfl) (hS.cellL (i := 0) rfl rfl))) ?_; clear hF; intro a hF
        refine d_rd hD hF rfl rfl rfl rfl rfl (by exact hS.left (C := [_, _])) (fun w hS => (by exact rd_load pl41 (hF.ev rfl) (hS.cellL (i := 1) rfl rfl))) ?_; clear hF; intro a hF
        replace hS := hS.front 5 rfl
        simp only [del] at hS
        refine d_en hD hF rfl rfl rfl rfl rfl (run_fn fk22 (hF.ev rfl) (hF.evs rfl)) (rAll_c hS hp.rising (by omega)) ?_
        clear hS; rintro e w ⟨A3, c3, rfl, hS⟩
        refine ⟨_, rfl, hS.tail.tail.left (C := [_, _]), ?_⟩; clear hF; intro a hF
        replace hS := hS.sel [6, 0]
        simp only [selR, nth, del] at hS
        refine d_en hD hF rfl rfl rfl rfl rfl (run_fn fk21 (hF.ev rfl) (hF.evs rfl)) (goes_c hS hp.nums h01 h02 hp.rising hroom) ?_
        clear hS; rintro e w ⟨rfl, hS⟩
        refine ⟨_, rfl, hS.tail.tail.tail.left (C := [_, _]), ?_⟩; clear hF; intro a hF
        ((refine l_store (vs := [_]) (cs' := #[_]) 8 hD hF rfl rfl rfl (hF.ev rfl) (hF.ev rfl) hS rfl rfl sz4 (by rfl) (by exact Nat.le_of_ble_eq_true rfl) rfl ?_))
        clear hS; intro w hS; (try simp only [upd, del] at hS)
        refine d_done hD rfl ?_; clear hD
        refine sure_in ?_
        replace hS := hS.sel [5]
        simp only [selR, nth, del] at hS
        replace hS := sat_star.1 hS
        refine hK13 _ _ ?_; clear hK13
        refine wpIn_ret ?_
        refine finM_ret hF hS (fun w hS => ⟨_, resc1 Try.results5 hF rfl (holds_cell pl4 (hS.cellL (i := 7) rfl rfl)), ?_⟩)
        exact ⟨by simp, (hS.front 8 rfl).below⟩
end Go.Proofs.Ytbpkfifiigpdcaa
