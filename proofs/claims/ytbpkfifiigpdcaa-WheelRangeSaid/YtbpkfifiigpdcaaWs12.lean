import Derived.Test.YtbpkfifiigpdcaaWs11
/-! WheelSlots: the walk. -/
namespace Go.Proofs.Ytbpkfifiigpdcaa
open Go Go.RowKit Go.Proofs.Ytbpkfifiigpdcaa.Sk
set_option linter.unusedVariables false
set_option linter.unusedSimpArgs false
set_option maxRecDepth 100000

/-- The numbers of all that wait, a pair for each. -/
def pairs : List Ent → List Value
  | [] => []
  | e :: l => .int .i64 e.timer :: e.v :: pairs l
theorem pairs_len (l : List Ent) : (pairs l).length = l.length * 2 := by
  induction l with
  | nil => rfl
  | cons e l ih => simp [pairs, ih]; omega
theorem pairs_snoc (l : List Ent) (e : Ent) : pairs (l ++ [e]) = pairs l ++ [.int .i64 e.timer, e.v] := by
  induction l with
  | nil => rfl
  | cons x l ih => simp [pairs, ih]
theorem pairs_at {l : List Ent} {k : Nat} {e : Ent} (h : l[k]? = some e) : (pairs l)[k * 2]? = some (.int .i64 e.timer) ∧ (pairs l)[k * 2 + 1]? = some e.v := by
  induction l generalizing k with
  | nil => simp at h
  | cons x l ih =>
    cases k with
    | zero => simp at h; subst h; exact ⟨rfl, rfl⟩
    | succ k =>
      have := ih (k := k) (by simpa using h)
      rw [show (k + 1) * 2 = k * 2 + 1 + 1 by omega]
      simpa [pairs] using this
theorem POk.upto {P : List Ent} {now last : Int} {K M : Nat} (h : POk P now last K) (hM : K ≤ M) : POk P now last M := ⟨h.rising, h.nums, by have := h.len; omega, h.l0, by have := h.l1; omega, h.n0, h.at_⟩
set_option maxHeartbeats 2000000 in
theorem wheelSlots_walk (W : World) (x0 : Int) (hx0 : (Lit.int .i64 x0).wf = true) (x1 : Int) (hx1 : (Lit.int .i64 x1).wf = true) (sa : Option Addr) (len cap : Nat) (ops : Nat → Op) (hin : CellsIn W sa len 3 (fun i => (ops i).cells)) (hlen : len * 24 ≤ 140737488351232) (hwf : ∀ i, (Lit.int .i64 (ops i).n).wf = true) :
    Calls Try.prog 6 #[.int .i64 x0, .int .i64 x1, .slice sa len cap] W fun e w' => e = .returned (.bool true) ∧ Below W.heap.size W w' := by
  have hS0 := sat_whole W
  obtain ⟨w, hw⟩ : ∃ w, w = W := ⟨_, rfl⟩
  have hS : Sat W w [whole W] := by rw [hw]; exact hS0
  rw [show Calls Try.prog 6 #[.int .i64 x0, .int .i64 x1, .slice sa len cap] W = Calls Try.prog 6 #[.int .i64 x0, .int .i64 x1, .slice sa len cap] w by rw [hw]]
  clear hw hS0
  obtain ⟨n0, hn0⟩ : ∃ n0 : Nat, (n0 : Int) = 1 + pickI x0 4096 := ⟨(1 + pickI x0 4096).toNat, by have := pick_bd x0 (n := 4096) (by omega); omega⟩
  obtain ⟨n1, hn1⟩ : ∃ n1 : Nat, (n1 : Int) = 1 + pickI x1 4096 := ⟨(1 + pickI x1 4096).toNat, by have := pick_bd x1 (n := 4096) (by omega); omega⟩
  have hb0 := pick_bd x0 (n := 4096) (by omega)
  have hb1 := pick_bd x1 (n := 4096) (by omega)
  have h01 : 1 ≤ n0 := by omega
  have h02 : n0 ≤ 4096 := by omega
  have h11 : 1 ≤ n1 := by omega
  have h12 : n1 ≤ 4096 := by omega
  refine enterM Try.func6 rfl Try.ntmps6 (Nat.le_of_ble_eq_true rfl) fun a hF => ?_
  refine wpIn_seq_k fun K0 hK0 => ?_
  refine wr_region rfl ?_
  refine s_newp hF rfl rfl rfl (ef_alloc (cs := #[_]) ze4 rfl) hS ?_; clear hF hS; intro b6 w hS a hF
  refine s_done ?_
  refine sure_in ?_
  refine hK0 _ _ ?_; clear hK0
  refine wpIn_seq_k fun K1 hK1 => ?_
  refine wr_region rfl ?_
  refine s_en hF rfl rfl rfl (run_fn fk7 (hF.ev rfl) (hF.evs rfl)) (examples_c hS) ?_
  clear hS; rintro e w ⟨rfl, hS⟩
  refine ⟨_, rfl, ?_⟩; clear hF; intro a hF
  refine s_pu hF rfl rfl rfl (pu_assign (hF.ev rfl)) ?_; clear hF; intro a hF
  refine s_done ?_
  refine sure_in ?_
  refine hK1 _ _ ?_; clear hK1
  refine wpIn_seq_k fun K2 hK2 => ?_
  refine wr_region rfl ?_
  refine s_pu hF rfl rfl rfl (pu_move (hF.ev rfl)) ?_; clear hF; intro a hF
  refine s_en hF rfl rfl rfl (run_fn fk9 (hF.ev rfl) (hF.evs rfl)) (pick_c hS (by omega) (wf64 hx0).1 (wf64 hx0).2) ?_
  clear hS; rintro e w ⟨rfl, hS⟩
  refine ⟨_, rfl, ?_⟩; clear hF; intro a hF
  refine s_pu hF rfl rfl rfl ((by exact pu_add64 (hF.ev rfl) (hF.ev rfl) (by omega))) ?_; clear hF; intro a hF
  rw [← hn0] at hF
  refine s_en hF rfl rfl rfl (run_fn fk15 (hF.ev rfl) (hF.evs rfl)) (wNew_i hS h01 h02) ?_
  clear hS; rintro e w ⟨ga, rfl, hS⟩
  refine ⟨_, rfl, ?_⟩; clear hF; intro a hF
  refine s_pu hF rfl rfl rfl (pu_move (hF.ev rfl)) ?_; clear hF; intro a hF
  refine s_pu hF rfl rfl rfl (pu_extract (hF.ev rfl) rfl) ?_; clear hF; intro a hF
  refine s_pu hF rfl rfl rfl (pu_extract (hF.ev rfl) rfl) ?_; clear hF; intro a hF
  refine s_pu hF rfl rfl rfl (pu_assign (hF.ev rfl)) ?_; clear hF; intro a hF
  refine s_pu hF rfl rfl rfl (pu_assign (hF.ev rfl)) ?_; clear hF; intro a hF
  refine s_done ?_
  refine sure_in ?_
  refine hK2 _ _ ?_; clear hK2
  refine wpIn_seq_k fun K3 hK3 => ?_
  refine wr_region rfl ?_
  refine s_pu hF rfl rfl rfl (pu_move (hF.ev rfl)) ?_; clear hF; intro a hF
  refine s_en hF rfl rfl rfl (run_fn fk9 (hF.ev rfl) (hF.evs rfl)) (pick_c hS (by omega) (wf64 hx1).1 (wf64 hx1).2) ?_
  clear hS; rintro e w ⟨rfl, hS⟩
  refine ⟨_, rfl, ?_⟩; clear hF; intro a hF
  refine s_pu hF rfl rfl rfl ((by exact pu_add64 (hF.ev rfl) (hF.ev rfl) (by omega))) ?_; clear hF; intro a hF
  rw [← hn1] at hF
  refine s_en hF rfl rfl rfl (run_fn fk15 (hF.ev rfl) (hF.evs rfl)) (wNew_i hS h11 h12) ?_
  clear hS; rintro e w ⟨gb, rfl, hS⟩
  refine ⟨_, rfl, ?_⟩; clear hF; intro a hF
  refine s_pu hF rfl rfl rfl (pu_move (hF.ev rfl)) ?_; clear hF; intro a hF
  refine s_pu hF rfl rfl rfl (pu_extract (hF.ev rfl) rfl) ?_; clear hF; intro a hF
  refine s_pu hF rfl rfl rfl (pu_extract (hF.ev rfl) rfl) ?_; clear hF; intro a hF
  refine s_pu hF rfl rfl rfl (pu_assign (hF.ev rfl)) ?_; clear hF; intro a hF
  refine s_pu hF rfl rfl rfl (pu_assign (hF.ev rfl)) ?_; clear hF; intro a hF
  refine s_done ?_
  refine sure_in ?_
  refine hK3 _ _ ?_; clear hK3
  refine wpIn_seq_k fun K4 hK4 => ?_
  refine wpIn_seq_k fun K5 hK5 => ?_
  refine wr_region rfl ?_
  refine s_pu hF rfl rfl rfl (pu_move (hF.ev rfl)) ?_; clear hF; intro a hF
  refine s_pu hF rfl rfl rfl (pu_not (hF.ev rfl)) ?_; clear hF; intro a hF
  refine s_pu hF rfl rfl rfl (pu_move (hF.ev rfl)) ?_; clear hF; intro a hF
  refine s_pu hF rfl rfl rfl (pu_move (hF.ev rfl)) ?_; clear hF; intro a hF
  refine s_pu hF rfl rfl rfl (pu_neq (hF.ev rfl) (hF.ev rfl)) ?_; clear hF; intro a hF
  refine s_pu hF rfl rfl rfl ((by exact pu_pick_f (hF.ev rfl) (hF.ev rfl))) ?_; clear hF; intro a hF
  refine s_pu hF rfl rfl rfl (pu_move (hF.ev rfl)) ?_; clear hF; intro a hF
  refine s_pu hF rfl rfl rfl (pu_move (hF.ev rfl)) ?_; clear hF; intro a hF
  refine s_pu hF rfl rfl rfl (pu_neq (hF.ev rfl) (hF.ev rfl)) ?_; clear hF; intro a hF
  refine s_pu hF rfl rfl rfl ((by exact pu_pick_f (hF.ev rfl) (hF.ev rfl))) ?_; clear hF; intro a hF
  refine s_pu hF rfl rfl rfl (pu_move (hF.ev rfl)) ?_; clear hF; intro a hF
  refine s_pu hF rfl rfl rfl (pu_move (hF.ev rfl)) ?_; clear hF; intro a hF
  refine s_pu hF rfl rfl rfl (pu_peq Try.underlying38 (hF.ev rfl) (hF.ev rfl)) ?_; clear hF; intro a hF
  refine s_pu hF rfl rfl rfl ((by exact pu_pick_f (hF.ev rfl) (hF.ev rfl))) ?_; clear hF; intro a hF
  refine s_pu hF rfl rfl rfl (pu_move (hF.ev rfl)) ?_; clear hF; intro a hF
  refine s_pu hF rfl rfl rfl (pu_move (hF.ev rfl)) ?_; clear hF; intro a hF
  refine s_pu hF rfl rfl rfl (pu_peq Try.underlying38 (hF.ev rfl) (hF.ev rfl)) ?_; clear hF; intro a hF
  refine s_pu hF rfl rfl rfl ((by exact pu_pick_f (hF.ev rfl) (hF.ev rfl))) ?_; clear hF; intro a hF
  refine s_done ?_
  refine sure_in ?_
  refine hK5 _ _ ?_; clear hK5
  refine wpIn_cond_false (hF.ev rfl) ?_
  refine wpIn_skip ?_
  refine hK4 _ _ ?_; clear hK4
  refine wr_seq_j (fun a w => ∃ (P : List Ent) (now last : Int), POk P now last 400 ∧ 
    Fr a 233 [(6, .pointer (some ⟨b6, 0, none⟩)), (8, .pointer (some ⟨ga, 0, none⟩)), (10, .pointer (some ⟨gb, 0, none⟩))] ∧
    Sat W w [whC_i ga n0 P now last, whC_i gb n1 P now last, .obj b6 (.cells #[.bool false] 4 (0, 0)), whole W]) ?_ ?_
  · -- up to the join s7
    refine wpIn_seq_k fun K7 hK7 => ?_
    refine wr_region rfl ?_
    refine s_pu hF rfl rfl rfl (pu_assign (hF.ev rfl)) ?_; clear hF; intro a hF
    refine s_done ?_
    refine sure_in ?_
    refine hK7 _ _ ?_; clear hK7
    refine wpIn_block ?_
    replace hS := hS.sel [1, 0]
    simp only [selR, nth, del] at hS
    refine wr_ind (fun j a' w => ∃ (i : Nat) (P : List Ent) (now last : Int), j = len - i ∧ i ≤ len ∧ i ≤ 400 ∧ POk P now last i ∧ now ≤ 51 * i ∧
      Fr a' 233 [(2, .slice sa len cap), (6, .pointer (some ⟨b6, 0, none⟩)), (8, .pointer (some ⟨ga, 0, none⟩)), (10, .pointer (some ⟨gb, 0, none⟩)), (12, .int .i64 i)] ∧
      Sat W w [whC_i ga n0 P now last, whC_i gb n1 P now last, .obj b6 (.cells #[.bool false] 4 (0, 0)), whole W]) len
      ⟨0, [], 0, 0, by omega, by omega, by omega, .nil, by omega, hF.sub ⟨rfl, rfl, rfl, rfl, rfl, trivial⟩, hS⟩ ?_
    clear hS hF
    rintro j a' w ⟨i, P, now, last, rfl, hi, hi4, hp, hnow, hF, hS⟩
    obtain ⟨kd, hkd⟩ : ∃ kd, kd = (ops i).kind := ⟨_, rfl⟩
    obtain ⟨N, hN⟩ : ∃ N, N = (ops i).n := ⟨_, rfl⟩
    have hNw := wf64 (hwf i)
    rw [← hN] at hNw
    refine wpIn_seq_k fun K8 hK8 => ?_
    refine wpIn_seq_k fun K9 hK9 => ?_
    refine wr_region rfl ?_
    refine s_pu hF rfl rfl rfl (pu_move (hF.ev rfl)) ?_; clear hF; intro a hF
    refine s_pu hF rfl rfl rfl (pu_move (hF.ev rfl)) ?_; clear hF; intro a hF
    refine s_pu hF rfl rfl rfl (pu_len sl37 (hF.ev rfl)) ?_; clear hF; intro a hF
    refine s_pu hF rfl rfl rfl (pu_lss (hF.ev rfl) (hF.ev rfl)) ?_; clear hF; intro a hF
    refine s_pu hF rfl rfl rfl (pu_move (hF.ev rfl)) ?_; clear hF; intro a hF
    refine fr_split hF (t := 73) rfl ?_ ?_
    · clear hF; intro hg73 hF   -- slot 73 true
      try simp only [decide_eq_true_eq, decide_eq_false_iff_not, Bool.not_eq_true', Bool.not_eq_false', Int.not_lt, Int.not_le, ne_eq, Decidable.not_not, Bool.or_eq_true, Bool.or_eq_false_iff, Bool.and_eq_true, Bool.and_eq_false_imp] at hg73
      refine s_pu hF rfl rfl rfl (pu_move (hF.ev rfl)) ?_; clear hF; intro a hF
      refine s_pu hF rfl rfl rfl (pu_lss (hF.ev rfl) (hF.ev rfl)) ?_; clear hF; intro a hF
      refine s_pu hF rfl rfl rfl ((by exact pu_pick_t (hF.ev rfl) (hF.ev rfl))) ?_; clear hF; intro a hF
      refine s_done ?_
      refine sure_in ?_
      refine hK9 _ _ ?_; clear hK9
      refine wpIn_cond_split (hF.ev rfl) (fun hc1 => ?_) (fun hc1 => ?_)
      · -- cond 1 true
        try simp only [decide_eq_true_eq, decide_eq_false_iff_not, Bool.not_eq_true', Bool.not_eq_false', Int.not_lt, Int.not_le, ne_eq, Decidable.not_not, Bool.or_eq_true, Bool.or_eq_false_iff, Bool.and_eq_true, Bool.and_eq_false_imp] at hc1
        have hil : i < len := by omega
        have hi4' : i < 400 := by omega
        have hpl := hp.len
        have hpn := hp.n0
        have hpz := hp.l0
        have hpy := hp.l1
        have hroom : (P.length + 1) * 24 ≤ 140737488355328 := by omega
        obtain ⟨x, rfl, hc⟩ := hin.at_ hil hS (k := 3) rfl
        have hck : w.cell? ((x.add ((i : Int).toNat * 3)).add 0) = some (.int .i64 kd) := by rw [hkd]; exact hc 0 _ rfl
        have hcn : w.cell? ((x.add ((i : Int).toNat * 3)).add 2) = some (.int .i64 N) := by rw [hN]; exact hc 2 _ rfl
        refine wpIn_skip ?_
        refine hK8 _ _ ?_; clear hK8
        refine wpIn_seq_k fun K10 hK10 => ?_
        refine wpIn_block ?_
        refine wpIn_seq_k fun K11 hK11 => ?_
        refine wr_region rfl ?_
        refine s_pu hF rfl rfl rfl (pu_move (hF.ev rfl)) ?_; clear hF; intro a hF
        refine s_pu hF rfl rfl rfl (pu_move (hF.ev rfl)) ?_; clear hF; intro a hF
        refine s_pu hF rfl rfl rfl ((by exact pu_elemA sl37 (hF.ev rfl) (hF.ev rfl) (by omega) (by omega))) ?_; clear hF; intro a hF
        refine s_pu hF rfl rfl rfl ((by exact pu_fieldA fd49_2 (hF.ev rfl))) ?_; clear hF; intro a hF
        refine s_rd hF rfl rfl rfl (by exact rd_load pl3 (hF.ev rfl) (by assumption)) ?_; clear hF; intro a hF
        refine s_pu hF rfl rfl rfl (pu_assign (hF.ev rfl)) ?_; clear hF; intro a hF
        refine s_done ?_
        refine sure_in ?_
        refine hK11 _ _ ?_; clear hK11
        refine wr_seq_j (fun a w => ∃ (P : List Ent) (now last : Int), POk P now last (i + 1) ∧ now ≤ 51 * (i + 1) ∧
          Fr a 233 [(2, .slice (some x) len cap), (6, .pointer (some ⟨b6, 0, none⟩)), (8, .pointer (some ⟨ga, 0, none⟩)), (10, .pointer (some ⟨gb, 0, none⟩)), (12, .int .i64 i), (13, .int .i64 N)] ∧
          Sat W w [whC_i ga n0 P now last, whC_i gb n1 P now last, .obj b6 (.cells #[.bool false] 4 (0, 0)), whole W]) ?_ ?_
        · -- up to the join s13
          refine wpIn_seq_k fun K13 hK13 => ?_
          refine wr_region rfl ?_
          refine s_pu hF rfl rfl rfl (pu_move (hF.ev rfl)) ?_; clear hF; intro a hF
          refine s_pu hF rfl rfl rfl (pu_move (hF.ev rfl)) ?_; clear hF; intro a hF
          refine s_pu hF rfl rfl rfl ((by exact pu_elemA sl37 (hF.ev rfl) (hF.ev rfl) (by omega) (by omega))) ?_; clear hF; intro a hF
          refine s_pu hF rfl rfl rfl ((by exact pu_fieldA fd49_0 (hF.ev rfl))) ?_; clear hF; intro a hF
          refine s_rd hF rfl rfl rfl (by exact rd_load pl3 (hF.ev rfl) (by assumption)) ?_; clear hF; intro a hF
          refine s_done ?_
          refine sure_in ?_
          refine hK13 _ _ ?_; clear hK13
          refine wpIn_block ?_
          refine wpIn_seq_k fun K14 hK14 => ?_
          refine wr_region rfl ?_
          refine s_pu hF rfl rfl rfl (pu_eql (hF.ev rfl) (hF.ev rfl)) ?_; clear hF; intro a hF
          refine s_pu hF rfl rfl rfl (pu_assign (hF.ev rfl)) ?_; clear hF; intro a hF
          refine s_done ?_
          refine sure_in ?_
          refine hK14 _ _ ?_; clear hK14
          refine wpIn_cond_split (hF.ev rfl) (fun hc2 => ?_) (fun hc2 => ?_)
          · -- cond 2 true
            try simp only [decide_eq_true_eq, decide_eq_false_iff_not, Bool.not_eq_true', Bool.not_eq_false', Int.not_lt, Int.not_le, ne_eq, Decidable.not_not, Bool.or_eq_true, Bool.or_eq_false_iff, Bool.and_eq_true, Bool.and_eq_false_imp] at hc2
            refine wpIn_seq_k fun K15 hK15 => ?_
            rcases Classical.em (1 ≤ N ∧ N ≤ 100000) with hNr | hNr
            · -- ok
              refine wr_region rfl ?_
              refine s_pu hF rfl rfl rfl (pu_move (hF.ev rfl)) ?_; clear hF; intro a hF
              refine s_pu hF rfl rfl rfl (pu_move (hF.ev rfl)) ?_; clear hF; intro a hF
              refine s_pu hF rfl rfl rfl (pu_move (hF.ev rfl)) ?_; clear hF; intro a hF
              refine s_en hF rfl rfl rfl (run_fn fk23 (hF.ev rfl) (hF.evs rfl)) (wAdd_i (t := N) (x := (i : Int)) hS hp.rising h01 h02 hNr.1 hNr.2 hpn (by omega) hpz (by omega) hroom) ?_
              clear hS; rintro e w ⟨rfl, hS⟩
              refine ⟨_, rfl, ?_⟩; clear hF; intro a hF
              refine s_pu hF rfl rfl rfl (pu_move (hF.ev rfl)) ?_; clear hF; intro a hF
              refine s_pu hF rfl rfl rfl (pu_extract (hF.ev rfl) rfl) ?_; clear hF; intro a hF
              refine s_pu hF rfl rfl rfl (pu_extract (hF.ev rfl) rfl) ?_; clear hF; intro a hF
              refine s_pu hF rfl rfl rfl (pu_assign (hF.ev rfl)) ?_; clear hF; intro a hF
              refine s_pu hF rfl rfl rfl (pu_assign (hF.ev rfl)) ?_; clear hF; intro a hF
              refine s_done ?_
              refine sure_in ?_
              refine hK15 _ _ ?_; clear hK15
              refine wpIn_seq_k fun K16 hK16 => ?_
              refine wr_region rfl ?_
              refine s_pu hF rfl rfl rfl (pu_move (hF.ev rfl)) ?_; clear hF; intro a hF
              refine s_pu hF rfl rfl rfl (pu_move (hF.ev rfl)) ?_; clear hF; intro a hF
              refine s_pu hF rfl rfl rfl (pu_move (hF.ev rfl)) ?_; clear hF; intro a hF
              replace hS := hS.front 1 rfl
              simp only [del] at hS
              refine s_en hF rfl rfl rfl (run_fn fk23 (hF.ev rfl) (hF.evs rfl)) (wAdd_i (t := N) (x := (i : Int)) hS hp.rising h11 h12 hNr.1 hNr.2 hpn (by omega) hpz (by omega) hroom) ?_
              clear hS; rintro e w ⟨rfl, hS⟩
              refine ⟨_, rfl, ?_⟩; clear hF; intro a hF
              refine s_pu hF rfl rfl rfl (pu_move (hF.ev rfl)) ?_; clear hF; intro a hF
              refine s_pu hF rfl rfl rfl (pu_extract (hF.ev rfl) rfl) ?_; clear hF; intro a hF
              refine s_pu hF rfl rfl rfl (pu_extract (hF.ev rfl) rfl) ?_; clear hF; intro a hF
              refine s_pu hF rfl rfl rfl (pu_assign (hF.ev rfl)) ?_; clear hF; intro a hF
              refine s_pu hF rfl rfl rfl (pu_assign (hF.ev rfl)) ?_; clear hF; intro a hF
              refine s_done ?_
              refine sure_in ?_
              refine hK16 _ _ ?_; clear hK16
              refine wpIn_seq_k fun K17 hK17 => ?_
              refine wr_region rfl ?_
              refine s_pu hF rfl rfl rfl (pu_move (hF.ev rfl)) ?_; clear hF; intro a hF
              refine s_pu hF rfl rfl rfl (pu_move (hF.ev rfl)) ?_; clear hF; intro a hF
              refine s_pu hF rfl rfl rfl (pu_neq (hF.ev rfl) (hF.ev rfl)) ?_; clear hF; intro a hF
              refine s_pu hF rfl rfl rfl (pu_move (hF.ev rfl)) ?_; clear hF; intro a hF
              refine fr_split hF (t := 108) rfl ?_ ?_
              · clear hF; intro hg108 hF   -- slot 108 true
                try simp only [decide_eq_true_eq, decide_eq_false_iff_not, Bool.not_eq_true', Bool.not_eq_false', Int.not_lt, Int.not_le, ne_eq, Decidable.not_not, Bool.or_eq_true, Bool.or_eq_false_iff, Bool.and_eq_true, Bool.and_eq_false_imp] at hg108
                simp at hg108
              · clear hF; intro hg108 hF   -- slot 108 false
                try simp only [decide_eq_true_eq, decide_eq_false_iff_not, Bool.not_eq_true', Bool.not_eq_false', Int.not_lt, Int.not_le, ne_eq, Decidable.not_not, Bool.or_eq_true, Bool.or_eq_false_iff, Bool.and_eq_true, Bool.and_eq_false_imp] at hg108
                refine s_pu hF rfl rfl rfl (pu_move (hF.ev rfl)) ?_; clear hF; intro a hF
                refine s_pu hF rfl rfl rfl (pu_move (hF.ev rfl)) ?_; clear hF; intro a hF
                refine s_pu hF rfl rfl rfl (pu_neq (hF.ev rfl) (hF.ev rfl)) ?_; clear hF; intro a hF
                refine s_pu hF rfl rfl rfl ((by exact pu_pick_f (hF.ev rfl) (hF.ev rfl))) ?_; clear hF; intro a hF
                refine s_done ?_
                refine sure_in ?_
                refine hK17 _ _ ?_; clear hK17
                refine wpIn_cond_split (hF.ev rfl) (fun hc3 => ?_) (fun hc3 => ?_)
                · -- cond 3 true
                  try simp only [decide_eq_true_eq, decide_eq_false_iff_not, Bool.not_eq_true', Bool.not_eq_false', Int.not_lt, Int.not_le, ne_eq, Decidable.not_not, Bool.or_eq_true, Bool.or_eq_false_iff, Bool.and_eq_true, Bool.and_eq_false_imp] at hc3
                  simp at hc3
                · -- cond 3 false
                  try simp only [decide_eq_true_eq, decide_eq_false_iff_not, Bool.not_eq_true', Bool.not_eq_false', Int.not_lt, Int.not_le, ne_eq, Decidable.not_not, Bool.or_eq_true, Bool.or_eq_false_iff, Bool.and_eq_true, Bool.and_eq_false_imp] at hc3
                  refine wpIn_skip ?_
                  refine blk_normal ?_
                  exact ⟨_, now, last + 1, hp.add (x := (i : Int)) hNr.1 hNr.2, by omega, hF.sub ⟨rfl, rfl, rfl, rfl, rfl, rfl, trivial⟩, hS.sel [1]⟩
            · -- no
              refine wr_region rfl ?_
              refine s_pu hF rfl rfl rfl (pu_move (hF.ev rfl)) ?_; clear hF; intro a hF
              refine s_pu hF rfl rfl rfl (pu_move (hF.ev rfl)) ?_; clear hF; intro a hF
              refine s_pu hF rfl rfl rfl (pu_move (hF.ev rfl)) ?_; clear hF; intro a hF
              refine s_en hF rfl rfl rfl (run_fn fk23 (hF.ev rfl) (hF.evs rfl)) (wAddNo_i (t := N) (v := .int .i64 i) hS (by omega)) ?_
              clear hS; rintro e w ⟨rfl, hS⟩
              refine ⟨_, rfl, ?_⟩; clear hF; intro a hF
              refine s_pu hF rfl rfl rfl (pu_move (hF.ev rfl)) ?_; clear hF; intro a hF
              refine s_pu hF rfl rfl rfl (pu_extract (hF.ev rfl) rfl) ?_; clear hF; intro a hF
              refine s_pu hF rfl rfl rfl (pu_extract (hF.ev rfl) rfl) ?_; clear hF; intro a hF
              refine s_pu hF rfl rfl rfl (pu_assign (hF.ev rfl)) ?_; clear hF; intro a hF
              refine s_pu hF rfl rfl rfl (pu_assign (hF.ev rfl)) ?_; clear hF; intro a hF
              refine s_done ?_
              refine sure_in ?_
              refine hK15 _ _ ?_; clear hK15
              refine wpIn_seq_k fun K16 hK16 => ?_
              refine wr_region rfl ?_
              refine s_pu hF rfl rfl rfl (pu_move (hF.ev rfl)) ?_; clear hF; intro a hF
              refine s_pu hF rfl rfl rfl (pu_move (hF.ev rfl)) ?_; clear hF; intro a hF
              refine s_pu hF rfl rfl rfl (pu_move (hF.ev rfl)) ?_; clear hF; intro a hF
              replace hS := hS.front 1 rfl
              simp only [del] at hS
              refine s_en hF rfl rfl rfl (run_fn fk23 (hF.ev rfl) (hF.evs rfl)) (wAddNo_i (t := N) (v := .int .i64 i) hS (by omega)) ?_
              clear hS; rintro e w ⟨rfl, hS⟩
              refine ⟨_, rfl, ?_⟩; clear hF; intro a hF
              refine s_pu hF rfl rfl rfl (pu_move (hF.ev rfl)) ?_; clear hF; intro a hF
              refine s_pu hF rfl rfl rfl (pu_extract (hF.ev rfl) rfl) ?_; clear hF; intro a hF
              refine s_pu hF rfl rfl rfl (pu_extract (hF.ev rfl) rfl) ?_; clear hF; intro a hF
              refine s_pu hF rfl rfl rfl (pu_assign (hF.ev rfl)) ?_; clear hF; intro a hF
              refine s_pu hF rfl rfl rfl (pu_assign (hF.ev rfl)) ?_; clear hF; intro a hF
              refine s_done ?_
              refine sure_in ?_
              refine hK16 _ _ ?_; clear hK16
              refine wpIn_seq_k fun K17 hK17 => ?_
              refine wr_region rfl ?_
              refine s_pu hF rfl rfl rfl (pu_move (hF.ev rfl)) ?_; clear hF; intro a hF
              refine s_pu hF rfl rfl rfl (pu_move (hF.ev rfl)) ?_; clear hF; intro a hF
              refine s_pu hF rfl rfl rfl (pu_neq (hF.ev rfl) (hF.ev rfl)) ?_; clear hF; intro a hF
              refine s_pu hF rfl rfl rfl (pu_move (hF.ev rfl)) ?_; clear hF; intro a hF
              refine fr_split hF (t := 108) rfl ?_ ?_
              · clear hF; intro hg108 hF   -- slot 108 true
                try simp only [decide_eq_true_eq, decide_eq_false_iff_not, Bool.not_eq_true', Bool.not_eq_false', Int.not_lt, Int.not_le, ne_eq, Decidable.not_not, Bool.or_eq_true, Bool.or_eq_false_iff, Bool.and_eq_true, Bool.and_eq_false_imp] at hg108
                simp at hg108
              · clear hF; intro hg108 hF   -- slot 108 false
                try simp only [decide_eq_true_eq, decide_eq_false_iff_not, Bool.not_eq_true', Bool.not_eq_false', Int.not_lt, Int.not_le, ne_eq, Decidable.not_not, Bool.or_eq_true, Bool.or_eq_false_iff, Bool.and_eq_true, Bool.and_eq_false_imp] at hg108
                refine s_pu hF rfl rfl rfl (pu_move (hF.ev rfl)) ?_; clear hF; intro a hF
                refine s_pu hF rfl rfl rfl (pu_move (hF.ev rfl)) ?_; clear hF; intro a hF
                refine s_pu hF rfl rfl rfl (pu_neq (hF.ev rfl) (hF.ev rfl)) ?_; clear hF; intro a hF
                refine s_pu hF rfl rfl rfl ((by exact pu_pick_f (hF.ev rfl) (hF.ev rfl))) ?_; clear hF; intro a hF
                refine s_done ?_
                refine sure_in ?_
                refine hK17 _ _ ?_; clear hK17
                refine wpIn_cond_split (hF.ev rfl) (fun hc3 => ?_) (fun hc3 => ?_)
                · -- cond 3 true
                  try simp only [decide_eq_true_eq, decide_eq_false_iff_not, Bool.not_eq_true', Bool.not_eq_false', Int.not_lt, Int.not_le, ne_eq, Decidable.not_not, Bool.or_eq_true, Bool.or_eq_false_iff, Bool.and_eq_true, Bool.and_eq_false_imp] at hc3
                  simp at hc3
                · -- cond 3 false
                  try simp only [decide_eq_true_eq, decide_eq_false_iff_not, Bool.not_eq_true', Bool.not_eq_false', Int.not_lt, Int.not_le, ne_eq, Decidable.not_not, Bool.or_eq_true, Bool.or_eq_false_iff, Bool.and_eq_true, Bool.and_eq_false_imp] at hc3
                  refine wpIn_skip ?_
                  refine blk_normal ?_
                  exact ⟨P, now, last, hp.more, by omega, hF.sub ⟨rfl, rfl, rfl, rfl, rfl, rfl, trivial⟩, hS.sel [1]⟩
          · -- cond 2 false
            try simp only [decide_eq_true_eq, decide_eq_false_iff_not, Bool.not_eq_true', Bool.not_eq_false', Int.not_lt, Int.not_le, ne_eq, Decidable.not_not, Bool.or_eq_true, Bool.or_eq_false_iff, Bool.and_eq_true, Bool.and_eq_false_imp] at hc2
            refine wpIn_seq_k fun K15 hK15 => ?_
            refine wr_region rfl ?_
            refine s_pu hF rfl rfl rfl (pu_eql (hF.ev rfl) (hF.ev rfl)) ?_; clear hF; intro a hF
            refine s_pu hF rfl rfl rfl (pu_assign (hF.ev rfl)) ?_; clear hF; intro a hF
            refine s_done ?_
            refine sure_in ?_
            refine hK15 _ _ ?_; clear hK15
            refine wpIn_cond_split (hF.ev rfl) (fun hc4 => ?_) (fun hc4 => ?_)
            · -- cond 4 true
              try simp only [decide_eq_true_eq, decide_eq_false_iff_not, Bool.not_eq_true', Bool.not_eq_false', Int.not_lt, Int.not_le, ne_eq, Decidable.not_not, Bool.or_eq_true, Bool.or_eq_false_iff, Bool.and_eq_true, Bool.and_eq_false_imp] at hc4
              refine wpIn_seq_k fun K16 hK16 => ?_
              refine wr_region rfl ?_
              refine s_pu hF rfl rfl rfl (pu_assign (hF.ev rfl)) ?_; clear hF; intro a hF
              refine s_done ?_
              refine sure_in ?_
              refine hK16 _ _ ?_; clear hK16
              refine wpIn_block ?_
              have hpb := pick_bd N (n := 50) (by omega)
              refine wr_ind (fun j a w => ∃ (k : Nat) (Q : List Ent) (nw : Int), j = 50 - k ∧ k ≤ 50 ∧ POk Q nw last i ∧ nw ≤ 51 * i + k ∧
                Fr a 233 [(2, .slice (some x) len cap), (6, .pointer (some ⟨b6, 0, none⟩)), (8, .pointer (some ⟨ga, 0, none⟩)), (10, .pointer (some ⟨gb, 0, none⟩)), (12, .int .i64 i), (13, .int .i64 N), (18, .int .i64 k)] ∧
                Sat W w [whC_i ga n0 Q nw last, whC_i gb n1 Q nw last, .obj b6 (.cells #[.bool false] 4 (0, 0)), whole W]) 50
                ⟨0, P, now, by omega, by omega, hp, by omega, hF.sub ⟨rfl, rfl, rfl, rfl, rfl, rfl, rfl, trivial⟩, hS⟩ ?_
              clear hS hF
              rintro j a' w ⟨k, Q, nw, rfl, hk, hq, hnw, hF, hS⟩
              have hql := hq.len
              have hqn0 := hq.n0
              have hqroom : (Q.length + 1) * 24 ≤ 140737488355328 := by omega
              obtain ⟨zs, hz1, hz2⟩ := nums_ints (hq.filter fun e => decide (e.at_ = nw + 1)).nums
              have hzl : zs.length ≤ Q.length := by rw [hz2]; exact List.length_filter_le _ _
              refine wpIn_seq_k fun K17 hK17 => ?_
              refine wpIn_seq_k fun K18 hK18 => ?_
              refine wr_region rfl ?_
              refine s_pu hF rfl rfl rfl (pu_move (hF.ev rfl)) ?_; clear hF; intro a hF
              refine s_pu hF rfl rfl rfl (pu_move (hF.ev rfl)) ?_; clear hF; intro a hF
              refine s_en hF rfl rfl rfl (run_fn fk9 (hF.ev rfl) (hF.evs rfl)) (pick_c hS (by omega) hNw.1 hNw.2) ?_
              clear hS; rintro e w ⟨rfl, hS⟩
              refine ⟨_, rfl, ?_⟩; clear hF; intro a hF
              refine s_pu hF rfl rfl rfl (pu_leq (hF.ev rfl) (hF.ev rfl)) ?_; clear hF; intro a hF
              refine s_done ?_
              refine sure_in ?_
              refine hK18 _ _ ?_; clear hK18
              refine wpIn_cond_split (hF.ev rfl) (fun hc5 => ?_) (fun hc5 => ?_)
              · -- cond 5 true
                try simp only [decide_eq_true_eq, decide_eq_false_iff_not, Bool.not_eq_true', Bool.not_eq_false', Int.not_lt, Int.not_le, ne_eq, Decidable.not_not, Bool.or_eq_true, Bool.or_eq_false_iff, Bool.and_eq_true, Bool.and_eq_false_imp] at hc5
                refine wpIn_skip ?_
                refine hK17 _ _ ?_; clear hK17
                refine wpIn_seq_k fun K19 hK19 => ?_
                refine wpIn_block ?_
                refine wpIn_seq_k fun K20 hK20 => ?_
                refine wr_region rfl ?_
                refine s_pu hF rfl rfl rfl (pu_move (hF.ev rfl)) ?_; clear hF; intro a hF
                refine s_en hF rfl rfl rfl (run_fn fk28 (hF.ev rfl) (hF.evs rfl)) (wTick_i hS hq.rising h01 hqn0 (by omega) hqroom) ?_
                clear hS; rintro e w ⟨A1, c1, rfl, hS⟩
                rw [hz1, ← hz2] at hS
                rw [← hz2]
                refine ⟨_, rfl, ?_⟩; clear hF; intro a hF
                refine s_pu hF rfl rfl rfl (pu_move (hF.ev rfl)) ?_; clear hF; intro a hF
                replace hS := hS.front 2 rfl
                simp only [del] at hS
                refine s_en hF rfl rfl rfl (run_fn fk28 (hF.ev rfl) (hF.evs rfl)) (wTick_i hS hq.rising h11 hqn0 (by omega) hqroom) ?_
                clear hS; rintro e w ⟨A2, c2, rfl, hS⟩
                rw [hz1, ← hz2] at hS
                rw [← hz2]
                refine ⟨_, rfl, ?_⟩; clear hF; intro a hF
                refine s_en hF rfl rfl rfl (run_fn fk30 (hF.ev rfl) (hF.evs rfl)) (same_c hS (rd_lst (i := 2) hS rfl) (rd_lst (i := 0) hS rfl) (by omega)) ?_
                clear hS; rintro e w ⟨rfl, hS⟩
                refine ⟨_, rfl, ?_⟩; clear hF; intro a hF
                refine s_pu hF rfl rfl rfl (pu_assign (hF.ev rfl)) ?_; clear hF; intro a hF
                refine s_done ?_
                refine sure_in ?_
                refine hK20 _ _ ?_; clear hK20
                refine wpIn_seq_k fun K21 hK21 => ?_
                refine wr_region rfl ?_
                refine s_pu hF rfl rfl rfl (pu_move (hF.ev rfl)) ?_; clear hF; intro a hF
                refine s_pu hF rfl rfl rfl (pu_not (hF.ev rfl)) ?_; clear hF; intro a hF
                refine s_done ?_
                refine sure_in ?_
                refine hK21 _ _ ?_; clear hK21
                refine wpIn_cond_false (hF.ev rfl) ?_
                refine wpIn_skip ?_
                refine blk_normal ?_
                refine hK19 _ _ ?_; clear hK19
                refine wr_region rfl ?_
                refine s_pu hF rfl rfl rfl (pu_move (hF.ev rfl)) ?_; clear hF; intro a hF
                refine s_pu hF rfl rfl rfl ((by exact pu_add64 (hF.ev rfl) (hF.ev rfl) (by omega))) ?_; clear hF; intro a hF
                refine s_pu hF rfl rfl rfl (pu_assign (hF.ev rfl)) ?_; clear hF; intro a hF
                refine s_done ?_
                refine sure_in ?_
                replace hS := ((hS.sel [3, 1]).drop 2).drop 2
                exact ⟨50 - (k + 1), by omega, k + 1, Q.filter fun e => !decide (e.at_ = nw + 1), nw + 1, rfl, by omega, hq.ring, by omega, hF.sub ⟨rfl, rfl, rfl, rfl, rfl, rfl, rfl, trivial⟩, hS⟩
              · -- cond 5 false
                try simp only [decide_eq_true_eq, decide_eq_false_iff_not, Bool.not_eq_true', Bool.not_eq_false', Int.not_lt, Int.not_le, ne_eq, Decidable.not_not, Bool.or_eq_true, Bool.or_eq_false_iff, Bool.and_eq_true, Bool.and_eq_false_imp] at hc5
                refine wpIn_exit ?_
                refine then_exit ?_
                refine then_exit ?_
                refine blk_exit ?_
                refine blk_normal ?_
                first
                  | exact ⟨Q, nw, last, hq.more, by omega, hF.sub ⟨rfl, rfl, rfl, rfl, rfl, rfl, trivial⟩, hS⟩
                  | exact ⟨P, now, last, hp.more, by omega, hF.sub ⟨rfl, rfl, rfl, rfl, rfl, rfl, trivial⟩, hS⟩
            · -- cond 4 false
              try simp only [decide_eq_true_eq, decide_eq_false_iff_not, Bool.not_eq_true', Bool.not_eq_false', Int.not_lt, Int.not_le, ne_eq, Decidable.not_not, Bool.or_eq_true, Bool.or_eq_false_iff, Bool.and_eq_true, Bool.and_eq_false_imp] at hc4
              refine wpIn_seq_k fun K16 hK16 => ?_
              refine wr_region rfl ?_
              refine s_pu hF rfl rfl rfl (pu_eql (hF.ev rfl) (hF.ev rfl)) ?_; clear hF; intro a hF
              refine s_pu hF rfl rfl rfl (pu_assign (hF.ev rfl)) ?_; clear hF; intro a hF
              refine s_done ?_
              refine sure_in ?_
              refine hK16 _ _ ?_; clear hK16
              refine wpIn_cond_split (hF.ev rfl) (fun hc7 => ?_) (fun hc7 => ?_)
              · -- cond 7 true
                try simp only [decide_eq_true_eq, decide_eq_false_iff_not, Bool.not_eq_true', Bool.not_eq_false', Int.not_lt, Int.not_le, ne_eq, Decidable.not_not, Bool.or_eq_true, Bool.or_eq_false_iff, Bool.and_eq_true, Bool.and_eq_false_imp] at hc7
                refine wpIn_seq_k fun K17 hK17 => ?_
                rcases find_case P N with hnf | ⟨A0, en, B0, hP, hA, hen⟩
                · -- gone
                  refine wr_region rfl ?_
                  refine s_pu hF rfl rfl rfl (pu_move (hF.ev rfl)) ?_; clear hF; intro a hF
                  refine s_pu hF rfl rfl rfl (pu_move (hF.ev rfl)) ?_; clear hF; intro a hF
                  refine s_en hF rfl rfl rfl (run_fn fk26 (hF.ev rfl) (hF.evs rfl)) (wCancelNo_i (t := N) hS hnf) ?_
                  clear hS; rintro e w ⟨rfl, hS⟩
                  refine ⟨_, rfl, ?_⟩; clear hF; intro a hF
                  refine s_pu hF rfl rfl rfl (pu_move (hF.ev rfl)) ?_; clear hF; intro a hF
                  refine s_pu hF rfl rfl rfl (pu_extract (hF.ev rfl) rfl) ?_; clear hF; intro a hF
                  refine s_pu hF rfl rfl rfl (pu_extract (hF.ev rfl) rfl) ?_; clear hF; intro a hF
                  refine s_pu hF rfl rfl rfl (pu_assign (hF.ev rfl)) ?_; clear hF; intro a hF
                  refine s_pu hF rfl rfl rfl (pu_assign (hF.ev rfl)) ?_; clear hF; intro a hF
                  refine s_done ?_
                  refine sure_in ?_
                  refine hK17 _ _ ?_; clear hK17
                  refine wpIn_seq_k fun K18 hK18 => ?_
                  refine wr_region rfl ?_
                  refine s_pu hF rfl rfl rfl (pu_move (hF.ev rfl)) ?_; clear hF; intro a hF
                  refine s_pu hF rfl rfl rfl (pu_move (hF.ev rfl)) ?_; clear hF; intro a hF
                  replace hS := hS.front 1 rfl
                  simp only [del] at hS
                  refine s_en hF rfl rfl rfl (run_fn fk26 (hF.ev rfl) (hF.evs rfl)) (wCancelNo_i (t := N) hS hnf) ?_
                  clear hS; rintro e w ⟨rfl, hS⟩
                  refine ⟨_, rfl, ?_⟩; clear hF; intro a hF
                  refine s_pu hF rfl rfl rfl (pu_move (hF.ev rfl)) ?_; clear hF; intro a hF
                  refine s_pu hF rfl rfl rfl (pu_extract (hF.ev rfl) rfl) ?_; clear hF; intro a hF
                  refine s_pu hF rfl rfl rfl (pu_extract (hF.ev rfl) rfl) ?_; clear hF; intro a hF
                  refine s_pu hF rfl rfl rfl (pu_assign (hF.ev rfl)) ?_; clear hF; intro a hF
                  refine s_pu hF rfl rfl rfl (pu_assign (hF.ev rfl)) ?_; clear hF; intro a hF
                  refine s_done ?_
                  refine sure_in ?_
                  refine hK18 _ _ ?_; clear hK18
                  refine wpIn_seq_k fun K19 hK19 => ?_
                  refine wr_region rfl ?_
                  refine s_pu hF rfl rfl rfl (pu_move (hF.ev rfl)) ?_; clear hF; intro a hF
                  refine s_pu hF rfl rfl rfl (pu_move (hF.ev rfl)) ?_; clear hF; intro a hF
                  refine s_pu hF rfl rfl rfl (pu_neq (hF.ev rfl) (hF.ev rfl)) ?_; clear hF; intro a hF
                  refine s_pu hF rfl rfl rfl (pu_move (hF.ev rfl)) ?_; clear hF; intro a hF
                  refine fr_split hF (t := 145) rfl ?_ ?_
                  · clear hF; intro hg145 hF   -- slot 145 true
                    try simp only [decide_eq_true_eq, decide_eq_false_iff_not, Bool.not_eq_true', Bool.not_eq_false', Int.not_lt, Int.not_le, ne_eq, Decidable.not_not, Bool.or_eq_true, Bool.or_eq_false_iff, Bool.and_eq_true, Bool.and_eq_false_imp] at hg145
                    simp at hg145
                  · clear hF; intro hg145 hF   -- slot 145 false
                    try simp only [decide_eq_true_eq, decide_eq_false_iff_not, Bool.not_eq_true', Bool.not_eq_false', Int.not_lt, Int.not_le, ne_eq, Decidable.not_not, Bool.or_eq_true, Bool.or_eq_false_iff, Bool.and_eq_true, Bool.and_eq_false_imp] at hg145
                    refine s_pu hF rfl rfl rfl (pu_move (hF.ev rfl)) ?_; clear hF; intro a hF
                    refine s_pu hF rfl rfl rfl (pu_move (hF.ev rfl)) ?_; clear hF; intro a hF
                    refine s_pu hF rfl rfl rfl (pu_neq (hF.ev rfl) (hF.ev rfl)) ?_; clear hF; intro a hF
                    refine s_pu hF rfl rfl rfl ((by exact pu_pick_f (hF.ev rfl) (hF.ev rfl))) ?_; clear hF; intro a hF
                    refine s_done ?_
                    refine sure_in ?_
                    refine hK19 _ _ ?_; clear hK19
                    refine wpIn_cond_split (hF.ev rfl) (fun hc8 => ?_) (fun hc8 => ?_)
                    · -- cond 8 true
                      try simp only [decide_eq_true_eq, decide_eq_false_iff_not, Bool.not_eq_true', Bool.not_eq_false', Int.not_lt, Int.not_le, ne_eq, Decidable.not_not, Bool.or_eq_true, Bool.or_eq_false_iff, Bool.and_eq_true, Bool.and_eq_false_imp] at hc8
                      simp at hc8
                    · -- cond 8 false
                      try simp only [decide_eq_true_eq, decide_eq_false_iff_not, Bool.not_eq_true', Bool.not_eq_false', Int.not_lt, Int.not_le, ne_eq, Decidable.not_not, Bool.or_eq_true, Bool.or_eq_false_iff, Bool.and_eq_true, Bool.and_eq_false_imp] at hc8
                      refine wpIn_skip ?_
                      refine blk_normal ?_
                      exact ⟨P, now, last, hp.more, by omega, hF.sub ⟨rfl, rfl, rfl, rfl, rfl, rfl, trivial⟩, hS.sel [1]⟩
                · -- there
                  have henm : en ∈ P := by rw [hP]; simp
                  obtain ⟨z, hz⟩ := hp.nums en henm
                  have hb0 := hp.at_ en henm
                  refine wr_region rfl ?_
                  refine s_pu hF rfl rfl rfl (pu_move (hF.ev rfl)) ?_; clear hF; intro a hF
                  refine s_pu hF rfl rfl rfl (pu_move (hF.ev rfl)) ?_; clear hF; intro a hF
                  refine s_en hF rfl rfl rfl (run_fn fk26 (hF.ev rfl) (hF.evs rfl)) (wCancel_i (t := N) hS hp.rising h01 henm hen hb0.1 hroom) ?_
                  clear hS; rintro e w ⟨rfl, hS⟩
                  rw [hz]
                  refine ⟨_, rfl, ?_⟩; clear hF; intro a hF
                  refine s_pu hF rfl rfl rfl (pu_move (hF.ev rfl)) ?_; clear hF; intro a hF
                  refine s_pu hF rfl rfl rfl (pu_extract (hF.ev rfl) rfl) ?_; clear hF; intro a hF
                  refine s_pu hF rfl rfl rfl (pu_extract (hF.ev rfl) rfl) ?_; clear hF; intro a hF
                  refine s_pu hF rfl rfl rfl (pu_assign (hF.ev rfl)) ?_; clear hF; intro a hF
                  refine s_pu hF rfl rfl rfl (pu_assign (hF.ev rfl)) ?_; clear hF; intro a hF
                  refine s_done ?_
                  refine sure_in ?_
                  refine hK17 _ _ ?_; clear hK17
                  refine wpIn_seq_k fun K18 hK18 => ?_
                  refine wr_region rfl ?_
                  refine s_pu hF rfl rfl rfl (pu_move (hF.ev rfl)) ?_; clear hF; intro a hF
                  refine s_pu hF rfl rfl rfl (pu_move (hF.ev rfl)) ?_; clear hF; intro a hF
                  replace hS := hS.front 1 rfl
                  simp only [del] at hS
                  refine s_en hF rfl rfl rfl (run_fn fk26 (hF.ev rfl) (hF.evs rfl)) (wCancel_i (t := N) hS hp.rising h11 henm hen hb0.1 hroom) ?_
                  clear hS; rintro e w ⟨rfl, hS⟩
                  rw [hz]
                  refine ⟨_, rfl, ?_⟩; clear hF; intro a hF
                  refine s_pu hF rfl rfl rfl (pu_move (hF.ev rfl)) ?_; clear hF; intro a hF
                  refine s_pu hF rfl rfl rfl (pu_extract (hF.ev rfl) rfl) ?_; clear hF; intro a hF
                  refine s_pu hF rfl rfl rfl (pu_extract (hF.ev rfl) rfl) ?_; clear hF; intro a hF
                  refine s_pu hF rfl rfl rfl (pu_assign (hF.ev rfl)) ?_; clear hF; intro a hF
                  refine s_pu hF rfl rfl rfl (pu_assign (hF.ev rfl)) ?_; clear hF; intro a hF
                  refine s_done ?_
                  refine sure_in ?_
                  refine hK18 _ _ ?_; clear hK18
                  refine wpIn_seq_k fun K19 hK19 => ?_
                  refine wr_region rfl ?_
                  refine s_pu hF rfl rfl rfl (pu_move (hF.ev rfl)) ?_; clear hF; intro a hF
                  refine s_pu hF rfl rfl rfl (pu_move (hF.ev rfl)) ?_; clear hF; intro a hF
                  refine s_pu hF rfl rfl rfl (pu_neq (hF.ev rfl) (hF.ev rfl)) ?_; clear hF; intro a hF
                  refine s_pu hF rfl rfl rfl (pu_move (hF.ev rfl)) ?_; clear hF; intro a hF
                  refine fr_split hF (t := 145) rfl ?_ ?_
                  · clear hF; intro hg145 hF   -- slot 145 true
                    try simp only [decide_eq_true_eq, decide_eq_false_iff_not, Bool.not_eq_true', Bool.not_eq_false', Int.not_lt, Int.not_le, ne_eq, Decidable.not_not, Bool.or_eq_true, Bool.or_eq_false_iff, Bool.and_eq_true, Bool.and_eq_false_imp] at hg145
                    simp at hg145
                  · clear hF; intro hg145 hF   -- slot 145 false
                    try simp only [decide_eq_true_eq, decide_eq_false_iff_not, Bool.not_eq_true', Bool.not_eq_false', Int.not_lt, Int.not_le, ne_eq, Decidable.not_not, Bool.or_eq_true, Bool.or_eq_false_iff, Bool.and_eq_true, Bool.and_eq_false_imp] at hg145
                    refine s_pu hF rfl rfl rfl (pu_move (hF.ev rfl)) ?_; clear hF; intro a hF
                    refine s_pu hF rfl rfl rfl (pu_move (hF.ev rfl)) ?_; clear hF; intro a hF
                    refine s_pu hF rfl rfl rfl (pu_neq (hF.ev rfl) (hF.ev rfl)) ?_; clear hF; intro a hF
                    refine s_pu hF rfl rfl rfl ((by exact pu_pick_f (hF.ev rfl) (hF.ev rfl))) ?_; clear hF; intro a hF
                    refine s_done ?_
                    refine sure_in ?_
                    refine hK19 _ _ ?_; clear hK19
                    refine wpIn_cond_split (hF.ev rfl) (fun hc8 => ?_) (fun hc8 => ?_)
                    · -- cond 8 true
                      try simp only [decide_eq_true_eq, decide_eq_false_iff_not, Bool.not_eq_true', Bool.not_eq_false', Int.not_lt, Int.not_le, ne_eq, Decidable.not_not, Bool.or_eq_true, Bool.or_eq_false_iff, Bool.and_eq_true, Bool.and_eq_false_imp] at hc8
                      simp at hc8
                    · -- cond 8 false
                      try simp only [decide_eq_true_eq, decide_eq_false_iff_not, Bool.not_eq_true', Bool.not_eq_false', Int.not_lt, Int.not_le, ne_eq, Decidable.not_not, Bool.or_eq_true, Bool.or_eq_false_iff, Bool.and_eq_true, Bool.and_eq_false_imp] at hc8
                      refine wpIn_skip ?_
                      refine blk_normal ?_
                      exact ⟨_, now, last, hp.more.filter _, by omega, hF.sub ⟨rfl, rfl, rfl, rfl, rfl, rfl, trivial⟩, hS.sel [1]⟩
              · -- cond 7 false
                try simp only [decide_eq_true_eq, decide_eq_false_iff_not, Bool.not_eq_true', Bool.not_eq_false', Int.not_lt, Int.not_le, ne_eq, Decidable.not_not, Bool.or_eq_true, Bool.or_eq_false_iff, Bool.and_eq_true, Bool.and_eq_false_imp] at hc7
                refine wpIn_skip ?_
                refine blk_normal ?_
                first
                  | exact ⟨Q, nw, last, hq.more, by omega, hF.sub ⟨rfl, rfl, rfl, rfl, rfl, rfl, trivial⟩, hS⟩
                  | exact ⟨P, now, last, hp.more, by omega, hF.sub ⟨rfl, rfl, rfl, rfl, rfl, rfl, trivial⟩, hS⟩
        · -- behind the join s13
          clear hS hF hp hnow hpl hpn hpz hpy hroom hck hcn hc
          rintro a' w ⟨P, now, last, hp, hnow, hF, hS⟩
          have hpl := hp.len
          have hpn := hp.n0
          refine wpIn_seq_k fun K12 hK12 => ?_
          rcases find_case P N with hnf | ⟨A0, en, B0, hP, hA, hen⟩
          · -- lgone
            refine wr_region rfl ?_
            refine s_pu hF rfl rfl rfl (pu_move (hF.ev rfl)) ?_; clear hF; intro a hF
            refine s_pu hF rfl rfl rfl (pu_move (hF.ev rfl)) ?_; clear hF; intro a hF
            refine s_en hF rfl rfl rfl (run_fn fk31 (hF.ev rfl) (hF.evs rfl)) (wLeftNo_i (t := N) hS hnf) ?_
            clear hS; rintro e w ⟨rfl, hS⟩
            refine ⟨_, rfl, ?_⟩; clear hF; intro a hF
            refine s_pu hF rfl rfl rfl (pu_move (hF.ev rfl)) ?_; clear hF; intro a hF
            refine s_pu hF rfl rfl rfl (pu_extract (hF.ev rfl) rfl) ?_; clear hF; intro a hF
            refine s_pu hF rfl rfl rfl (pu_extract (hF.ev rfl) rfl) ?_; clear hF; intro a hF
            refine s_pu hF rfl rfl rfl (pu_assign (hF.ev rfl)) ?_; clear hF; intro a hF
            refine s_pu hF rfl rfl rfl (pu_assign (hF.ev rfl)) ?_; clear hF; intro a hF
            refine s_done ?_
            refine sure_in ?_
            refine hK12 _ _ ?_; clear hK12
            refine wpIn_seq_k fun K13 hK13 => ?_
            refine wr_region rfl ?_
            refine s_pu hF rfl rfl rfl (pu_move (hF.ev rfl)) ?_; clear hF; intro a hF
            refine s_pu hF rfl rfl rfl (pu_move (hF.ev rfl)) ?_; clear hF; intro a hF
            replace hS := hS.front 1 rfl
            simp only [del] at hS
            refine s_en hF rfl rfl rfl (run_fn fk31 (hF.ev rfl) (hF.evs rfl)) (wLeftNo_i (t := N) hS hnf) ?_
            clear hS; rintro e w ⟨rfl, hS⟩
            refine ⟨_, rfl, ?_⟩; clear hF; intro a hF
            refine s_pu hF rfl rfl rfl (pu_move (hF.ev rfl)) ?_; clear hF; intro a hF
            refine s_pu hF rfl rfl rfl (pu_extract (hF.ev rfl) rfl) ?_; clear hF; intro a hF
            refine s_pu hF rfl rfl rfl (pu_extract (hF.ev rfl) rfl) ?_; clear hF; intro a hF
            refine s_pu hF rfl rfl rfl (pu_assign (hF.ev rfl)) ?_; clear hF; intro a hF
            refine s_pu hF rfl rfl rfl (pu_assign (hF.ev rfl)) ?_; clear hF; intro a hF
            refine s_done ?_
            refine sure_in ?_
            refine hK13 _ _ ?_; clear hK13
            refine wpIn_seq_k fun K14 hK14 => ?_
            refine wr_region rfl ?_
            refine s_pu hF rfl rfl rfl (pu_move (hF.ev rfl)) ?_; clear hF; intro a hF
            refine s_pu hF rfl rfl rfl (pu_move (hF.ev rfl)) ?_; clear hF; intro a hF
            refine s_pu hF rfl rfl rfl (pu_neq (hF.ev rfl) (hF.ev rfl)) ?_; clear hF; intro a hF
            refine s_pu hF rfl rfl rfl (pu_move (hF.ev rfl)) ?_; clear hF; intro a hF
            refine fr_split hF (t := 165) rfl ?_ ?_
            · clear hF; intro hg165 hF   -- slot 165 true
              try simp only [decide_eq_true_eq, decide_eq_false_iff_not, Bool.not_eq_true', Bool.not_eq_false', Int.not_lt, Int.not_le, ne_eq, Decidable.not_not, Bool.or_eq_true, Bool.or_eq_false_iff, Bool.and_eq_true, Bool.and_eq_false_imp] at hg165
              simp at hg165
            · clear hF; intro hg165 hF   -- slot 165 false
              try simp only [decide_eq_true_eq, decide_eq_false_iff_not, Bool.not_eq_true', Bool.not_eq_false', Int.not_lt, Int.not_le, ne_eq, Decidable.not_not, Bool.or_eq_true, Bool.or_eq_false_iff, Bool.and_eq_true, Bool.and_eq_false_imp] at hg165
              refine s_pu hF rfl rfl rfl (pu_move (hF.ev rfl)) ?_; clear hF; intro a hF
              refine s_pu hF rfl rfl rfl (pu_move (hF.ev rfl)) ?_; clear hF; intro a hF
              refine s_pu hF rfl rfl rfl (pu_neq (hF.ev rfl) (hF.ev rfl)) ?_; clear hF; intro a hF
              refine s_pu hF rfl rfl rfl ((by exact pu_pick_f (hF.ev rfl) (hF.ev rfl))) ?_; clear hF; intro a hF
              refine s_pu hF rfl rfl rfl (pu_move (hF.ev rfl)) ?_; clear hF; intro a hF
              refine fr_split hF (t := 170) rfl ?_ ?_
              · clear hF; intro hg170 hF   -- slot 170 true
                try simp only [decide_eq_true_eq, decide_eq_false_iff_not, Bool.not_eq_true', Bool.not_eq_false', Int.not_lt, Int.not_le, ne_eq, Decidable.not_not, Bool.or_eq_true, Bool.or_eq_false_iff, Bool.and_eq_true, Bool.and_eq_false_imp] at hg170
                simp at hg170
              · clear hF; intro hg170 hF   -- slot 170 false
                try simp only [decide_eq_true_eq, decide_eq_false_iff_not, Bool.not_eq_true', Bool.not_eq_false', Int.not_lt, Int.not_le, ne_eq, Decidable.not_not, Bool.or_eq_true, Bool.or_eq_false_iff, Bool.and_eq_true, Bool.and_eq_false_imp] at hg170
                refine s_pu hF rfl rfl rfl (pu_move (hF.ev rfl)) ?_; clear hF; intro a hF
                refine s_en hF rfl rfl rfl (run_fn fk18 (hF.ev rfl) (hF.evs rfl)) (at_keep 1 hS rfl (fun h => wLen_i h)) ?_
                clear hS; rintro e w ⟨rfl, hS⟩
                refine ⟨_, rfl, ?_⟩; clear hF; intro a hF
                refine s_pu hF rfl rfl rfl (pu_move (hF.ev rfl)) ?_; clear hF; intro a hF
                refine s_en hF rfl rfl rfl (run_fn fk18 (hF.ev rfl) (hF.evs rfl)) (wLen_i hS) ?_
                clear hS; rintro e w ⟨rfl, hS⟩
                refine ⟨_, rfl, ?_⟩; clear hF; intro a hF
                refine s_pu hF rfl rfl rfl (pu_neq (hF.ev rfl) (hF.ev rfl)) ?_; clear hF; intro a hF
                refine s_pu hF rfl rfl rfl ((by exact pu_pick_f (hF.ev rfl) (hF.ev rfl))) ?_; clear hF; intro a hF
                refine s_pu hF rfl rfl rfl (pu_move (hF.ev rfl)) ?_; clear hF; intro a hF
                refine fr_split hF (t := 177) rfl ?_ ?_
                · clear hF; intro hg177 hF   -- slot 177 true
                  try simp only [decide_eq_true_eq, decide_eq_false_iff_not, Bool.not_eq_true', Bool.not_eq_false', Int.not_lt, Int.not_le, ne_eq, Decidable.not_not, Bool.or_eq_true, Bool.or_eq_false_iff, Bool.and_eq_true, Bool.and_eq_false_imp] at hg177
                  simp at hg177
                · clear hF; intro hg177 hF   -- slot 177 false
                  try simp only [decide_eq_true_eq, decide_eq_false_iff_not, Bool.not_eq_true', Bool.not_eq_false', Int.not_lt, Int.not_le, ne_eq, Decidable.not_not, Bool.or_eq_true, Bool.or_eq_false_iff, Bool.and_eq_true, Bool.and_eq_false_imp] at hg177
                  refine s_pu hF rfl rfl rfl (pu_move (hF.ev rfl)) ?_; clear hF; intro a hF
                  refine s_en hF rfl rfl rfl (run_fn fk19 (hF.ev rfl) (hF.evs rfl)) (at_keep 1 hS rfl (fun h => wNow_i h)) ?_
                  clear hS; rintro e w ⟨rfl, hS⟩
                  refine ⟨_, rfl, ?_⟩; clear hF; intro a hF
                  refine s_pu hF rfl rfl rfl (pu_move (hF.ev rfl)) ?_; clear hF; intro a hF
                  refine s_en hF rfl rfl rfl (run_fn fk19 (hF.ev rfl) (hF.evs rfl)) (wNow_i hS) ?_
                  clear hS; rintro e w ⟨rfl, hS⟩
                  refine ⟨_, rfl, ?_⟩; clear hF; intro a hF
                  refine s_pu hF rfl rfl rfl (pu_neq (hF.ev rfl) (hF.ev rfl)) ?_; clear hF; intro a hF
                  refine s_pu hF rfl rfl rfl ((by exact pu_pick_f (hF.ev rfl) (hF.ev rfl))) ?_; clear hF; intro a hF
                  refine s_done ?_
                  refine sure_in ?_
                  refine hK14 _ _ ?_; clear hK14
                  refine wpIn_cond_split (hF.ev rfl) (fun hc9 => ?_) (fun hc9 => ?_)
                  · -- cond 9 true
                    try simp only [decide_eq_true_eq, decide_eq_false_iff_not, Bool.not_eq_true', Bool.not_eq_false', Int.not_lt, Int.not_le, ne_eq, Decidable.not_not, Bool.or_eq_true, Bool.or_eq_false_iff, Bool.and_eq_true, Bool.and_eq_false_imp] at hc9
                    simp at hc9
                  · -- cond 9 false
                    try simp only [decide_eq_true_eq, decide_eq_false_iff_not, Bool.not_eq_true', Bool.not_eq_false', Int.not_lt, Int.not_le, ne_eq, Decidable.not_not, Bool.or_eq_true, Bool.or_eq_false_iff, Bool.and_eq_true, Bool.and_eq_false_imp] at hc9
                    refine wpIn_skip ?_
                    refine blk_normal ?_
                    refine hK10 _ _ ?_; clear hK10
                    refine wr_region rfl ?_
                    refine s_pu hF rfl rfl rfl (pu_move (hF.ev rfl)) ?_; clear hF; intro a hF
                    refine s_pu hF rfl rfl rfl ((by exact pu_add64 (hF.ev rfl) (hF.ev rfl) (by omega))) ?_; clear hF; intro a hF
                    refine s_pu hF rfl rfl rfl (pu_assign (hF.ev rfl)) ?_; clear hF; intro a hF
                    refine s_done ?_
                    refine sure_in ?_
                    exact ⟨len - (i + 1), by omega, i + 1, P, now, last, rfl, by omega, by omega, hp, by omega, hF.sub ⟨rfl, rfl, rfl, rfl, rfl, trivial⟩, hS.sel [1]⟩
          · -- lthere
            have henm : en ∈ P := by rw [hP]; simp
            have hb0 := hp.at_ en henm
            refine wr_region rfl ?_
            refine s_pu hF rfl rfl rfl (pu_move (hF.ev rfl)) ?_; clear hF; intro a hF
            refine s_pu hF rfl rfl rfl (pu_move (hF.ev rfl)) ?_; clear hF; intro a hF
            refine s_en hF rfl rfl rfl (run_fn fk31 (hF.ev rfl) (hF.evs rfl)) (wLeft_i (t := N) hS hp.rising henm hen (by omega)) ?_
            clear hS; rintro e w ⟨rfl, hS⟩
            refine ⟨_, rfl, ?_⟩; clear hF; intro a hF
            refine s_pu hF rfl rfl rfl (pu_move (hF.ev rfl)) ?_; clear hF; intro a hF
            refine s_pu hF rfl rfl rfl (pu_extract (hF.ev rfl) rfl) ?_; clear hF; intro a hF
            refine s_pu hF rfl rfl rfl (pu_extract (hF.ev rfl) rfl) ?_; clear hF; intro a hF
            refine s_pu hF rfl rfl rfl (pu_assign (hF.ev rfl)) ?_; clear hF; intro a hF
            refine s_pu hF rfl rfl rfl (pu_assign (hF.ev rfl)) ?_; clear hF; intro a hF
            refine s_done ?_
            refine sure_in ?_
            refine hK12 _ _ ?_; clear hK12
            refine wpIn_seq_k fun K13 hK13 => ?_
            refine wr_region rfl ?_
            refine s_pu hF rfl rfl rfl (pu_move (hF.ev rfl)) ?_; clear hF; intro a hF
            refine s_pu hF rfl rfl rfl (pu_move (hF.ev rfl)) ?_; clear hF; intro a hF
            replace hS := hS.front 1 rfl
            simp only [del] at hS
            refine s_en hF rfl rfl rfl (run_fn fk31 (hF.ev rfl) (hF.evs rfl)) (wLeft_i (t := N) hS hp.rising henm hen (by omega)) ?_
            clear hS; rintro e w ⟨rfl, hS⟩
            refine ⟨_, rfl, ?_⟩; clear hF; intro a hF
            refine s_pu hF rfl rfl rfl (pu_move (hF.ev rfl)) ?_; clear hF; intro a hF
            refine s_pu hF rfl rfl rfl (pu_extract (hF.ev rfl) rfl) ?_; clear hF; intro a hF
            refine s_pu hF rfl rfl rfl (pu_extract (hF.ev rfl) rfl) ?_; clear hF; intro a hF
            refine s_pu hF rfl rfl rfl (pu_assign (hF.ev rfl)) ?_; clear hF; intro a hF
            refine s_pu hF rfl rfl rfl (pu_assign (hF.ev rfl)) ?_; clear hF; intro a hF
            refine s_done ?_
            refine sure_in ?_
            refine hK13 _ _ ?_; clear hK13
            refine wpIn_seq_k fun K14 hK14 => ?_
            refine wr_region rfl ?_
            refine s_pu hF rfl rfl rfl (pu_move (hF.ev rfl)) ?_; clear hF; intro a hF
            refine s_pu hF rfl rfl rfl (pu_move (hF.ev rfl)) ?_; clear hF; intro a hF
            refine s_pu hF rfl rfl rfl (pu_neq (hF.ev rfl) (hF.ev rfl)) ?_; clear hF; intro a hF
            refine s_pu hF rfl rfl rfl (pu_move (hF.ev rfl)) ?_; clear hF; intro a hF
            refine fr_split hF (t := 165) rfl ?_ ?_
            · clear hF; intro hg165 hF   -- slot 165 true
              try simp only [decide_eq_true_eq, decide_eq_false_iff_not, Bool.not_eq_true', Bool.not_eq_false', Int.not_lt, Int.not_le, ne_eq, Decidable.not_not, Bool.or_eq_true, Bool.or_eq_false_iff, Bool.and_eq_true, Bool.and_eq_false_imp] at hg165
              simp at hg165
            · clear hF; intro hg165 hF   -- slot 165 false
              try simp only [decide_eq_true_eq, decide_eq_false_iff_not, Bool.not_eq_true', Bool.not_eq_false', Int.not_lt, Int.not_le, ne_eq, Decidable.not_not, Bool.or_eq_true, Bool.or_eq_false_iff, Bool.and_eq_true, Bool.and_eq_false_imp] at hg165
              refine s_pu hF rfl rfl rfl (pu_move (hF.ev rfl)) ?_; clear hF; intro a hF
              refine s_pu hF rfl rfl rfl (pu_move (hF.ev rfl)) ?_; clear hF; intro a hF
              refine s_pu hF rfl rfl rfl (pu_neq (hF.ev rfl) (hF.ev rfl)) ?_; clear hF; intro a hF
              refine s_pu hF rfl rfl rfl ((by exact pu_pick_f (hF.ev rfl) (hF.ev rfl))) ?_; clear hF; intro a hF
              refine s_pu hF rfl rfl rfl (pu_move (hF.ev rfl)) ?_; clear hF; intro a hF
              refine fr_split hF (t := 170) rfl ?_ ?_
              · clear hF; intro hg170 hF   -- slot 170 true
                try simp only [decide_eq_true_eq, decide_eq_false_iff_not, Bool.not_eq_true', Bool.not_eq_false', Int.not_lt, Int.not_le, ne_eq, Decidable.not_not, Bool.or_eq_true, Bool.or_eq_false_iff, Bool.and_eq_true, Bool.and_eq_false_imp] at hg170
                simp at hg170
              · clear hF; intro hg170 hF   -- slot 170 false
                try simp only [decide_eq_true_eq, decide_eq_false_iff_not, Bool.not_eq_true', Bool.not_eq_false', Int.not_lt, Int.not_le, ne_eq, Decidable.not_not, Bool.or_eq_true, Bool.or_eq_false_iff, Bool.and_eq_true, Bool.and_eq_false_imp] at hg170
                refine s_pu hF rfl rfl rfl (pu_move (hF.ev rfl)) ?_; clear hF; intro a hF
                refine s_en hF rfl rfl rfl (run_fn fk18 (hF.ev rfl) (hF.evs rfl)) (at_keep 1 hS rfl (fun h => wLen_i h)) ?_
                clear hS; rintro e w ⟨rfl, hS⟩
                refine ⟨_, rfl, ?_⟩; clear hF; intro a hF
                refine s_pu hF rfl rfl rfl (pu_move (hF.ev rfl)) ?_; clear hF; intro a hF
                refine s_en hF rfl rfl rfl (run_fn fk18 (hF.ev rfl) (hF.evs rfl)) (wLen_i hS) ?_
                clear hS; rintro e w ⟨rfl, hS⟩
                refine ⟨_, rfl, ?_⟩; clear hF; intro a hF
                refine s_pu hF rfl rfl rfl (pu_neq (hF.ev rfl) (hF.ev rfl)) ?_; clear hF; intro a hF
                refine s_pu hF rfl rfl rfl ((by exact pu_pick_f (hF.ev rfl) (hF.ev rfl))) ?_; clear hF; intro a hF
                refine s_pu hF rfl rfl rfl (pu_move (hF.ev rfl)) ?_; clear hF; intro a hF
                refine fr_split hF (t := 177) rfl ?_ ?_
                · clear hF; intro hg177 hF   -- slot 177 true
                  try simp only [decide_eq_true_eq, decide_eq_false_iff_not, Bool.not_eq_true', Bool.not_eq_false', Int.not_lt, Int.not_le, ne_eq, Decidable.not_not, Bool.or_eq_true, Bool.or_eq_false_iff, Bool.and_eq_true, Bool.and_eq_false_imp] at hg177
                  simp at hg177
                · clear hF; intro hg177 hF   -- slot 177 false
                  try simp only [decide_eq_true_eq, decide_eq_false_iff_not, Bool.not_eq_true', Bool.not_eq_false', Int.not_lt, Int.not_le, ne_eq, Decidable.not_not, Bool.or_eq_true, Bool.or_eq_false_iff, Bool.and_eq_true, Bool.and_eq_false_imp] at hg177
                  refine s_pu hF rfl rfl rfl (pu_move (hF.ev rfl)) ?_; clear hF; intro a hF
                  refine s_en hF rfl rfl rfl (run_fn fk19 (hF.ev rfl) (hF.evs rfl)) (at_keep 1 hS rfl (fun h => wNow_i h)) ?_
                  clear hS; rintro e w ⟨rfl, hS⟩
                  refine ⟨_, rfl, ?_⟩; clear hF; intro a hF
                  refine s_pu hF rfl rfl rfl (pu_move (hF.ev rfl)) ?_; clear hF; intro a hF
                  refine s_en hF rfl rfl rfl (run_fn fk19 (hF.ev rfl) (hF.evs rfl)) (wNow_i hS) ?_
                  clear hS; rintro e w ⟨rfl, hS⟩
                  refine ⟨_, rfl, ?_⟩; clear hF; intro a hF
                  refine s_pu hF rfl rfl rfl (pu_neq (hF.ev rfl) (hF.ev rfl)) ?_; clear hF; intro a hF
                  refine s_pu hF rfl rfl rfl ((by exact pu_pick_f (hF.ev rfl) (hF.ev rfl))) ?_; clear hF; intro a hF
                  refine s_done ?_
                  refine sure_in ?_
                  refine hK14 _ _ ?_; clear hK14
                  refine wpIn_cond_split (hF.ev rfl) (fun hc9 => ?_) (fun hc9 => ?_)
                  · -- cond 9 true
                    try simp only [decide_eq_true_eq, decide_eq_false_iff_not, Bool.not_eq_true', Bool.not_eq_false', Int.not_lt, Int.not_le, ne_eq, Decidable.not_not, Bool.or_eq_true, Bool.or_eq_false_iff, Bool.and_eq_true, Bool.and_eq_false_imp] at hc9
                    simp at hc9
                  · -- cond 9 false
                    try simp only [decide_eq_true_eq, decide_eq_false_iff_not, Bool.not_eq_true', Bool.not_eq_false', Int.not_lt, Int.not_le, ne_eq, Decidable.not_not, Bool.or_eq_true, Bool.or_eq_false_iff, Bool.and_eq_true, Bool.and_eq_false_imp] at hc9
                    refine wpIn_skip ?_
                    refine blk_normal ?_
                    refine hK10 _ _ ?_; clear hK10
                    refine wr_region rfl ?_
                    refine s_pu hF rfl rfl rfl (pu_move (hF.ev rfl)) ?_; clear hF; intro a hF
                    refine s_pu hF rfl rfl rfl ((by exact pu_add64 (hF.ev rfl) (hF.ev rfl) (by omega))) ?_; clear hF; intro a hF
                    refine s_pu hF rfl rfl rfl (pu_assign (hF.ev rfl)) ?_; clear hF; intro a hF
                    refine s_done ?_
                    refine sure_in ?_
                    exact ⟨len - (i + 1), by omega, i + 1, P, now, last, rfl, by omega, by omega, hp, by omega, hF.sub ⟨rfl, rfl, rfl, rfl, rfl, trivial⟩, hS.sel [1]⟩
      · -- cond 1 false
        try simp only [decide_eq_true_eq, decide_eq_false_iff_not, Bool.not_eq_true', Bool.not_eq_false', Int.not_lt, Int.not_le, ne_eq, Decidable.not_not, Bool.or_eq_true, Bool.or_eq_false_iff, Bool.and_eq_true, Bool.and_eq_false_imp] at hc1
        refine wpIn_exit ?_
        refine then_exit ?_
        refine then_exit ?_
        refine blk_exit ?_
        exact ⟨P, now, last, hp.upto (by omega), hF.sub ⟨rfl, rfl, rfl, trivial⟩, hS⟩
    · clear hF; intro hg73 hF   -- slot 73 false
      try simp only [decide_eq_true_eq, decide_eq_false_iff_not, Bool.not_eq_true', Bool.not_eq_false', Int.not_lt, Int.not_le, ne_eq, Decidable.not_not, Bool.or_eq_true, Bool.or_eq_false_iff, Bool.and_eq_true, Bool.and_eq_false_imp] at hg73
      refine s_no hF rfl rfl rfl ?_; clear hF; intro a hF
      refine s_no hF rfl rfl rfl ?_; clear hF; intro a hF
      refine s_pu hF rfl rfl rfl ((by exact pu_pick_f (hF.ev rfl) (hF.ev rfl))) ?_; clear hF; intro a hF
      refine s_done ?_
      refine sure_in ?_
      refine hK9 _ _ ?_; clear hK9
      refine wpIn_cond_false (hF.ev rfl) ?_
      refine wpIn_exit ?_
      refine then_exit ?_
      refine then_exit ?_
      refine blk_exit ?_
      exact ⟨P, now, last, hp.upto (by omega), hF.sub ⟨rfl, rfl, rfl, trivial⟩, hS⟩
  · -- behind the join s7
    clear hS hF
    rintro a w ⟨P, now, last, hp, hF, hS⟩
    have hpl := hp.len
    have hpn := hp.n0
    have hroom : (P.length + 1) * 24 ≤ 140737488355328 := by omega
    refine wpIn_seq_k fun K6 hK6 => ?_
    refine wr_region rfl ?_
    refine s_newp hF rfl rfl rfl (ef_alloc (cs := #[_]) ze22 rfl) hS ?_; clear hF hS; intro b28 w hS a hF
    refine s_done ?_
    refine sure_in ?_
    refine hK6 _ _ ?_; clear hK6
    refine wpIn_seq_k fun K7 hK7 => ?_
    refine wr_region rfl ?_
    refine s_pu hF rfl rfl rfl (pu_move (hF.ev rfl)) ?_; clear hF; intro a hF
    refine s_en hF rfl rfl rfl (run_fn fk25 (hF.ev rfl) (hF.evs rfl)) (wAll_c hS) ?_
    clear hS; rintro e w ⟨ba, rfl, hS⟩
    refine ⟨_, rfl, ?_⟩; clear hF; intro a hF
    refine s_pu hF rfl rfl rfl (pu_assign (hF.ev rfl)) ?_; clear hF; intro a hF
    refine s_done ?_
    refine sure_in ?_
    refine hK7 _ _ ?_; clear hK7
    refine wpIn_seq_k fun K8 hK8 => ?_
    refine wr_region rfl ?_
    refine s_pu hF rfl rfl rfl (pu_move (hF.ev rfl)) ?_; clear hF; intro a hF
    refine s_en hF rfl rfl rfl (run_fn fk25 (hF.ev rfl) (hF.evs rfl)) (wAll_c hS) ?_
    clear hS; rintro e w ⟨bb, rfl, hS⟩
    refine ⟨_, rfl, ?_⟩; clear hF; intro a hF
    refine s_pu hF rfl rfl rfl (pu_assign (hF.ev rfl)) ?_; clear hF; intro a hF
    refine s_done ?_
    refine sure_in ?_
    refine hK8 _ _ ?_; clear hK8
    refine wpIn_seq_k fun K9 hK9 => ?_
    refine wpIn_seq_k fun K10 hK10 => ?_
    refine wr_region rfl ?_
    refine s_pu hF rfl rfl rfl (pu_move (hF.ev rfl)) ?_; clear hF; intro a hF
    refine s_pu hF rfl rfl rfl (pu_feq Try.underlying59 (hF.ev rfl) (hF.ev rfl)) ?_; clear hF; intro a hF
    refine s_pu hF rfl rfl rfl (pu_move (hF.ev rfl)) ?_; clear hF; intro a hF
    refine s_pu hF rfl rfl rfl (pu_move (hF.ev rfl)) ?_; clear hF; intro a hF
    refine s_pu hF rfl rfl rfl (pu_feq Try.underlying59 (hF.ev rfl) (hF.ev rfl)) ?_; clear hF; intro a hF
    refine s_pu hF rfl rfl rfl ((by exact pu_pick_f (hF.ev rfl) (hF.ev rfl))) ?_; clear hF; intro a hF
    refine s_done ?_
    refine sure_in ?_
    refine hK10 _ _ ?_; clear hK10
    refine wpIn_cond_false (hF.ev rfl) ?_
    refine wpIn_skip ?_
    refine hK9 _ _ ?_; clear hK9
    refine wpIn_seq_k fun K11 hK11 => ?_
    refine wpIn_seq_k fun K12 hK12 => ?_
    refine wr_region rfl ?_
    refine s_pu hF rfl rfl rfl (pu_move (hF.ev rfl)) ?_; clear hF; intro a hF
    refine s_done ?_
    refine sure_in ?_
    refine hK12 _ _ ?_; clear hK12
    refine wpIn_block ?_
    have hS1 := row_nil (E := 3) (sz := 1) hS
    replace hS : Sat W w [.obj b28 (.cells #[.slice none (0 * 2) 0] 22 (0, 0)), rowC 3 1 (.slice none (0 * 2) 0) (0 * 2) (pairs ((sortE P).take 0)), .obj ba (.cells #[.pointer (some ⟨ga, 0, none⟩)] 38 (0, 0)), whC_i ga n0 P now last, whC_i gb n1 P now last, .obj bb (.cells #[.pointer (some ⟨gb, 0, none⟩)] 38 (0, 0)), .obj b6 (.cells #[.bool false] 4 (0, 0)), whole W] := hS1.sel [3, 0, 1, 1, 1, 0]
    clear hS1
    refine range_out (σ := Nat × Option Addr × Nat) (τ := Nat) P.length (encE (sortE P)) (fun i s => s.1 = i)
      (fun s => [.obj b28 (.cells #[.slice s.2.1 (s.1 * 2 : Nat) s.2.2] 22 (0, 0)), rowC 3 1 (.slice s.2.1 (s.1 * 2 : Nat) s.2.2) (s.1 * 2) (pairs ((sortE P).take s.1)), .obj ba (.cells #[.pointer (some ⟨ga, 0, none⟩)] 38 (0, 0)), whC_i ga n0 P now last, whC_i gb n1 P now last, .obj bb (.cells #[.pointer (some ⟨gb, 0, none⟩)] 38 (0, 0)), .obj b6 (.cells #[.bool false] 4 (0, 0)), whole W])
      (fun _ => False) (fun _ => .ret) (fun _ => [])
      (C := [_, _, _, _, _, _, _, _]) hF hS (hF.ev rfl) fk44 rfl (fun _ _ => rfl) (fun _ _ => .inl rfl) (fun d l rec D X' w hS hD hR => by
        subst hD
        exact wAll_it (hS.sel [4, 4]) (fun w G h => ⟨(0, none, 0), rfl, sat_star.2 (h.sel [2, 2, 2, 2, 0, 0])⟩) hR h01 h02 hp.rising hroom) ?_ ?_ ?_
    · -- a round of g0
      clear hF hS; intro d0 l0 rec0 F0 i0 s0 a w hi0 hs0 hF hS KA hKA
      obtain ⟨k, A, c⟩ := s0
      subst hs0
      simp only [List.cons_append] at hS
      have hsl := sortE_len P
      obtain ⟨e, he⟩ : ∃ e, (sortE P)[k]? = some e := ⟨(sortE P)[k]'(by omega), List.getElem?_eq_getElem _⟩
      have hen : encE (sortE P) k = [.int .i64 e.timer, e.v] := by
        unfold encE
        rw [List.getD_eq_getElem?_getD, he]
        rfl
      obtain ⟨x, hx⟩ := hp.nums e ((sortE_perm P).subset (List.mem_of_getElem? he))
      rw [hen, hx] at hF
      simp only [List.zip, List.zipWith, List.reverse, List.reverseAux, List.cons_append, List.nil_append] at hF
      have htk : (sortE P).take (k + 1) = (sortE P).take k ++ [e] := by rw [List.take_add_one, he]; rfl
      refine wpIn_seq_k fun K14 hK14 => ?_
      refine wr_region rfl ?_
      refine s_pu hF rfl rfl rfl (pu_assign (hF.ev rfl)) ?_; clear hF; intro a hF
      refine s_done ?_
      refine sure_in ?_
      refine hK14 _ _ ?_; clear hK14
      refine wr_region rfl ?_
      refine s_pu hF rfl rfl rfl (pu_assign (hF.ev rfl)) ?_; clear hF; intro a hF
      refine s_done ?_
      refine sure_in ?_
      refine hKA _ _ _ hS fun w hS => ?_
      refine wpIn_block ?_
      refine wr_region rfl ?_
      refine s_rd hF rfl rfl rfl (by exact rd_load pl22 (hF.ev rfl) (hS.cellL (i := 2) rfl rfl)) ?_; clear hF; intro a hF
      refine s_pu hF rfl rfl rfl (pu_move (hF.ev rfl)) ?_; clear hF; intro a hF
      refine s_pu hF rfl rfl rfl (pu_move (hF.ev rfl)) ?_; clear hF; intro a hF
      refine s_news hF rfl rfl rfl (ef_lit (res := [_, _]) sl22 ze3 (hF.evp rfl) (by omega) (by omega) rfl (by simp)) hS ?_; clear hF hS; intro b200 w hS a hF
      (((refine s_append 4 0 hF rfl rfl sl22 el3 (hF.ev rfl) (hF.ev rfl) hS rfl rfl rfl (by rfl) (by unfold maxLen; omega) (by omega) ?_))); (clear hS hF; intro A201 q201 w hS a hF; (try simp only [upd, del] at hS))
      ((refine s_store (vs := [_]) (cs' := #[_]) 4 hF rfl (hF.ev rfl) (hF.ev rfl) hS rfl rfl sz22 (by rfl) (by exact Nat.le_of_ble_eq_true rfl) rfl ?_))
      clear hS; intro w hS; (try simp only [upd, del] at hS)
      refine s_done ?_
      refine sure_in ?_
      refine blk_normal ?_
      replace hS := (hS.drop 1).sel [1, 1, 1, 0]
      simp only [selR, nth, del] at hS
      rw [← hx, ← pairs_snoc, ← htk, show k * 2 + 2 = (k + 1) * 2 by omega] at hS
      exact ⟨(k + 1, A201, q201), rfl, hS⟩
    · -- behind g0
      clear hF hS; intro d0 a w s0 hs0 hF hS
      obtain ⟨k, A, c⟩ := s0
      simp only at hs0
      subst hs0
      have hsl := sortE_len P
      simp only at hS
      rw [List.take_of_length_le (by omega)] at hS
      refine blk_normal ?_
      refine hK11 _ _ ?_; clear hK11
      refine wpIn_seq_k fun K13 hK13 => ?_
      refine wr_region rfl ?_
      refine s_newp hF rfl rfl rfl (ef_alloc (cs := #[_]) ze3 rfl) hS ?_; clear hF hS; intro b33 w hS a hF
      ((refine s_store (vs := [_]) (cs' := #[_]) 0 hF rfl (hF.ev rfl) (hF.ev rfl) hS rfl rfl sz3 (by rfl) (by exact Nat.le_of_ble_eq_true rfl) rfl ?_))
      clear hS; intro w hS; (try simp only [upd, del] at hS)
      refine s_done ?_
      refine sure_in ?_
      refine hK13 _ _ ?_; clear hK13
      refine wpIn_seq_k fun K14 hK14 => ?_
      refine wpIn_seq_k fun K15 hK15 => ?_
      refine wr_region rfl ?_
      refine s_pu hF rfl rfl rfl (pu_move (hF.ev rfl)) ?_; clear hF; intro a hF
      refine s_done ?_
      refine sure_in ?_
      refine hK15 _ _ ?_; clear hK15
      refine wpIn_block ?_
      refine range_out (σ := Nat) (τ := Nat) P.length (encE (sortE P)) (fun i s => s = i)
        (fun s => [.obj b33 (.cells #[.int .i64 (s * 2 : Nat)] 3 (0, 0)), dfC d0, .obj b28 (.cells #[.slice A (P.length * 2) c] 22 (0, 0)), rowC 3 1 (.slice A (P.length * 2) c) (P.length * 2) (pairs (sortE P)), .obj ba (.cells #[.pointer (some ⟨ga, 0, none⟩)] 38 (0, 0)), whC_i ga n0 P now last, whC_i gb n1 P now last, .obj bb (.cells #[.pointer (some ⟨gb, 0, none⟩)] 38 (0, 0)), .obj b6 (.cells #[.bool false] 4 (0, 0)), whole W])
        (fun _ => False) (fun _ => .ret) (fun _ => [])
        (C := [_, _, _, _, _, _, _, _, _, _]) hF hS (hF.ev rfl) fk44 rfl (fun _ _ => rfl) (fun _ _ => .inl rfl) (fun d l rec D X' w hS hD hR => by
          subst hD
          exact wAll_it (hS.sel [9, 8]) (fun w G h => ⟨0, rfl, sat_star.2 (h.sel [2, 2, 2, 2, 2, 2, 2, 2, 1, 0])⟩) hR h11 h12 hp.rising hroom) ?_ ?_ ?_
      · -- a round of g1
        clear hF hS; intro d1 l1 rec1 F1 i1 s1 a w hi1 hs1 hF hS KA hKA
        subst hs1
        simp only [List.cons_append] at hS
        have hsl := sortE_len P
        obtain ⟨e, he⟩ : ∃ e, (sortE P)[s1]? = some e := ⟨(sortE P)[s1]'(by omega), List.getElem?_eq_getElem _⟩
        have hen : encE (sortE P) s1 = [.int .i64 e.timer, e.v] := by
          unfold encE
          rw [List.getD_eq_getElem?_getD, he]
          rfl
        obtain ⟨x, hx⟩ := hp.nums e ((sortE_perm P).subset (List.mem_of_getElem? he))
        rw [hen, hx] at hF
        simp only [List.zip, List.zipWith, List.reverse, List.reverseAux, List.cons_append, List.nil_append] at hF
        obtain ⟨gr, rfl⟩ := row_some (i := 5) hS rfl (by omega)
        refine wpIn_seq_k fun K17 hK17 => ?_
        refine wr_region rfl ?_
        refine s_pu hF rfl rfl rfl (pu_assign (hF.ev rfl)) ?_; clear hF; intro a hF
        refine s_done ?_
        refine sure_in ?_
        refine hK17 _ _ ?_; clear hK17
        refine wr_region rfl ?_
        refine s_pu hF rfl rfl rfl (pu_assign (hF.ev rfl)) ?_; clear hF; intro a hF
        refine s_done ?_
        refine sure_in ?_
        refine hKA _ _ _ hS fun w hS => ?_
        refine wpIn_block ?_
        refine wpIn_seq_k fun K18 hK18 => ?_
        refine wpIn_seq_k fun K19 hK19 => ?_
        refine wr_region rfl ?_
        refine s_rd hF rfl rfl rfl (by exact rd_load pl3 (hF.ev rfl) (hS.cellL (i := 2) rfl rfl)) ?_; clear hF; intro a hF
        refine s_pu hF rfl rfl rfl ((by exact pu_add64 (hF.ev rfl) (hF.ev rfl) (by omega))) ?_; clear hF; intro a hF
        refine s_rd hF rfl rfl rfl (by exact rd_load pl22 (hF.ev rfl) (hS.cellL (i := 4) rfl rfl)) ?_; clear hF; intro a hF
        refine s_pu hF rfl rfl rfl (pu_len sl22 (hF.ev rfl)) ?_; clear hF; intro a hF
        refine s_pu hF rfl rfl rfl (pu_geq (hF.ev rfl) (hF.ev rfl)) ?_; clear hF; intro a hF
        refine s_pu hF rfl rfl rfl (pu_move (hF.ev rfl)) ?_; clear hF; intro a hF
        refine fr_split hF (t := 210) rfl ?_ ?_
        · clear hF; intro hg210 hF   -- slot 210 true
          try simp only [decide_eq_true_eq, decide_eq_false_iff_not, Bool.not_eq_true', Bool.not_eq_false', Int.not_lt, Int.not_le, ne_eq, Decidable.not_not, Bool.or_eq_true, Bool.or_eq_false_iff, Bool.and_eq_true, Bool.and_eq_false_imp] at hg210
          omega
        · clear hF; intro hg210 hF   -- slot 210 false
          try simp only [decide_eq_true_eq, decide_eq_false_iff_not, Bool.not_eq_true', Bool.not_eq_false', Int.not_lt, Int.not_le, ne_eq, Decidable.not_not, Bool.or_eq_true, Bool.or_eq_false_iff, Bool.and_eq_true, Bool.and_eq_false_imp] at hg210
          refine s_pu hF rfl rfl rfl (pu_move (hF.ev rfl)) ?_; clear hF; intro a hF
          refine s_rd hF rfl rfl rfl (by exact rd_load pl22 (hF.ev rfl) (hS.cellL (i := 4) rfl rfl)) ?_; clear hF; intro a hF
          refine s_rd hF rfl rfl rfl (by exact rd_load pl3 (hF.ev rfl) (hS.cellL (i := 2) rfl rfl)) ?_; clear hF; intro a hF
          refine s_pu hF rfl rfl rfl ((by exact pu_elem sl22 (hF.ev rfl) (hF.ev rfl) (by omega) (by omega))) ?_; clear hF; intro a hF
          refine s_rd hF rfl rfl rfl (rd_load pl3 (hF.ev rfl) (row_load (i := 5) (k := s1 * 2) (cs := [.int .i64 e.timer]) hS rfl (by omega) (fun j v hj => by
            cases j with
            | zero => rw [← hj, Nat.mul_one]; exact (pairs_at he).1
            | succ j => simp at hj) 0 _ rfl)) ?_; clear hF; intro a hF
          refine s_pu hF rfl rfl rfl (pu_neq (hF.ev rfl) (hF.ev rfl)) ?_; clear hF; intro a hF
          refine s_pu hF rfl rfl rfl ((by exact pu_pick_f (hF.ev rfl) (hF.ev rfl))) ?_; clear hF; intro a hF
          refine s_pu hF rfl rfl rfl (pu_move (hF.ev rfl)) ?_; clear hF; intro a hF
          refine fr_split hF (t := 218) rfl ?_ ?_
          · clear hF; intro hg218 hF   -- slot 218 true
            try simp only [decide_eq_true_eq, decide_eq_false_iff_not, Bool.not_eq_true', Bool.not_eq_false', Int.not_lt, Int.not_le, ne_eq, Decidable.not_not, Bool.or_eq_true, Bool.or_eq_false_iff, Bool.and_eq_true, Bool.and_eq_false_imp] at hg218
            simp at hg218
          · clear hF; intro hg218 hF   -- slot 218 false
            try simp only [decide_eq_true_eq, decide_eq_false_iff_not, Bool.not_eq_true', Bool.not_eq_false', Int.not_lt, Int.not_le, ne_eq, Decidable.not_not, Bool.or_eq_true, Bool.or_eq_false_iff, Bool.and_eq_true, Bool.and_eq_false_imp] at hg218
            refine s_pu hF rfl rfl rfl (pu_move (hF.ev rfl)) ?_; clear hF; intro a hF
            refine s_rd hF rfl rfl rfl (by exact rd_load pl22 (hF.ev rfl) (hS.cellL (i := 4) rfl rfl)) ?_; clear hF; intro a hF
            refine s_rd hF rfl rfl rfl (by exact rd_load pl3 (hF.ev rfl) (hS.cellL (i := 2) rfl rfl)) ?_; clear hF; intro a hF
            refine s_pu hF rfl rfl rfl ((by exact pu_add64 (hF.ev rfl) (hF.ev rfl) (by omega))) ?_; clear hF; intro a hF
            refine s_pu hF rfl rfl rfl ((by exact pu_elem sl22 (hF.ev rfl) (hF.ev rfl) (by omega) (by omega))) ?_; clear hF; intro a hF
            refine s_rd hF rfl rfl rfl (rd_load pl3 (hF.ev rfl) (row_load (i := 5) (k := s1 * 2 + 1) (cs := [.int .i64 x]) hS rfl (by omega) (fun j v hj => by
              cases j with
              | zero => rw [← hj, Nat.mul_one, ← hx]; exact (pairs_at he).2
              | succ j => simp at hj) 0 _ rfl)) ?_; clear hF; intro a hF
            refine s_pu hF rfl rfl rfl (pu_neq (hF.ev rfl) (hF.ev rfl)) ?_; clear hF; intro a hF
            refine s_pu hF rfl rfl rfl ((by exact pu_pick_f (hF.ev rfl) (hF.ev rfl))) ?_; clear hF; intro a hF
            refine s_done ?_
            refine sure_in ?_
            refine hK19 _ _ ?_; clear hK19
            refine wpIn_cond_split (hF.ev rfl) (fun hc11 => ?_) (fun hc11 => ?_)
            · -- cond 11 true
              try simp only [decide_eq_true_eq, decide_eq_false_iff_not, Bool.not_eq_true', Bool.not_eq_false', Int.not_lt, Int.not_le, ne_eq, Decidable.not_not, Bool.or_eq_true, Bool.or_eq_false_iff, Bool.and_eq_true, Bool.and_eq_false_imp] at hc11
              simp at hc11
            · -- cond 11 false
              try simp only [decide_eq_true_eq, decide_eq_false_iff_not, Bool.not_eq_true', Bool.not_eq_false', Int.not_lt, Int.not_le, ne_eq, Decidable.not_not, Bool.or_eq_true, Bool.or_eq_false_iff, Bool.and_eq_true, Bool.and_eq_false_imp] at hc11
              refine wpIn_skip ?_
              refine hK18 _ _ ?_; clear hK18
              refine wr_region rfl ?_
              refine s_rd hF rfl rfl rfl (by exact rd_load pl3 (hF.ev rfl) (hS.cellL (i := 2) rfl rfl)) ?_; clear hF; intro a hF
              refine s_pu hF rfl rfl rfl ((by exact pu_add64 (hF.ev rfl) (hF.ev rfl) (by omega))) ?_; clear hF; intro a hF
              ((refine s_store (vs := [_]) (cs' := #[_]) 2 hF rfl (hF.ev rfl) (hF.ev rfl) hS rfl rfl sz3 (by rfl) (by exact Nat.le_of_ble_eq_true rfl) rfl ?_))
              clear hS; intro w hS; (try simp only [upd, del] at hS)
              refine s_done ?_
              refine sure_in ?_
              refine blk_normal ?_
              rw [show ((s1 * 2 : Nat) : Int) + 2 = (((s1 + 1) * 2 : Nat) : Int) by omega] at hS
              exact ⟨s1 + 1, rfl, hS⟩
      · -- behind g1
        clear hF hS; intro d1 a w s1 hs1 hF hS
        subst hs1
        refine blk_normal ?_
        refine hK14 _ _ ?_; clear hK14
        refine wpIn_seq_k fun K16 hK16 => ?_
        refine wr_region rfl ?_
        refine s_rd hF rfl rfl rfl (by exact rd_load pl3 (hF.ev rfl) (hS.cellL (i := 1) rfl rfl)) ?_; clear hF; intro a hF
        refine s_rd hF rfl rfl rfl (by exact rd_load pl22 (hF.ev rfl) (hS.cellL (i := 3) rfl rfl)) ?_; clear hF; intro a hF
        refine s_pu hF rfl rfl rfl (pu_len sl22 (hF.ev rfl)) ?_; clear hF; intro a hF
        refine s_pu hF rfl rfl rfl (pu_eql (hF.ev rfl) (hF.ev rfl)) ?_; clear hF; intro a hF
        refine s_store 9 hF rfl (hF.ev rfl) (hF.ev rfl) hS rfl rfl sz4 rfl (Nat.le_of_ble_eq_true rfl) rfl ?_
        clear hS; intro w hS; (try simp only [upd, del] at hS)
        refine s_done ?_
        refine sure_in ?_
        replace hS := hS.sel [0, 1]
        simp only [selR, nth, del] at hS
        refine hK16 _ _ ?_; clear hK16
        refine wpIn_ret ?_
        refine finM_ret hF hS (fun w hS => ⟨_, resc1 Try.results6 hF rfl (holds_cell pl4 (hS.cellL (i := 7) rfl rfl)), ?_⟩)
        exact ⟨by simp, (hS.front 8 rfl).below⟩
      · -- g1 is left
        clear hF hS; intro d1 a w t1 ht1 hF hS
        exact ht1.elim
    · -- g0 is left
      clear hF hS; intro d0 a w t0 ht0 hF hS
      exact ht0.elim
end Go.Proofs.Ytbpkfifiigpdcaa
