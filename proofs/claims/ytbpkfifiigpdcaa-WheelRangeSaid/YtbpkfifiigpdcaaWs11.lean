import Derived.Test.YtbpkfifiigpdcaaWs10
import Derived.Test.YtbpkfifiigpdcaaSk32
/-! WheelPlays: the walk. -/
namespace Go.Proofs.Ytbpkfifiigpdcaa
open Go Go.RowKit Go.Proofs.Ytbpkfifiigpdcaa.Sk
set_option linter.unusedVariables false
set_option linter.unusedSimpArgs false
set_option maxRecDepth 100000

/-- A call of the script's, raw. -/
structure Op where
  kind : Int
  two : Bool
  n : Int
def Op.cells (o : Op) : List Value := [.int .i64 o.kind, .bool o.two, .int .i64 o.n]
set_option maxHeartbeats 2000000 in
theorem wheelPlays_walk (W : World) (x0 : Int) (x1 : Int) (sa : Option Addr) (len cap : Nat) (ops : Nat → Op) (hin : CellsIn W sa len 3 (fun i => (ops i).cells)) (hlen : len * 24 ≤ 140737488351232) :
    Calls Try.prog 4 #[.int .i64 x0, .int .i64 x1, .slice sa len cap] W fun e w' => e = .returned (.bool true) ∧ Below W.heap.size W w' := by
  have hS0 := sat_whole W
  obtain ⟨w, hw⟩ : ∃ w, w = W := ⟨_, rfl⟩
  have hS : Sat W w [whole W] := by rw [hw]; exact hS0
  rw [show Calls Try.prog 4 #[.int .i64 x0, .int .i64 x1, .slice sa len cap] W = Calls Try.prog 4 #[.int .i64 x0, .int .i64 x1, .slice sa len cap] w by rw [hw]]
  clear hw hS0
  refine enter Try.func4 rfl Try.ntmps4 (Nat.le_of_ble_eq_true rfl) fun a hF => ?_
  refine wp_seq_k fun K0 hK0 => ?_
  refine wp_region_lit ?_
  refine s_pu hF rfl rfl rfl (pu_assign (hF.ev rfl)) ?_; clear hF; intro a hF
  refine s_done ?_
  refine hK0 _ _ ?_; clear hK0
  refine wp_seq_k fun K1 hK1 => ?_
  refine wp_region_lit ?_
  refine s_en hF rfl rfl rfl (run_fn fk7 (hF.ev rfl) (hF.evs rfl)) (examples_c hS) ?_
  clear hS; rintro e w ⟨rfl, hS⟩
  refine ⟨_, rfl, ?_⟩; clear hF; intro a hF
  refine s_pu hF rfl rfl rfl (pu_assign (hF.ev rfl)) ?_; clear hF; intro a hF
  refine s_done ?_
  refine hK1 _ _ ?_; clear hK1
  refine wp_seq_k fun K2 hK2 => ?_
  rcases Classical.em (1 ≤ x0 ∧ x0 ≤ 4096) with hx0 | hx0 <;> rcases Classical.em (1 ≤ x1 ∧ x1 ≤ 4096) with hx1 | hx1
  · -- oo
    obtain ⟨n0, rfl⟩ : ∃ n0 : Nat, x0 = n0 := ⟨x0.toNat, by omega⟩
    obtain ⟨n1, rfl⟩ : ∃ n1 : Nat, x1 = n1 := ⟨x1.toNat, by omega⟩
    refine wp_region_lit ?_
    refine s_pu hF rfl rfl rfl (pu_move (hF.ev rfl)) ?_; clear hF; intro a hF
    refine s_en hF rfl rfl rfl (run_fn fk15 (hF.ev rfl) (hF.evs rfl)) (wNew_i hS (by omega) (by omega)) ?_
    clear hS; rintro e w ⟨ga, rfl, hS⟩
    refine ⟨_, rfl, ?_⟩; clear hF; intro a hF
    refine s_pu hF rfl rfl rfl (pu_move (hF.ev rfl)) ?_; clear hF; intro a hF
    refine s_pu hF rfl rfl rfl (pu_extract (hF.ev rfl) rfl) ?_; clear hF; intro a hF
    refine s_pu hF rfl rfl rfl (pu_extract (hF.ev rfl) rfl) ?_; clear hF; intro a hF
    refine s_pu hF rfl rfl rfl (pu_assign (hF.ev rfl)) ?_; clear hF; intro a hF
    refine s_pu hF rfl rfl rfl (pu_assign (hF.ev rfl)) ?_; clear hF; intro a hF
    refine s_done ?_
    refine hK2 _ _ ?_; clear hK2
    refine wp_seq_k fun K3 hK3 => ?_
    refine wp_region_lit ?_
    refine s_pu hF rfl rfl rfl (pu_move (hF.ev rfl)) ?_; clear hF; intro a hF
    refine s_en hF rfl rfl rfl (run_fn fk15 (hF.ev rfl) (hF.evs rfl)) (wNew_i hS (by omega) (by omega)) ?_
    clear hS; rintro e w ⟨gb, rfl, hS⟩
    refine ⟨_, rfl, ?_⟩; clear hF; intro a hF
    refine s_pu hF rfl rfl rfl (pu_move (hF.ev rfl)) ?_; clear hF; intro a hF
    refine s_pu hF rfl rfl rfl (pu_extract (hF.ev rfl) rfl) ?_; clear hF; intro a hF
    refine s_pu hF rfl rfl rfl (pu_extract (hF.ev rfl) rfl) ?_; clear hF; intro a hF
    refine s_pu hF rfl rfl rfl (pu_assign (hF.ev rfl)) ?_; clear hF; intro a hF
    refine s_pu hF rfl rfl rfl (pu_assign (hF.ev rfl)) ?_; clear hF; intro a hF
    refine s_done ?_
    refine hK3 _ _ ?_; clear hK3
    refine wp_seq_k fun K4 hK4 => ?_
    refine wp_region_lit ?_
    refine s_pu hF rfl rfl rfl (pu_move (hF.ev rfl)) ?_; clear hF; intro a hF
    refine s_en hF rfl rfl rfl (run_fn fk16 (hF.ev rfl) (hF.evs rfl)) (rNew_c hS hx0.1 hx0.2) ?_
    clear hS; rintro e w ⟨xa, rfl, hS⟩
    refine ⟨_, rfl, ?_⟩; clear hF; intro a hF
    refine s_pu hF rfl rfl rfl (pu_move (hF.ev rfl)) ?_; clear hF; intro a hF
    refine s_pu hF rfl rfl rfl (pu_extract (hF.ev rfl) rfl) ?_; clear hF; intro a hF
    refine s_pu hF rfl rfl rfl (pu_extract (hF.ev rfl) rfl) ?_; clear hF; intro a hF
    refine s_pu hF rfl rfl rfl (pu_assign (hF.ev rfl)) ?_; clear hF; intro a hF
    refine s_pu hF rfl rfl rfl (pu_assign (hF.ev rfl)) ?_; clear hF; intro a hF
    refine s_done ?_
    refine hK4 _ _ ?_; clear hK4
    refine wp_seq_k fun K5 hK5 => ?_
    refine wp_region_lit ?_
    refine s_pu hF rfl rfl rfl (pu_move (hF.ev rfl)) ?_; clear hF; intro a hF
    refine s_en hF rfl rfl rfl (run_fn fk16 (hF.ev rfl) (hF.evs rfl)) (rNew_c hS hx1.1 hx1.2) ?_
    clear hS; rintro e w ⟨xb, rfl, hS⟩
    refine ⟨_, rfl, ?_⟩; clear hF; intro a hF
    refine s_pu hF rfl rfl rfl (pu_move (hF.ev rfl)) ?_; clear hF; intro a hF
    refine s_pu hF rfl rfl rfl (pu_extract (hF.ev rfl) rfl) ?_; clear hF; intro a hF
    refine s_pu hF rfl rfl rfl (pu_extract (hF.ev rfl) rfl) ?_; clear hF; intro a hF
    refine s_pu hF rfl rfl rfl (pu_assign (hF.ev rfl)) ?_; clear hF; intro a hF
    refine s_pu hF rfl rfl rfl (pu_assign (hF.ev rfl)) ?_; clear hF; intro a hF
    refine s_done ?_
    refine hK5 _ _ ?_; clear hK5
    refine wp_seq_k fun K6 hK6 => ?_
    refine wp_seq_k fun K7 hK7 => ?_
    refine wp_region_lit ?_
    refine s_pu hF rfl rfl rfl (pu_move (hF.ev rfl)) ?_; clear hF; intro a hF
    refine s_pu hF rfl rfl rfl (pu_not (hF.ev rfl)) ?_; clear hF; intro a hF
    refine s_pu hF rfl rfl rfl (pu_move (hF.ev rfl)) ?_; clear hF; intro a hF
    refine s_pu hF rfl rfl rfl (pu_move (hF.ev rfl)) ?_; clear hF; intro a hF
    refine s_pu hF rfl rfl rfl (pu_move (hF.ev rfl)) ?_; clear hF; intro a hF
    refine s_pu hF rfl rfl rfl (pu_neq (hF.ev rfl) (hF.ev rfl)) ?_; clear hF; intro a hF
    refine s_pu hF rfl rfl rfl ((by exact pu_pick_f (hF.ev rfl) (hF.ev rfl))) ?_; clear hF; intro a hF
    refine s_pu hF rfl rfl rfl (pu_move (hF.ev rfl)) ?_; clear hF; intro a hF
    refine s_pu hF rfl rfl rfl (pu_move (hF.ev rfl)) ?_; clear hF; intro a hF
    refine s_pu hF rfl rfl rfl (pu_move (hF.ev rfl)) ?_; clear hF; intro a hF
    refine s_pu hF rfl rfl rfl (pu_neq (hF.ev rfl) (hF.ev rfl)) ?_; clear hF; intro a hF
    refine s_pu hF rfl rfl rfl ((by exact pu_pick_f (hF.ev rfl) (hF.ev rfl))) ?_; clear hF; intro a hF
    refine s_pu hF rfl rfl rfl (pu_move (hF.ev rfl)) ?_; clear hF; intro a hF
    refine s_pu hF rfl rfl rfl (pu_move (hF.ev rfl)) ?_; clear hF; intro a hF
    refine s_pu hF rfl rfl rfl (pu_peq Try.underlying38 (hF.ev rfl) (hF.ev rfl)) ?_; clear hF; intro a hF
    refine s_pu hF rfl rfl rfl (pu_move (hF.ev rfl)) ?_; clear hF; intro a hF
    refine s_pu hF rfl rfl rfl (pu_peq Try.underlying41 (hF.ev rfl) (hF.ev rfl)) ?_; clear hF; intro a hF
    refine s_pu hF rfl rfl rfl (pu_bne Try.underlying4 (hF.ev rfl) (hF.ev rfl)) ?_; clear hF; intro a hF
    refine s_pu hF rfl rfl rfl ((by exact pu_pick_f (hF.ev rfl) (hF.ev rfl))) ?_; clear hF; intro a hF
    refine s_pu hF rfl rfl rfl (pu_move (hF.ev rfl)) ?_; clear hF; intro a hF
    refine s_pu hF rfl rfl rfl (pu_move (hF.ev rfl)) ?_; clear hF; intro a hF
    refine s_pu hF rfl rfl rfl (pu_peq Try.underlying38 (hF.ev rfl) (hF.ev rfl)) ?_; clear hF; intro a hF
    refine s_pu hF rfl rfl rfl (pu_move (hF.ev rfl)) ?_; clear hF; intro a hF
    refine s_pu hF rfl rfl rfl (pu_peq Try.underlying41 (hF.ev rfl) (hF.ev rfl)) ?_; clear hF; intro a hF
    refine s_pu hF rfl rfl rfl (pu_bne Try.underlying4 (hF.ev rfl) (hF.ev rfl)) ?_; clear hF; intro a hF
    refine s_pu hF rfl rfl rfl ((by exact pu_pick_f (hF.ev rfl) (hF.ev rfl))) ?_; clear hF; intro a hF
    refine s_done ?_
    refine hK7 _ _ ?_; clear hK7
    refine wp_cond_false (hF.ev rfl) ?_
    refine wp_skip ?_
    refine hK6 _ _ ?_; clear hK6
    refine wp_seq_k fun K8 hK8 => ?_
    refine wp_seq_k fun K9 hK9 => ?_
    refine wp_region_lit ?_
    refine s_pu hF rfl rfl rfl (pu_move (hF.ev rfl)) ?_; clear hF; intro a hF
    refine s_pu hF rfl rfl rfl (pu_peq Try.underlying41 (hF.ev rfl) (hF.ev rfl)) ?_; clear hF; intro a hF
    refine s_pu hF rfl rfl rfl (pu_move (hF.ev rfl)) ?_; clear hF; intro a hF
    refine s_pu hF rfl rfl rfl (pu_move (hF.ev rfl)) ?_; clear hF; intro a hF
    refine s_pu hF rfl rfl rfl (pu_peq Try.underlying41 (hF.ev rfl) (hF.ev rfl)) ?_; clear hF; intro a hF
    refine s_pu hF rfl rfl rfl ((by exact pu_pick_f (hF.ev rfl) (hF.ev rfl))) ?_; clear hF; intro a hF
    refine s_done ?_
    refine hK9 _ _ ?_; clear hK9
    refine wp_cond_false (hF.ev rfl) ?_
    refine wp_skip ?_
    refine hK8 _ _ ?_; clear hK8
    refine wp_seq_k fun K10 hK10 => ?_
    refine wp_region_lit ?_
    refine s_pu hF rfl rfl rfl ((pu_build st47 (hF.evp rfl) rfl rfl : Pu _ _ _ (.agg #[_, _]))) ?_; clear hF; intro a hF
    refine s_newp hF rfl rfl rfl (ef_box (cs := #[_, _]) (hF.ev rfl) rfl) hS ?_; clear hF hS; intro b78 w hS a hF
    refine s_pu hF rfl rfl rfl (pu_assign (hF.ev rfl)) ?_; clear hF; intro a hF
    refine s_done ?_
    have hS1 := row_nil (E := 22) (sz := 1) (row_nil (E := 22) (sz := 1) (lr_nil (E := 3) (sz := 1) (lr_nil (E := 3) (sz := 1) hS)))
    have hS2 : Sat W w (bkC b78 [] [] :: refC xb [] 0 0 :: refC xa [] 0 0 :: whC_i gb n1 [] 0 0 :: whC_i ga n0 [] 0 0 :: [whole W]) := bk_shut (hS1.front 4 rfl)
    clear hS hS1
    have hS := hS2.sel [4, 2, 2, 1, 0]
    simp only [selR, nth, del] at hS
    clear hS2
    refine hK10 _ _ ?_; clear hK10
    refine wp_seq_k fun K11 hK11 => ?_
    refine wp_region_lit ?_
    refine s_pu hF rfl rfl rfl (pu_assign (hF.ev rfl)) ?_; clear hF; intro a hF
    refine s_done ?_
    refine hK11 _ _ ?_; clear hK11
    refine wp_seq_j (fun a w => ∃ (p q : Pair) (fs ws : List Lst) (K : Nat), PairOk p K ∧ PairOk q K ∧ K ≤ len ∧ Told fs ws ∧ fs.length ≤ 900000 ∧
      Fr a 151 [(8, .pointer (some ⟨p.g, 0, none⟩)), (10, .pointer (some ⟨q.g, 0, none⟩)), (12, .pointer (some ⟨p.gx, 0, none⟩)), (14, .pointer (some ⟨q.gx, 0, none⟩)), (16, .pointer (some ⟨b78, 0, none⟩))] ∧
      Sat W w [whC_i p.g p.n p.P p.now p.last, refC p.gx p.P p.now p.last, whC_i q.g q.n q.P q.now q.last, refC q.gx q.P q.now q.last, bkC b78 fs ws, whole W]) ?_ ?_
    · -- up to the join s14
      refine wp_seq_k fun K13 hK13 => ?_
      refine wp_region_lit ?_
      refine s_pu hF rfl rfl rfl (pu_assign (hF.ev rfl)) ?_; clear hF; intro a hF
      refine s_done ?_
      refine hK13 _ _ ?_; clear hK13
      refine wp_block ?_
      refine wp_ind (fun j a' w => ∃ (i : Nat) (p q : Pair) (fs ws : List Lst) (tk : Nat), j = len - i ∧ i ≤ len ∧ PairOk p i ∧ PairOk q i ∧ Told fs ws ∧ tk ≤ 300 ∧ fs.length ≤ 3000 * tk ∧ p.now ≤ 3000 * tk ∧ q.now ≤ 3000 * tk ∧
        Fr a' 151 [(2, .slice sa len cap), (8, .pointer (some ⟨p.g, 0, none⟩)), (10, .pointer (some ⟨q.g, 0, none⟩)), (12, .pointer (some ⟨p.gx, 0, none⟩)), (14, .pointer (some ⟨q.gx, 0, none⟩)), (16, .pointer (some ⟨b78, 0, none⟩)), (17, .int .i64 tk), (18, .int .i64 i)] ∧
        Sat W w [whC_i p.g p.n p.P p.now p.last, refC p.gx p.P p.now p.last, whC_i q.g q.n q.P q.now q.last, refC q.gx q.P q.now q.last, bkC b78 fs ws, whole W]) len
        ⟨0, ⟨ga, xa, n0, [], 0, 0⟩, ⟨gb, xb, n1, [], 0, 0⟩, [], [], 0, by omega, by omega, ⟨.nil, by show 1 ≤ n0; omega, by show n0 ≤ 4096; omega⟩, ⟨.nil, by show 1 ≤ n1; omega, by show n1 ≤ 4096; omega⟩, told_nil, by omega, by simp, by simp, by simp, hF.sub ⟨rfl, rfl, rfl, rfl, rfl, rfl, rfl, rfl, trivial⟩, hS⟩ ?_
      clear hS hF
      rintro j a' w ⟨i, p, q, fs, ws, tk, rfl, hi, hp, hq, ht, htk, hfl, hpn, hqn, hF, hS⟩
      refine wp_seq_k fun K14 hK14 => ?_
      refine wp_seq_k fun K15 hK15 => ?_
      refine wp_region_lit ?_
      refine s_pu hF rfl rfl rfl (pu_move (hF.ev rfl)) ?_; clear hF; intro a hF
      refine s_pu hF rfl rfl rfl (pu_move (hF.ev rfl)) ?_; clear hF; intro a hF
      refine s_pu hF rfl rfl rfl (pu_len sl37 (hF.ev rfl)) ?_; clear hF; intro a hF
      refine s_pu hF rfl rfl rfl (pu_lss (hF.ev rfl) (hF.ev rfl)) ?_; clear hF; intro a hF
      refine s_done ?_
      refine hK15 _ _ ?_; clear hK15
      refine wp_cond_split (hF.ev rfl) (fun hc2 => ?_) (fun hc2 => ?_)
      · -- cond 2 true
        try simp only [decide_eq_true_eq, decide_eq_false_iff_not, Bool.not_eq_true', Bool.not_eq_false', Int.not_lt, Int.not_le, ne_eq, Decidable.not_not, Bool.or_eq_true, Bool.or_eq_false_iff, Bool.and_eq_true, Bool.and_eq_false_imp] at hc2
        have hil : i < len := by omega
        obtain ⟨x, rfl, hc⟩ := hin.at_ hil hS (k := 5) rfl
        have hck : w.cell? ((x.add ((i : Int).toNat * 3)).add 0) = some (.int .i64 (ops i).kind) := hc 0 _ rfl
        have hct : w.cell? ((x.add ((i : Int).toNat * 3)).add 1) = some (.bool (ops i).two) := hc 1 _ rfl
        refine wp_skip ?_
        refine hK14 _ _ ?_; clear hK14
        refine wp_seq_k fun K16 hK16 => ?_
        refine wp_block ?_
        refine wp_seq_k fun K17 hK17 => ?_
        refine wp_region_lit ?_
        refine s_pu hF rfl rfl rfl (pu_move (hF.ev rfl)) ?_; clear hF; intro a hF
        refine s_pu hF rfl rfl rfl (pu_assign (hF.ev rfl)) ?_; clear hF; intro a hF
        refine s_done ?_
        refine hK17 _ _ ?_; clear hK17
        refine wp_seq_k fun K18 hK18 => ?_
        refine wp_region_lit ?_
        refine s_pu hF rfl rfl rfl (pu_move (hF.ev rfl)) ?_; clear hF; intro a hF
        refine s_pu hF rfl rfl rfl (pu_assign (hF.ev rfl)) ?_; clear hF; intro a hF
        refine s_done ?_
        refine hK18 _ _ ?_; clear hK18
        refine wp_seq_k fun K19 hK19 => ?_
        refine wp_seq_k fun K20 hK20 => ?_
        refine wp_region_lit ?_
        refine s_pu hF rfl rfl rfl (pu_move (hF.ev rfl)) ?_; clear hF; intro a hF
        refine s_pu hF rfl rfl rfl (pu_move (hF.ev rfl)) ?_; clear hF; intro a hF
        refine s_pu hF rfl rfl rfl ((by exact pu_elemA sl37 (hF.ev rfl) (hF.ev rfl) (by omega) (by omega))) ?_; clear hF; intro a hF
        refine s_pu hF rfl rfl rfl ((by exact pu_fieldA fd49_1 (hF.ev rfl))) ?_; clear hF; intro a hF
        refine s_rd hF rfl rfl rfl (by exact rd_load pl4 (hF.ev rfl) (by assumption)) ?_; clear hF; intro a hF
        refine s_done ?_
        refine hK20 _ _ ?_; clear hK20
        refine wp_cond_split (hF.ev rfl) (fun hc3 => ?_) (fun hc3 => ?_)
        · -- cond 3 true
          obtain ⟨cu, hcu⟩ : ∃ cu, cu = q := ⟨_, rfl⟩
          subst hcu
          obtain ⟨ot, hot⟩ : ∃ ot, ot = p := ⟨_, rfl⟩
          subst hot
          have hcp : PairOk cu i ∧ cu.now ≤ 3000 * tk := ⟨hq, hqn⟩
          have hop : PairOk ot i ∧ ot.now ≤ 3000 * tk := ⟨hp, hpn⟩
          clear hp hq hpn hqn
          replace hS := hS.sel [2, 2]
          simp only [selR, nth, del] at hS
          refine wp_seq_k fun K21 hK21 => ?_
          refine wp_region_lit ?_
          refine s_pu hF rfl rfl rfl (pu_move (hF.ev rfl)) ?_; clear hF; intro a hF
          refine s_pu hF rfl rfl rfl (pu_assign (hF.ev rfl)) ?_; clear hF; intro a hF
          refine s_done ?_
          refine hK21 _ _ ?_; clear hK21
          refine wp_region_lit ?_
          refine s_pu hF rfl rfl rfl (pu_move (hF.ev rfl)) ?_; clear hF; intro a hF
          refine s_pu hF rfl rfl rfl (pu_assign (hF.ev rfl)) ?_; clear hF; intro a hF
          refine s_done ?_
          refine hK19 _ _ ?_; clear hK19
          refine wp_seq_k fun K22 hK22 => ?_
          refine wp_seq_k fun K23 hK23 => ?_
          refine wp_region_lit ?_
          refine s_pu hF rfl rfl rfl (pu_move (hF.ev rfl)) ?_; clear hF; intro a hF
          refine s_pu hF rfl rfl rfl (pu_move (hF.ev rfl)) ?_; clear hF; intro a hF
          refine s_pu hF rfl rfl rfl ((by exact pu_elemA sl37 (hF.ev rfl) (hF.ev rfl) (by omega) (by omega))) ?_; clear hF; intro a hF
          refine s_pu hF rfl rfl rfl ((by exact pu_fieldA fd49_0 (hF.ev rfl))) ?_; clear hF; intro a hF
          refine s_rd hF rfl rfl rfl (by exact rd_load pl3 (hF.ev rfl) (by assumption)) ?_; clear hF; intro a hF
          refine s_pu hF rfl rfl rfl (pu_eql (hF.ev rfl) (hF.ev rfl)) ?_; clear hF; intro a hF
          refine s_done ?_
          refine hK23 _ _ ?_; clear hK23
          refine wp_cond_split (hF.ev rfl) (fun hc4 => ?_) (fun hc4 => ?_)
          · -- cond 4 true
            try simp only [decide_eq_true_eq, decide_eq_false_iff_not, Bool.not_eq_true', Bool.not_eq_false', Int.not_lt, Int.not_le, ne_eq, Decidable.not_not, Bool.or_eq_true, Bool.or_eq_false_iff, Bool.and_eq_true, Bool.and_eq_false_imp] at hc4
            refine wp_region_lit ?_
            refine s_pu hF rfl rfl rfl (pu_move (hF.ev rfl)) ?_; clear hF; intro a hF
            refine s_pu hF rfl rfl rfl ((by exact pu_add64 (hF.ev rfl) (hF.ev rfl) (by omega))) ?_; clear hF; intro a hF
            refine s_pu hF rfl rfl rfl (pu_assign (hF.ev rfl)) ?_; clear hF; intro a hF
            refine s_done ?_
            refine hK22 _ _ ?_; clear hK22
            refine wp_seq_k fun K24 hK24 => ?_
            refine wp_seq_k fun K25 hK25 => ?_
            refine wp_region_lit ?_
            refine s_pu hF rfl rfl rfl (pu_move (hF.ev rfl)) ?_; clear hF; intro a hF
            refine s_pu hF rfl rfl rfl (pu_gtr (hF.ev rfl) (hF.ev rfl)) ?_; clear hF; intro a hF
            refine s_done ?_
            refine hK25 _ _ ?_; clear hK25
            refine wp_cond_split (hF.ev rfl) (fun hc5 => ?_) (fun hc5 => ?_)
            · -- cond 5 true
              try simp only [decide_eq_true_eq, decide_eq_false_iff_not, Bool.not_eq_true', Bool.not_eq_false', Int.not_lt, Int.not_le, ne_eq, Decidable.not_not, Bool.or_eq_true, Bool.or_eq_false_iff, Bool.and_eq_true, Bool.and_eq_false_imp] at hc5
              refine wp_exit ?_
              refine then_exit ?_
              refine blk_other rfl ?_
              refine then_exit ?_
              refine then_exit ?_
              refine blk_exit ?_
              first
                | exact ⟨p, q, fs, ws, i, hp, hq, by omega, ht, by omega, hF.sub ⟨rfl, rfl, rfl, rfl, rfl, trivial⟩, hS⟩
                | exact ⟨cu, ot, fs, ws, i, hcp.1, hop.1, by omega, ht, by omega, hF.sub ⟨rfl, rfl, rfl, rfl, rfl, trivial⟩, hS⟩
                | exact ⟨ot, cu, fs, ws, i, hop.1, hcp.1, by omega, ht, by omega, hF.sub ⟨rfl, rfl, rfl, rfl, rfl, trivial⟩, hS.sel [2, 2]⟩
            · -- cond 5 false
              try simp only [decide_eq_true_eq, decide_eq_false_iff_not, Bool.not_eq_true', Bool.not_eq_false', Int.not_lt, Int.not_le, ne_eq, Decidable.not_not, Bool.or_eq_true, Bool.or_eq_false_iff, Bool.and_eq_true, Bool.and_eq_false_imp] at hc5
              refine wp_skip ?_
              refine hK24 _ _ ?_; clear hK24
              refine wp_seq_k fun K26 hK26 => ?_
              refine wp_region_lit ?_
              replace hS := hS.sel [0, 0, 2]
              simp only [selR, nth, del] at hS
              obtain ⟨hcp, hcn⟩ := hcp
              obtain ⟨tk', htk', htk2⟩ : ∃ tk' : Nat, tk' ≤ 300 ∧ ((tk' = tk ∧ (ops i).kind ≠ 2) ∨ (tk' = tk + 1 ∧ (ops i).kind = 2)) := by
                first
                  | exact ⟨tk, by omega, .inl ⟨rfl, hc4⟩⟩
                  | exact ⟨tk + 1, by omega, .inr ⟨rfl, hc4⟩⟩
              refine s_pu hF rfl rfl rfl (pu_move (hF.ev rfl)) ?_; clear hF; intro a hF
              refine s_pu hF rfl rfl rfl (pu_move (hF.ev rfl)) ?_; clear hF; intro a hF
              refine s_pu hF rfl rfl rfl (pu_move (hF.ev rfl)) ?_; clear hF; intro a hF
              refine s_pu hF rfl rfl rfl (pu_move (hF.ev rfl)) ?_; clear hF; intro a hF
              refine s_pu hF rfl rfl rfl ((by exact pu_elemA sl37 (hF.ev rfl) (hF.ev rfl) (by omega) (by omega))) ?_; clear hF; intro a hF
              refine s_rd hF rfl rfl rfl (rd_loadA (vs := (ops i).cells) ag49 (hF.ev rfl) rfl (fun j v hj => by
                obtain ⟨x', e', hc'⟩ := hin.at_ hil hS (k := 5) rfl
                injection e' with e'
                subst e'
                exact hc' j v hj)) ?_; clear hF; intro a' hF
              refine s_pu hF rfl rfl rfl (pu_move (hF.ev rfl)) ?_; clear hF; intro a hF
              refine s_pu hF rfl rfl rfl ((by exact pu_add64 (hF.ev rfl) (hF.ev rfl) (by omega))) ?_; clear hF; intro a hF
              refine s_pu hF rfl rfl rfl (pu_move (hF.ev rfl)) ?_; clear hF; intro a hF
              refine s_en hF rfl rfl rfl (run_fn fk17 (hF.ev rfl) (hF.evs rfl)) (step_c (p := cu) hS hcp (by omega) ht (by omega) (by omega)) ?_
              clear hS; rintro e w ⟨rfl, r, fs', ws', hal, hr, ht', hsame, hfl', hrn, hS⟩
              have hrl : r.P.length ≤ len := by have := hr.len; omega
              have hrn0 := hr.n0
              rw [hal.g, hal.gx] at hS
              refine ⟨_, rfl, ?_⟩; clear hF; intro a hF
              refine s_pu hF rfl rfl rfl (pu_assign (hF.ev rfl)) ?_; clear hF; intro a hF
              refine s_done ?_
              refine hK26 _ _ ?_; clear hK26
              refine wp_seq_k fun K27 hK27 => ?_
              obtain ⟨Ar, cr, hcr, hS⟩ := ref_open (hS.front 1 rfl)
              simp only [del] at hS
              refine d_start (S := (fun w => Sat W w _)) (ds := []) (ord := [(0, .pu), (1, .pu), (2, .pu), (3, .pu), (5, .pu), (6, .pu), (7, .pu), (8, .tk), (9, .pu), (4, .on), (10, .pu), (11, .pu), (12, .pu), (13, .pu), (15, .pu), (16, .pu), (17, .pu), (18, .tk), (14, .on), (19, .pu), (20, .pu)]) mixed ⟨by kernel_rfl, fun _ d _ _ _ h => by cases d <;> exact h⟩ hS.drew fun hD => ?_
              replace hS := hS.drew; generalize w.drew = w at hS ⊢
              refine d_pu hD hF rfl rfl rfl rfl rfl (pu_move (hF.ev rfl)) ?_; clear hF; intro a hF
              refine d_pu hD hF rfl rfl rfl rfl rfl (pu_not (hF.ev rfl)) ?_; clear hF; intro a hF
              refine d_pu hD hF rfl rfl rfl rfl rfl (pu_move (hF.ev rfl)) ?_; clear hF; intro a hF
              refine d_pu hD hF rfl rfl rfl rfl rfl (pu_move (hF.ev rfl)) ?_; clear hF; intro a hF
              refine d_pu hD hF rfl rfl rfl rfl rfl (pu_move (hF.ev rfl)) ?_; clear hF; intro a hF
              refine d_pu hD hF rfl rfl rfl rfl rfl ((by exact pu_nil (hF.ev rfl))) ?_; clear hF; intro a hF
              refine d_pu hD hF rfl rfl rfl rfl rfl ((by exact pu_field fd53_0 (hF.ev rfl))) ?_; clear hF; intro a hF
              refine d_rd hD hF rfl rfl rfl rfl rfl hS (fun w hS => (by exact rd_load pl51 (hF.ev rfl) (hS.cellL (i := 0) rfl rfl))) ?_; clear hF; intro a hF
              refine d_pu hD hF rfl rfl rfl rfl rfl (pu_len sl51 (hF.ev rfl)) ?_; clear hF; intro a hF
              refine d_en hD hF rfl rfl rfl rfl rfl (run_fn fk18 (hF.ev rfl) (hF.evs rfl)) (at_keep 2 hS rfl (fun h => wLen_i h)) ?_
              clear hS; rintro e w ⟨rfl, hS⟩
              refine ⟨_, rfl, hS, ?_⟩; clear hF; intro a hF
              refine d_pu hD hF rfl rfl rfl rfl rfl (pu_neq (hF.ev rfl) (hF.ev rfl)) ?_; clear hF; intro a hF
              refine d_pu hD hF rfl rfl rfl rfl rfl ((by exact pu_pick_f (hF.ev rfl) (hF.ev rfl))) ?_; clear hF; intro a hF
              refine d_pu hD hF rfl rfl rfl rfl rfl (pu_move (hF.ev rfl)) ?_; clear hF; intro a hF
              refine fr_split hF (t := 126) rfl ?_ ?_
              · clear hF; intro hg126 hF   -- slot 126 true
                try simp only [decide_eq_true_eq, decide_eq_false_iff_not, Bool.not_eq_true', Bool.not_eq_false', Int.not_lt, Int.not_le, ne_eq, Decidable.not_not, Bool.or_eq_true, Bool.or_eq_false_iff, Bool.and_eq_true, Bool.and_eq_false_imp] at hg126
                simp at hg126
              · clear hF; intro hg126 hF   -- slot 126 false
                try simp only [decide_eq_true_eq, decide_eq_false_iff_not, Bool.not_eq_true', Bool.not_eq_false', Int.not_lt, Int.not_le, ne_eq, Decidable.not_not, Bool.or_eq_true, Bool.or_eq_false_iff, Bool.and_eq_true, Bool.and_eq_false_imp] at hg126
                refine d_pu hD hF rfl rfl rfl rfl rfl (pu_move (hF.ev rfl)) ?_; clear hF; intro a hF
                refine d_pu hD hF rfl rfl rfl rfl rfl (pu_move (hF.ev rfl)) ?_; clear hF; intro a hF
                refine d_pu hD hF rfl rfl rfl rfl rfl ((by exact pu_nil (hF.ev rfl))) ?_; clear hF; intro a hF
                refine d_pu hD hF rfl rfl rfl rfl rfl ((by exact pu_field fd53_2 (hF.ev rfl))) ?_; clear hF; intro a hF
                refine d_rd hD hF rfl rfl rfl rfl rfl hS (fun w hS => (by exact rd_load pl3 (hF.ev rfl) (hS.cellL (i := 0) rfl rfl))) ?_; clear hF; intro a hF
                refine d_en hD hF rfl rfl rfl rfl rfl (run_fn fk19 (hF.ev rfl) (hF.evs rfl)) (at_keep 2 hS rfl (fun h => wNow_i h)) ?_
                clear hS; rintro e w ⟨rfl, hS⟩
                refine ⟨_, rfl, hS, ?_⟩; clear hF; intro a hF
                refine d_pu hD hF rfl rfl rfl rfl rfl (pu_neq (hF.ev rfl) (hF.ev rfl)) ?_; clear hF; intro a hF
                refine d_pu hD hF rfl rfl rfl rfl rfl ((by exact pu_pick_f (hF.ev rfl) (hF.ev rfl))) ?_; clear hF; intro a hF
                refine d_done hD rfl ?_; clear hD
                refine hK27 _ _ ?_; clear hK27
                refine wp_cond_split (hF.ev rfl) (fun hc6 => ?_) (fun hc6 => ?_)
                · -- cond 6 true
                  try simp only [decide_eq_true_eq, decide_eq_false_iff_not, Bool.not_eq_true', Bool.not_eq_false', Int.not_lt, Int.not_le, ne_eq, Decidable.not_not, Bool.or_eq_true, Bool.or_eq_false_iff, Bool.and_eq_true, Bool.and_eq_false_imp] at hc6
                  simp at hc6
                · -- cond 6 false
                  try simp only [decide_eq_true_eq, decide_eq_false_iff_not, Bool.not_eq_true', Bool.not_eq_false', Int.not_lt, Int.not_le, ne_eq, Decidable.not_not, Bool.or_eq_true, Bool.or_eq_false_iff, Bool.and_eq_true, Bool.and_eq_false_imp] at hc6
                  refine wp_skip ?_
                  refine blk_normal ?_
                  refine hK16 _ _ ?_; clear hK16
                  refine wp_region_lit ?_
                  refine s_pu hF rfl rfl rfl (pu_move (hF.ev rfl)) ?_; clear hF; intro a hF
                  refine s_pu hF rfl rfl rfl ((by exact pu_add64 (hF.ev rfl) (hF.ev rfl) (by omega))) ?_; clear hF; intro a hF
                  refine s_pu hF rfl rfl rfl (pu_assign (hF.ev rfl)) ?_; clear hF; intro a hF
                  refine s_done ?_
                  replace hS := (ref_shut hS).sel [1, 0, 1, 1, 0]
                  simp only [selR, nth, del] at hS
                  have hgk : fs'.length ≤ 3000 * tk' ∧ r.now ≤ 3000 * tk' := by
                    rcases htk2 with ⟨rfl, h2⟩ | ⟨rfl, h2⟩
                    · obtain ⟨h3, h4⟩ := hsame h2
                      rw [h3, h4]
                      exact ⟨hfl, hcn⟩
                    · exact ⟨by omega, by omega⟩
                  obtain ⟨hop, hon⟩ := hop
                  have htk3 : tk ≤ tk' := by rcases htk2 with ⟨h, _⟩ | ⟨h, _⟩ <;> omega
                  have hon2 : ot.now ≤ 3000 * tk' := by omega
                  first
                    | exact ⟨len - (i + 1), by omega, i + 1, r, ot, fs', ws', tk', rfl, by omega, hr, ⟨hop.toPOk.more, hop.s1, hop.s2⟩, ht', htk', hgk.1, hgk.2, hon2, hF.sub ⟨rfl, by rw [hal.g]; rfl, rfl, by rw [hal.gx]; rfl, rfl, rfl, by rcases htk2 with ⟨rfl, _⟩ | ⟨rfl, _⟩ <;> first | rfl | (exfalso; omega), rfl, trivial⟩, by rw [hal.g, hal.gx]; exact hS⟩
                    | exact ⟨len - (i + 1), by omega, i + 1, ot, r, fs', ws', tk', rfl, by omega, ⟨hop.toPOk.more, hop.s1, hop.s2⟩, hr, ht', htk', hgk.1, hon2, hgk.2, hF.sub ⟨rfl, rfl, by rw [hal.g]; rfl, rfl, by rw [hal.gx]; rfl, rfl, by rcases htk2 with ⟨rfl, _⟩ | ⟨rfl, _⟩ <;> first | rfl | (exfalso; omega), rfl, trivial⟩, by rw [hal.g, hal.gx]; exact hS.sel [2, 2]⟩
          · -- cond 4 false
            try simp only [decide_eq_true_eq, decide_eq_false_iff_not, Bool.not_eq_true', Bool.not_eq_false', Int.not_lt, Int.not_le, ne_eq, Decidable.not_not, Bool.or_eq_true, Bool.or_eq_false_iff, Bool.and_eq_true, Bool.and_eq_false_imp] at hc4
            refine wp_skip ?_
            refine hK22 _ _ ?_; clear hK22
            refine wp_seq_k fun K24 hK24 => ?_
            refine wp_seq_k fun K25 hK25 => ?_
            refine wp_region_lit ?_
            refine s_pu hF rfl rfl rfl (pu_move (hF.ev rfl)) ?_; clear hF; intro a hF
            refine s_pu hF rfl rfl rfl (pu_gtr (hF.ev rfl) (hF.ev rfl)) ?_; clear hF; intro a hF
            refine s_done ?_
            refine hK25 _ _ ?_; clear hK25
            refine wp_cond_split (hF.ev rfl) (fun hc5 => ?_) (fun hc5 => ?_)
            · -- cond 5 true
              try simp only [decide_eq_true_eq, decide_eq_false_iff_not, Bool.not_eq_true', Bool.not_eq_false', Int.not_lt, Int.not_le, ne_eq, Decidable.not_not, Bool.or_eq_true, Bool.or_eq_false_iff, Bool.and_eq_true, Bool.and_eq_false_imp] at hc5
              refine wp_exit ?_
              refine then_exit ?_
              refine blk_other rfl ?_
              refine then_exit ?_
              refine then_exit ?_
              refine blk_exit ?_
              first
                | exact ⟨p, q, fs, ws, i, hp, hq, by omega, ht, by omega, hF.sub ⟨rfl, rfl, rfl, rfl, rfl, trivial⟩, hS⟩
                | exact ⟨cu, ot, fs, ws, i, hcp.1, hop.1, by omega, ht, by omega, hF.sub ⟨rfl, rfl, rfl, rfl, rfl, trivial⟩, hS⟩
                | exact ⟨ot, cu, fs, ws, i, hop.1, hcp.1, by omega, ht, by omega, hF.sub ⟨rfl, rfl, rfl, rfl, rfl, trivial⟩, hS.sel [2, 2]⟩
            · -- cond 5 false
              try simp only [decide_eq_true_eq, decide_eq_false_iff_not, Bool.not_eq_true', Bool.not_eq_false', Int.not_lt, Int.not_le, ne_eq, Decidable.not_not, Bool.or_eq_true, Bool.or_eq_false_iff, Bool.and_eq_true, Bool.and_eq_false_imp] at hc5
              refine wp_skip ?_
              refine hK24 _ _ ?_; clear hK24
              refine wp_seq_k fun K26 hK26 => ?_
              refine wp_region_lit ?_
              replace hS := hS.sel [0, 0, 2]
              simp only [selR, nth, del] at hS
              obtain ⟨hcp, hcn⟩ := hcp
              obtain ⟨tk', htk', htk2⟩ : ∃ tk' : Nat, tk' ≤ 300 ∧ ((tk' = tk ∧ (ops i).kind ≠ 2) ∨ (tk' = tk + 1 ∧ (ops i).kind = 2)) := by
                first
                  | exact ⟨tk, by omega, .inl ⟨rfl, hc4⟩⟩
                  | exact ⟨tk + 1, by omega, .inr ⟨rfl, hc4⟩⟩
              refine s_pu hF rfl rfl rfl (pu_move (hF.ev rfl)) ?_; clear hF; intro a hF
              refine s_pu hF rfl rfl rfl (pu_move (hF.ev rfl)) ?_; clear hF; intro a hF
              refine s_pu hF rfl rfl rfl (pu_move (hF.ev rfl)) ?_; clear hF; intro a hF
              refine s_pu hF rfl rfl rfl (pu_move (hF.ev rfl)) ?_; clear hF; intro a hF
              refine s_pu hF rfl rfl rfl ((by exact pu_elemA sl37 (hF.ev rfl) (hF.ev rfl) (by omega) (by omega))) ?_; clear hF; intro a hF
              refine s_rd hF rfl rfl rfl (rd_loadA (vs := (ops i).cells) ag49 (hF.ev rfl) rfl (fun j v hj => by
                obtain ⟨x', e', hc'⟩ := hin.at_ hil hS (k := 5) rfl
                injection e' with e'
                subst e'
                exact hc' j v hj)) ?_; clear hF; intro a' hF
              refine s_pu hF rfl rfl rfl (pu_move (hF.ev rfl)) ?_; clear hF; intro a hF
              refine s_pu hF rfl rfl rfl ((by exact pu_add64 (hF.ev rfl) (hF.ev rfl) (by omega))) ?_; clear hF; intro a hF
              refine s_pu hF rfl rfl rfl (pu_move (hF.ev rfl)) ?_; clear hF; intro a hF
              refine s_en hF rfl rfl rfl (run_fn fk17 (hF.ev rfl) (hF.evs rfl)) (step_c (p := cu) hS hcp (by omega) ht (by omega) (by omega)) ?_
              clear hS; rintro e w ⟨rfl, r, fs', ws', hal, hr, ht', hsame, hfl', hrn, hS⟩
              have hrl : r.P.length ≤ len := by have := hr.len; omega
              have hrn0 := hr.n0
              rw [hal.g, hal.gx] at hS
              refine ⟨_, rfl, ?_⟩; clear hF; intro a hF
              refine s_pu hF rfl rfl rfl (pu_assign (hF.ev rfl)) ?_; clear hF; intro a hF
              refine s_done ?_
              refine hK26 _ _ ?_; clear hK26
              refine wp_seq_k fun K27 hK27 => ?_
              obtain ⟨Ar, cr, hcr, hS⟩ := ref_open (hS.front 1 rfl)
              simp only [del] at hS
              refine d_start (S := (fun w => Sat W w _)) (ds := []) (ord := [(0, .pu), (1, .pu), (2, .pu), (3, .pu), (5, .pu), (6, .pu), (7, .pu), (8, .tk), (9, .pu), (4, .on), (10, .pu), (11, .pu), (12, .pu), (13, .pu), (15, .pu), (16, .pu), (17, .pu), (18, .tk), (14, .on), (19, .pu), (20, .pu)]) mixed ⟨by kernel_rfl, fun _ d _ _ _ h => by cases d <;> exact h⟩ hS.drew fun hD => ?_
              replace hS := hS.drew; generalize w.drew = w at hS ⊢
              refine d_pu hD hF rfl rfl rfl rfl rfl (pu_move (hF.ev rfl)) ?_; clear hF; intro a hF
              refine d_pu hD hF rfl rfl rfl rfl rfl (pu_not (hF.ev rfl)) ?_; clear hF; intro a hF
              refine d_pu hD hF rfl rfl rfl rfl rfl (pu_move (hF.ev rfl)) ?_; clear hF; intro a hF
              refine d_pu hD hF rfl rfl rfl rfl rfl (pu_move (hF.ev rfl)) ?_; clear hF; intro a hF
              refine d_pu hD hF rfl rfl rfl rfl rfl (pu_move (hF.ev rfl)) ?_; clear hF; intro a hF
              refine d_pu hD hF rfl rfl rfl rfl rfl ((by exact pu_nil (hF.ev rfl))) ?_; clear hF; intro a hF
              refine d_pu hD hF rfl rfl rfl rfl rfl ((by exact pu_field fd53_0 (hF.ev rfl))) ?_; clear hF; intro a hF
              refine d_rd hD hF rfl rfl rfl rfl rfl hS (fun w hS => (by exact rd_load pl51 (hF.ev rfl) (hS.cellL (i := 0) rfl rfl))) ?_; clear hF; intro a hF
              refine d_pu hD hF rfl rfl rfl rfl rfl (pu_len sl51 (hF.ev rfl)) ?_; clear hF; intro a hF
              refine d_en hD hF rfl rfl rfl rfl rfl (run_fn fk18 (hF.ev rfl) (hF.evs rfl)) (at_keep 2 hS rfl (fun h => wLen_i h)) ?_
              clear hS; rintro e w ⟨rfl, hS⟩
              refine ⟨_, rfl, hS, ?_⟩; clear hF; intro a hF
              refine d_pu hD hF rfl rfl rfl rfl rfl (pu_neq (hF.ev rfl) (hF.ev rfl)) ?_; clear hF; intro a hF
              refine d_pu hD hF rfl rfl rfl rfl rfl ((by exact pu_pick_f (hF.ev rfl) (hF.ev rfl))) ?_; clear hF; intro a hF
              refine d_pu hD hF rfl rfl rfl rfl rfl (pu_move (hF.ev rfl)) ?_; clear hF; intro a hF
              refine fr_split hF (t := 126) rfl ?_ ?_
              · clear hF; intro hg126 hF   -- slot 126 true
                try simp only [decide_eq_true_eq, decide_eq_false_iff_not, Bool.not_eq_true', Bool.not_eq_false', Int.not_lt, Int.not_le, ne_eq, Decidable.not_not, Bool.or_eq_true, Bool.or_eq_false_iff, Bool.and_eq_true, Bool.and_eq_false_imp] at hg126
                simp at hg126
              · clear hF; intro hg126 hF   -- slot 126 false
                try simp only [decide_eq_true_eq, decide_eq_false_iff_not, Bool.not_eq_true', Bool.not_eq_false', Int.not_lt, Int.not_le, ne_eq, Decidable.not_not, Bool.or_eq_true, Bool.or_eq_false_iff, Bool.and_eq_true, Bool.and_eq_false_imp] at hg126
                refine d_pu hD hF rfl rfl rfl rfl rfl (pu_move (hF.ev rfl)) ?_; clear hF; intro a hF
                refine d_pu hD hF rfl rfl rfl rfl rfl (pu_move (hF.ev rfl)) ?_; clear hF; intro a hF
                refine d_pu hD hF rfl rfl rfl rfl rfl ((by exact pu_nil (hF.ev rfl))) ?_; clear hF; intro a hF
                refine d_pu hD hF rfl rfl rfl rfl rfl ((by exact pu_field fd53_2 (hF.ev rfl))) ?_; clear hF; intro a hF
                refine d_rd hD hF rfl rfl rfl rfl rfl hS (fun w hS => (by exact rd_load pl3 (hF.ev rfl) (hS.cellL (i := 0) rfl rfl))) ?_; clear hF; intro a hF
                refine d_en hD hF rfl rfl rfl rfl rfl (run_fn fk19 (hF.ev rfl) (hF.evs rfl)) (at_keep 2 hS rfl (fun h => wNow_i h)) ?_
                clear hS; rintro e w ⟨rfl, hS⟩
                refine ⟨_, rfl, hS, ?_⟩; clear hF; intro a hF
                refine d_pu hD hF rfl rfl rfl rfl rfl (pu_neq (hF.ev rfl) (hF.ev rfl)) ?_; clear hF; intro a hF
                refine d_pu hD hF rfl rfl rfl rfl rfl ((by exact pu_pick_f (hF.ev rfl) (hF.ev rfl))) ?_; clear hF; intro a hF
                refine d_done hD rfl ?_; clear hD
                refine hK27 _ _ ?_; clear hK27
                refine wp_cond_split (hF.ev rfl) (fun hc6 => ?_) (fun hc6 => ?_)
                · -- cond 6 true
                  try simp only [decide_eq_true_eq, decide_eq_false_iff_not, Bool.not_eq_true', Bool.not_eq_false', Int.not_lt, Int.not_le, ne_eq, Decidable.not_not, Bool.or_eq_true, Bool.or_eq_false_iff, Bool.and_eq_true, Bool.and_eq_false_imp] at hc6
                  simp at hc6
                · -- cond 6 false
                  try simp only [decide_eq_true_eq, decide_eq_false_iff_not, Bool.not_eq_true', Bool.not_eq_false', Int.not_lt, Int.not_le, ne_eq, Decidable.not_not, Bool.or_eq_true, Bool.or_eq_false_iff, Bool.and_eq_true, Bool.and_eq_false_imp] at hc6
                  refine wp_skip ?_
                  refine blk_normal ?_
                  refine hK16 _ _ ?_; clear hK16
                  refine wp_region_lit ?_
                  refine s_pu hF rfl rfl rfl (pu_move (hF.ev rfl)) ?_; clear hF; intro a hF
                  refine s_pu hF rfl rfl rfl ((by exact pu_add64 (hF.ev rfl) (hF.ev rfl) (by omega))) ?_; clear hF; intro a hF
                  refine s_pu hF rfl rfl rfl (pu_assign (hF.ev rfl)) ?_; clear hF; intro a hF
                  refine s_done ?_
                  replace hS := (ref_shut hS).sel [1, 0, 1, 1, 0]
                  simp only [selR, nth, del] at hS
                  have hgk : fs'.length ≤ 3000 * tk' ∧ r.now ≤ 3000 * tk' := by
                    rcases htk2 with ⟨rfl, h2⟩ | ⟨rfl, h2⟩
                    · obtain ⟨h3, h4⟩ := hsame h2
                      rw [h3, h4]
                      exact ⟨hfl, hcn⟩
                    · exact ⟨by omega, by omega⟩
                  obtain ⟨hop, hon⟩ := hop
                  have htk3 : tk ≤ tk' := by rcases htk2 with ⟨h, _⟩ | ⟨h, _⟩ <;> omega
                  have hon2 : ot.now ≤ 3000 * tk' := by omega
                  first
                    | exact ⟨len - (i + 1), by omega, i + 1, r, ot, fs', ws', tk', rfl, by omega, hr, ⟨hop.toPOk.more, hop.s1, hop.s2⟩, ht', htk', hgk.1, hgk.2, hon2, hF.sub ⟨rfl, by rw [hal.g]; rfl, rfl, by rw [hal.gx]; rfl, rfl, rfl, by rcases htk2 with ⟨rfl, _⟩ | ⟨rfl, _⟩ <;> first | rfl | (exfalso; omega), rfl, trivial⟩, by rw [hal.g, hal.gx]; exact hS⟩
                    | exact ⟨len - (i + 1), by omega, i + 1, ot, r, fs', ws', tk', rfl, by omega, ⟨hop.toPOk.more, hop.s1, hop.s2⟩, hr, ht', htk', hgk.1, hon2, hgk.2, hF.sub ⟨rfl, rfl, by rw [hal.g]; rfl, rfl, by rw [hal.gx]; rfl, rfl, by rcases htk2 with ⟨rfl, _⟩ | ⟨rfl, _⟩ <;> first | rfl | (exfalso; omega), rfl, trivial⟩, by rw [hal.g, hal.gx]; exact hS.sel [2, 2]⟩
        · -- cond 3 false
          obtain ⟨cu, hcu⟩ : ∃ cu, cu = p := ⟨_, rfl⟩
          subst hcu
          obtain ⟨ot, hot⟩ : ∃ ot, ot = q := ⟨_, rfl⟩
          subst hot
          have hcp : PairOk cu i ∧ cu.now ≤ 3000 * tk := ⟨hp, hpn⟩
          have hop : PairOk ot i ∧ ot.now ≤ 3000 * tk := ⟨hq, hqn⟩
          clear hp hq hpn hqn
          refine wp_skip ?_
          refine hK19 _ _ ?_; clear hK19
          refine wp_seq_k fun K21 hK21 => ?_
          refine wp_seq_k fun K22 hK22 => ?_
          refine wp_region_lit ?_
          refine s_pu hF rfl rfl rfl (pu_move (hF.ev rfl)) ?_; clear hF; intro a hF
          refine s_pu hF rfl rfl rfl (pu_move (hF.ev rfl)) ?_; clear hF; intro a hF
          refine s_pu hF rfl rfl rfl ((by exact pu_elemA sl37 (hF.ev rfl) (hF.ev rfl) (by omega) (by omega))) ?_; clear hF; intro a hF
          refine s_pu hF rfl rfl rfl ((by exact pu_fieldA fd49_0 (hF.ev rfl))) ?_; clear hF; intro a hF
          refine s_rd hF rfl rfl rfl (by exact rd_load pl3 (hF.ev rfl) (by assumption)) ?_; clear hF; intro a hF
          refine s_pu hF rfl rfl rfl (pu_eql (hF.ev rfl) (hF.ev rfl)) ?_; clear hF; intro a hF
          refine s_done ?_
          refine hK22 _ _ ?_; clear hK22
          refine wp_cond_split (hF.ev rfl) (fun hc4 => ?_) (fun hc4 => ?_)
          · -- cond 4 true
            try simp only [decide_eq_true_eq, decide_eq_false_iff_not, Bool.not_eq_true', Bool.not_eq_false', Int.not_lt, Int.not_le, ne_eq, Decidable.not_not, Bool.or_eq_true, Bool.or_eq_false_iff, Bool.and_eq_true, Bool.and_eq_false_imp] at hc4
            refine wp_region_lit ?_
            refine s_pu hF rfl rfl rfl (pu_move (hF.ev rfl)) ?_; clear hF; intro a hF
            refine s_pu hF rfl rfl rfl ((by exact pu_add64 (hF.ev rfl) (hF.ev rfl) (by omega))) ?_; clear hF; intro a hF
            refine s_pu hF rfl rfl rfl (pu_assign (hF.ev rfl)) ?_; clear hF; intro a hF
            refine s_done ?_
            refine hK21 _ _ ?_; clear hK21
            refine wp_seq_k fun K23 hK23 => ?_
            refine wp_seq_k fun K24 hK24 => ?_
            refine wp_region_lit ?_
            refine s_pu hF rfl rfl rfl (pu_move (hF.ev rfl)) ?_; clear hF; intro a hF
            refine s_pu hF rfl rfl rfl (pu_gtr (hF.ev rfl) (hF.ev rfl)) ?_; clear hF; intro a hF
            refine s_done ?_
            refine hK24 _ _ ?_; clear hK24
            refine wp_cond_split (hF.ev rfl) (fun hc5 => ?_) (fun hc5 => ?_)
            · -- cond 5 true
              try simp only [decide_eq_true_eq, decide_eq_false_iff_not, Bool.not_eq_true', Bool.not_eq_false', Int.not_lt, Int.not_le, ne_eq, Decidable.not_not, Bool.or_eq_true, Bool.or_eq_false_iff, Bool.and_eq_true, Bool.and_eq_false_imp] at hc5
              refine wp_exit ?_
              refine then_exit ?_
              refine blk_other rfl ?_
              refine then_exit ?_
              refine then_exit ?_
              refine blk_exit ?_
              first
                | exact ⟨p, q, fs, ws, i, hp, hq, by omega, ht, by omega, hF.sub ⟨rfl, rfl, rfl, rfl, rfl, trivial⟩, hS⟩
                | exact ⟨cu, ot, fs, ws, i, hcp.1, hop.1, by omega, ht, by omega, hF.sub ⟨rfl, rfl, rfl, rfl, rfl, trivial⟩, hS⟩
                | exact ⟨ot, cu, fs, ws, i, hop.1, hcp.1, by omega, ht, by omega, hF.sub ⟨rfl, rfl, rfl, rfl, rfl, trivial⟩, hS.sel [2, 2]⟩
            · -- cond 5 false
              try simp only [decide_eq_true_eq, decide_eq_false_iff_not, Bool.not_eq_true', Bool.not_eq_false', Int.not_lt, Int.not_le, ne_eq, Decidable.not_not, Bool.or_eq_true, Bool.or_eq_false_iff, Bool.and_eq_true, Bool.and_eq_false_imp] at hc5
              refine wp_skip ?_
              refine hK23 _ _ ?_; clear hK23
              refine wp_seq_k fun K25 hK25 => ?_
              refine wp_region_lit ?_
              replace hS := hS.sel [0, 0, 2]
              simp only [selR, nth, del] at hS
              obtain ⟨hcp, hcn⟩ := hcp
              obtain ⟨tk', htk', htk2⟩ : ∃ tk' : Nat, tk' ≤ 300 ∧ ((tk' = tk ∧ (ops i).kind ≠ 2) ∨ (tk' = tk + 1 ∧ (ops i).kind = 2)) := by
                first
                  | exact ⟨tk, by omega, .inl ⟨rfl, hc4⟩⟩
                  | exact ⟨tk + 1, by omega, .inr ⟨rfl, hc4⟩⟩
              refine s_pu hF rfl rfl rfl (pu_move (hF.ev rfl)) ?_; clear hF; intro a hF
              refine s_pu hF rfl rfl rfl (pu_move (hF.ev rfl)) ?_; clear hF; intro a hF
              refine s_pu hF rfl rfl rfl (pu_move (hF.ev rfl)) ?_; clear hF; intro a hF
              refine s_pu hF rfl rfl rfl (pu_move (hF.ev rfl)) ?_; clear hF; intro a hF
              refine s_pu hF rfl rfl rfl ((by exact pu_elemA sl37 (hF.ev rfl) (hF.ev rfl) (by omega) (by omega))) ?_; clear hF; intro a hF
              refine s_rd hF rfl rfl rfl (rd_loadA (vs := (ops i).cells) ag49 (hF.ev rfl) rfl (fun j v hj => by
                obtain ⟨x', e', hc'⟩ := hin.at_ hil hS (k := 5) rfl
                injection e' with e'
                subst e'
                exact hc' j v hj)) ?_; clear hF; intro a' hF
              refine s_pu hF rfl rfl rfl (pu_move (hF.ev rfl)) ?_; clear hF; intro a hF
              refine s_pu hF rfl rfl rfl ((by exact pu_add64 (hF.ev rfl) (hF.ev rfl) (by omega))) ?_; clear hF; intro a hF
              refine s_pu hF rfl rfl rfl (pu_move (hF.ev rfl)) ?_; clear hF; intro a hF
              refine s_en hF rfl rfl rfl (run_fn fk17 (hF.ev rfl) (hF.evs rfl)) (step_c (p := cu) hS hcp (by omega) ht (by omega) (by omega)) ?_
              clear hS; rintro e w ⟨rfl, r, fs', ws', hal, hr, ht', hsame, hfl', hrn, hS⟩
              have hrl : r.P.length ≤ len := by have := hr.len; omega
              have hrn0 := hr.n0
              rw [hal.g, hal.gx] at hS
              refine ⟨_, rfl, ?_⟩; clear hF; intro a hF
              refine s_pu hF rfl rfl rfl (pu_assign (hF.ev rfl)) ?_; clear hF; intro a hF
              refine s_done ?_
              refine hK25 _ _ ?_; clear hK25
              refine wp_seq_k fun K26 hK26 => ?_
              obtain ⟨Ar, cr, hcr, hS⟩ := ref_open (hS.front 1 rfl)
              simp only [del] at hS
              refine d_start (S := (fun w => Sat W w _)) (ds := []) (ord := [(0, .pu), (1, .pu), (2, .pu), (3, .pu), (5, .pu), (6, .pu), (7, .pu), (8, .tk), (9, .pu), (4, .on), (10, .pu), (11, .pu), (12, .pu), (13, .pu), (15, .pu), (16, .pu), (17, .pu), (18, .tk), (14, .on), (19, .pu), (20, .pu)]) mixed ⟨by kernel_rfl, fun _ d _ _ _ h => by cases d <;> exact h⟩ hS.drew fun hD => ?_
              replace hS := hS.drew; generalize w.drew = w at hS ⊢
              refine d_pu hD hF rfl rfl rfl rfl rfl (pu_move (hF.ev rfl)) ?_; clear hF; intro a hF
              refine d_pu hD hF rfl rfl rfl rfl rfl (pu_not (hF.ev rfl)) ?_; clear hF; intro a hF
              refine d_pu hD hF rfl rfl rfl rfl rfl (pu_move (hF.ev rfl)) ?_; clear hF; intro a hF
              refine d_pu hD hF rfl rfl rfl rfl rfl (pu_move (hF.ev rfl)) ?_; clear hF; intro a hF
              refine d_pu hD hF rfl rfl rfl rfl rfl (pu_move (hF.ev rfl)) ?_; clear hF; intro a hF
              refine d_pu hD hF rfl rfl rfl rfl rfl ((by exact pu_nil (hF.ev rfl))) ?_; clear hF; intro a hF
              refine d_pu hD hF rfl rfl rfl rfl rfl ((by exact pu_field fd53_0 (hF.ev rfl))) ?_; clear hF; intro a hF
              refine d_rd hD hF rfl rfl rfl rfl rfl hS (fun w hS => (by exact rd_load pl51 (hF.ev rfl) (hS.cellL (i := 0) rfl rfl))) ?_; clear hF; intro a hF
              refine d_pu hD hF rfl rfl rfl rfl rfl (pu_len sl51 (hF.ev rfl)) ?_; clear hF; intro a hF
              refine d_en hD hF rfl rfl rfl rfl rfl (run_fn fk18 (hF.ev rfl) (hF.evs rfl)) (at_keep 2 hS rfl (fun h => wLen_i h)) ?_
              clear hS; rintro e w ⟨rfl, hS⟩
              refine ⟨_, rfl, hS, ?_⟩; clear hF; intro a hF
              refine d_pu hD hF rfl rfl rfl rfl rfl (pu_neq (hF.ev rfl) (hF.ev rfl)) ?_; clear hF; intro a hF
              refine d_pu hD hF rfl rfl rfl rfl rfl ((by exact pu_pick_f (hF.ev rfl) (hF.ev rfl))) ?_; clear hF; intro a hF
              refine d_pu hD hF rfl rfl rfl rfl rfl (pu_move (hF.ev rfl)) ?_; clear hF; intro a hF
              refine fr_split hF (t := 126) rfl ?_ ?_
              · clear hF; intro hg126 hF   -- slot 126 true
                try simp only [decide_eq_true_eq, decide_eq_false_iff_not, Bool.not_eq_true', Bool.not_eq_false', Int.not_lt, Int.not_le, ne_eq, Decidable.not_not, Bool.or_eq_true, Bool.or_eq_false_iff, Bool.and_eq_true, Bool.and_eq_false_imp] at hg126
                simp at hg126
              · clear hF; intro hg126 hF   -- slot 126 false
                try simp only [decide_eq_true_eq, decide_eq_false_iff_not, Bool.not_eq_true', Bool.not_eq_false', Int.not_lt, Int.not_le, ne_eq, Decidable.not_not, Bool.or_eq_true, Bool.or_eq_false_iff, Bool.and_eq_true, Bool.and_eq_false_imp] at hg126
                refine d_pu hD hF rfl rfl rfl rfl rfl (pu_move (hF.ev rfl)) ?_; clear hF; intro a hF
                refine d_pu hD hF rfl rfl rfl rfl rfl (pu_move (hF.ev rfl)) ?_; clear hF; intro a hF
                refine d_pu hD hF rfl rfl rfl rfl rfl ((by exact pu_nil (hF.ev rfl))) ?_; clear hF; intro a hF
                refine d_pu hD hF rfl rfl rfl rfl rfl ((by exact pu_field fd53_2 (hF.ev rfl))) ?_; clear hF; intro a hF
                refine d_rd hD hF rfl rfl rfl rfl rfl hS (fun w hS => (by exact rd_load pl3 (hF.ev rfl) (hS.cellL (i := 0) rfl rfl))) ?_; clear hF; intro a hF
                refine d_en hD hF rfl rfl rfl rfl rfl (run_fn fk19 (hF.ev rfl) (hF.evs rfl)) (at_keep 2 hS rfl (fun h => wNow_i h)) ?_
                clear hS; rintro e w ⟨rfl, hS⟩
                refine ⟨_, rfl, hS, ?_⟩; clear hF; intro a hF
                refine d_pu hD hF rfl rfl rfl rfl rfl (pu_neq (hF.ev rfl) (hF.ev rfl)) ?_; clear hF; intro a hF
                refine d_pu hD hF rfl rfl rfl rfl rfl ((by exact pu_pick_f (hF.ev rfl) (hF.ev rfl))) ?_; clear hF; intro a hF
                refine d_done hD rfl ?_; clear hD
                refine hK26 _ _ ?_; clear hK26
                refine wp_cond_split (hF.ev rfl) (fun hc6 => ?_) (fun hc6 => ?_)
                · -- cond 6 true
                  try simp only [decide_eq_true_eq, decide_eq_false_iff_not, Bool.not_eq_true', Bool.not_eq_false', Int.not_lt, Int.not_le, ne_eq, Decidable.not_not, Bool.or_eq_true, Bool.or_eq_false_iff, Bool.and_eq_true, Bool.and_eq_false_imp] at hc6
                  simp at hc6
                · -- cond 6 false
                  try simp only [decide_eq_true_eq, decide_eq_false_iff_not, Bool.not_eq_true', Bool.not_eq_false', Int.not_lt, Int.not_le, ne_eq, Decidable.not_not, Bool.or_eq_true, Bool.or_eq_false_iff, Bool.and_eq_true, Bool.and_eq_false_imp] at hc6
                  refine wp_skip ?_
                  refine blk_normal ?_
                  refine hK16 _ _ ?_; clear hK16
                  refine wp_region_lit ?_
                  refine s_pu hF rfl rfl rfl (pu_move (hF.ev rfl)) ?_; clear hF; intro a hF
                  refine s_pu hF rfl rfl rfl ((by exact pu_add64 (hF.ev rfl) (hF.ev rfl) (by omega))) ?_; clear hF; intro a hF
                  refine s_pu hF rfl rfl rfl (pu_assign (hF.ev rfl)) ?_; clear hF; intro a hF
                  refine s_done ?_
                  replace hS := (ref_shut hS).sel [1, 0, 1, 1, 0]
                  simp only [selR, nth, del] at hS
                  have hgk : fs'.length ≤ 3000 * tk' ∧ r.now ≤ 3000 * tk' := by
                    rcases htk2 with ⟨rfl, h2⟩ | ⟨rfl, h2⟩
                    · obtain ⟨h3, h4⟩ := hsame h2
                      rw [h3, h4]
                      exact ⟨hfl, hcn⟩
                    · exact ⟨by omega, by omega⟩
                  obtain ⟨hop, hon⟩ := hop
                  have htk3 : tk ≤ tk' := by rcases htk2 with ⟨h, _⟩ | ⟨h, _⟩ <;> omega
                  have hon2 : ot.now ≤ 3000 * tk' := by omega
                  first
                    | exact ⟨len - (i + 1), by omega, i + 1, r, ot, fs', ws', tk', rfl, by omega, hr, ⟨hop.toPOk.more, hop.s1, hop.s2⟩, ht', htk', hgk.1, hgk.2, hon2, hF.sub ⟨rfl, by rw [hal.g]; rfl, rfl, by rw [hal.gx]; rfl, rfl, rfl, by rcases htk2 with ⟨rfl, _⟩ | ⟨rfl, _⟩ <;> first | rfl | (exfalso; omega), rfl, trivial⟩, by rw [hal.g, hal.gx]; exact hS⟩
                    | exact ⟨len - (i + 1), by omega, i + 1, ot, r, fs', ws', tk', rfl, by omega, ⟨hop.toPOk.more, hop.s1, hop.s2⟩, hr, ht', htk', hgk.1, hon2, hgk.2, hF.sub ⟨rfl, rfl, by rw [hal.g]; rfl, rfl, by rw [hal.gx]; rfl, rfl, by rcases htk2 with ⟨rfl, _⟩ | ⟨rfl, _⟩ <;> first | rfl | (exfalso; omega), rfl, trivial⟩, by rw [hal.g, hal.gx]; exact hS.sel [2, 2]⟩
          · -- cond 4 false
            try simp only [decide_eq_true_eq, decide_eq_false_iff_not, Bool.not_eq_true', Bool.not_eq_false', Int.not_lt, Int.not_le, ne_eq, Decidable.not_not, Bool.or_eq_true, Bool.or_eq_false_iff, Bool.and_eq_true, Bool.and_eq_false_imp] at hc4
            refine wp_skip ?_
            refine hK21 _ _ ?_; clear hK21
            refine wp_seq_k fun K23 hK23 => ?_
            refine wp_seq_k fun K24 hK24 => ?_
            refine wp_region_lit ?_
            refine s_pu hF rfl rfl rfl (pu_move (hF.ev rfl)) ?_; clear hF; intro a hF
            refine s_pu hF rfl rfl rfl (pu_gtr (hF.ev rfl) (hF.ev rfl)) ?_; clear hF; intro a hF
            refine s_done ?_
            refine hK24 _ _ ?_; clear hK24
            refine wp_cond_split (hF.ev rfl) (fun hc5 => ?_) (fun hc5 => ?_)
            · -- cond 5 true
              try simp only [decide_eq_true_eq, decide_eq_false_iff_not, Bool.not_eq_true', Bool.not_eq_false', Int.not_lt, Int.not_le, ne_eq, Decidable.not_not, Bool.or_eq_true, Bool.or_eq_false_iff, Bool.and_eq_true, Bool.and_eq_false_imp] at hc5
              refine wp_exit ?_
              refine then_exit ?_
              refine blk_other rfl ?_
              refine then_exit ?_
              refine then_exit ?_
              refine blk_exit ?_
              first
                | exact ⟨p, q, fs, ws, i, hp, hq, by omega, ht, by omega, hF.sub ⟨rfl, rfl, rfl, rfl, rfl, trivial⟩, hS⟩
                | exact ⟨cu, ot, fs, ws, i, hcp.1, hop.1, by omega, ht, by omega, hF.sub ⟨rfl, rfl, rfl, rfl, rfl, trivial⟩, hS⟩
                | exact ⟨ot, cu, fs, ws, i, hop.1, hcp.1, by omega, ht, by omega, hF.sub ⟨rfl, rfl, rfl, rfl, rfl, trivial⟩, hS.sel [2, 2]⟩
            · -- cond 5 false
              try simp only [decide_eq_true_eq, decide_eq_false_iff_not, Bool.not_eq_true', Bool.not_eq_false', Int.not_lt, Int.not_le, ne_eq, Decidable.not_not, Bool.or_eq_true, Bool.or_eq_false_iff, Bool.and_eq_true, Bool.and_eq_false_imp] at hc5
              refine wp_skip ?_
              refine hK23 _ _ ?_; clear hK23
              refine wp_seq_k fun K25 hK25 => ?_
              refine wp_region_lit ?_
              replace hS := hS.sel [0, 0, 2]
              simp only [selR, nth, del] at hS
              obtain ⟨hcp, hcn⟩ := hcp
              obtain ⟨tk', htk', htk2⟩ : ∃ tk' : Nat, tk' ≤ 300 ∧ ((tk' = tk ∧ (ops i).kind ≠ 2) ∨ (tk' = tk + 1 ∧ (ops i).kind = 2)) := by
                first
                  | exact ⟨tk, by omega, .inl ⟨rfl, hc4⟩⟩
                  | exact ⟨tk + 1, by omega, .inr ⟨rfl, hc4⟩⟩
              refine s_pu hF rfl rfl rfl (pu_move (hF.ev rfl)) ?_; clear hF; intro a hF
              refine s_pu hF rfl rfl rfl (pu_move (hF.ev rfl)) ?_; clear hF; intro a hF
              refine s_pu hF rfl rfl rfl (pu_move (hF.ev rfl)) ?_; clear hF; intro a hF
              refine s_pu hF rfl rfl rfl (pu_move (hF.ev rfl)) ?_; clear hF; intro a hF
              refine s_pu hF rfl rfl rfl ((by exact pu_elemA sl37 (hF.ev rfl) (hF.ev rfl) (by omega) (by omega))) ?_; clear hF; intro a hF
              refine s_rd hF rfl rfl rfl (rd_loadA (vs := (ops i).cells) ag49 (hF.ev rfl) rfl (fun j v hj => by
                obtain ⟨x', e', hc'⟩ := hin.at_ hil hS (k := 5) rfl
                injection e' with e'
                subst e'
                exact hc' j v hj)) ?_; clear hF; intro a' hF
              refine s_pu hF rfl rfl rfl (pu_move (hF.ev rfl)) ?_; clear hF; intro a hF
              refine s_pu hF rfl rfl rfl ((by exact pu_add64 (hF.ev rfl) (hF.ev rfl) (by omega))) ?_; clear hF; intro a hF
              refine s_pu hF rfl rfl rfl (pu_move (hF.ev rfl)) ?_; clear hF; intro a hF
              refine s_en hF rfl rfl rfl (run_fn fk17 (hF.ev rfl) (hF.evs rfl)) (step_c (p := cu) hS hcp (by omega) ht (by omega) (by omega)) ?_
              clear hS; rintro e w ⟨rfl, r, fs', ws', hal, hr, ht', hsame, hfl', hrn, hS⟩
              have hrl : r.P.length ≤ len := by have := hr.len; omega
              have hrn0 := hr.n0
              rw [hal.g, hal.gx] at hS
              refine ⟨_, rfl, ?_⟩; clear hF; intro a hF
              refine s_pu hF rfl rfl rfl (pu_assign (hF.ev rfl)) ?_; clear hF; intro a hF
              refine s_done ?_
              refine hK25 _ _ ?_; clear hK25
              refine wp_seq_k fun K26 hK26 => ?_
              obtain ⟨Ar, cr, hcr, hS⟩ := ref_open (hS.front 1 rfl)
              simp only [del] at hS
              refine d_start (S := (fun w => Sat W w _)) (ds := []) (ord := [(0, .pu), (1, .pu), (2, .pu), (3, .pu), (5, .pu), (6, .pu), (7, .pu), (8, .tk), (9, .pu), (4, .on), (10, .pu), (11, .pu), (12, .pu), (13, .pu), (15, .pu), (16, .pu), (17, .pu), (18, .tk), (14, .on), (19, .pu), (20, .pu)]) mixed ⟨by kernel_rfl, fun _ d _ _ _ h => by cases d <;> exact h⟩ hS.drew fun hD => ?_
              replace hS := hS.drew; generalize w.drew = w at hS ⊢
              refine d_pu hD hF rfl rfl rfl rfl rfl (pu_move (hF.ev rfl)) ?_; clear hF; intro a hF
              refine d_pu hD hF rfl rfl rfl rfl rfl (pu_not (hF.ev rfl)) ?_; clear hF; intro a hF
              refine d_pu hD hF rfl rfl rfl rfl rfl (pu_move (hF.ev rfl)) ?_; clear hF; intro a hF
              refine d_pu hD hF rfl rfl rfl rfl rfl (pu_move (hF.ev rfl)) ?_; clear hF; intro a hF
              refine d_pu hD hF rfl rfl rfl rfl rfl (pu_move (hF.ev rfl)) ?_; clear hF; intro a hF
              refine d_pu hD hF rfl rfl rfl rfl rfl ((by exact pu_nil (hF.ev rfl))) ?_; clear hF; intro a hF
              refine d_pu hD hF rfl rfl rfl rfl rfl ((by exact pu_field fd53_0 (hF.ev rfl))) ?_; clear hF; intro a hF
              refine d_rd hD hF rfl rfl rfl rfl rfl hS (fun w hS => (by exact rd_load pl51 (hF.ev rfl) (hS.cellL (i := 0) rfl rfl))) ?_; clear hF; intro a hF
              refine d_pu hD hF rfl rfl rfl rfl rfl (pu_len sl51 (hF.ev rfl)) ?_; clear hF; intro a hF
              refine d_en hD hF rfl rfl rfl rfl rfl (run_fn fk18 (hF.ev rfl) (hF.evs rfl)) (at_keep 2 hS rfl (fun h => wLen_i h)) ?_
              clear hS; rintro e w ⟨rfl, hS⟩
              refine ⟨_, rfl, hS, ?_⟩; clear hF; intro a hF
              refine d_pu hD hF rfl rfl rfl rfl rfl (pu_neq (hF.ev rfl) (hF.ev rfl)) ?_; clear hF; intro a hF
              refine d_pu hD hF rfl rfl rfl rfl rfl ((by exact pu_pick_f (hF.ev rfl) (hF.ev rfl))) ?_; clear hF; intro a hF
              refine d_pu hD hF rfl rfl rfl rfl rfl (pu_move (hF.ev rfl)) ?_; clear hF; intro a hF
              refine fr_split hF (t := 126) rfl ?_ ?_
              · clear hF; intro hg126 hF   -- slot 126 true
                try simp only [decide_eq_true_eq, decide_eq_false_iff_not, Bool.not_eq_true', Bool.not_eq_false', Int.not_lt, Int.not_le, ne_eq, Decidable.not_not, Bool.or_eq_true, Bool.or_eq_false_iff, Bool.and_eq_true, Bool.and_eq_false_imp] at hg126
                simp at hg126
              · clear hF; intro hg126 hF   -- slot 126 false
                try simp only [decide_eq_true_eq, decide_eq_false_iff_not, Bool.not_eq_true', Bool.not_eq_false', Int.not_lt, Int.not_le, ne_eq, Decidable.not_not, Bool.or_eq_true, Bool.or_eq_false_iff, Bool.and_eq_true, Bool.and_eq_false_imp] at hg126
                refine d_pu hD hF rfl rfl rfl rfl rfl (pu_move (hF.ev rfl)) ?_; clear hF; intro a hF
                refine d_pu hD hF rfl rfl rfl rfl rfl (pu_move (hF.ev rfl)) ?_; clear hF; intro a hF
                refine d_pu hD hF rfl rfl rfl rfl rfl ((by exact pu_nil (hF.ev rfl))) ?_; clear hF; intro a hF
                refine d_pu hD hF rfl rfl rfl rfl rfl ((by exact pu_field fd53_2 (hF.ev rfl))) ?_; clear hF; intro a hF
                refine d_rd hD hF rfl rfl rfl rfl rfl hS (fun w hS => (by exact rd_load pl3 (hF.ev rfl) (hS.cellL (i := 0) rfl rfl))) ?_; clear hF; intro a hF
                refine d_en hD hF rfl rfl rfl rfl rfl (run_fn fk19 (hF.ev rfl) (hF.evs rfl)) (at_keep 2 hS rfl (fun h => wNow_i h)) ?_
                clear hS; rintro e w ⟨rfl, hS⟩
                refine ⟨_, rfl, hS, ?_⟩; clear hF; intro a hF
                refine d_pu hD hF rfl rfl rfl rfl rfl (pu_neq (hF.ev rfl) (hF.ev rfl)) ?_; clear hF; intro a hF
                refine d_pu hD hF rfl rfl rfl rfl rfl ((by exact pu_pick_f (hF.ev rfl) (hF.ev rfl))) ?_; clear hF; intro a hF
                refine d_done hD rfl ?_; clear hD
                refine hK26 _ _ ?_; clear hK26
                refine wp_cond_split (hF.ev rfl) (fun hc6 => ?_) (fun hc6 => ?_)
                · -- cond 6 true
                  try simp only [decide_eq_true_eq, decide_eq_false_iff_not, Bool.not_eq_true', Bool.not_eq_false', Int.not_lt, Int.not_le, ne_eq, Decidable.not_not, Bool.or_eq_true, Bool.or_eq_false_iff, Bool.and_eq_true, Bool.and_eq_false_imp] at hc6
                  simp at hc6
                · -- cond 6 false
                  try simp only [decide_eq_true_eq, decide_eq_false_iff_not, Bool.not_eq_true', Bool.not_eq_false', Int.not_lt, Int.not_le, ne_eq, Decidable.not_not, Bool.or_eq_true, Bool.or_eq_false_iff, Bool.and_eq_true, Bool.and_eq_false_imp] at hc6
                  refine wp_skip ?_
                  refine blk_normal ?_
                  refine hK16 _ _ ?_; clear hK16
                  refine wp_region_lit ?_
                  refine s_pu hF rfl rfl rfl (pu_move (hF.ev rfl)) ?_; clear hF; intro a hF
                  refine s_pu hF rfl rfl rfl ((by exact pu_add64 (hF.ev rfl) (hF.ev rfl) (by omega))) ?_; clear hF; intro a hF
                  refine s_pu hF rfl rfl rfl (pu_assign (hF.ev rfl)) ?_; clear hF; intro a hF
                  refine s_done ?_
                  replace hS := (ref_shut hS).sel [1, 0, 1, 1, 0]
                  simp only [selR, nth, del] at hS
                  have hgk : fs'.length ≤ 3000 * tk' ∧ r.now ≤ 3000 * tk' := by
                    rcases htk2 with ⟨rfl, h2⟩ | ⟨rfl, h2⟩
                    · obtain ⟨h3, h4⟩ := hsame h2
                      rw [h3, h4]
                      exact ⟨hfl, hcn⟩
                    · exact ⟨by omega, by omega⟩
                  obtain ⟨hop, hon⟩ := hop
                  have htk3 : tk ≤ tk' := by rcases htk2 with ⟨h, _⟩ | ⟨h, _⟩ <;> omega
                  have hon2 : ot.now ≤ 3000 * tk' := by omega
                  first
                    | exact ⟨len - (i + 1), by omega, i + 1, r, ot, fs', ws', tk', rfl, by omega, hr, ⟨hop.toPOk.more, hop.s1, hop.s2⟩, ht', htk', hgk.1, hgk.2, hon2, hF.sub ⟨rfl, by rw [hal.g]; rfl, rfl, by rw [hal.gx]; rfl, rfl, rfl, by rcases htk2 with ⟨rfl, _⟩ | ⟨rfl, _⟩ <;> first | rfl | (exfalso; omega), rfl, trivial⟩, by rw [hal.g, hal.gx]; exact hS⟩
                    | exact ⟨len - (i + 1), by omega, i + 1, ot, r, fs', ws', tk', rfl, by omega, ⟨hop.toPOk.more, hop.s1, hop.s2⟩, hr, ht', htk', hgk.1, hon2, hgk.2, hF.sub ⟨rfl, rfl, by rw [hal.g]; rfl, rfl, by rw [hal.gx]; rfl, rfl, by rcases htk2 with ⟨rfl, _⟩ | ⟨rfl, _⟩ <;> first | rfl | (exfalso; omega), rfl, trivial⟩, by rw [hal.g, hal.gx]; exact hS.sel [2, 2]⟩
      · -- cond 2 false
        try simp only [decide_eq_true_eq, decide_eq_false_iff_not, Bool.not_eq_true', Bool.not_eq_false', Int.not_lt, Int.not_le, ne_eq, Decidable.not_not, Bool.or_eq_true, Bool.or_eq_false_iff, Bool.and_eq_true, Bool.and_eq_false_imp] at hc2
        refine wp_exit ?_
        refine then_exit ?_
        refine then_exit ?_
        refine blk_exit ?_
        first
          | exact ⟨p, q, fs, ws, i, hp, hq, by omega, ht, by omega, hF.sub ⟨rfl, rfl, rfl, rfl, rfl, trivial⟩, hS⟩
          | exact ⟨cu, ot, fs, ws, i, hcp.1, hop.1, by omega, ht, by omega, hF.sub ⟨rfl, rfl, rfl, rfl, rfl, trivial⟩, hS⟩
          | exact ⟨ot, cu, fs, ws, i, hop.1, hcp.1, by omega, ht, by omega, hF.sub ⟨rfl, rfl, rfl, rfl, rfl, trivial⟩, hS.sel [2, 2]⟩
    · -- behind the join s14
      clear hS hF
      rintro a' w ⟨p, q, fs, ws, K, hp, hq, hK, ht, hfl, hF, hS⟩
      have hpl := hp.len
      have hql := hq.len
      refine wp_seq_k fun K12 hK12 => ?_
      refine wp_region_lit ?_
      refine s_pu hF rfl rfl rfl (pu_move (hF.ev rfl)) ?_; clear hF; intro a hF
      replace hS := hS.front 4 rfl
      simp only [del] at hS
      refine s_en hF rfl rfl rfl (run_fn fk20 (hF.ev rfl) (hF.evs rfl)) (apart_c hS ht (by omega)) ?_
      clear hS; rintro e w ⟨rfl, hS⟩
      refine ⟨_, rfl, ?_⟩; clear hF; intro a hF
      refine s_pu hF rfl rfl rfl (pu_assign (hF.ev rfl)) ?_; clear hF; intro a hF
      refine s_done ?_
      refine hK12 _ _ ?_; clear hK12
      refine wp_seq_k fun K13 hK13 => ?_
      refine wp_region_lit ?_
      refine s_pu hF rfl rfl rfl (pu_move (hF.ev rfl)) ?_; clear hF; intro a hF
      refine s_pu hF rfl rfl rfl (pu_move (hF.ev rfl)) ?_; clear hF; intro a hF
      replace hS := hS.front 1 rfl
      simp only [del] at hS
      refine s_en hF rfl rfl rfl (run_fn fk22 (hF.ev rfl) (hF.evs rfl)) (rAll_c hS hp.rising (by omega)) ?_
      clear hS; rintro e w ⟨A3, c3, rfl, hS⟩
      replace hS := hS.sel [2]
      simp only [selR, nth, del] at hS
      refine ⟨_, rfl, ?_⟩; clear hF; intro a hF
      refine s_en hF rfl rfl rfl (run_fn fk21 (hF.ev rfl) (hF.evs rfl)) (goes_c hS hp.nums hp.s1 hp.s2 hp.rising (by omega)) ?_
      clear hS; rintro e w ⟨rfl, hS⟩
      replace hS := hS.front 4 rfl
      simp only [del] at hS
      refine ⟨_, rfl, ?_⟩; clear hF; intro a hF
      refine s_pu hF rfl rfl rfl (pu_move (hF.ev rfl)) ?_; clear hF; intro a hF
      refine s_pu hF rfl rfl rfl (pu_move (hF.ev rfl)) ?_; clear hF; intro a hF
      refine s_pu hF rfl rfl rfl (pu_move (hF.ev rfl)) ?_; clear hF; intro a hF
      refine s_en hF rfl rfl rfl (run_fn fk22 (hF.ev rfl) (hF.evs rfl)) (rAll_c hS hq.rising (by omega)) ?_
      clear hS; rintro e w ⟨A4, c4, rfl, hS⟩
      replace hS := hS.sel [5]
      simp only [selR, nth, del] at hS
      refine ⟨_, rfl, ?_⟩; clear hF; intro a hF
      refine s_en hF rfl rfl rfl (run_fn fk21 (hF.ev rfl) (hF.evs rfl)) (goes_c hS hq.nums hq.s1 hq.s2 hq.rising (by omega)) ?_
      clear hS; rintro e w ⟨rfl, hS⟩
      refine ⟨_, rfl, ?_⟩; clear hF; intro a hF
      refine s_pu hF rfl rfl rfl ((by exact pu_pick_t (hF.ev rfl) (hF.ev rfl))) ?_; clear hF; intro a hF
      refine s_pu hF rfl rfl rfl (pu_assign (hF.ev rfl)) ?_; clear hF; intro a hF
      refine s_done ?_
      refine hK13 _ _ ?_; clear hK13
      refine wp_seq_k fun K14 hK14 => ?_
      refine wp_region_lit ?_
      refine s_pu hF rfl rfl rfl (pu_move (hF.ev rfl)) ?_; clear hF; intro a hF
      refine s_pu hF rfl rfl rfl (pu_move (hF.ev rfl)) ?_; clear hF; intro a hF
      refine s_pu hF rfl rfl rfl (pu_move (hF.ev rfl)) ?_; clear hF; intro a hF
      refine s_pu hF rfl rfl rfl ((by exact pu_pick_t (hF.ev rfl) (hF.ev rfl))) ?_; clear hF; intro a hF
      refine s_pu hF rfl rfl rfl (pu_assign (hF.ev rfl)) ?_; clear hF; intro a hF
      refine s_done ?_
      refine hK14 _ _ ?_; clear hK14
      refine wp_ret ?_
      refine fin1 Try.results4 hF rfl ?_
      exact ⟨rfl, (hS.front 6 rfl).below⟩
  · -- on
    obtain ⟨n0, rfl⟩ : ∃ n0 : Nat, x0 = n0 := ⟨x0.toNat, by omega⟩
    refine wp_region_lit ?_
    refine s_pu hF rfl rfl rfl (pu_move (hF.ev rfl)) ?_; clear hF; intro a hF
    refine s_en hF rfl rfl rfl (run_fn fk15 (hF.ev rfl) (hF.evs rfl)) (wNew_i hS (by omega) (by omega)) ?_
    clear hS; rintro e w ⟨ga, rfl, hS⟩
    refine ⟨_, rfl, ?_⟩; clear hF; intro a hF
    refine s_pu hF rfl rfl rfl (pu_move (hF.ev rfl)) ?_; clear hF; intro a hF
    refine s_pu hF rfl rfl rfl (pu_extract (hF.ev rfl) rfl) ?_; clear hF; intro a hF
    refine s_pu hF rfl rfl rfl (pu_extract (hF.ev rfl) rfl) ?_; clear hF; intro a hF
    refine s_pu hF rfl rfl rfl (pu_assign (hF.ev rfl)) ?_; clear hF; intro a hF
    refine s_pu hF rfl rfl rfl (pu_assign (hF.ev rfl)) ?_; clear hF; intro a hF
    refine s_done ?_
    refine hK2 _ _ ?_; clear hK2
    refine wp_seq_k fun K3 hK3 => ?_
    refine wp_region_lit ?_
    refine s_pu hF rfl rfl rfl (pu_move (hF.ev rfl)) ?_; clear hF; intro a hF
    refine s_en hF rfl rfl rfl (run_fn fk15 (hF.ev rfl) (hF.evs rfl)) (new_no_i hS (by omega)) ?_
    clear hS; rintro e w ⟨rfl, hS⟩
    refine ⟨_, rfl, ?_⟩; clear hF; intro a hF
    refine s_pu hF rfl rfl rfl (pu_move (hF.ev rfl)) ?_; clear hF; intro a hF
    refine s_pu hF rfl rfl rfl (pu_extract (hF.ev rfl) rfl) ?_; clear hF; intro a hF
    refine s_pu hF rfl rfl rfl (pu_extract (hF.ev rfl) rfl) ?_; clear hF; intro a hF
    refine s_pu hF rfl rfl rfl (pu_assign (hF.ev rfl)) ?_; clear hF; intro a hF
    refine s_pu hF rfl rfl rfl (pu_assign (hF.ev rfl)) ?_; clear hF; intro a hF
    refine s_done ?_
    refine hK3 _ _ ?_; clear hK3
    refine wp_seq_k fun K4 hK4 => ?_
    refine wp_region_lit ?_
    refine s_pu hF rfl rfl rfl (pu_move (hF.ev rfl)) ?_; clear hF; intro a hF
    refine s_en hF rfl rfl rfl (run_fn fk16 (hF.ev rfl) (hF.evs rfl)) (rNew_c hS hx0.1 hx0.2) ?_
    clear hS; rintro e w ⟨xa, rfl, hS⟩
    refine ⟨_, rfl, ?_⟩; clear hF; intro a hF
    refine s_pu hF rfl rfl rfl (pu_move (hF.ev rfl)) ?_; clear hF; intro a hF
    refine s_pu hF rfl rfl rfl (pu_extract (hF.ev rfl) rfl) ?_; clear hF; intro a hF
    refine s_pu hF rfl rfl rfl (pu_extract (hF.ev rfl) rfl) ?_; clear hF; intro a hF
    refine s_pu hF rfl rfl rfl (pu_assign (hF.ev rfl)) ?_; clear hF; intro a hF
    refine s_pu hF rfl rfl rfl (pu_assign (hF.ev rfl)) ?_; clear hF; intro a hF
    refine s_done ?_
    refine hK4 _ _ ?_; clear hK4
    refine wp_seq_k fun K5 hK5 => ?_
    refine wp_region_lit ?_
    refine s_pu hF rfl rfl rfl (pu_move (hF.ev rfl)) ?_; clear hF; intro a hF
    refine s_en hF rfl rfl rfl (run_fn fk16 (hF.ev rfl) (hF.evs rfl)) (rNew_no hS (by omega)) ?_
    clear hS; rintro e w ⟨rfl, hS⟩
    refine ⟨_, rfl, ?_⟩; clear hF; intro a hF
    refine s_pu hF rfl rfl rfl (pu_move (hF.ev rfl)) ?_; clear hF; intro a hF
    refine s_pu hF rfl rfl rfl (pu_extract (hF.ev rfl) rfl) ?_; clear hF; intro a hF
    refine s_pu hF rfl rfl rfl (pu_extract (hF.ev rfl) rfl) ?_; clear hF; intro a hF
    refine s_pu hF rfl rfl rfl (pu_assign (hF.ev rfl)) ?_; clear hF; intro a hF
    refine s_pu hF rfl rfl rfl (pu_assign (hF.ev rfl)) ?_; clear hF; intro a hF
    refine s_done ?_
    refine hK5 _ _ ?_; clear hK5
    refine wp_seq_k fun K6 hK6 => ?_
    refine wp_seq_k fun K7 hK7 => ?_
    refine wp_region_lit ?_
    refine s_pu hF rfl rfl rfl (pu_move (hF.ev rfl)) ?_; clear hF; intro a hF
    refine s_pu hF rfl rfl rfl (pu_not (hF.ev rfl)) ?_; clear hF; intro a hF
    refine s_pu hF rfl rfl rfl (pu_move (hF.ev rfl)) ?_; clear hF; intro a hF
    refine s_pu hF rfl rfl rfl (pu_move (hF.ev rfl)) ?_; clear hF; intro a hF
    refine s_pu hF rfl rfl rfl (pu_move (hF.ev rfl)) ?_; clear hF; intro a hF
    refine s_pu hF rfl rfl rfl (pu_neq (hF.ev rfl) (hF.ev rfl)) ?_; clear hF; intro a hF
    refine s_pu hF rfl rfl rfl ((by exact pu_pick_f (hF.ev rfl) (hF.ev rfl))) ?_; clear hF; intro a hF
    refine s_pu hF rfl rfl rfl (pu_move (hF.ev rfl)) ?_; clear hF; intro a hF
    refine s_pu hF rfl rfl rfl (pu_move (hF.ev rfl)) ?_; clear hF; intro a hF
    refine s_pu hF rfl rfl rfl (pu_move (hF.ev rfl)) ?_; clear hF; intro a hF
    refine s_pu hF rfl rfl rfl (pu_neq (hF.ev rfl) (hF.ev rfl)) ?_; clear hF; intro a hF
    refine s_pu hF rfl rfl rfl ((by exact pu_pick_f (hF.ev rfl) (hF.ev rfl))) ?_; clear hF; intro a hF
    refine s_pu hF rfl rfl rfl (pu_move (hF.ev rfl)) ?_; clear hF; intro a hF
    refine s_pu hF rfl rfl rfl (pu_move (hF.ev rfl)) ?_; clear hF; intro a hF
    refine s_pu hF rfl rfl rfl (pu_peq Try.underlying38 (hF.ev rfl) (hF.ev rfl)) ?_; clear hF; intro a hF
    refine s_pu hF rfl rfl rfl (pu_move (hF.ev rfl)) ?_; clear hF; intro a hF
    refine s_pu hF rfl rfl rfl (pu_peq Try.underlying41 (hF.ev rfl) (hF.ev rfl)) ?_; clear hF; intro a hF
    refine s_pu hF rfl rfl rfl (pu_bne Try.underlying4 (hF.ev rfl) (hF.ev rfl)) ?_; clear hF; intro a hF
    refine s_pu hF rfl rfl rfl ((by exact pu_pick_f (hF.ev rfl) (hF.ev rfl))) ?_; clear hF; intro a hF
    refine s_pu hF rfl rfl rfl (pu_move (hF.ev rfl)) ?_; clear hF; intro a hF
    refine s_pu hF rfl rfl rfl (pu_move (hF.ev rfl)) ?_; clear hF; intro a hF
    refine s_pu hF rfl rfl rfl (pu_peq Try.underlying38 (hF.ev rfl) (hF.ev rfl)) ?_; clear hF; intro a hF
    refine s_pu hF rfl rfl rfl (pu_move (hF.ev rfl)) ?_; clear hF; intro a hF
    refine s_pu hF rfl rfl rfl (pu_peq Try.underlying41 (hF.ev rfl) (hF.ev rfl)) ?_; clear hF; intro a hF
    refine s_pu hF rfl rfl rfl (pu_bne Try.underlying4 (hF.ev rfl) (hF.ev rfl)) ?_; clear hF; intro a hF
    refine s_pu hF rfl rfl rfl ((by exact pu_pick_f (hF.ev rfl) (hF.ev rfl))) ?_; clear hF; intro a hF
    refine s_done ?_
    refine hK7 _ _ ?_; clear hK7
    refine wp_cond_false (hF.ev rfl) ?_
    refine wp_skip ?_
    refine hK6 _ _ ?_; clear hK6
    refine wp_seq_k fun K8 hK8 => ?_
    refine wp_seq_k fun K9 hK9 => ?_
    refine wp_region_lit ?_
    refine s_pu hF rfl rfl rfl (pu_move (hF.ev rfl)) ?_; clear hF; intro a hF
    refine s_pu hF rfl rfl rfl (pu_peq Try.underlying41 (hF.ev rfl) (hF.ev rfl)) ?_; clear hF; intro a hF
    refine s_pu hF rfl rfl rfl (pu_move (hF.ev rfl)) ?_; clear hF; intro a hF
    refine s_pu hF rfl rfl rfl (pu_move (hF.ev rfl)) ?_; clear hF; intro a hF
    refine s_pu hF rfl rfl rfl (pu_peq Try.underlying41 (hF.ev rfl) (hF.ev rfl)) ?_; clear hF; intro a hF
    refine s_pu hF rfl rfl rfl ((by exact pu_pick_f (hF.ev rfl) (hF.ev rfl))) ?_; clear hF; intro a hF
    refine s_done ?_
    refine hK9 _ _ ?_; clear hK9
    refine wp_cond_true (hF.ev rfl) ?_
    refine wp_seq_k fun K10 hK10 => ?_
    refine wp_region_lit ?_
    refine s_pu hF rfl rfl rfl (pu_assign (hF.ev rfl)) ?_; clear hF; intro a hF
    refine s_done ?_
    refine hK10 _ _ ?_; clear hK10
    refine wp_ret ?_
    refine then_ret ?_
    refine fin1 Try.results4 hF rfl ?_
    exact ⟨rfl, (hS.front 2 rfl).below⟩
  · -- no
    obtain ⟨n1, rfl⟩ : ∃ n1 : Nat, x1 = n1 := ⟨x1.toNat, by omega⟩
    refine wp_region_lit ?_
    refine s_pu hF rfl rfl rfl (pu_move (hF.ev rfl)) ?_; clear hF; intro a hF
    refine s_en hF rfl rfl rfl (run_fn fk15 (hF.ev rfl) (hF.evs rfl)) (new_no_i hS (by omega)) ?_
    clear hS; rintro e w ⟨rfl, hS⟩
    refine ⟨_, rfl, ?_⟩; clear hF; intro a hF
    refine s_pu hF rfl rfl rfl (pu_move (hF.ev rfl)) ?_; clear hF; intro a hF
    refine s_pu hF rfl rfl rfl (pu_extract (hF.ev rfl) rfl) ?_; clear hF; intro a hF
    refine s_pu hF rfl rfl rfl (pu_extract (hF.ev rfl) rfl) ?_; clear hF; intro a hF
    refine s_pu hF rfl rfl rfl (pu_assign (hF.ev rfl)) ?_; clear hF; intro a hF
    refine s_pu hF rfl rfl rfl (pu_assign (hF.ev rfl)) ?_; clear hF; intro a hF
    refine s_done ?_
    refine hK2 _ _ ?_; clear hK2
    refine wp_seq_k fun K3 hK3 => ?_
    refine wp_region_lit ?_
    refine s_pu hF rfl rfl rfl (pu_move (hF.ev rfl)) ?_; clear hF; intro a hF
    refine s_en hF rfl rfl rfl (run_fn fk15 (hF.ev rfl) (hF.evs rfl)) (wNew_i hS (by omega) (by omega)) ?_
    clear hS; rintro e w ⟨gb, rfl, hS⟩
    refine ⟨_, rfl, ?_⟩; clear hF; intro a hF
    refine s_pu hF rfl rfl rfl (pu_move (hF.ev rfl)) ?_; clear hF; intro a hF
    refine s_pu hF rfl rfl rfl (pu_extract (hF.ev rfl) rfl) ?_; clear hF; intro a hF
    refine s_pu hF rfl rfl rfl (pu_extract (hF.ev rfl) rfl) ?_; clear hF; intro a hF
    refine s_pu hF rfl rfl rfl (pu_assign (hF.ev rfl)) ?_; clear hF; intro a hF
    refine s_pu hF rfl rfl rfl (pu_assign (hF.ev rfl)) ?_; clear hF; intro a hF
    refine s_done ?_
    refine hK3 _ _ ?_; clear hK3
    refine wp_seq_k fun K4 hK4 => ?_
    refine wp_region_lit ?_
    refine s_pu hF rfl rfl rfl (pu_move (hF.ev rfl)) ?_; clear hF; intro a hF
    refine s_en hF rfl rfl rfl (run_fn fk16 (hF.ev rfl) (hF.evs rfl)) (rNew_no hS (by omega)) ?_
    clear hS; rintro e w ⟨rfl, hS⟩
    refine ⟨_, rfl, ?_⟩; clear hF; intro a hF
    refine s_pu hF rfl rfl rfl (pu_move (hF.ev rfl)) ?_; clear hF; intro a hF
    refine s_pu hF rfl rfl rfl (pu_extract (hF.ev rfl) rfl) ?_; clear hF; intro a hF
    refine s_pu hF rfl rfl rfl (pu_extract (hF.ev rfl) rfl) ?_; clear hF; intro a hF
    refine s_pu hF rfl rfl rfl (pu_assign (hF.ev rfl)) ?_; clear hF; intro a hF
    refine s_pu hF rfl rfl rfl (pu_assign (hF.ev rfl)) ?_; clear hF; intro a hF
    refine s_done ?_
    refine hK4 _ _ ?_; clear hK4
    refine wp_seq_k fun K5 hK5 => ?_
    refine wp_region_lit ?_
    refine s_pu hF rfl rfl rfl (pu_move (hF.ev rfl)) ?_; clear hF; intro a hF
    refine s_en hF rfl rfl rfl (run_fn fk16 (hF.ev rfl) (hF.evs rfl)) (rNew_c hS hx1.1 hx1.2) ?_
    clear hS; rintro e w ⟨xb, rfl, hS⟩
    refine ⟨_, rfl, ?_⟩; clear hF; intro a hF
    refine s_pu hF rfl rfl rfl (pu_move (hF.ev rfl)) ?_; clear hF; intro a hF
    refine s_pu hF rfl rfl rfl (pu_extract (hF.ev rfl) rfl) ?_; clear hF; intro a hF
    refine s_pu hF rfl rfl rfl (pu_extract (hF.ev rfl) rfl) ?_; clear hF; intro a hF
    refine s_pu hF rfl rfl rfl (pu_assign (hF.ev rfl)) ?_; clear hF; intro a hF
    refine s_pu hF rfl rfl rfl (pu_assign (hF.ev rfl)) ?_; clear hF; intro a hF
    refine s_done ?_
    refine hK5 _ _ ?_; clear hK5
    refine wp_seq_k fun K6 hK6 => ?_
    refine wp_seq_k fun K7 hK7 => ?_
    refine wp_region_lit ?_
    refine s_pu hF rfl rfl rfl (pu_move (hF.ev rfl)) ?_; clear hF; intro a hF
    refine s_pu hF rfl rfl rfl (pu_not (hF.ev rfl)) ?_; clear hF; intro a hF
    refine s_pu hF rfl rfl rfl (pu_move (hF.ev rfl)) ?_; clear hF; intro a hF
    refine s_pu hF rfl rfl rfl (pu_move (hF.ev rfl)) ?_; clear hF; intro a hF
    refine s_pu hF rfl rfl rfl (pu_move (hF.ev rfl)) ?_; clear hF; intro a hF
    refine s_pu hF rfl rfl rfl (pu_neq (hF.ev rfl) (hF.ev rfl)) ?_; clear hF; intro a hF
    refine s_pu hF rfl rfl rfl ((by exact pu_pick_f (hF.ev rfl) (hF.ev rfl))) ?_; clear hF; intro a hF
    refine s_pu hF rfl rfl rfl (pu_move (hF.ev rfl)) ?_; clear hF; intro a hF
    refine s_pu hF rfl rfl rfl (pu_move (hF.ev rfl)) ?_; clear hF; intro a hF
    refine s_pu hF rfl rfl rfl (pu_move (hF.ev rfl)) ?_; clear hF; intro a hF
    refine s_pu hF rfl rfl rfl (pu_neq (hF.ev rfl) (hF.ev rfl)) ?_; clear hF; intro a hF
    refine s_pu hF rfl rfl rfl ((by exact pu_pick_f (hF.ev rfl) (hF.ev rfl))) ?_; clear hF; intro a hF
    refine s_pu hF rfl rfl rfl (pu_move (hF.ev rfl)) ?_; clear hF; intro a hF
    refine s_pu hF rfl rfl rfl (pu_move (hF.ev rfl)) ?_; clear hF; intro a hF
    refine s_pu hF rfl rfl rfl (pu_peq Try.underlying38 (hF.ev rfl) (hF.ev rfl)) ?_; clear hF; intro a hF
    refine s_pu hF rfl rfl rfl (pu_move (hF.ev rfl)) ?_; clear hF; intro a hF
    refine s_pu hF rfl rfl rfl (pu_peq Try.underlying41 (hF.ev rfl) (hF.ev rfl)) ?_; clear hF; intro a hF
    refine s_pu hF rfl rfl rfl (pu_bne Try.underlying4 (hF.ev rfl) (hF.ev rfl)) ?_; clear hF; intro a hF
    refine s_pu hF rfl rfl rfl ((by exact pu_pick_f (hF.ev rfl) (hF.ev rfl))) ?_; clear hF; intro a hF
    refine s_pu hF rfl rfl rfl (pu_move (hF.ev rfl)) ?_; clear hF; intro a hF
    refine s_pu hF rfl rfl rfl (pu_move (hF.ev rfl)) ?_; clear hF; intro a hF
    refine s_pu hF rfl rfl rfl (pu_peq Try.underlying38 (hF.ev rfl) (hF.ev rfl)) ?_; clear hF; intro a hF
    refine s_pu hF rfl rfl rfl (pu_move (hF.ev rfl)) ?_; clear hF; intro a hF
    refine s_pu hF rfl rfl rfl (pu_peq Try.underlying41 (hF.ev rfl) (hF.ev rfl)) ?_; clear hF; intro a hF
    refine s_pu hF rfl rfl rfl (pu_bne Try.underlying4 (hF.ev rfl) (hF.ev rfl)) ?_; clear hF; intro a hF
    refine s_pu hF rfl rfl rfl ((by exact pu_pick_f (hF.ev rfl) (hF.ev rfl))) ?_; clear hF; intro a hF
    refine s_done ?_
    refine hK7 _ _ ?_; clear hK7
    refine wp_cond_false (hF.ev rfl) ?_
    refine wp_skip ?_
    refine hK6 _ _ ?_; clear hK6
    refine wp_seq_k fun K8 hK8 => ?_
    refine wp_seq_k fun K9 hK9 => ?_
    refine wp_region_lit ?_
    refine s_pu hF rfl rfl rfl (pu_move (hF.ev rfl)) ?_; clear hF; intro a hF
    refine s_pu hF rfl rfl rfl (pu_peq Try.underlying41 (hF.ev rfl) (hF.ev rfl)) ?_; clear hF; intro a hF
    refine s_pu hF rfl rfl rfl (pu_move (hF.ev rfl)) ?_; clear hF; intro a hF
    refine s_no hF rfl rfl rfl ?_; clear hF; intro a hF
    refine s_no hF rfl rfl rfl ?_; clear hF; intro a hF
    refine s_pu hF rfl rfl rfl ((by exact pu_pick_t (hF.ev rfl) (hF.ev rfl))) ?_; clear hF; intro a hF
    refine s_done ?_
    refine hK9 _ _ ?_; clear hK9
    refine wp_cond_true (hF.ev rfl) ?_
    refine wp_seq_k fun K10 hK10 => ?_
    refine wp_region_lit ?_
    refine s_pu hF rfl rfl rfl (pu_assign (hF.ev rfl)) ?_; clear hF; intro a hF
    refine s_done ?_
    refine hK10 _ _ ?_; clear hK10
    refine wp_ret ?_
    refine then_ret ?_
    refine fin1 Try.results4 hF rfl ?_
    exact ⟨rfl, (hS.front 2 rfl).below⟩
  · -- nn
    refine wp_region_lit ?_
    refine s_pu hF rfl rfl rfl (pu_move (hF.ev rfl)) ?_; clear hF; intro a hF
    refine s_en hF rfl rfl rfl (run_fn fk15 (hF.ev rfl) (hF.evs rfl)) (new_no_i hS (by omega)) ?_
    clear hS; rintro e w ⟨rfl, hS⟩
    refine ⟨_, rfl, ?_⟩; clear hF; intro a hF
    refine s_pu hF rfl rfl rfl (pu_move (hF.ev rfl)) ?_; clear hF; intro a hF
    refine s_pu hF rfl rfl rfl (pu_extract (hF.ev rfl) rfl) ?_; clear hF; intro a hF
    refine s_pu hF rfl rfl rfl (pu_extract (hF.ev rfl) rfl) ?_; clear hF; intro a hF
    refine s_pu hF rfl rfl rfl (pu_assign (hF.ev rfl)) ?_; clear hF; intro a hF
    refine s_pu hF rfl rfl rfl (pu_assign (hF.ev rfl)) ?_; clear hF; intro a hF
    refine s_done ?_
    refine hK2 _ _ ?_; clear hK2
    refine wp_seq_k fun K3 hK3 => ?_
    refine wp_region_lit ?_
    refine s_pu hF rfl rfl rfl (pu_move (hF.ev rfl)) ?_; clear hF; intro a hF
    refine s_en hF rfl rfl rfl (run_fn fk15 (hF.ev rfl) (hF.evs rfl)) (new_no_i hS (by omega)) ?_
    clear hS; rintro e w ⟨rfl, hS⟩
    refine ⟨_, rfl, ?_⟩; clear hF; intro a hF
    refine s_pu hF rfl rfl rfl (pu_move (hF.ev rfl)) ?_; clear hF; intro a hF
    refine s_pu hF rfl rfl rfl (pu_extract (hF.ev rfl) rfl) ?_; clear hF; intro a hF
    refine s_pu hF rfl rfl rfl (pu_extract (hF.ev rfl) rfl) ?_; clear hF; intro a hF
    refine s_pu hF rfl rfl rfl (pu_assign (hF.ev rfl)) ?_; clear hF; intro a hF
    refine s_pu hF rfl rfl rfl (pu_assign (hF.ev rfl)) ?_; clear hF; intro a hF
    refine s_done ?_
    refine hK3 _ _ ?_; clear hK3
    refine wp_seq_k fun K4 hK4 => ?_
    refine wp_region_lit ?_
    refine s_pu hF rfl rfl rfl (pu_move (hF.ev rfl)) ?_; clear hF; intro a hF
    refine s_en hF rfl rfl rfl (run_fn fk16 (hF.ev rfl) (hF.evs rfl)) (rNew_no hS (by omega)) ?_
    clear hS; rintro e w ⟨rfl, hS⟩
    refine ⟨_, rfl, ?_⟩; clear hF; intro a hF
    refine s_pu hF rfl rfl rfl (pu_move (hF.ev rfl)) ?_; clear hF; intro a hF
    refine s_pu hF rfl rfl rfl (pu_extract (hF.ev rfl) rfl) ?_; clear hF; intro a hF
    refine s_pu hF rfl rfl rfl (pu_extract (hF.ev rfl) rfl) ?_; clear hF; intro a hF
    refine s_pu hF rfl rfl rfl (pu_assign (hF.ev rfl)) ?_; clear hF; intro a hF
    refine s_pu hF rfl rfl rfl (pu_assign (hF.ev rfl)) ?_; clear hF; intro a hF
    refine s_done ?_
    refine hK4 _ _ ?_; clear hK4
    refine wp_seq_k fun K5 hK5 => ?_
    refine wp_region_lit ?_
    refine s_pu hF rfl rfl rfl (pu_move (hF.ev rfl)) ?_; clear hF; intro a hF
    refine s_en hF rfl rfl rfl (run_fn fk16 (hF.ev rfl) (hF.evs rfl)) (rNew_no hS (by omega)) ?_
    clear hS; rintro e w ⟨rfl, hS⟩
    refine ⟨_, rfl, ?_⟩; clear hF; intro a hF
    refine s_pu hF rfl rfl rfl (pu_move (hF.ev rfl)) ?_; clear hF; intro a hF
    refine s_pu hF rfl rfl rfl (pu_extract (hF.ev rfl) rfl) ?_; clear hF; intro a hF
    refine s_pu hF rfl rfl rfl (pu_extract (hF.ev rfl) rfl) ?_; clear hF; intro a hF
    refine s_pu hF rfl rfl rfl (pu_assign (hF.ev rfl)) ?_; clear hF; intro a hF
    refine s_pu hF rfl rfl rfl (pu_assign (hF.ev rfl)) ?_; clear hF; intro a hF
    refine s_done ?_
    refine hK5 _ _ ?_; clear hK5
    refine wp_seq_k fun K6 hK6 => ?_
    refine wp_seq_k fun K7 hK7 => ?_
    refine wp_region_lit ?_
    refine s_pu hF rfl rfl rfl (pu_move (hF.ev rfl)) ?_; clear hF; intro a hF
    refine s_pu hF rfl rfl rfl (pu_not (hF.ev rfl)) ?_; clear hF; intro a hF
    refine s_pu hF rfl rfl rfl (pu_move (hF.ev rfl)) ?_; clear hF; intro a hF
    refine s_pu hF rfl rfl rfl (pu_move (hF.ev rfl)) ?_; clear hF; intro a hF
    refine s_pu hF rfl rfl rfl (pu_move (hF.ev rfl)) ?_; clear hF; intro a hF
    refine s_pu hF rfl rfl rfl (pu_neq (hF.ev rfl) (hF.ev rfl)) ?_; clear hF; intro a hF
    refine s_pu hF rfl rfl rfl ((by exact pu_pick_f (hF.ev rfl) (hF.ev rfl))) ?_; clear hF; intro a hF
    refine s_pu hF rfl rfl rfl (pu_move (hF.ev rfl)) ?_; clear hF; intro a hF
    refine s_pu hF rfl rfl rfl (pu_move (hF.ev rfl)) ?_; clear hF; intro a hF
    refine s_pu hF rfl rfl rfl (pu_move (hF.ev rfl)) ?_; clear hF; intro a hF
    refine s_pu hF rfl rfl rfl (pu_neq (hF.ev rfl) (hF.ev rfl)) ?_; clear hF; intro a hF
    refine s_pu hF rfl rfl rfl ((by exact pu_pick_f (hF.ev rfl) (hF.ev rfl))) ?_; clear hF; intro a hF
    refine s_pu hF rfl rfl rfl (pu_move (hF.ev rfl)) ?_; clear hF; intro a hF
    refine s_pu hF rfl rfl rfl (pu_move (hF.ev rfl)) ?_; clear hF; intro a hF
    refine s_pu hF rfl rfl rfl (pu_peq Try.underlying38 (hF.ev rfl) (hF.ev rfl)) ?_; clear hF; intro a hF
    refine s_pu hF rfl rfl rfl (pu_move (hF.ev rfl)) ?_; clear hF; intro a hF
    refine s_pu hF rfl rfl rfl (pu_peq Try.underlying41 (hF.ev rfl) (hF.ev rfl)) ?_; clear hF; intro a hF
    refine s_pu hF rfl rfl rfl (pu_bne Try.underlying4 (hF.ev rfl) (hF.ev rfl)) ?_; clear hF; intro a hF
    refine s_pu hF rfl rfl rfl ((by exact pu_pick_f (hF.ev rfl) (hF.ev rfl))) ?_; clear hF; intro a hF
    refine s_pu hF rfl rfl rfl (pu_move (hF.ev rfl)) ?_; clear hF; intro a hF
    refine s_pu hF rfl rfl rfl (pu_move (hF.ev rfl)) ?_; clear hF; intro a hF
    refine s_pu hF rfl rfl rfl (pu_peq Try.underlying38 (hF.ev rfl) (hF.ev rfl)) ?_; clear hF; intro a hF
    refine s_pu hF rfl rfl rfl (pu_move (hF.ev rfl)) ?_; clear hF; intro a hF
    refine s_pu hF rfl rfl rfl (pu_peq Try.underlying41 (hF.ev rfl) (hF.ev rfl)) ?_; clear hF; intro a hF
    refine s_pu hF rfl rfl rfl (pu_bne Try.underlying4 (hF.ev rfl) (hF.ev rfl)) ?_; clear hF; intro a hF
    refine s_pu hF rfl rfl rfl ((by exact pu_pick_f (hF.ev rfl) (hF.ev rfl))) ?_; clear hF; intro a hF
    refine s_done ?_
    refine hK7 _ _ ?_; clear hK7
    refine wp_cond_false (hF.ev rfl) ?_
    refine wp_skip ?_
    refine hK6 _ _ ?_; clear hK6
    refine wp_seq_k fun K8 hK8 => ?_
    refine wp_seq_k fun K9 hK9 => ?_
    refine wp_region_lit ?_
    refine s_pu hF rfl rfl rfl (pu_move (hF.ev rfl)) ?_; clear hF; intro a hF
    refine s_pu hF rfl rfl rfl (pu_peq Try.underlying41 (hF.ev rfl) (hF.ev rfl)) ?_; clear hF; intro a hF
    refine s_pu hF rfl rfl rfl (pu_move (hF.ev rfl)) ?_; clear hF; intro a hF
    refine s_no hF rfl rfl rfl ?_; clear hF; intro a hF
    refine s_no hF rfl rfl rfl ?_; clear hF; intro a hF
    refine s_pu hF rfl rfl rfl ((by exact pu_pick_t (hF.ev rfl) (hF.ev rfl))) ?_; clear hF; intro a hF
    refine s_done ?_
    refine hK9 _ _ ?_; clear hK9
    refine wp_cond_true (hF.ev rfl) ?_
    refine wp_seq_k fun K10 hK10 => ?_
    refine wp_region_lit ?_
    refine s_pu hF rfl rfl rfl (pu_assign (hF.ev rfl)) ?_; clear hF; intro a hF
    refine s_done ?_
    refine hK10 _ _ ?_; clear hK10
    refine wp_ret ?_
    refine then_ret ?_
    refine fin1 Try.results4 hF rfl ?_
    exact ⟨rfl, hS.below⟩
end Go.Proofs.Ytbpkfifiigpdcaa
