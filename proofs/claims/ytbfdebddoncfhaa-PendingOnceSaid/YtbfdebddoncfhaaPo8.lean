import Derived.Test.YtbfdebddoncfhaaPo7
/-! PendingOnce: the walk. -/
namespace Go.Proofs.Ytbfdebddoncfhaa
open Go Go.RowKit Go.Proofs.Ytbfdebddoncfhaa.Sk
set_option linter.unusedVariables false
set_option linter.unusedSimpArgs false
set_option maxRecDepth 100000

/-- A step of the script, raw. -/
structure Stp where
  what : Int
  n : Int
def Stp.cells (o : Stp) : List Value := [.int .i64 o.what, .int .i64 o.n]
theorem tab_start {m : Nat} {to fo : Int} : Tab.start (m : Int) to fo = tabS m to fo 0 [] [] [] 0 0 := rfl
set_option maxHeartbeats 2000000 in
theorem pendingOnce_walk (W : World) (x0 : Int) (hx0 : (Lit.int .i64 x0).wf = true) (x1 : Int) (hx1 : (Lit.int .i64 x1).wf = true) (x2 : Int) (hx2 : (Lit.int .i64 x2).wf = true) (sa : Option Addr) (len cap : Nat) (ops : Nat → Stp) (hin : CellsIn W sa len 2 (fun i => (ops i).cells)) (hlen : len * 16 ≤ 140737488351232)
    (hwf : ∀ i, (Lit.int .i64 (ops i).what).wf = true ∧ (Lit.int .i64 (ops i).n).wf = true) :
    Calls Try.prog 5 #[.int .i64 x0, .int .i64 x1, .int .i64 x2, .slice sa len cap] W fun e w' => e = .returned (.bool true) ∧ Below W.heap.size W w' := by
  have hS0 := sat_whole W
  obtain ⟨w, hw⟩ : ∃ w, w = W := ⟨_, rfl⟩
  have hS : Sat W w [whole W] := by rw [hw]; exact hS0
  rw [show Calls Try.prog 5 #[.int .i64 x0, .int .i64 x1, .int .i64 x2, .slice sa len cap] W = Calls Try.prog 5 #[.int .i64 x0, .int .i64 x1, .int .i64 x2, .slice sa len cap] w by rw [hw]]
  clear hw hS0
  refine enter Try.func5 rfl Try.ntmps5 (Nat.le_of_ble_eq_true rfl) fun a hF => ?_
  refine wp_seq_k fun K0 hK0 => ?_
  refine wp_region_lit ?_
  refine s_pu hF rfl rfl rfl (pu_assign (hF.ev rfl)) ?_; clear hF; intro a hF
  refine s_done ?_
  refine hK0 _ _ ?_; clear hK0
  refine wp_seq_k fun K1 hK1 => ?_
  refine wp_region_lit ?_
  refine s_pu hF rfl rfl rfl (pu_move (hF.ev rfl)) ?_; clear hF; intro a hF
  refine s_en hF rfl rfl rfl (run_fn fk7 (hF.ev rfl) (hF.evs rfl)) (pick_c hS (by omega) (wf64 hx0).1 (wf64 hx0).2) ?_
  clear hS; rintro e w ⟨p0, hp0, hq0, rfl, hS⟩
  refine ⟨_, rfl, ?_⟩; clear hF; intro a hF
  refine s_pu hF rfl rfl rfl ((by exact pu_add64 (hF.ev rfl) (hF.ev rfl) (by omega))) ?_; clear hF; intro a hF
  refine s_pu hF rfl rfl rfl (pu_move (hF.ev rfl)) ?_; clear hF; intro a hF
  refine s_en hF rfl rfl rfl (run_fn fk7 (hF.ev rfl) (hF.evs rfl)) (pick_c hS (by omega) (wf64 hx1).1 (wf64 hx1).2) ?_
  clear hS; rintro e w ⟨p1, hp1, hq1, rfl, hS⟩
  refine ⟨_, rfl, ?_⟩; clear hF; intro a hF
  refine s_pu hF rfl rfl rfl ((by exact pu_add64 (hF.ev rfl) (hF.ev rfl) (by omega))) ?_; clear hF; intro a hF
  refine s_pu hF rfl rfl rfl (pu_move (hF.ev rfl)) ?_; clear hF; intro a hF
  refine s_en hF rfl rfl rfl (run_fn fk7 (hF.ev rfl) (hF.evs rfl)) (pick_c hS (by omega) (wf64 hx2).1 (wf64 hx2).2) ?_
  clear hS; rintro e w ⟨p2, hp2, hq2, rfl, hS⟩
  refine ⟨_, rfl, ?_⟩; clear hF; intro a hF
  refine s_pu hF rfl rfl rfl ((by exact pu_add64 (hF.ev rfl) (hF.ev rfl) (by omega))) ?_; clear hF; intro a hF
  refine s_pu hF rfl rfl rfl ((pu_build st52 (hF.evp rfl) rfl rfl : Pu _ _ _ (.agg #[_, _, _, _, _, _, _, _]))) ?_; clear hF; intro a hF
  refine s_newp hF rfl rfl rfl (ef_box (cs := #[_, _, _, _, _, _, _, _]) (hF.ev rfl) rfl) hS ?_; clear hF hS; intro b28 w hS a hF
  refine s_pu hF rfl rfl rfl (pu_assign (hF.ev rfl)) ?_; clear hF; intro a hF
  refine s_done ?_
  refine hK1 _ _ ?_; clear hK1
  refine wp_seq_k fun K2 hK2 => ?_
  obtain ⟨m, hm⟩ : ∃ m : Nat, (m : Int) = 1 + p0 := ⟨p0 + 1, by omega⟩
  obtain ⟨to, hto⟩ : ∃ to : Int, to = 1 + p1 := ⟨_, rfl⟩
  obtain ⟨fo, hfo⟩ : ∃ fo : Int, fo = 1 + p2 := ⟨_, rfl⟩
  rw [← hm, ← hto, ← hfo] at hS
  have hcst : Cst m to fo := ⟨by omega, by omega, by omega⟩
  refine d_start (S := (fun w => Sat W w [_])) (ds := [12]) (ord := [(0, .pu), (1, .pu), (2, .pu), (3, .tk), (4, .pu), (5, .pu), (6, .pu), (7, .tk), (8, .pu), (9, .pu), (10, .pu), (11, .tk), (12, .ls), (13, .pu), (14, .pu), (15, .pu), (16, .pu), (17, .pu)]) mixed ⟨by kernel_rfl, fun _ d _ _ _ h => by cases d <;> exact h⟩ (hS.left (C := [_])).drew fun hD => ?_
  replace hS := hS.drew; generalize w.drew = w at hS ⊢
  refine d_pu hD hF rfl rfl rfl rfl rfl (pu_move (hF.ev rfl)) ?_; clear hF; intro a hF
  refine d_pu hD hF rfl rfl rfl rfl rfl ((by exact pu_nil (hF.ev rfl))) ?_; clear hF; intro a hF
  refine d_pu hD hF rfl rfl rfl rfl rfl ((by exact pu_field fd52_5 (hF.ev rfl))) ?_; clear hF; intro a hF
  refine d_rd hD hF rfl rfl rfl rfl rfl (hS.left (C := [_])) (fun w hS => (by exact rd_load pl3 (hF.ev rfl) (hS.cellL (i := 0) rfl rfl))) ?_; clear hF; intro a hF
  refine d_pu hD hF rfl rfl rfl rfl rfl (pu_move (hF.ev rfl)) ?_; clear hF; intro a hF
  refine d_pu hD hF rfl rfl rfl rfl rfl ((by exact pu_nil (hF.ev rfl))) ?_; clear hF; intro a hF
  refine d_pu hD hF rfl rfl rfl rfl rfl ((by exact pu_field fd52_6 (hF.ev rfl))) ?_; clear hF; intro a hF
  refine d_rd hD hF rfl rfl rfl rfl rfl (hS.left (C := [_])) (fun w hS => (by exact rd_load pl3 (hF.ev rfl) (hS.cellL (i := 0) rfl rfl))) ?_; clear hF; intro a hF
  refine d_pu hD hF rfl rfl rfl rfl rfl (pu_move (hF.ev rfl)) ?_; clear hF; intro a hF
  refine d_pu hD hF rfl rfl rfl rfl rfl ((by exact pu_nil (hF.ev rfl))) ?_; clear hF; intro a hF
  refine d_pu hD hF rfl rfl rfl rfl rfl ((by exact pu_field fd52_7 (hF.ev rfl))) ?_; clear hF; intro a hF
  refine d_rd hD hF rfl rfl rfl rfl rfl (hS.left (C := [_])) (fun w hS => (by exact rd_load pl3 (hF.ev rfl) (hS.cellL (i := 0) rfl rfl))) ?_; clear hF; intro a hF
  refine l_en hD hF rfl rfl rfl rfl rfl (run_fn fk8 (hF.ev rfl) (hF.evs rfl)) (new_c (k := 1) hS (most := (m : Int)) (timeout := to) (remember := fo) ⟨by omega, by omega, by omega, by omega, by omega, by omega⟩) ?_
  clear hS; rintro e w ⟨g, rfl, hS⟩
  refine ⟨_, rfl, ?_⟩; clear hF; intro a hF
  refine d_pu hD hF rfl rfl rfl rfl rfl (pu_move (hF.ev rfl)) ?_; clear hF; intro a hF
  refine d_pu hD hF rfl rfl rfl rfl rfl (pu_extract (hF.ev rfl) rfl) ?_; clear hF; intro a hF
  refine d_pu hD hF rfl rfl rfl rfl rfl (pu_extract (hF.ev rfl) rfl) ?_; clear hF; intro a hF
  refine d_pu hD hF rfl rfl rfl rfl rfl (pu_assign (hF.ev rfl)) ?_; clear hF; intro a hF
  refine d_pu hD hF rfl rfl rfl rfl rfl (pu_assign (hF.ev rfl)) ?_; clear hF; intro a hF
  refine d_done hD rfl ?_; clear hD
  refine hK2 _ _ ?_; clear hK2
  refine wp_seq_k fun K3 hK3 => ?_
  refine wp_seq_k fun K4 hK4 => ?_
  refine wp_region_lit ?_
  refine s_pu hF rfl rfl rfl (pu_move (hF.ev rfl)) ?_; clear hF; intro a hF
  refine s_pu hF rfl rfl rfl (pu_neq (hF.ev rfl) (hF.ev rfl)) ?_; clear hF; intro a hF
  refine s_pu hF rfl rfl rfl (pu_move (hF.ev rfl)) ?_; clear hF; intro a hF
  refine s_pu hF rfl rfl rfl (pu_move (hF.ev rfl)) ?_; clear hF; intro a hF
  refine s_pu hF rfl rfl rfl (pu_peq Try.underlying24 (hF.ev rfl) (hF.ev rfl)) ?_; clear hF; intro a hF
  refine s_pu hF rfl rfl rfl ((by exact pu_pick_f (hF.ev rfl) (hF.ev rfl))) ?_; clear hF; intro a hF
  refine s_done ?_
  refine hK4 _ _ ?_; clear hK4
  refine wp_cond_false (hF.ev rfl) ?_
  refine wp_skip ?_
  refine hK3 _ _ ?_; clear hK3
  refine wp_seq_k fun K5 hK5 => ?_
  refine wp_region_lit ?_
  refine s_pu hF rfl rfl rfl (pu_move (hF.ev rfl)) ?_; clear hF; intro a hF
  refine s_pu hF rfl rfl rfl (pu_move (hF.ev rfl)) ?_; clear hF; intro a hF
  refine s_pu hF rfl rfl rfl ((by exact pu_nil (hF.ev rfl))) ?_; clear hF; intro a hF
  refine s_pu hF rfl rfl rfl ((by exact pu_field fd52_0 (hF.ev rfl))) ?_; clear hF; intro a hF
  ((refine s_store (vs := [_]) (cs' := #[_, _, _, _, _, _, _, _]) 1 hF rfl (hF.ev rfl) (hF.ev rfl) hS rfl rfl sz24 (by rfl) (by exact Nat.le_of_ble_eq_true rfl) rfl ?_))
  clear hS; intro w hS; (try simp only [upd, del] at hS)
  refine s_done ?_
  refine hK5 _ _ ?_; clear hK5
  refine wp_seq_j (fun a w => ∃ (R : List Fate) (LA WA : List Lv) (P : List Ent) (now last : Int), WldOk m to fo R LA WA P now last ∧ R.length ≤ 200 ∧ now ≤ 4000 ∧
    Fr a 180 [(9, .pointer (some ⟨b28, 0, none⟩)), (10, .pointer (some ⟨g, 0, none⟩))] ∧
    Sat W w [wC b28 g R now WA.length LA.length m to fo, tabC 1 g (tabS m to fo R.length LA WA P now last), whole W]) ?_ ?_
  · -- up to the join s7
    refine wp_seq_k fun K7 hK7 => ?_
    refine wp_region_lit ?_
    refine s_pu hF rfl rfl rfl (pu_assign (hF.ev rfl)) ?_; clear hF; intro a hF
    refine s_done ?_
    refine hK7 _ _ ?_; clear hK7
    refine wp_block ?_
    rw [tab_start] at hS
    have hS1 : Sat W w [wC b28 g [] 0 (([] : List Lv).length : Int) (([] : List Lv).length : Int) m to fo, tabC 1 g (tabS m to fo ([] : List Fate).length [] [] [] 0 0), whole W] := w_shut (((row_nil (E := 58) (sz := 3) hS).sel [2, 0, 0]))
    refine wp_ind (fun j a w => ∃ (i : Nat) (R : List Fate) (LA WA : List Lv) (P : List Ent) (now last : Int), j = len - i ∧ i ≤ len ∧ i ≤ 200 ∧ WldOk m to fo R LA WA P now last ∧ R.length ≤ i ∧ now ≤ 20 * i ∧
      Fr a 180 [(3, .slice sa len cap), (9, .pointer (some ⟨b28, 0, none⟩)), (10, .pointer (some ⟨g, 0, none⟩)), (12, .int .i64 i)] ∧
      Sat W w [wC b28 g R now WA.length LA.length m to fo, tabC 1 g (tabS m to fo R.length LA WA P now last), whole W]) len
      ⟨0, [], [], [], [], 0, 0, by omega, by omega, by omega, ⟨hcst, .start hcst, ⟨by simp, by simp, by simp⟩⟩, by simp, by omega, hF.sub ⟨rfl, rfl, rfl, rfl, trivial⟩, hS1⟩ ?_
    clear hS hF hS1
    rintro j a w ⟨i, R, LA, WA, P, now, last, rfl, hi, hi2, hok, hRl, hnow, hF, hS⟩
    refine wp_seq_k fun K8 hK8 => ?_
    refine wp_seq_k fun K9 hK9 => ?_
    refine wp_region_lit ?_
    refine s_pu hF rfl rfl rfl (pu_move (hF.ev rfl)) ?_; clear hF; intro a hF
    refine s_pu hF rfl rfl rfl (pu_move (hF.ev rfl)) ?_; clear hF; intro a hF
    refine s_pu hF rfl rfl rfl (pu_len sl48 (hF.ev rfl)) ?_; clear hF; intro a hF
    refine s_pu hF rfl rfl rfl (pu_lss (hF.ev rfl) (hF.ev rfl)) ?_; clear hF; intro a hF
    refine s_pu hF rfl rfl rfl (pu_move (hF.ev rfl)) ?_; clear hF; intro a hF
    refine fr_split hF (t := 59) rfl ?_ ?_
    · clear hF; intro hg59 hF   -- slot 59 true
      try simp only [decide_eq_true_eq, decide_eq_false_iff_not, Bool.not_eq_true', Bool.not_eq_false', Int.not_lt, Int.not_le, ne_eq, Decidable.not_not, Bool.or_eq_true, Bool.or_eq_false_iff, Bool.and_eq_true, Bool.and_eq_false_imp] at hg59
      refine s_pu hF rfl rfl rfl (pu_move (hF.ev rfl)) ?_; clear hF; intro a hF
      refine s_pu hF rfl rfl rfl (pu_lss (hF.ev rfl) (hF.ev rfl)) ?_; clear hF; intro a hF
      refine s_pu hF rfl rfl rfl ((by exact pu_pick_t (hF.ev rfl) (hF.ev rfl))) ?_; clear hF; intro a hF
      refine s_done ?_
      refine hK9 _ _ ?_; clear hK9
      refine wp_cond_split (hF.ev rfl) (fun hc1 => ?_) (fun hc1 => ?_)
      · -- cond 1 true
        try simp only [decide_eq_true_eq, decide_eq_false_iff_not, Bool.not_eq_true', Bool.not_eq_false', Int.not_lt, Int.not_le, ne_eq, Decidable.not_not, Bool.or_eq_true, Bool.or_eq_false_iff, Bool.and_eq_true, Bool.and_eq_false_imp] at hc1
        have hil : i < len := by omega
        have hi2' : i < 200 := by omega
        have hwa := wf64 (hwf i).1
        have hwn := wf64 (hwf i).2
        obtain ⟨x, rfl, hc⟩ := hin.at_ hil hS (k := 2) rfl
        have hck : w.cell? ((x.add ((i : Int).toNat * 2)).add 0) = some (.int .i64 (ops i).what) := hc 0 _ rfl
        refine wp_skip ?_
        refine hK8 _ _ ?_; clear hK8
        refine wp_seq_k fun K10 hK10 => ?_
        refine wp_block ?_
        refine wp_seq_k fun K11 hK11 => ?_
        refine wp_region_lit ?_
        refine s_pu hF rfl rfl rfl (pu_assign (hF.ev rfl)) ?_; clear hF; intro a hF
        refine s_done ?_
        refine hK11 _ _ ?_; clear hK11
        refine wp_seq_j (fun a w => ∃ (R : List Fate) (LA WA : List Lv) (P : List Ent) (now last : Int), WldOk m to fo R LA WA P now last ∧ R.length ≤ i + 1 ∧ now ≤ 20 * (i + 1) ∧
          Fr a 180 [(3, .slice (some x) len cap), (9, .pointer (some ⟨b28, 0, none⟩)), (10, .pointer (some ⟨g, 0, none⟩)), (12, .int .i64 i), (13, .bool true)] ∧
          Sat W w [wC b28 g R now WA.length LA.length m to fo, tabC 1 g (tabS m to fo R.length LA WA P now last), whole W]) ?_ ?_
        · -- up to the join s13
          refine wp_seq_k fun K13 hK13 => ?_
          refine wp_region_lit ?_
          refine s_pu hF rfl rfl rfl (pu_move (hF.ev rfl)) ?_; clear hF; intro a hF
          refine s_pu hF rfl rfl rfl (pu_move (hF.ev rfl)) ?_; clear hF; intro a hF
          refine s_pu hF rfl rfl rfl ((by exact pu_elemA sl48 (hF.ev rfl) (hF.ev rfl) (by omega) (by omega))) ?_; clear hF; intro a hF
          refine s_pu hF rfl rfl rfl ((by exact pu_fieldA fd54_0 (hF.ev rfl))) ?_; clear hF; intro a hF
          refine s_rd hF rfl rfl rfl (by exact rd_load pl3 (hF.ev rfl) (by assumption)) ?_; clear hF; intro a hF
          refine s_en hF rfl rfl rfl (run_fn fk7 (hF.ev rfl) (hF.evs rfl)) (pick_c hS (by omega) hwa.1 hwa.2) ?_
          clear hS; rintro e w ⟨kd, hkd, hkd5, rfl, hS⟩
          refine ⟨_, rfl, ?_⟩; clear hF; intro a hF
          refine s_done ?_
          refine hK13 _ _ ?_; clear hK13
          refine wp_block ?_
          refine wp_seq_k fun K14 hK14 => ?_
          refine wp_seq_k fun K15 hK15 => ?_
          refine wp_region_lit ?_
          refine s_pu hF rfl rfl rfl (pu_eql (hF.ev rfl) (hF.ev rfl)) ?_; clear hF; intro a hF
          refine s_pu hF rfl rfl rfl (pu_assign (hF.ev rfl)) ?_; clear hF; intro a hF
          refine s_done ?_
          refine hK15 _ _ ?_; clear hK15
          refine wp_cond_split (hF.ev rfl) (fun hc2 => ?_) (fun hc2 => ?_)
          · -- cond 2 true
            try simp only [decide_eq_true_eq, decide_eq_false_iff_not, Bool.not_eq_true', Bool.not_eq_false', Int.not_lt, Int.not_le, ne_eq, Decidable.not_not, Bool.or_eq_true, Bool.or_eq_false_iff, Bool.and_eq_true, Bool.and_eq_false_imp] at hc2
            refine wp_skip ?_
            refine hK14 _ _ ?_; clear hK14
            refine wp_cond_split (hF.ev rfl) (fun hc3 => ?_) (fun hc3 => ?_)
            · -- cond 3 true
              try simp only [decide_eq_true_eq, decide_eq_false_iff_not, Bool.not_eq_true', Bool.not_eq_false', Int.not_lt, Int.not_le, ne_eq, Decidable.not_not, Bool.or_eq_true, Bool.or_eq_false_iff, Bool.and_eq_true, Bool.and_eq_false_imp] at hc3
              refine wp_region_lit ?_
              refine s_pu hF rfl rfl rfl (pu_move (hF.ev rfl)) ?_; clear hF; intro a hF
              refine s_en hF rfl rfl rfl (run_fn fk17 (hF.ev rfl) (hF.evs rfl)) (adds_c hS hok (by omega) (by omega)) ?_
              clear hS; rintro e w ⟨rfl, R', WA', P', last', hok', hRl', hS⟩
              refine ⟨_, rfl, ?_⟩; clear hF; intro a hF
              refine s_pu hF rfl rfl rfl (pu_assign (hF.ev rfl)) ?_; clear hF; intro a hF
              refine s_done ?_
              refine blk_normal ?_
              first
                | exact ⟨R', LA', WA', P', now', last', hok', by omega, by omega, hF.sub ⟨rfl, rfl, rfl, rfl, rfl, trivial⟩, hS⟩
                | exact ⟨R', LA, WA', P', now, last', hok', by omega, by omega, hF.sub ⟨rfl, rfl, rfl, rfl, rfl, trivial⟩, hS⟩
                | exact ⟨R', LA', WA', P', now, last, hok', by omega, by omega, hF.sub ⟨rfl, rfl, rfl, rfl, rfl, trivial⟩, hS⟩
                | exact ⟨R', LA', WA', P', now + 1, last', hok', by omega, by omega, hF.sub ⟨rfl, rfl, rfl, rfl, rfl, trivial⟩, hS⟩
            · -- cond 3 false
              try simp only [decide_eq_true_eq, decide_eq_false_iff_not, Bool.not_eq_true', Bool.not_eq_false', Int.not_lt, Int.not_le, ne_eq, Decidable.not_not, Bool.or_eq_true, Bool.or_eq_false_iff, Bool.and_eq_true, Bool.and_eq_false_imp] at hc3
              refine wp_seq_k fun K16 hK16 => ?_
              refine wp_region_lit ?_
              refine s_pu hF rfl rfl rfl (pu_eql (hF.ev rfl) (hF.ev rfl)) ?_; clear hF; intro a hF
              refine s_pu hF rfl rfl rfl (pu_assign (hF.ev rfl)) ?_; clear hF; intro a hF
              refine s_done ?_
              refine hK16 _ _ ?_; clear hK16
              refine wp_cond_split (hF.ev rfl) (fun hc4 => ?_) (fun hc4 => ?_)
              · -- cond 4 true
                try simp only [decide_eq_true_eq, decide_eq_false_iff_not, Bool.not_eq_true', Bool.not_eq_false', Int.not_lt, Int.not_le, ne_eq, Decidable.not_not, Bool.or_eq_true, Bool.or_eq_false_iff, Bool.and_eq_true, Bool.and_eq_false_imp] at hc4
                refine wp_region_lit ?_
                refine s_pu hF rfl rfl rfl (pu_move (hF.ev rfl)) ?_; clear hF; intro a hF
                refine s_pu hF rfl rfl rfl (pu_move (hF.ev rfl)) ?_; clear hF; intro a hF
                refine s_pu hF rfl rfl rfl (pu_move (hF.ev rfl)) ?_; clear hF; intro a hF
                refine s_pu hF rfl rfl rfl ((by exact pu_elemA sl48 (hF.ev rfl) (hF.ev rfl) (by omega) (by omega))) ?_; clear hF; intro a hF
                refine s_pu hF rfl rfl rfl ((by exact pu_fieldA fd54_1 (hF.ev rfl))) ?_; clear hF; intro a hF
                refine s_rd hF rfl rfl rfl (rd_load pl3 (hF.ev rfl) (show w.cell? ((x.add ((i : Int).toNat * 2)).add 1) = some (.int .i64 (ops i).n) by
                  obtain ⟨x', e', hc'⟩ := hin.at_ hil hS (k := 2) rfl
                  injection e' with e'
                  subst e'
                  exact hc' 1 _ rfl)) ?_; clear hF; intro a hF
                refine s_en hF rfl rfl rfl (run_fn fk18 (hF.ev rfl) (hF.evs rfl)) (answers_c hwn hS hok (by omega) (by omega)) ?_
                clear hS; rintro e w ⟨rfl, R', LA', WA', P', hok', hRl', hS⟩
                refine ⟨_, rfl, ?_⟩; clear hF; intro a hF
                refine s_pu hF rfl rfl rfl (pu_assign (hF.ev rfl)) ?_; clear hF; intro a hF
                refine s_done ?_
                refine blk_normal ?_
                first
                  | exact ⟨R', LA', WA', P', now', last', hok', by omega, by omega, hF.sub ⟨rfl, rfl, rfl, rfl, rfl, trivial⟩, hS⟩
                  | exact ⟨R', LA, WA', P', now, last', hok', by omega, by omega, hF.sub ⟨rfl, rfl, rfl, rfl, rfl, trivial⟩, hS⟩
                  | exact ⟨R', LA', WA', P', now, last, hok', by omega, by omega, hF.sub ⟨rfl, rfl, rfl, rfl, rfl, trivial⟩, hS⟩
                  | exact ⟨R', LA', WA', P', now + 1, last', hok', by omega, by omega, hF.sub ⟨rfl, rfl, rfl, rfl, rfl, trivial⟩, hS⟩
              · -- cond 4 false
                try simp only [decide_eq_true_eq, decide_eq_false_iff_not, Bool.not_eq_true', Bool.not_eq_false', Int.not_lt, Int.not_le, ne_eq, Decidable.not_not, Bool.or_eq_true, Bool.or_eq_false_iff, Bool.and_eq_true, Bool.and_eq_false_imp] at hc4
                refine wp_seq_k fun K17 hK17 => ?_
                refine wp_region_lit ?_
                refine s_pu hF rfl rfl rfl (pu_eql (hF.ev rfl) (hF.ev rfl)) ?_; clear hF; intro a hF
                refine s_pu hF rfl rfl rfl (pu_assign (hF.ev rfl)) ?_; clear hF; intro a hF
                refine s_done ?_
                refine hK17 _ _ ?_; clear hK17
                refine wp_cond_split (hF.ev rfl) (fun hc5 => ?_) (fun hc5 => ?_)
                · -- cond 5 true
                  try simp only [decide_eq_true_eq, decide_eq_false_iff_not, Bool.not_eq_true', Bool.not_eq_false', Int.not_lt, Int.not_le, ne_eq, Decidable.not_not, Bool.or_eq_true, Bool.or_eq_false_iff, Bool.and_eq_true, Bool.and_eq_false_imp] at hc5
                  refine wp_region_lit ?_
                  refine s_pu hF rfl rfl rfl (pu_move (hF.ev rfl)) ?_; clear hF; intro a hF
                  refine s_en hF rfl rfl rfl (run_fn fk19 (hF.ev rfl) (hF.evs rfl)) (tick_w hS hok (by omega) (by omega)) ?_
                  clear hS; rintro e w ⟨rfl, R', LA', WA', P', last', hok', hRl', hmem, hS⟩
                  refine ⟨_, rfl, ?_⟩; clear hF; intro a hF
                  refine s_pu hF rfl rfl rfl (pu_assign (hF.ev rfl)) ?_; clear hF; intro a hF
                  refine s_done ?_
                  refine blk_normal ?_
                  first
                    | exact ⟨R', LA', WA', P', now', last', hok', by omega, by omega, hF.sub ⟨rfl, rfl, rfl, rfl, rfl, trivial⟩, hS⟩
                    | exact ⟨R', LA, WA', P', now, last', hok', by omega, by omega, hF.sub ⟨rfl, rfl, rfl, rfl, rfl, trivial⟩, hS⟩
                    | exact ⟨R', LA', WA', P', now, last, hok', by omega, by omega, hF.sub ⟨rfl, rfl, rfl, rfl, rfl, trivial⟩, hS⟩
                    | exact ⟨R', LA', WA', P', now + 1, last', hok', by omega, by omega, hF.sub ⟨rfl, rfl, rfl, rfl, rfl, trivial⟩, hS⟩
                · -- cond 5 false
                  try simp only [decide_eq_true_eq, decide_eq_false_iff_not, Bool.not_eq_true', Bool.not_eq_false', Int.not_lt, Int.not_le, ne_eq, Decidable.not_not, Bool.or_eq_true, Bool.or_eq_false_iff, Bool.and_eq_true, Bool.and_eq_false_imp] at hc5
                  refine wp_seq_k fun K18 hK18 => ?_
                  refine wp_region_lit ?_
                  refine s_pu hF rfl rfl rfl (pu_assign (hF.ev rfl)) ?_; clear hF; intro a hF
                  refine s_done ?_
                  refine hK18 _ _ ?_; clear hK18
                  refine wp_block ?_
                  refine wp_ind (fun j a w => ∃ (k : Nat) (R' : List Fate) (LA' WA' : List Lv) (P' : List Ent) (now' last' : Int), j = 20 - k ∧ k ≤ 20 ∧ WldOk m to fo R' LA' WA' P' now' last' ∧ R'.length = R.length ∧ now' ≤ now + k ∧
                    Fr a 180 [(3, .slice (some x) len cap), (9, .pointer (some ⟨b28, 0, none⟩)), (10, .pointer (some ⟨g, 0, none⟩)), (12, .int .i64 i), (13, .bool true), (14, .int .i64 k)] ∧
                    Sat W w [wC b28 g R' now' WA'.length LA'.length m to fo, tabC 1 g (tabS m to fo R'.length LA' WA' P' now' last'), whole W]) 20
                    ⟨0, R, LA, WA, P, now, last, by omega, by omega, hok, rfl, by omega, hF.sub ⟨rfl, rfl, rfl, rfl, rfl, rfl, trivial⟩, hS⟩ ?_
                  clear hS hF
                  rintro j a w ⟨k, R', LA', WA', P', now', last', rfl, hk, hok', hRl', hnow', hF, hS⟩
                  refine wp_seq_k fun K19 hK19 => ?_
                  refine wp_seq_k fun K20 hK20 => ?_
                  refine wp_region_lit ?_
                  refine s_pu hF rfl rfl rfl (pu_move (hF.ev rfl)) ?_; clear hF; intro a hF
                  refine s_pu hF rfl rfl rfl (pu_move (hF.ev rfl)) ?_; clear hF; intro a hF
                  refine s_pu hF rfl rfl rfl (pu_move (hF.ev rfl)) ?_; clear hF; intro a hF
                  refine s_pu hF rfl rfl rfl ((by exact pu_elemA sl48 (hF.ev rfl) (hF.ev rfl) (by omega) (by omega))) ?_; clear hF; intro a hF
                  refine s_pu hF rfl rfl rfl ((by exact pu_fieldA fd54_1 (hF.ev rfl))) ?_; clear hF; intro a hF
                  refine s_rd hF rfl rfl rfl (rd_load pl3 (hF.ev rfl) (show w.cell? ((x.add ((i : Int).toNat * 2)).add 1) = some (.int .i64 (ops i).n) by
                    obtain ⟨x', e', hc'⟩ := hin.at_ hil hS (k := 2) rfl
                    injection e' with e'
                    subst e'
                    exact hc' 1 _ rfl)) ?_; clear hF; intro a hF
                  refine s_en hF rfl rfl rfl (run_fn fk7 (hF.ev rfl) (hF.evs rfl)) (pick_c hS (by omega) hwn.1 hwn.2) ?_
                  clear hS; rintro e w ⟨kk, hkk, hkk2, rfl, hS⟩
                  refine ⟨_, rfl, ?_⟩; clear hF; intro a hF
                  refine s_pu hF rfl rfl rfl (pu_lss (hF.ev rfl) (hF.ev rfl)) ?_; clear hF; intro a hF
                  refine s_pu hF rfl rfl rfl (pu_move (hF.ev rfl)) ?_; clear hF; intro a hF
                  refine fr_split hF (t := 79) rfl ?_ ?_
                  · clear hF; intro hg79 hF   -- slot 79 true
                    try simp only [decide_eq_true_eq, decide_eq_false_iff_not, Bool.not_eq_true', Bool.not_eq_false', Int.not_lt, Int.not_le, ne_eq, Decidable.not_not, Bool.or_eq_true, Bool.or_eq_false_iff, Bool.and_eq_true, Bool.and_eq_false_imp] at hg79
                    refine s_pu hF rfl rfl rfl (pu_move (hF.ev rfl)) ?_; clear hF; intro a hF
                    refine s_pu hF rfl rfl rfl ((by exact pu_pick_t (hF.ev rfl) (hF.ev rfl))) ?_; clear hF; intro a hF
                    refine s_done ?_
                    refine hK20 _ _ ?_; clear hK20
                    refine wp_cond_split (hF.ev rfl) (fun hc6 => ?_) (fun hc6 => ?_)
                    · -- cond 6 true
                      try simp only [decide_eq_true_eq, decide_eq_false_iff_not, Bool.not_eq_true', Bool.not_eq_false', Int.not_lt, Int.not_le, ne_eq, Decidable.not_not, Bool.or_eq_true, Bool.or_eq_false_iff, Bool.and_eq_true, Bool.and_eq_false_imp] at hc6
                      refine wp_skip ?_
                      refine hK19 _ _ ?_; clear hK19
                      refine wp_seq_k fun K21 hK21 => ?_
                      refine wp_block ?_
                      refine wp_region_lit ?_
                      refine s_pu hF rfl rfl rfl (pu_move (hF.ev rfl)) ?_; clear hF; intro a hF
                      refine s_en hF rfl rfl rfl (run_fn fk19 (hF.ev rfl) (hF.evs rfl)) (tick_w hS hok' (by omega) (by omega)) ?_
                      clear hS; rintro e w ⟨rfl, R2, LA2, WA2, P2, last2, hok2, hRl2, hmem2, hS⟩
                      refine ⟨_, rfl, ?_⟩; clear hF; intro a hF
                      refine s_pu hF rfl rfl rfl (pu_assign (hF.ev rfl)) ?_; clear hF; intro a hF
                      refine s_done ?_
                      refine blk_normal ?_
                      refine hK21 _ _ ?_; clear hK21
                      refine wp_region_lit ?_
                      refine s_pu hF rfl rfl rfl (pu_move (hF.ev rfl)) ?_; clear hF; intro a hF
                      refine s_pu hF rfl rfl rfl ((by exact pu_add64 (hF.ev rfl) (hF.ev rfl) (by omega))) ?_; clear hF; intro a hF
                      refine s_pu hF rfl rfl rfl (pu_assign (hF.ev rfl)) ?_; clear hF; intro a hF
                      refine s_done ?_
                      exact ⟨_, by omega, k + 1, R2, LA2, WA2, P2, now' + 1, last2, rfl, by omega, hok2, by omega, by omega, hF.sub ⟨rfl, rfl, rfl, rfl, rfl, rfl, trivial⟩, hS⟩
                    · -- cond 6 false
                      refine wp_exit ?_
                      refine then_exit ?_
                      refine then_exit ?_
                      refine blk_exit ?_
                      refine blk_normal ?_
                      first
                        | exact ⟨R', LA', WA', P', now', last', hok', by omega, by omega, hF.sub ⟨rfl, rfl, rfl, rfl, rfl, trivial⟩, hS⟩
                        | exact ⟨R', LA, WA', P', now, last', hok', by omega, by omega, hF.sub ⟨rfl, rfl, rfl, rfl, rfl, trivial⟩, hS⟩
                        | exact ⟨R', LA', WA', P', now, last, hok', by omega, by omega, hF.sub ⟨rfl, rfl, rfl, rfl, rfl, trivial⟩, hS⟩
                        | exact ⟨R', LA', WA', P', now + 1, last', hok', by omega, by omega, hF.sub ⟨rfl, rfl, rfl, rfl, rfl, trivial⟩, hS⟩
                  · clear hF; intro hg79 hF   -- slot 79 false
                    try simp only [decide_eq_true_eq, decide_eq_false_iff_not, Bool.not_eq_true', Bool.not_eq_false', Int.not_lt, Int.not_le, ne_eq, Decidable.not_not, Bool.or_eq_true, Bool.or_eq_false_iff, Bool.and_eq_true, Bool.and_eq_false_imp] at hg79
                    refine s_no hF rfl rfl rfl ?_; clear hF; intro a hF
                    refine s_pu hF rfl rfl rfl ((by exact pu_pick_f (hF.ev rfl) (hF.ev rfl))) ?_; clear hF; intro a hF
                    refine s_done ?_
                    refine hK20 _ _ ?_; clear hK20
                    refine wp_cond_false (hF.ev rfl) ?_
                    refine wp_exit ?_
                    refine then_exit ?_
                    refine then_exit ?_
                    refine blk_exit ?_
                    refine blk_normal ?_
                    first
                      | exact ⟨R', LA', WA', P', now', last', hok', by omega, by omega, hF.sub ⟨rfl, rfl, rfl, rfl, rfl, trivial⟩, hS⟩
                      | exact ⟨R', LA, WA', P', now, last', hok', by omega, by omega, hF.sub ⟨rfl, rfl, rfl, rfl, rfl, trivial⟩, hS⟩
                      | exact ⟨R', LA', WA', P', now, last, hok', by omega, by omega, hF.sub ⟨rfl, rfl, rfl, rfl, rfl, trivial⟩, hS⟩
                      | exact ⟨R', LA', WA', P', now + 1, last', hok', by omega, by omega, hF.sub ⟨rfl, rfl, rfl, rfl, rfl, trivial⟩, hS⟩
          · -- cond 2 false
            try simp only [decide_eq_true_eq, decide_eq_false_iff_not, Bool.not_eq_true', Bool.not_eq_false', Int.not_lt, Int.not_le, ne_eq, Decidable.not_not, Bool.or_eq_true, Bool.or_eq_false_iff, Bool.and_eq_true, Bool.and_eq_false_imp] at hc2
            refine wp_region_lit ?_
            refine s_pu hF rfl rfl rfl (pu_eql (hF.ev rfl) (hF.ev rfl)) ?_; clear hF; intro a hF
            refine s_pu hF rfl rfl rfl (pu_assign (hF.ev rfl)) ?_; clear hF; intro a hF
            refine s_done ?_
            refine hK14 _ _ ?_; clear hK14
            refine wp_cond_split (hF.ev rfl) (fun hc3 => ?_) (fun hc3 => ?_)
            · -- cond 3 true
              try simp only [decide_eq_true_eq, decide_eq_false_iff_not, Bool.not_eq_true', Bool.not_eq_false', Int.not_lt, Int.not_le, ne_eq, Decidable.not_not, Bool.or_eq_true, Bool.or_eq_false_iff, Bool.and_eq_true, Bool.and_eq_false_imp] at hc3
              refine wp_region_lit ?_
              refine s_pu hF rfl rfl rfl (pu_move (hF.ev rfl)) ?_; clear hF; intro a hF
              refine s_en hF rfl rfl rfl (run_fn fk17 (hF.ev rfl) (hF.evs rfl)) (adds_c hS hok (by omega) (by omega)) ?_
              clear hS; rintro e w ⟨rfl, R', WA', P', last', hok', hRl', hS⟩
              refine ⟨_, rfl, ?_⟩; clear hF; intro a hF
              refine s_pu hF rfl rfl rfl (pu_assign (hF.ev rfl)) ?_; clear hF; intro a hF
              refine s_done ?_
              refine blk_normal ?_
              first
                | exact ⟨R', LA', WA', P', now', last', hok', by omega, by omega, hF.sub ⟨rfl, rfl, rfl, rfl, rfl, trivial⟩, hS⟩
                | exact ⟨R', LA, WA', P', now, last', hok', by omega, by omega, hF.sub ⟨rfl, rfl, rfl, rfl, rfl, trivial⟩, hS⟩
                | exact ⟨R', LA', WA', P', now, last, hok', by omega, by omega, hF.sub ⟨rfl, rfl, rfl, rfl, rfl, trivial⟩, hS⟩
                | exact ⟨R', LA', WA', P', now + 1, last', hok', by omega, by omega, hF.sub ⟨rfl, rfl, rfl, rfl, rfl, trivial⟩, hS⟩
            · -- cond 3 false
              try simp only [decide_eq_true_eq, decide_eq_false_iff_not, Bool.not_eq_true', Bool.not_eq_false', Int.not_lt, Int.not_le, ne_eq, Decidable.not_not, Bool.or_eq_true, Bool.or_eq_false_iff, Bool.and_eq_true, Bool.and_eq_false_imp] at hc3
              refine wp_seq_k fun K16 hK16 => ?_
              refine wp_region_lit ?_
              refine s_pu hF rfl rfl rfl (pu_eql (hF.ev rfl) (hF.ev rfl)) ?_; clear hF; intro a hF
              refine s_pu hF rfl rfl rfl (pu_assign (hF.ev rfl)) ?_; clear hF; intro a hF
              refine s_done ?_
              refine hK16 _ _ ?_; clear hK16
              refine wp_cond_split (hF.ev rfl) (fun hc4 => ?_) (fun hc4 => ?_)
              · -- cond 4 true
                try simp only [decide_eq_true_eq, decide_eq_false_iff_not, Bool.not_eq_true', Bool.not_eq_false', Int.not_lt, Int.not_le, ne_eq, Decidable.not_not, Bool.or_eq_true, Bool.or_eq_false_iff, Bool.and_eq_true, Bool.and_eq_false_imp] at hc4
                refine wp_region_lit ?_
                refine s_pu hF rfl rfl rfl (pu_move (hF.ev rfl)) ?_; clear hF; intro a hF
                refine s_pu hF rfl rfl rfl (pu_move (hF.ev rfl)) ?_; clear hF; intro a hF
                refine s_pu hF rfl rfl rfl (pu_move (hF.ev rfl)) ?_; clear hF; intro a hF
                refine s_pu hF rfl rfl rfl ((by exact pu_elemA sl48 (hF.ev rfl) (hF.ev rfl) (by omega) (by omega))) ?_; clear hF; intro a hF
                refine s_pu hF rfl rfl rfl ((by exact pu_fieldA fd54_1 (hF.ev rfl))) ?_; clear hF; intro a hF
                refine s_rd hF rfl rfl rfl (rd_load pl3 (hF.ev rfl) (show w.cell? ((x.add ((i : Int).toNat * 2)).add 1) = some (.int .i64 (ops i).n) by
                  obtain ⟨x', e', hc'⟩ := hin.at_ hil hS (k := 2) rfl
                  injection e' with e'
                  subst e'
                  exact hc' 1 _ rfl)) ?_; clear hF; intro a hF
                refine s_en hF rfl rfl rfl (run_fn fk18 (hF.ev rfl) (hF.evs rfl)) (answers_c hwn hS hok (by omega) (by omega)) ?_
                clear hS; rintro e w ⟨rfl, R', LA', WA', P', hok', hRl', hS⟩
                refine ⟨_, rfl, ?_⟩; clear hF; intro a hF
                refine s_pu hF rfl rfl rfl (pu_assign (hF.ev rfl)) ?_; clear hF; intro a hF
                refine s_done ?_
                refine blk_normal ?_
                first
                  | exact ⟨R', LA', WA', P', now', last', hok', by omega, by omega, hF.sub ⟨rfl, rfl, rfl, rfl, rfl, trivial⟩, hS⟩
                  | exact ⟨R', LA, WA', P', now, last', hok', by omega, by omega, hF.sub ⟨rfl, rfl, rfl, rfl, rfl, trivial⟩, hS⟩
                  | exact ⟨R', LA', WA', P', now, last, hok', by omega, by omega, hF.sub ⟨rfl, rfl, rfl, rfl, rfl, trivial⟩, hS⟩
                  | exact ⟨R', LA', WA', P', now + 1, last', hok', by omega, by omega, hF.sub ⟨rfl, rfl, rfl, rfl, rfl, trivial⟩, hS⟩
              · -- cond 4 false
                try simp only [decide_eq_true_eq, decide_eq_false_iff_not, Bool.not_eq_true', Bool.not_eq_false', Int.not_lt, Int.not_le, ne_eq, Decidable.not_not, Bool.or_eq_true, Bool.or_eq_false_iff, Bool.and_eq_true, Bool.and_eq_false_imp] at hc4
                refine wp_seq_k fun K17 hK17 => ?_
                refine wp_region_lit ?_
                refine s_pu hF rfl rfl rfl (pu_eql (hF.ev rfl) (hF.ev rfl)) ?_; clear hF; intro a hF
                refine s_pu hF rfl rfl rfl (pu_assign (hF.ev rfl)) ?_; clear hF; intro a hF
                refine s_done ?_
                refine hK17 _ _ ?_; clear hK17
                refine wp_cond_split (hF.ev rfl) (fun hc5 => ?_) (fun hc5 => ?_)
                · -- cond 5 true
                  try simp only [decide_eq_true_eq, decide_eq_false_iff_not, Bool.not_eq_true', Bool.not_eq_false', Int.not_lt, Int.not_le, ne_eq, Decidable.not_not, Bool.or_eq_true, Bool.or_eq_false_iff, Bool.and_eq_true, Bool.and_eq_false_imp] at hc5
                  refine wp_region_lit ?_
                  refine s_pu hF rfl rfl rfl (pu_move (hF.ev rfl)) ?_; clear hF; intro a hF
                  refine s_en hF rfl rfl rfl (run_fn fk19 (hF.ev rfl) (hF.evs rfl)) (tick_w hS hok (by omega) (by omega)) ?_
                  clear hS; rintro e w ⟨rfl, R', LA', WA', P', last', hok', hRl', hmem, hS⟩
                  refine ⟨_, rfl, ?_⟩; clear hF; intro a hF
                  refine s_pu hF rfl rfl rfl (pu_assign (hF.ev rfl)) ?_; clear hF; intro a hF
                  refine s_done ?_
                  refine blk_normal ?_
                  first
                    | exact ⟨R', LA', WA', P', now', last', hok', by omega, by omega, hF.sub ⟨rfl, rfl, rfl, rfl, rfl, trivial⟩, hS⟩
                    | exact ⟨R', LA, WA', P', now, last', hok', by omega, by omega, hF.sub ⟨rfl, rfl, rfl, rfl, rfl, trivial⟩, hS⟩
                    | exact ⟨R', LA', WA', P', now, last, hok', by omega, by omega, hF.sub ⟨rfl, rfl, rfl, rfl, rfl, trivial⟩, hS⟩
                    | exact ⟨R', LA', WA', P', now + 1, last', hok', by omega, by omega, hF.sub ⟨rfl, rfl, rfl, rfl, rfl, trivial⟩, hS⟩
                · -- cond 5 false
                  try simp only [decide_eq_true_eq, decide_eq_false_iff_not, Bool.not_eq_true', Bool.not_eq_false', Int.not_lt, Int.not_le, ne_eq, Decidable.not_not, Bool.or_eq_true, Bool.or_eq_false_iff, Bool.and_eq_true, Bool.and_eq_false_imp] at hc5
                  refine wp_seq_k fun K18 hK18 => ?_
                  refine wp_region_lit ?_
                  refine s_pu hF rfl rfl rfl (pu_assign (hF.ev rfl)) ?_; clear hF; intro a hF
                  refine s_done ?_
                  refine hK18 _ _ ?_; clear hK18
                  refine wp_block ?_
                  refine wp_ind (fun j a w => ∃ (k : Nat) (R' : List Fate) (LA' WA' : List Lv) (P' : List Ent) (now' last' : Int), j = 20 - k ∧ k ≤ 20 ∧ WldOk m to fo R' LA' WA' P' now' last' ∧ R'.length = R.length ∧ now' ≤ now + k ∧
                    Fr a 180 [(3, .slice (some x) len cap), (9, .pointer (some ⟨b28, 0, none⟩)), (10, .pointer (some ⟨g, 0, none⟩)), (12, .int .i64 i), (13, .bool true), (14, .int .i64 k)] ∧
                    Sat W w [wC b28 g R' now' WA'.length LA'.length m to fo, tabC 1 g (tabS m to fo R'.length LA' WA' P' now' last'), whole W]) 20
                    ⟨0, R, LA, WA, P, now, last, by omega, by omega, hok, rfl, by omega, hF.sub ⟨rfl, rfl, rfl, rfl, rfl, rfl, trivial⟩, hS⟩ ?_
                  clear hS hF
                  rintro j a w ⟨k, R', LA', WA', P', now', last', rfl, hk, hok', hRl', hnow', hF, hS⟩
                  refine wp_seq_k fun K19 hK19 => ?_
                  refine wp_seq_k fun K20 hK20 => ?_
                  refine wp_region_lit ?_
                  refine s_pu hF rfl rfl rfl (pu_move (hF.ev rfl)) ?_; clear hF; intro a hF
                  refine s_pu hF rfl rfl rfl (pu_move (hF.ev rfl)) ?_; clear hF; intro a hF
                  refine s_pu hF rfl rfl rfl (pu_move (hF.ev rfl)) ?_; clear hF; intro a hF
                  refine s_pu hF rfl rfl rfl ((by exact pu_elemA sl48 (hF.ev rfl) (hF.ev rfl) (by omega) (by omega))) ?_; clear hF; intro a hF
                  refine s_pu hF rfl rfl rfl ((by exact pu_fieldA fd54_1 (hF.ev rfl))) ?_; clear hF; intro a hF
                  refine s_rd hF rfl rfl rfl (rd_load pl3 (hF.ev rfl) (show w.cell? ((x.add ((i : Int).toNat * 2)).add 1) = some (.int .i64 (ops i).n) by
                    obtain ⟨x', e', hc'⟩ := hin.at_ hil hS (k := 2) rfl
                    injection e' with e'
                    subst e'
                    exact hc' 1 _ rfl)) ?_; clear hF; intro a hF
                  refine s_en hF rfl rfl rfl (run_fn fk7 (hF.ev rfl) (hF.evs rfl)) (pick_c hS (by omega) hwn.1 hwn.2) ?_
                  clear hS; rintro e w ⟨kk, hkk, hkk2, rfl, hS⟩
                  refine ⟨_, rfl, ?_⟩; clear hF; intro a hF
                  refine s_pu hF rfl rfl rfl (pu_lss (hF.ev rfl) (hF.ev rfl)) ?_; clear hF; intro a hF
                  refine s_pu hF rfl rfl rfl (pu_move (hF.ev rfl)) ?_; clear hF; intro a hF
                  refine fr_split hF (t := 79) rfl ?_ ?_
                  · clear hF; intro hg79 hF   -- slot 79 true
                    try simp only [decide_eq_true_eq, decide_eq_false_iff_not, Bool.not_eq_true', Bool.not_eq_false', Int.not_lt, Int.not_le, ne_eq, Decidable.not_not, Bool.or_eq_true, Bool.or_eq_false_iff, Bool.and_eq_true, Bool.and_eq_false_imp] at hg79
                    refine s_pu hF rfl rfl rfl (pu_move (hF.ev rfl)) ?_; clear hF; intro a hF
                    refine s_pu hF rfl rfl rfl ((by exact pu_pick_t (hF.ev rfl) (hF.ev rfl))) ?_; clear hF; intro a hF
                    refine s_done ?_
                    refine hK20 _ _ ?_; clear hK20
                    refine wp_cond_split (hF.ev rfl) (fun hc6 => ?_) (fun hc6 => ?_)
                    · -- cond 6 true
                      try simp only [decide_eq_true_eq, decide_eq_false_iff_not, Bool.not_eq_true', Bool.not_eq_false', Int.not_lt, Int.not_le, ne_eq, Decidable.not_not, Bool.or_eq_true, Bool.or_eq_false_iff, Bool.and_eq_true, Bool.and_eq_false_imp] at hc6
                      refine wp_skip ?_
                      refine hK19 _ _ ?_; clear hK19
                      refine wp_seq_k fun K21 hK21 => ?_
                      refine wp_block ?_
                      refine wp_region_lit ?_
                      refine s_pu hF rfl rfl rfl (pu_move (hF.ev rfl)) ?_; clear hF; intro a hF
                      refine s_en hF rfl rfl rfl (run_fn fk19 (hF.ev rfl) (hF.evs rfl)) (tick_w hS hok' (by omega) (by omega)) ?_
                      clear hS; rintro e w ⟨rfl, R2, LA2, WA2, P2, last2, hok2, hRl2, hmem2, hS⟩
                      refine ⟨_, rfl, ?_⟩; clear hF; intro a hF
                      refine s_pu hF rfl rfl rfl (pu_assign (hF.ev rfl)) ?_; clear hF; intro a hF
                      refine s_done ?_
                      refine blk_normal ?_
                      refine hK21 _ _ ?_; clear hK21
                      refine wp_region_lit ?_
                      refine s_pu hF rfl rfl rfl (pu_move (hF.ev rfl)) ?_; clear hF; intro a hF
                      refine s_pu hF rfl rfl rfl ((by exact pu_add64 (hF.ev rfl) (hF.ev rfl) (by omega))) ?_; clear hF; intro a hF
                      refine s_pu hF rfl rfl rfl (pu_assign (hF.ev rfl)) ?_; clear hF; intro a hF
                      refine s_done ?_
                      exact ⟨_, by omega, k + 1, R2, LA2, WA2, P2, now' + 1, last2, rfl, by omega, hok2, by omega, by omega, hF.sub ⟨rfl, rfl, rfl, rfl, rfl, rfl, trivial⟩, hS⟩
                    · -- cond 6 false
                      refine wp_exit ?_
                      refine then_exit ?_
                      refine then_exit ?_
                      refine blk_exit ?_
                      refine blk_normal ?_
                      first
                        | exact ⟨R', LA', WA', P', now', last', hok', by omega, by omega, hF.sub ⟨rfl, rfl, rfl, rfl, rfl, trivial⟩, hS⟩
                        | exact ⟨R', LA, WA', P', now, last', hok', by omega, by omega, hF.sub ⟨rfl, rfl, rfl, rfl, rfl, trivial⟩, hS⟩
                        | exact ⟨R', LA', WA', P', now, last, hok', by omega, by omega, hF.sub ⟨rfl, rfl, rfl, rfl, rfl, trivial⟩, hS⟩
                        | exact ⟨R', LA', WA', P', now + 1, last', hok', by omega, by omega, hF.sub ⟨rfl, rfl, rfl, rfl, rfl, trivial⟩, hS⟩
                  · clear hF; intro hg79 hF   -- slot 79 false
                    try simp only [decide_eq_true_eq, decide_eq_false_iff_not, Bool.not_eq_true', Bool.not_eq_false', Int.not_lt, Int.not_le, ne_eq, Decidable.not_not, Bool.or_eq_true, Bool.or_eq_false_iff, Bool.and_eq_true, Bool.and_eq_false_imp] at hg79
                    refine s_no hF rfl rfl rfl ?_; clear hF; intro a hF
                    refine s_pu hF rfl rfl rfl ((by exact pu_pick_f (hF.ev rfl) (hF.ev rfl))) ?_; clear hF; intro a hF
                    refine s_done ?_
                    refine hK20 _ _ ?_; clear hK20
                    refine wp_cond_false (hF.ev rfl) ?_
                    refine wp_exit ?_
                    refine then_exit ?_
                    refine then_exit ?_
                    refine blk_exit ?_
                    refine blk_normal ?_
                    first
                      | exact ⟨R', LA', WA', P', now', last', hok', by omega, by omega, hF.sub ⟨rfl, rfl, rfl, rfl, rfl, trivial⟩, hS⟩
                      | exact ⟨R', LA, WA', P', now, last', hok', by omega, by omega, hF.sub ⟨rfl, rfl, rfl, rfl, rfl, trivial⟩, hS⟩
                      | exact ⟨R', LA', WA', P', now, last, hok', by omega, by omega, hF.sub ⟨rfl, rfl, rfl, rfl, rfl, trivial⟩, hS⟩
                      | exact ⟨R', LA', WA', P', now + 1, last', hok', by omega, by omega, hF.sub ⟨rfl, rfl, rfl, rfl, rfl, trivial⟩, hS⟩
        · -- behind the join s13
          clear hS hF hok hRl hnow R LA WA P now last
          rintro a w ⟨R, LA, WA, P, now, last, hok, hRl, hnow, hF, hS⟩
          obtain ⟨A, c, hcA, hS⟩ := w_open hS
          have hwn2 := hok.ok.wn
          have hln2 := hok.ok.ln
          have ew : ((waitsL (tabS m to fo R.length LA WA P now last).L).length : Int) = WA.length := by rw [tab_waits]; simp
          have el : ((latesL (tabS m to fo R.length LA WA P now last).L).length : Int) = LA.length := by rw [tab_lates]; simp
          refine wp_seq_k fun K12 hK12 => ?_
          refine d_start (S := (fun w => Sat W w [_])) (ds := []) (ord := [(0, .pu), (1, .pu), (2, .pu), (3, .pu), (5, .pu), (6, .pu), (7, .pu), (8, .tk), (4, .on), (9, .pu), (10, .pu), (11, .pu), (12, .pu), (14, .pu), (15, .pu), (16, .pu), (17, .tk), (13, .on), (18, .pu), (19, .pu), (20, .pu), (21, .pu), (22, .pu), (23, .pu), (24, .tk), (25, .pu), (26, .pu), (27, .pu), (28, .tk), (29, .pu), (30, .pu), (31, .pu), (32, .pu), (33, .pu), (34, .pu), (35, .tk), (36, .pu), (37, .pu), (38, .pu), (39, .tk), (40, .pu), (41, .pu)]) mixed ⟨by kernel_rfl, fun _ d _ _ _ h => by cases d <;> exact h⟩ (hS.left (C := [_])).drew fun hD => ?_
          replace hS := hS.drew; generalize w.drew = w at hS ⊢
          refine d_pu hD hF rfl rfl rfl rfl rfl (pu_move (hF.ev rfl)) ?_; clear hF; intro a hF
          refine d_pu hD hF rfl rfl rfl rfl rfl (pu_not (hF.ev rfl)) ?_; clear hF; intro a hF
          refine d_pu hD hF rfl rfl rfl rfl rfl (pu_move (hF.ev rfl)) ?_; clear hF; intro a hF
          refine d_pu hD hF rfl rfl rfl rfl rfl (pu_move (hF.ev rfl)) ?_; clear hF; intro a hF
          refine d_pu hD hF rfl rfl rfl rfl rfl (pu_move (hF.ev rfl)) ?_; clear hF; intro a hF
          refine d_pu hD hF rfl rfl rfl rfl rfl ((by exact pu_nil (hF.ev rfl))) ?_; clear hF; intro a hF
          refine d_pu hD hF rfl rfl rfl rfl rfl ((by exact pu_field fd52_3 (hF.ev rfl))) ?_; clear hF; intro a hF
          refine d_rd hD hF rfl rfl rfl rfl rfl (hS.left (C := [_])) (fun w hS => (by exact rd_load pl3 (hF.ev rfl) (hS.cellL (i := 0) rfl rfl))) ?_; clear hF; intro a hF
          refine d_en hD hF rfl rfl rfl rfl rfl (run_fn fk11 (hF.ev rfl) (hF.evs rfl)) (at_keep 2 hS rfl (fun h => len_c h)) ?_
          clear hS; rintro e w ⟨rfl, hS⟩
          rw [ew]
          refine ⟨_, rfl, hS.left (C := [_]), ?_⟩; clear hF; intro a hF
          refine d_pu hD hF rfl rfl rfl rfl rfl (pu_neq (hF.ev rfl) (hF.ev rfl)) ?_; clear hF; intro a hF
          refine d_pu hD hF rfl rfl rfl rfl rfl ((by exact pu_pick_f (hF.ev rfl) (hF.ev rfl))) ?_; clear hF; intro a hF
          refine d_pu hD hF rfl rfl rfl rfl rfl (pu_move (hF.ev rfl)) ?_; clear hF; intro a hF
          refine fr_split hF (t := 115) rfl ?_ ?_
          · clear hF; intro hg115 hF   -- slot 115 true
            try simp only [decide_eq_true_eq, decide_eq_false_iff_not, Bool.not_eq_true', Bool.not_eq_false', Int.not_lt, Int.not_le, ne_eq, Decidable.not_not, Bool.or_eq_true, Bool.or_eq_false_iff, Bool.and_eq_true, Bool.and_eq_false_imp] at hg115
            simp at hg115
          · clear hF; intro hg115 hF   -- slot 115 false
            try simp only [decide_eq_true_eq, decide_eq_false_iff_not, Bool.not_eq_true', Bool.not_eq_false', Int.not_lt, Int.not_le, ne_eq, Decidable.not_not, Bool.or_eq_true, Bool.or_eq_false_iff, Bool.and_eq_true, Bool.and_eq_false_imp] at hg115
            refine d_pu hD hF rfl rfl rfl rfl rfl (pu_move (hF.ev rfl)) ?_; clear hF; intro a hF
            refine d_pu hD hF rfl rfl rfl rfl rfl (pu_move (hF.ev rfl)) ?_; clear hF; intro a hF
            refine d_pu hD hF rfl rfl rfl rfl rfl ((by exact pu_nil (hF.ev rfl))) ?_; clear hF; intro a hF
            refine d_pu hD hF rfl rfl rfl rfl rfl ((by exact pu_field fd52_4 (hF.ev rfl))) ?_; clear hF; intro a hF
            refine d_rd hD hF rfl rfl rfl rfl rfl (hS.left (C := [_])) (fun w hS => (by exact rd_load pl3 (hF.ev rfl) (hS.cellL (i := 0) rfl rfl))) ?_; clear hF; intro a hF
            refine d_en hD hF rfl rfl rfl rfl rfl (run_fn fk20 (hF.ev rfl) (hF.evs rfl)) (at_keep 2 hS rfl (fun h => late_c h)) ?_
            clear hS; rintro e w ⟨rfl, hS⟩
            rw [el]
            refine ⟨_, rfl, hS.left (C := [_]), ?_⟩; clear hF; intro a hF
            refine d_pu hD hF rfl rfl rfl rfl rfl (pu_neq (hF.ev rfl) (hF.ev rfl)) ?_; clear hF; intro a hF
            refine d_pu hD hF rfl rfl rfl rfl rfl ((by exact pu_pick_f (hF.ev rfl) (hF.ev rfl))) ?_; clear hF; intro a hF
            refine d_pu hD hF rfl rfl rfl rfl rfl (pu_move (hF.ev rfl)) ?_; clear hF; intro a hF
            refine fr_split hF (t := 124) rfl ?_ ?_
            · clear hF; intro hg124 hF   -- slot 124 true
              try simp only [decide_eq_true_eq, decide_eq_false_iff_not, Bool.not_eq_true', Bool.not_eq_false', Int.not_lt, Int.not_le, ne_eq, Decidable.not_not, Bool.or_eq_true, Bool.or_eq_false_iff, Bool.and_eq_true, Bool.and_eq_false_imp] at hg124
              simp at hg124
            · clear hF; intro hg124 hF   -- slot 124 false
              try simp only [decide_eq_true_eq, decide_eq_false_iff_not, Bool.not_eq_true', Bool.not_eq_false', Int.not_lt, Int.not_le, ne_eq, Decidable.not_not, Bool.or_eq_true, Bool.or_eq_false_iff, Bool.and_eq_true, Bool.and_eq_false_imp] at hg124
              refine d_pu hD hF rfl rfl rfl rfl rfl (pu_move (hF.ev rfl)) ?_; clear hF; intro a hF
              refine d_pu hD hF rfl rfl rfl rfl rfl ((by exact pu_nil (hF.ev rfl))) ?_; clear hF; intro a hF
              refine d_pu hD hF rfl rfl rfl rfl rfl ((by exact pu_field fd52_3 (hF.ev rfl))) ?_; clear hF; intro a hF
              refine d_rd hD hF rfl rfl rfl rfl rfl (hS.left (C := [_])) (fun w hS => (by exact rd_load pl3 (hF.ev rfl) (hS.cellL (i := 0) rfl rfl))) ?_; clear hF; intro a hF
              refine d_pu hD hF rfl rfl rfl rfl rfl (pu_move (hF.ev rfl)) ?_; clear hF; intro a hF
              refine d_pu hD hF rfl rfl rfl rfl rfl ((by exact pu_nil (hF.ev rfl))) ?_; clear hF; intro a hF
              refine d_pu hD hF rfl rfl rfl rfl rfl ((by exact pu_field fd52_5 (hF.ev rfl))) ?_; clear hF; intro a hF
              refine d_rd hD hF rfl rfl rfl rfl rfl (hS.left (C := [_])) (fun w hS => (by exact rd_load pl3 (hF.ev rfl) (hS.cellL (i := 0) rfl rfl))) ?_; clear hF; intro a hF
              refine d_pu hD hF rfl rfl rfl rfl rfl (pu_gtr (hF.ev rfl) (hF.ev rfl)) ?_; clear hF; intro a hF
              refine d_pu hD hF rfl rfl rfl rfl rfl ((by exact pu_pick_f (hF.ev rfl) (hF.ev rfl))) ?_; clear hF; intro a hF
              refine d_pu hD hF rfl rfl rfl rfl rfl (pu_move (hF.ev rfl)) ?_; clear hF; intro a hF
              refine fr_split hF (t := 135) rfl ?_ ?_
              · clear hF; intro hg135 hF   -- slot 135 true
                try simp only [decide_eq_true_eq, decide_eq_false_iff_not, Bool.not_eq_true', Bool.not_eq_false', Int.not_lt, Int.not_le, ne_eq, Decidable.not_not, Bool.or_eq_true, Bool.or_eq_false_iff, Bool.and_eq_true, Bool.and_eq_false_imp] at hg135
                omega
              · clear hF; intro hg135 hF   -- slot 135 false
                try simp only [decide_eq_true_eq, decide_eq_false_iff_not, Bool.not_eq_true', Bool.not_eq_false', Int.not_lt, Int.not_le, ne_eq, Decidable.not_not, Bool.or_eq_true, Bool.or_eq_false_iff, Bool.and_eq_true, Bool.and_eq_false_imp] at hg135
                refine d_pu hD hF rfl rfl rfl rfl rfl (pu_move (hF.ev rfl)) ?_; clear hF; intro a hF
                refine d_pu hD hF rfl rfl rfl rfl rfl ((by exact pu_nil (hF.ev rfl))) ?_; clear hF; intro a hF
                refine d_pu hD hF rfl rfl rfl rfl rfl ((by exact pu_field fd52_4 (hF.ev rfl))) ?_; clear hF; intro a hF
                refine d_rd hD hF rfl rfl rfl rfl rfl (hS.left (C := [_])) (fun w hS => (by exact rd_load pl3 (hF.ev rfl) (hS.cellL (i := 0) rfl rfl))) ?_; clear hF; intro a hF
                refine d_pu hD hF rfl rfl rfl rfl rfl (pu_move (hF.ev rfl)) ?_; clear hF; intro a hF
                refine d_pu hD hF rfl rfl rfl rfl rfl ((by exact pu_nil (hF.ev rfl))) ?_; clear hF; intro a hF
                refine d_pu hD hF rfl rfl rfl rfl rfl ((by exact pu_field fd52_5 (hF.ev rfl))) ?_; clear hF; intro a hF
                refine d_rd hD hF rfl rfl rfl rfl rfl (hS.left (C := [_])) (fun w hS => (by exact rd_load pl3 (hF.ev rfl) (hS.cellL (i := 0) rfl rfl))) ?_; clear hF; intro a hF
                refine d_pu hD hF rfl rfl rfl rfl rfl (pu_gtr (hF.ev rfl) (hF.ev rfl)) ?_; clear hF; intro a hF
                refine d_pu hD hF rfl rfl rfl rfl rfl ((by exact pu_pick_f (hF.ev rfl) (hF.ev rfl))) ?_; clear hF; intro a hF
                refine d_done hD rfl ?_; clear hD
                refine hK12 _ _ ?_; clear hK12
                refine wp_cond_split (hF.ev rfl) (fun hc7 => ?_) (fun hc7 => ?_)
                · -- cond 7 true
                  try simp only [decide_eq_true_eq, decide_eq_false_iff_not, Bool.not_eq_true', Bool.not_eq_false', Int.not_lt, Int.not_le, ne_eq, Decidable.not_not, Bool.or_eq_true, Bool.or_eq_false_iff, Bool.and_eq_true, Bool.and_eq_false_imp] at hc7
                  omega
                · -- cond 7 false
                  try simp only [decide_eq_true_eq, decide_eq_false_iff_not, Bool.not_eq_true', Bool.not_eq_false', Int.not_lt, Int.not_le, ne_eq, Decidable.not_not, Bool.or_eq_true, Bool.or_eq_false_iff, Bool.and_eq_true, Bool.and_eq_false_imp] at hc7
                  refine wp_skip ?_
                  refine blk_normal ?_
                  refine hK10 _ _ ?_; clear hK10
                  refine wp_region_lit ?_
                  refine s_pu hF rfl rfl rfl (pu_move (hF.ev rfl)) ?_; clear hF; intro a hF
                  refine s_pu hF rfl rfl rfl ((by exact pu_add64 (hF.ev rfl) (hF.ev rfl) (by omega))) ?_; clear hF; intro a hF
                  refine s_pu hF rfl rfl rfl (pu_assign (hF.ev rfl)) ?_; clear hF; intro a hF
                  refine s_done ?_
                  exact ⟨_, by omega, i + 1, R, LA, WA, P, now, last, rfl, by omega, by omega, hok, by omega, by omega, hF.sub ⟨rfl, rfl, rfl, rfl, trivial⟩, w_shut hS⟩
      · -- cond 1 false
        try simp only [decide_eq_true_eq, decide_eq_false_iff_not, Bool.not_eq_true', Bool.not_eq_false', Int.not_lt, Int.not_le, ne_eq, Decidable.not_not, Bool.or_eq_true, Bool.or_eq_false_iff, Bool.and_eq_true, Bool.and_eq_false_imp] at hc1
        refine wp_exit ?_
        refine then_exit ?_
        refine then_exit ?_
        refine blk_exit ?_
        exact ⟨R, LA, WA, P, now, last, hok, by omega, by omega, hF.sub ⟨rfl, rfl, trivial⟩, hS⟩
    · clear hF; intro hg59 hF   -- slot 59 false
      try simp only [decide_eq_true_eq, decide_eq_false_iff_not, Bool.not_eq_true', Bool.not_eq_false', Int.not_lt, Int.not_le, ne_eq, Decidable.not_not, Bool.or_eq_true, Bool.or_eq_false_iff, Bool.and_eq_true, Bool.and_eq_false_imp] at hg59
      refine s_no hF rfl rfl rfl ?_; clear hF; intro a hF
      refine s_no hF rfl rfl rfl ?_; clear hF; intro a hF
      refine s_pu hF rfl rfl rfl ((by exact pu_pick_f (hF.ev rfl) (hF.ev rfl))) ?_; clear hF; intro a hF
      refine s_done ?_
      refine hK9 _ _ ?_; clear hK9
      refine wp_cond_false (hF.ev rfl) ?_
      refine wp_exit ?_
      refine then_exit ?_
      refine then_exit ?_
      refine blk_exit ?_
      exact ⟨R, LA, WA, P, now, last, hok, by omega, by omega, hF.sub ⟨rfl, rfl, trivial⟩, hS⟩
  · -- behind the join s7
    clear hS hF
    rintro a w ⟨R, LA, WA, P, now, last, hok, hRl, hnow, hF, hS⟩
    refine wp_seq_k fun K6 hK6 => ?_
    refine wp_seq_k fun K7 hK7 => ?_
    refine wp_region_lit ?_
    refine s_pu hF rfl rfl rfl (pu_assign (hF.ev rfl)) ?_; clear hF; intro a hF
    refine s_done ?_
    refine hK7 _ _ ?_; clear hK7
    refine wp_block ?_
    refine wp_ind (fun j a w => ∃ (k : Nat) (R' : List Fate) (LA' WA' : List Lv) (P' : List Ent) (last' : Int), j = 32 - k ∧ k ≤ 32 ∧ WldOk m to fo R' LA' WA' P' (now + k) last' ∧ R'.length = R.length ∧ (∀ x ∈ LA' ++ WA', x.a ≤ now) ∧
      Fr a 180 [(9, .pointer (some ⟨b28, 0, none⟩)), (10, .pointer (some ⟨g, 0, none⟩)), (15, .int .i64 k)] ∧
      Sat W w [wC b28 g R' (now + k) WA'.length LA'.length m to fo, tabC 1 g (tabS m to fo R'.length LA' WA' P' (now + k) last'), whole W]) 32
      ⟨0, R, LA, WA, P, last, by omega, by omega, by simpa using hok, rfl, fun x hx => by
        rcases List.mem_append.1 hx with hx | hx
        · have := hok.ok.late x hx; have := hok.c.to; omega
        · exact (hok.ok.wait x hx).2.1, hF.sub ⟨rfl, rfl, rfl, trivial⟩, by simpa using hS⟩ ?_
    clear hS hF
    rintro j a w ⟨k, R', LA', WA', P', last', rfl, hk, hok', hRl', hall, hF, hS⟩
    refine wp_seq_k fun K8 hK8 => ?_
    refine wp_seq_k fun K9 hK9 => ?_
    refine wp_region_lit ?_
    refine s_pu hF rfl rfl rfl (pu_move (hF.ev rfl)) ?_; clear hF; intro a hF
    refine s_pu hF rfl rfl rfl (pu_lss (hF.ev rfl) (hF.ev rfl)) ?_; clear hF; intro a hF
    refine s_done ?_
    refine hK9 _ _ ?_; clear hK9
    refine wp_cond_split (hF.ev rfl) (fun hc8 => ?_) (fun hc8 => ?_)
    · -- cond 8 true
      try simp only [decide_eq_true_eq, decide_eq_false_iff_not, Bool.not_eq_true', Bool.not_eq_false', Int.not_lt, Int.not_le, ne_eq, Decidable.not_not, Bool.or_eq_true, Bool.or_eq_false_iff, Bool.and_eq_true, Bool.and_eq_false_imp] at hc8
      refine wp_skip ?_
      refine hK8 _ _ ?_; clear hK8
      refine wp_seq_k fun K10 hK10 => ?_
      refine wp_block ?_
      refine wp_seq_k fun K11 hK11 => ?_
      refine wp_region_lit ?_
      refine s_pu hF rfl rfl rfl (pu_move (hF.ev rfl)) ?_; clear hF; intro a hF
      refine s_en hF rfl rfl rfl (run_fn fk19 (hF.ev rfl) (hF.evs rfl)) (tick_w hS hok' (by omega) (by omega)) ?_
      clear hS; rintro e w ⟨rfl, R2, LA2, WA2, P2, last2, hok2, hRl2, hmem2, hS⟩
      refine ⟨_, rfl, ?_⟩; clear hF; intro a hF
      refine s_pu hF rfl rfl rfl (pu_assign (hF.ev rfl)) ?_; clear hF; intro a hF
      refine s_done ?_
      refine hK11 _ _ ?_; clear hK11
      refine wp_seq_k fun K12 hK12 => ?_
      refine wp_region_lit ?_
      refine s_pu hF rfl rfl rfl (pu_move (hF.ev rfl)) ?_; clear hF; intro a hF
      refine s_pu hF rfl rfl rfl (pu_not (hF.ev rfl)) ?_; clear hF; intro a hF
      refine s_done ?_
      refine hK12 _ _ ?_; clear hK12
      refine wp_cond_false (hF.ev rfl) ?_
      refine wp_skip ?_
      refine blk_normal ?_
      refine hK10 _ _ ?_; clear hK10
      refine wp_region_lit ?_
      refine s_pu hF rfl rfl rfl (pu_move (hF.ev rfl)) ?_; clear hF; intro a hF
      refine s_pu hF rfl rfl rfl ((by exact pu_add64 (hF.ev rfl) (hF.ev rfl) (by omega))) ?_; clear hF; intro a hF
      refine s_pu hF rfl rfl rfl (pu_assign (hF.ev rfl)) ?_; clear hF; intro a hF
      refine s_done ?_
      have e1 : now + (k : Int) + 1 = now + ((k + 1 : Nat) : Int) := by omega
      rw [e1] at hok2 hS
      exact ⟨_, by omega, k + 1, R2, LA2, WA2, P2, last2, rfl, by omega, hok2, by omega, fun x hx => by
        obtain ⟨y, hy, hya⟩ := hmem2 x hx
        rw [← hya]
        exact hall y hy, hF.sub ⟨rfl, rfl, rfl, trivial⟩, hS⟩
    · -- cond 8 false
      try simp only [decide_eq_true_eq, decide_eq_false_iff_not, Bool.not_eq_true', Bool.not_eq_false', Int.not_lt, Int.not_le, ne_eq, Decidable.not_not, Bool.or_eq_true, Bool.or_eq_false_iff, Bool.and_eq_true, Bool.and_eq_false_imp] at hc8
      refine wp_exit ?_
      refine then_exit ?_
      refine then_exit ?_
      refine blk_exit ?_
      refine hK6 _ _ ?_; clear hK6
      refine wp_seq_k fun K10 hK10 => ?_
      refine wp_seq_k fun K11 hK11 => ?_
      refine wp_region_lit ?_
      refine s_pu hF rfl rfl rfl (pu_assign (hF.ev rfl)) ?_; clear hF; intro a hF
      refine s_done ?_
      refine hK11 _ _ ?_; clear hK11
      refine wp_block ?_
      have hk32 : k = 32 := by omega
      subst hk32
      have hcc := hok'.c
      have hLA : LA' = [] := by
        cases LA' with
        | nil => rfl
        | cons y l =>
          have h1 := hok'.ok.late y (by simp)
          have h2 := hall y (by simp)
          have := hcc.to
          have := hcc.fo
          omega
      have hWA : WA' = [] := by
        cases WA' with
        | nil => rfl
        | cons y l =>
          have h1 := hok'.ok.wait y (by simp)
          have h2 := hall y (by simp)
          have := hcc.to
          omega
      subst hLA hWA
      obtain ⟨A, c, hcA, hS⟩ := w_open hS
      have ew : ((waitsL (tabS m to fo R'.length [] [] P' (now + (32 : Nat)) last').L).length : Int) = 0 := by rw [tab_waits]; simp
      have el : ((latesL (tabS m to fo R'.length [] [] P' (now + (32 : Nat)) last').L).length : Int) = 0 := by rw [tab_lates]; simp
      refine wp_ind (fun j a w => ∃ (q : Nat), j = R'.length - q ∧ q ≤ R'.length ∧
        Fr a 180 [(9, .pointer (some ⟨b28, 0, none⟩)), (10, .pointer (some ⟨g, 0, none⟩)), (17, .int .i64 q)] ∧
        Sat W w [.obj b28 (.cells #[.pointer (some ⟨g, 0, none⟩), .slice A R'.length c, .int .i64 (now + (32 : Nat)), .int .i64 (([] : List Lv).length : Int), .int .i64 (([] : List Lv).length : Int), .int .i64 m, .int .i64 to, .int .i64 fo] 52 (0, 0)), rowC 58 3 (.slice A R'.length c) R'.length (fateCells R'), tabC 1 g (tabS m to fo R'.length [] [] P' (now + (32 : Nat)) last'), whole W]) R'.length
        ⟨0, by omega, by omega, hF.sub ⟨rfl, rfl, rfl, trivial⟩, hS⟩ ?_
      clear hS hF
      rintro j a w ⟨q, rfl, hq, hF, hS⟩
      refine wp_seq_k fun K12 hK12 => ?_
      refine wp_seq_k fun K13 hK13 => ?_
      refine wp_region_lit ?_
      refine s_pu hF rfl rfl rfl (pu_move (hF.ev rfl)) ?_; clear hF; intro a hF
      refine s_pu hF rfl rfl rfl (pu_move (hF.ev rfl)) ?_; clear hF; intro a hF
      refine s_pu hF rfl rfl rfl ((by exact pu_nil (hF.ev rfl))) ?_; clear hF; intro a hF
      refine s_pu hF rfl rfl rfl ((by exact pu_field fd52_1 (hF.ev rfl))) ?_; clear hF; intro a hF
      refine s_rd hF rfl rfl rfl (by exact rd_load pl50 (hF.ev rfl) (hS.cellL (i := 0) rfl rfl)) ?_; clear hF; intro a hF
      refine s_pu hF rfl rfl rfl (pu_len sl50 (hF.ev rfl)) ?_; clear hF; intro a hF
      refine s_pu hF rfl rfl rfl (pu_lss (hF.ev rfl) (hF.ev rfl)) ?_; clear hF; intro a hF
      refine s_done ?_
      refine hK13 _ _ ?_; clear hK13
      refine wp_cond_split (hF.ev rfl) (fun hc10 => ?_) (fun hc10 => ?_)
      · -- cond 10 true
        try simp only [decide_eq_true_eq, decide_eq_false_iff_not, Bool.not_eq_true', Bool.not_eq_false', Int.not_lt, Int.not_le, ne_eq, Decidable.not_not, Bool.or_eq_true, Bool.or_eq_false_iff, Bool.and_eq_true, Bool.and_eq_false_imp] at hc10
        have hqR : q < R'.length := by omega
        obtain ⟨f, hf⟩ : ∃ f, R'[q]? = some f := ⟨R'[q]'(by omega), List.getElem?_eq_getElem _⟩
        obtain ⟨gA, rfl⟩ := row_some (i := 1) hS rfl (by omega)
        have hfo : f.out = true := by
          cases hfo : f.out with
          | true => rfl
          | false =>
            obtain ⟨x, hx, _⟩ := hok'.rel.all q f hf hfo
            simp at hx
        have hft : w.cell? ⟨gA, 0 + (q : Int).toNat * 3 + 2, none⟩ = some (.bool true) := by
          have := row_load (i := 1) hS rfl (by omega) (fate_at hf) 2 (.bool f.out) rfl
          rw [hfo] at this
          exact this
        refine wp_skip ?_
        refine hK12 _ _ ?_; clear hK12
        refine wp_seq_k fun K14 hK14 => ?_
        refine wp_block ?_
        refine wp_seq_k fun K15 hK15 => ?_
        refine wp_region_lit ?_
        refine s_pu hF rfl rfl rfl (pu_move (hF.ev rfl)) ?_; clear hF; intro a hF
        refine s_pu hF rfl rfl rfl ((by exact pu_nil (hF.ev rfl))) ?_; clear hF; intro a hF
        refine s_pu hF rfl rfl rfl ((by exact pu_field fd52_1 (hF.ev rfl))) ?_; clear hF; intro a hF
        refine s_rd hF rfl rfl rfl (by exact rd_load pl50 (hF.ev rfl) (hS.cellL (i := 0) rfl rfl)) ?_; clear hF; intro a hF
        refine s_pu hF rfl rfl rfl (pu_move (hF.ev rfl)) ?_; clear hF; intro a hF
        refine s_pu hF rfl rfl rfl ((by exact pu_elem sl50 (hF.ev rfl) (hF.ev rfl) (by omega) (by omega))) ?_; clear hF; intro a hF
        refine s_pu hF rfl rfl rfl ((by exact pu_field fd58_2 (hF.ev rfl))) ?_; clear hF; intro a hF
        refine s_rd hF rfl rfl rfl (by exact rd_load pl4 (hF.ev rfl) (by assumption)) ?_; clear hF; intro a hF
        refine s_pu hF rfl rfl rfl (pu_not (hF.ev rfl)) ?_; clear hF; intro a hF
        refine s_done ?_
        refine hK15 _ _ ?_; clear hK15
        refine wp_cond_false (hF.ev rfl) ?_
        refine wp_skip ?_
        refine blk_normal ?_
        refine hK14 _ _ ?_; clear hK14
        refine wp_region_lit ?_
        refine s_pu hF rfl rfl rfl (pu_move (hF.ev rfl)) ?_; clear hF; intro a hF
        refine s_pu hF rfl rfl rfl ((by exact pu_add64 (hF.ev rfl) (hF.ev rfl) (by omega))) ?_; clear hF; intro a hF
        refine s_pu hF rfl rfl rfl (pu_assign (hF.ev rfl)) ?_; clear hF; intro a hF
        refine s_done ?_
        exact ⟨_, by omega, q + 1, rfl, by omega, hF.sub ⟨rfl, rfl, rfl, trivial⟩, hS⟩
      · -- cond 10 false
        try simp only [decide_eq_true_eq, decide_eq_false_iff_not, Bool.not_eq_true', Bool.not_eq_false', Int.not_lt, Int.not_le, ne_eq, Decidable.not_not, Bool.or_eq_true, Bool.or_eq_false_iff, Bool.and_eq_true, Bool.and_eq_false_imp] at hc10
        refine wp_exit ?_
        refine then_exit ?_
        refine then_exit ?_
        refine blk_exit ?_
        refine hK10 _ _ ?_; clear hK10
        refine wp_seq_k fun K14 hK14 => ?_
        refine wp_region_lit ?_
        refine s_pu hF rfl rfl rfl (pu_move (hF.ev rfl)) ?_; clear hF; intro a hF
        refine s_en hF rfl rfl rfl (run_fn fk11 (hF.ev rfl) (hF.evs rfl)) (at_keep 2 hS rfl (fun h => len_c h)) ?_
        clear hS; rintro e w ⟨rfl, hS⟩
        rw [ew]
        refine ⟨_, rfl, ?_⟩; clear hF; intro a hF
        refine s_pu hF rfl rfl rfl (pu_eql (hF.ev rfl) (hF.ev rfl)) ?_; clear hF; intro a hF
        refine s_pu hF rfl rfl rfl (pu_move (hF.ev rfl)) ?_; clear hF; intro a hF
        refine s_pu hF rfl rfl rfl (pu_move (hF.ev rfl)) ?_; clear hF; intro a hF
        refine s_en hF rfl rfl rfl (run_fn fk20 (hF.ev rfl) (hF.evs rfl)) (at_keep 2 hS rfl (fun h => late_c h)) ?_
        clear hS; rintro e w ⟨rfl, hS⟩
        rw [el]
        refine ⟨_, rfl, ?_⟩; clear hF; intro a hF
        refine s_pu hF rfl rfl rfl (pu_eql (hF.ev rfl) (hF.ev rfl)) ?_; clear hF; intro a hF
        refine s_pu hF rfl rfl rfl ((by exact pu_pick_t (hF.ev rfl) (hF.ev rfl))) ?_; clear hF; intro a hF
        refine s_pu hF rfl rfl rfl (pu_assign (hF.ev rfl)) ?_; clear hF; intro a hF
        refine s_done ?_
        refine hK14 _ _ ?_; clear hK14
        refine wp_ret ?_
        refine fin1 Try.results5 hF rfl ?_
        exact ⟨rfl, (hS.front 3 rfl).below⟩
end Go.Proofs.Ytbfdebddoncfhaa
