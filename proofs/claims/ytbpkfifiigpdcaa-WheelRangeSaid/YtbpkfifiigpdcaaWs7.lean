import Derived.Test.YtbpkfifiigpdcaaWs6
/-! A loop over All beside the document's own: goes. -/
namespace Go.Proofs.Ytbpkfifiigpdcaa
open Go Go.RowKit Go.Proofs.Ytbpkfifiigpdcaa.Sk
set_option linter.unusedVariables false
set_option linter.unusedSimpArgs false
set_option maxRecDepth 100000

/-- All things are numbers. -/
def Nums (P : List Ent) : Prop := ∀ e ∈ P, ∃ x : Int, e.v = .int .i64 x
section
variable {w0 w : World} {F : List Chunk} {g n : Nat} {P : List Ent} {now last : Int}
theorem goes_c {A : Option Addr} {c : Nat} {most : Int} (hS : Sat w0 w (whC_i g n P now last :: rowC 62 3 (.slice A P.length c) P.length (entCells (sortE P)) :: F)) (hnum : Nums P) (h1 : 1 ≤ n) (h2 : n ≤ 4096) (hri : Rising P last) (hroom : (P.length + 1) * 24 ≤ 140737488355328) :
    Calls Try.prog 21 #[.pointer (some ⟨g, 0, none⟩), .slice A P.length c, .int .i64 most] w fun e w' => e = .returned (.bool true) ∧ Sat w0 w' (whC_i g n P now last :: rowC 62 3 (.slice A P.length c) P.length (entCells (sortE P)) :: F) := by
  refine enterM Try.func21 rfl Try.ntmps21 (Nat.le_of_ble_eq_true rfl) fun a hF => ?_
  refine wpIn_seq_k fun K0 hK0 => ?_
  refine wr_region rfl ?_
  refine s_newp hF rfl rfl rfl (ef_box (cs := #[_]) (hF.ev rfl) rfl) hS ?_; clear hF hS; intro b4 w hS a hF
  refine s_newp hF rfl rfl rfl (ef_box (cs := #[_]) (hF.ev rfl) rfl) hS ?_; clear hF hS; intro b5 w hS a hF
  refine s_newp hF rfl rfl rfl (ef_alloc (cs := #[_]) ze4 rfl) hS ?_; clear hF hS; intro b6 w hS a hF
  refine s_done ?_
  refine sure_in ?_
  refine hK0 _ _ ?_; clear hK0
  refine wpIn_seq_k fun K1 hK1 => ?_
  refine wr_region rfl ?_
  refine s_newp hF rfl rfl rfl (ef_alloc (cs := #[_]) ze3 rfl) hS ?_; clear hF hS; intro b7 w hS a hF
  ((refine s_store (vs := [_]) (cs' := #[_]) 0 hF rfl (hF.ev rfl) (hF.ev rfl) hS rfl rfl sz3 (by rfl) (by exact Nat.le_of_ble_eq_true rfl) rfl ?_))
  clear hS; intro w hS; (try simp only [upd, del] at hS)
  refine s_done ?_
  refine sure_in ?_
  refine hK1 _ _ ?_; clear hK1
  refine wpIn_seq_k fun K2 hK2 => ?_
  refine wr_region rfl ?_
  refine s_pu hF rfl rfl rfl (pu_move (hF.ev rfl)) ?_; clear hF; intro a hF
  replace hS := hS.front 4 rfl
  simp only [del] at hS
  refine s_en hF rfl rfl rfl (run_fn fk25 (hF.ev rfl) (hF.evs rfl)) (wAll_c hS) ?_
  clear hS; rintro e w ⟨bb, rfl, hS⟩
  refine ⟨_, rfl, ?_⟩; clear hF; intro a hF
  refine s_pu hF rfl rfl rfl (pu_assign (hF.ev rfl)) ?_; clear hF; intro a hF
  refine s_done ?_
  refine sure_in ?_
  refine hK2 _ _ ?_; clear hK2
  refine wpIn_seq_k fun K3 hK3 => ?_
  refine wpIn_seq_k fun K4 hK4 => ?_
  refine wr_region rfl ?_
  refine s_pu hF rfl rfl rfl (pu_move (hF.ev rfl)) ?_; clear hF; intro a hF
  refine s_pu hF rfl rfl rfl (pu_feq Try.underlying59 (hF.ev rfl) (hF.ev rfl)) ?_; clear hF; intro a hF
  refine s_done ?_
  refine sure_in ?_
  refine hK4 _ _ ?_; clear hK4
  refine wpIn_cond_false (hF.ev rfl) ?_
  refine wpIn_skip ?_
  refine hK3 _ _ ?_; clear hK3
  refine wpIn_seq_k fun K5 hK5 => ?_
  refine wpIn_seq_k fun K6 hK6 => ?_
  refine wr_region rfl ?_
  refine s_pu hF rfl rfl rfl (pu_move (hF.ev rfl)) ?_; clear hF; intro a hF
  refine s_done ?_
  refine sure_in ?_
  refine hK6 _ _ ?_; clear hK6
  refine wpIn_block ?_
  replace hS : Sat w0 w (.obj b7 (.cells #[.int .i64 (0 : Nat)] 3 (0, 0)) :: .obj b4 (.cells #[.slice A P.length c] 51 (0, 0)) :: .obj b5 (.cells #[.int .i64 most] 3 (0, 0)) :: .obj b6 (.cells #[.bool false] 4 (0, 0)) :: .obj bb (.cells #[.pointer (some ⟨g, 0, none⟩)] 38 (0, 0)) :: whC_i g n P now last :: rowC 62 3 (.slice A P.length c) P.length (entCells (sortE P)) :: F) := hS.sel [2, 4, 3, 2, 0, 0]
  refine range_out (σ := Nat) (τ := Nat) P.length (encE (sortE P)) (fun i s => s = i)
    (fun s => .obj b7 (.cells #[.int .i64 (s : Nat)] 3 (0, 0)) :: .obj b4 (.cells #[.slice A P.length c] 51 (0, 0)) :: .obj b5 (.cells #[.int .i64 most] 3 (0, 0)) :: .obj b6 (.cells #[.bool false] 4 (0, 0)) :: .obj bb (.cells #[.pointer (some ⟨g, 0, none⟩)] 38 (0, 0)) :: whC_i g n P now last :: rowC 62 3 (.slice A P.length c) P.length (entCells (sortE P)) :: F)
    (fun _ => True) (fun _ => .ret)
    (fun s => .obj b7 (.cells #[.int .i64 (s : Nat)] 3 (0, 0)) :: .obj b4 (.cells #[.slice A P.length c] 51 (0, 0)) :: .obj b5 (.cells #[.int .i64 most] 3 (0, 0)) :: .obj b6 (.cells #[.bool true] 4 (0, 0)) :: .obj bb (.cells #[.pointer (some ⟨g, 0, none⟩)] 38 (0, 0)) :: whC_i g n P now last :: rowC 62 3 (.slice A P.length c) P.length (entCells (sortE P)) :: F)
    hF hS (hF.ev rfl) fk44 rfl (fun _ _ => rfl) (fun _ _ => .inl rfl) (fun d l rec D X' w hS hD hR => by
      subst hD
      exact wAll_it (hS.sel [6, 6]) (fun w G h => ⟨0, rfl, sat_star.2 (h.sel [2, 2, 2, 2, 2, 2, 0, 0])⟩) hR h1 h2 hri hroom) ?_ ?_ ?_
  · -- a round of g0
    clear hF hS; intro d0 l0 rec0 F0 i0 s0 a w hi0 hs0 hF hS KA hKA
    subst hs0
    simp only [List.cons_append] at hS
    have hsl := sortE_len P
    obtain ⟨e, he⟩ : ∃ e, (sortE P)[s0]? = some e := ⟨(sortE P)[s0]'(by omega), List.getElem?_eq_getElem _⟩
    have hen : encE (sortE P) s0 = [.int .i64 e.timer, e.v] := by
      unfold encE
      rw [List.getD_eq_getElem?_getD, he]
      rfl
    obtain ⟨x, hx⟩ := hnum e ((sortE_perm P).subset (List.mem_of_getElem? he))
    rw [hen, hx] at hF
    simp only [List.zip, List.zipWith, List.reverse, List.reverseAux, List.cons_append, List.nil_append] at hF
    obtain ⟨ga, rfl⟩ := row_some (i := 8) hS rfl (by omega)
    refine wpIn_seq_k fun K8 hK8 => ?_
    refine wr_region rfl ?_
    refine s_pu hF rfl rfl rfl (pu_assign (hF.ev rfl)) ?_; clear hF; intro a hF
    refine s_done ?_
    refine sure_in ?_
    refine hK8 _ _ ?_; clear hK8
    refine wr_region rfl ?_
    refine s_pu hF rfl rfl rfl (pu_assign (hF.ev rfl)) ?_; clear hF; intro a hF
    refine s_done ?_
    refine sure_in ?_
    refine hKA _ _ _ hS fun w hS => ?_
    refine wpIn_block ?_
    refine wpIn_seq_k fun K9 hK9 => ?_
    refine wpIn_seq_k fun K10 hK10 => ?_
    refine wr_region rfl ?_
    refine s_rd hF rfl rfl rfl (by exact rd_load pl3 (hF.ev rfl) (hS.cellL (i := 2) rfl rfl)) ?_; clear hF; intro a hF
    refine s_rd hF rfl rfl rfl (by exact rd_load pl51 (hF.ev rfl) (hS.cellL (i := 3) rfl rfl)) ?_; clear hF; intro a hF
    refine s_pu hF rfl rfl rfl (pu_len sl51 (hF.ev rfl)) ?_; clear hF; intro a hF
    refine s_pu hF rfl rfl rfl (pu_geq (hF.ev rfl) (hF.ev rfl)) ?_; clear hF; intro a hF
    refine s_pu hF rfl rfl rfl (pu_move (hF.ev rfl)) ?_; clear hF; intro a hF
    refine fr_split hF (t := 22) rfl ?_ ?_
    · clear hF; intro hg22 hF   -- slot 22 true
      try simp only [decide_eq_true_eq, decide_eq_false_iff_not, Bool.not_eq_true', Bool.not_eq_false', Int.not_lt, Int.not_le, ne_eq, Decidable.not_not, Bool.or_eq_true, Bool.or_eq_false_iff, Bool.and_eq_true, Bool.and_eq_false_imp] at hg22
      omega
    · clear hF; intro hg22 hF   -- slot 22 false
      try simp only [decide_eq_true_eq, decide_eq_false_iff_not, Bool.not_eq_true', Bool.not_eq_false', Int.not_lt, Int.not_le, ne_eq, Decidable.not_not, Bool.or_eq_true, Bool.or_eq_false_iff, Bool.and_eq_true, Bool.and_eq_false_imp] at hg22
      refine s_pu hF rfl rfl rfl (pu_move (hF.ev rfl)) ?_; clear hF; intro a hF
      refine s_rd hF rfl rfl rfl (by exact rd_load pl51 (hF.ev rfl) (hS.cellL (i := 3) rfl rfl)) ?_; clear hF; intro a hF
      refine s_rd hF rfl rfl rfl (by exact rd_load pl3 (hF.ev rfl) (hS.cellL (i := 2) rfl rfl)) ?_; clear hF; intro a hF
      refine s_pu hF rfl rfl rfl ((by exact pu_elem sl51 (hF.ev rfl) (hF.ev rfl) (by omega) (by omega))) ?_; clear hF; intro a hF
      refine s_pu hF rfl rfl rfl ((by exact pu_field fd62_0 (hF.ev rfl))) ?_; clear hF; intro a hF
      refine s_rd hF rfl rfl rfl (rd_load pl3 (hF.ev rfl) (row_load (i := 8) hS rfl (by omega) (entCells_at he) 0 _ rfl)) ?_; clear hF; intro a hF
      refine s_pu hF rfl rfl rfl (pu_neq (hF.ev rfl) (hF.ev rfl)) ?_; clear hF; intro a hF
      refine s_pu hF rfl rfl rfl ((by exact pu_pick_f (hF.ev rfl) (hF.ev rfl))) ?_; clear hF; intro a hF
      refine s_pu hF rfl rfl rfl (pu_move (hF.ev rfl)) ?_; clear hF; intro a hF
      refine fr_split hF (t := 31) rfl ?_ ?_
      · clear hF; intro hg31 hF   -- slot 31 true
        try simp only [decide_eq_true_eq, decide_eq_false_iff_not, Bool.not_eq_true', Bool.not_eq_false', Int.not_lt, Int.not_le, ne_eq, Decidable.not_not, Bool.or_eq_true, Bool.or_eq_false_iff, Bool.and_eq_true, Bool.and_eq_false_imp] at hg31
        simp at hg31
      · clear hF; intro hg31 hF   -- slot 31 false
        try simp only [decide_eq_true_eq, decide_eq_false_iff_not, Bool.not_eq_true', Bool.not_eq_false', Int.not_lt, Int.not_le, ne_eq, Decidable.not_not, Bool.or_eq_true, Bool.or_eq_false_iff, Bool.and_eq_true, Bool.and_eq_false_imp] at hg31
        refine s_pu hF rfl rfl rfl (pu_move (hF.ev rfl)) ?_; clear hF; intro a hF
        refine s_rd hF rfl rfl rfl (by exact rd_load pl51 (hF.ev rfl) (hS.cellL (i := 3) rfl rfl)) ?_; clear hF; intro a hF
        refine s_rd hF rfl rfl rfl (by exact rd_load pl3 (hF.ev rfl) (hS.cellL (i := 2) rfl rfl)) ?_; clear hF; intro a hF
        refine s_pu hF rfl rfl rfl ((by exact pu_elem sl51 (hF.ev rfl) (hF.ev rfl) (by omega) (by omega))) ?_; clear hF; intro a hF
        refine s_pu hF rfl rfl rfl ((by exact pu_field fd62_2 (hF.ev rfl))) ?_; clear hF; intro a hF
        refine s_rd hF rfl rfl rfl (rd_load pl3 (hF.ev rfl) (by
          have h9 := row_load (i := 8) hS rfl (by omega) (entCells_at he) 2 e.v rfl
          rw [hx] at h9
          exact h9)) ?_; clear hF; intro a hF
        refine s_pu hF rfl rfl rfl (pu_neq (hF.ev rfl) (hF.ev rfl)) ?_; clear hF; intro a hF
        refine s_pu hF rfl rfl rfl ((by exact pu_pick_f (hF.ev rfl) (hF.ev rfl))) ?_; clear hF; intro a hF
        refine s_done ?_
        refine sure_in ?_
        refine hK10 _ _ ?_; clear hK10
        refine wpIn_cond_split (hF.ev rfl) (fun hc1 => ?_) (fun hc1 => ?_)
        · -- cond 1 true
          try simp only [decide_eq_true_eq, decide_eq_false_iff_not, Bool.not_eq_true', Bool.not_eq_false', Int.not_lt, Int.not_le, ne_eq, Decidable.not_not, Bool.or_eq_true, Bool.or_eq_false_iff, Bool.and_eq_true, Bool.and_eq_false_imp] at hc1
          simp at hc1
        · -- cond 1 false
          try simp only [decide_eq_true_eq, decide_eq_false_iff_not, Bool.not_eq_true', Bool.not_eq_false', Int.not_lt, Int.not_le, ne_eq, Decidable.not_not, Bool.or_eq_true, Bool.or_eq_false_iff, Bool.and_eq_true, Bool.and_eq_false_imp] at hc1
          refine wpIn_skip ?_
          refine hK9 _ _ ?_; clear hK9
          refine wpIn_seq_k fun K11 hK11 => ?_
          refine wr_region rfl ?_
          refine s_rd hF rfl rfl rfl (by exact rd_load pl3 (hF.ev rfl) (hS.cellL (i := 2) rfl rfl)) ?_; clear hF; intro a hF
          refine s_pu hF rfl rfl rfl ((by exact pu_add64 (hF.ev rfl) (hF.ev rfl) (by omega))) ?_; clear hF; intro a hF
          ((refine s_store (vs := [_]) (cs' := #[_]) 2 hF rfl (hF.ev rfl) (hF.ev rfl) hS rfl rfl sz3 (by rfl) (by exact Nat.le_of_ble_eq_true rfl) rfl ?_))
          clear hS; intro w hS; (try simp only [upd, del] at hS)
          refine s_done ?_
          refine sure_in ?_
          refine hK11 _ _ ?_; clear hK11
          refine wpIn_seq_k fun K12 hK12 => ?_
          refine wr_region rfl ?_
          refine s_rd hF rfl rfl rfl (by exact rd_load pl3 (hF.ev rfl) (hS.cellL (i := 2) rfl rfl)) ?_; clear hF; intro a hF
          refine s_rd hF rfl rfl rfl (by exact rd_load pl3 (hF.ev rfl) (hS.cellL (i := 4) rfl rfl)) ?_; clear hF; intro a hF
          refine s_pu hF rfl rfl rfl (pu_eql (hF.ev rfl) (hF.ev rfl)) ?_; clear hF; intro a hF
          refine s_done ?_
          refine sure_in ?_
          refine hK12 _ _ ?_; clear hK12
          refine wpIn_cond_split (hF.ev rfl) (fun hc2 => ?_) (fun hc2 => ?_)
          · -- cond 2 true
            try simp only [decide_eq_true_eq, decide_eq_false_iff_not, Bool.not_eq_true', Bool.not_eq_false', Int.not_lt, Int.not_le, ne_eq, Decidable.not_not, Bool.or_eq_true, Bool.or_eq_false_iff, Bool.and_eq_true, Bool.and_eq_false_imp] at hc2
            refine wpIn_seq_k fun K13 hK13 => ?_
            refine wr_region rfl ?_
            ((refine s_store (vs := [_]) (cs' := #[_]) 5 hF rfl (hF.ev rfl) (hF.ev rfl) hS rfl rfl sz4 (by rfl) (by exact Nat.le_of_ble_eq_true rfl) rfl ?_))
            clear hS; intro w hS; (try simp only [upd, del] at hS)
            refine s_done ?_
            refine sure_in ?_
            refine hK13 _ _ ?_; clear hK13
            refine wpIn_ret ?_
            refine blk_ret ?_
            exact ⟨s0 + 1, trivial, rfl, hS⟩
          · -- cond 2 false
            try simp only [decide_eq_true_eq, decide_eq_false_iff_not, Bool.not_eq_true', Bool.not_eq_false', Int.not_lt, Int.not_le, ne_eq, Decidable.not_not, Bool.or_eq_true, Bool.or_eq_false_iff, Bool.and_eq_true, Bool.and_eq_false_imp] at hc2
            refine wpIn_skip ?_
            refine blk_normal ?_
            exact ⟨s0 + 1, rfl, hS⟩
  · -- behind g0
    clear hF hS; intro d0 a w s0 hs0 hF hS
    subst hs0
    refine blk_normal ?_
    refine hK5 _ _ ?_; clear hK5
    refine wpIn_seq_k fun K7 hK7 => ?_
    refine wr_region rfl ?_
    refine s_rd hF rfl rfl rfl (by exact rd_load pl3 (hF.ev rfl) (hS.cellL (i := 1) rfl rfl)) ?_; clear hF; intro a hF
    refine s_rd hF rfl rfl rfl (by exact rd_load pl51 (hF.ev rfl) (hS.cellL (i := 2) rfl rfl)) ?_; clear hF; intro a hF
    refine s_pu hF rfl rfl rfl (pu_len sl51 (hF.ev rfl)) ?_; clear hF; intro a hF
    refine s_pu hF rfl rfl rfl (pu_eql (hF.ev rfl) (hF.ev rfl)) ?_; clear hF; intro a hF
    ((refine s_store (vs := [_]) (cs' := #[_]) 4 hF rfl (hF.ev rfl) (hF.ev rfl) hS rfl rfl sz4 (by rfl) (by exact Nat.le_of_ble_eq_true rfl) rfl ?_))
    clear hS; intro w hS; (try simp only [upd, del] at hS)
    refine s_done ?_
    refine sure_in ?_
    refine hK7 _ _ ?_; clear hK7
    refine wpIn_ret ?_
    refine finM_ret hF hS (fun w hS => ⟨_, resc1 Try.results21 hF rfl (holds_cell pl4 (hS.cellL (i := 3) rfl rfl)), ?_⟩)
    exact ⟨by simp, hS.right (C := [_, _, _, _, _])⟩
  · -- g0 is left
    clear hF hS; intro d0 a w t0 ht0 hF hS
    refine blk_ret ?_
    refine then_ret ?_
    refine finM_ret hF hS (fun w hS => ⟨_, resc1 Try.results21 hF rfl (holds_cell pl4 (hS.cellL (i := 3) rfl rfl)), ?_⟩)
    exact ⟨by simp, hS.right (C := [_, _, _, _, _])⟩
end
end Go.Proofs.Ytbpkfifiigpdcaa
