import Derived.Test.YtbfdebddoncfhaaPd3
import Derived.Test.YtbfdebddoncfhaaMs2
/-! Pending: the keys of the maps; New, copied, Len, Late, Has. -/
namespace Go.Proofs.Ytbfdebddoncfhaa
open Go Go.RowKit Go.Proofs.Ytbfdebddoncfhaa.Sk
set_option linter.unusedVariables false
set_option linter.unusedSimpArgs false
set_option maxRecDepth 100000

theorem keys30 : Keys Try.prog 30 PKey.val := struct_keys PKey.sc Try.underlying30 (by kernel_rfl) (fun x => by kernel_rfl) (fun x y => by simp [PKey.sc, likeAll, Sc.like]) (fun x y h => by
  obtain ⟨a, b, c, d, e⟩ := x
  obtain ⟨a', b', c', d', e'⟩ := y
  simp [PKey.sc] at h
  obtain ⟨rfl, rfl, rfl, rfl, rfl⟩ := h
  rfl)
theorem keys93 : Keys Try.prog 93 wayV := struct_keys (fun q : Int × Int => [.num .i64 q.1, .num .i64 q.2]) Try.underlying93 (by kernel_rfl) (fun x => by kernel_rfl) (fun x y => by simp [likeAll, Sc.like]) (fun x y h => by
  obtain ⟨a, b⟩ := x
  obtain ⟨a', b'⟩ := y
  simp at h
  obtain ⟨rfl, rfl⟩ := h
  rfl)
theorem mes_val {k : Nat} {p : Pnd} {h : Value × Value} {w0 w : World} {C : List Chunk} (hS : Sat w0 w (mesC k h p :: C)) : ∃ A c A' c', h = (.slice A p.f1.length c, .slice A' p.f2.length c') := by
  unfold mesC at hS
  rw [sat_star] at hS
  obtain ⟨A, c, e1⟩ := nodes_val hS
  obtain ⟨A', c', e2⟩ := nodes_val hS.tail
  exact ⟨A, c, A', c', by rw [← e1, ← e2]⟩
theorem copied_c (k : Nat) {w0 w W : World} {D : Nat → Prop} {C : List Chunk} {p : Pnd} {h : Value × Value} (hR1 : RdN W D k h.1 p.f1) (hR2 : RdN W D k h.2 p.f2) (hK : Keeps w0 C W D) (hS : Sat w0 w C) :
    Calls Try.prog 32 #[p.value h] w fun e w' => ∃ h' : Value × Value, e = .returned (p.value h') ∧ (∃ A n c A' n' c', h' = (.slice A n c, .slice A' n' c')) ∧ Sat w0 w' (mesC k h' p :: C) := by
  obtain ⟨A1, c1, e1, hb1⟩ := hR1.slice
  obtain ⟨A2, c2, e2, hb2⟩ := hR2.slice
  obtain ⟨p1, p2⟩ := h
  simp only at e1 e2
  subst e1; subst e2
  unfold Pnd.value
  refine enter Try.func32 rfl Try.ntmps32 (Nat.le_of_ble_eq_true rfl) fun a hF => ?_
  refine wp_seq_k fun K0 hK0 => ?_
  refine wp_region_lit ?_
  refine s_newp hF rfl rfl rfl (ef_box (cs := #[_, _, _, _, _, _, _, _, _, _, _, _]) (hF.ev rfl) rfl) hS ?_; clear hF hS; intro b1 w hS a hF
  refine s_newp hF rfl rfl rfl (ef_alloc (cs := #[_, _, _, _, _, _, _, _, _, _, _, _]) ze35 rfl) hS ?_; clear hF hS; intro b2 w hS a hF
  refine s_done ?_
  refine hK0 _ _ ?_; clear hK0
  refine wp_seq_k fun K1 hK1 => ?_
  refine d_start (S := (fun w => Sat w0 w [_, _])) (ds := [7, 9]) (ord := [(0, .pu), (1, .tk), (3, .pu), (4, .tk), (2, .on), (6, .pu), (5, .on), (7, .ls), (8, .pu), (9, .ls)]) mixed ⟨by kernel_rfl, fun _ d _ _ _ h => by cases d <;> exact h⟩ (hS.left (C := [_, _])).drew fun hD => ?_
  replace hS := hS.drew; generalize w.drew = w at hS ⊢
  refine d_pu hD hF rfl rfl rfl rfl rfl ((by exact pu_field fd35_4 (hF.ev rfl))) ?_; clear hF; intro a hF
  refine d_rd hD hF rfl rfl rfl rfl rfl (by exact hS.left (C := [_, _])) (fun w hS => (by exact rd_loadB (i := 1) (vs := [_, _]) ag33 (hF.ev rfl) hS rfl rfl)) ?_; clear hF; intro a hF
  refine d_pu hD hF rfl rfl rfl rfl rfl ((by exact pu_field fd35_5 (hF.ev rfl))) ?_; clear hF; intro a hF
  refine d_rd hD hF rfl rfl rfl rfl rfl (by exact hS.left (C := [_, _])) (fun w hS => (by exact rd_loadB (i := 1) (vs := [_, _]) ag33 (hF.ev rfl) hS rfl rfl)) ?_; clear hF; intro a hF
  refine d_en hD hF rfl rfl rfl rfl rfl (run_fn fk48 (hF.ev rfl) (hF.evs rfl)) (copy_c k hR1 (hK.sub (fun w h => h.tail.tail)) hS) ?_
  clear hS; rintro e w ⟨h1, rfl, hS⟩
  obtain ⟨A1', c1', rfl⟩ := nodes_val hS
  refine ⟨_, rfl, hS.tail.left (C := [_, _]), ?_⟩; clear hF; intro a hF
  refine d_pu hD hF rfl rfl rfl rfl rfl ((by exact pu_field fd35_4 (hF.ev rfl))) ?_; clear hF; intro a hF
  refine d_en hD hF rfl rfl rfl rfl rfl (run_fn fk48 (hF.ev rfl) (hF.evs rfl)) (copy_c k hR2 (hK.sub (fun w h => h.tail.tail.tail)) hS) ?_
  clear hS; rintro e w ⟨h2, rfl, hS⟩
  obtain ⟨A2', c2', rfl⟩ := nodes_val hS
  refine ⟨_, rfl, hS.tail.tail.left (C := [_, _]), ?_⟩; clear hF; intro a hF
  ((refine l_store (vs := [_, _]) (cs' := #[_, _, _, _, _, _, _, _, _, _, _, _]) 3 hD hF rfl rfl rfl (hF.ev rfl) (hF.ev rfl) hS rfl rfl sz33 (by rfl) (by exact Nat.le_of_ble_eq_true rfl) rfl ?_))
  clear hS; intro w hS; (try simp only [upd, del] at hS)
  refine d_pu hD hF rfl rfl rfl rfl rfl ((by exact pu_field fd35_5 (hF.ev rfl))) ?_; clear hF; intro a hF
  ((refine l_store (vs := [_, _]) (cs' := #[_, _, _, _, _, _, _, _, _, _, _, _]) 3 hD hF rfl rfl rfl (hF.ev rfl) (hF.ev rfl) hS rfl rfl sz33 (by rfl) (by exact Nat.le_of_ble_eq_true rfl) rfl ?_))
  clear hS; intro w hS; (try simp only [upd, del] at hS)
  refine d_done hD rfl ?_; clear hD
  refine hK1 _ _ ?_; clear hK1
  refine wp_seq_k fun K2 hK2 => ?_
  refine wp_region_lit ?_
  refine s_rd hF rfl rfl rfl (by exact rd_loadB (i := 3) (vs := [_, _, _, _, _, _, _, _, _, _, _, _]) ag35 (hF.ev rfl) hS rfl rfl) ?_; clear hF; intro a hF
  ((refine s_store (vs := [_, _, _, _, _, _, _, _, _, _, _, _]) (cs' := #[_, _, _, _, _, _, _, _, _, _, _, _]) 2 hF rfl (hF.ev rfl) (hF.ev rfl) hS rfl rfl sz35 (by rfl) (by exact Nat.le_of_ble_eq_true rfl) rfl ?_))
  clear hS; intro w hS; (try simp only [upd, del] at hS)
  refine s_done ?_
  refine hK2 _ _ ?_; clear hK2
  refine wp_ret ?_
  refine finc1 Try.results32 hF rfl (by exact holds_block (i := 2) ag35 hS rfl rfl) ?_
  refine ⟨(_, _), rfl, ⟨_, _, _, _, _, _, rfl⟩, ?_⟩
  unfold mesC
  rw [sat_star]
  exact ((hS.drop 2).drop 2).sel [1]
def Tab.start (most timeout remember : Int) : Tab := ⟨most, timeout, remember, 0, [], [], 0, 0⟩
def newOk (most timeout remember : Int) : Prop := 1 ≤ most ∧ most ≤ 10000 ∧ 1 ≤ timeout ∧ timeout ≤ 100000 ∧ 1 ≤ remember ∧ remember ≤ 100000
section short
variable {w0 w : World} {F : List Chunk} {k g : Nat} {T : Tab}
theorem new_c {most timeout remember : Int} (hS : Sat w0 w F) (h : newOk most timeout remember) : Calls Try.prog 8 #[.int .i64 most, .int .i64 timeout, .int .i64 remember] w fun e w' => ∃ g, e = .returned (.tuple #[.pointer (some ⟨g, 0, none⟩), .int .i64 0]) ∧ Sat w0 w' (tabC k g (.start most timeout remember) :: F) := by
  obtain ⟨h1, h2, h3, h4, h5, h6⟩ := h
  refine enter Try.func8 rfl Try.ntmps8 (Nat.le_of_ble_eq_true rfl) fun a hF => ?_
  refine wp_seq_k fun K0 hK0 => ?_
  refine wp_region_lit ?_
  refine s_pu hF rfl rfl rfl (pu_assign (hF.ev rfl)) ?_; clear hF; intro a hF
  refine s_pu hF rfl rfl rfl (pu_assign (hF.ev rfl)) ?_; clear hF; intro a hF
  refine s_done ?_
  refine hK0 _ _ ?_; clear hK0
  refine wp_seq_k fun K1 hK1 => ?_
  refine wp_seq_k fun K2 hK2 => ?_
  refine wp_region_lit ?_
  refine s_pu hF rfl rfl rfl (pu_move (hF.ev rfl)) ?_; clear hF; intro a hF
  refine s_pu hF rfl rfl rfl (pu_lss (hF.ev rfl) (hF.ev rfl)) ?_; clear hF; intro a hF
  refine s_pu hF rfl rfl rfl (pu_move (hF.ev rfl)) ?_; clear hF; intro a hF
  refine fr_split hF (t := 12) rfl ?_ ?_
  · clear hF; intro hg12 hF   -- slot 12 true
    try simp only [decide_eq_true_eq, decide_eq_false_iff_not, Bool.not_eq_true', Bool.not_eq_false', Int.not_lt, Int.not_le, ne_eq, Decidable.not_not, Bool.or_eq_true, Bool.or_eq_false_iff, Bool.and_eq_true, Bool.and_eq_false_imp] at hg12
    omega
  · clear hF; intro hg12 hF   -- slot 12 false
    try simp only [decide_eq_true_eq, decide_eq_false_iff_not, Bool.not_eq_true', Bool.not_eq_false', Int.not_lt, Int.not_le, ne_eq, Decidable.not_not, Bool.or_eq_true, Bool.or_eq_false_iff, Bool.and_eq_true, Bool.and_eq_false_imp] at hg12
    refine s_pu hF rfl rfl rfl (pu_move (hF.ev rfl)) ?_; clear hF; intro a hF
    refine s_pu hF rfl rfl rfl (pu_gtr (hF.ev rfl) (hF.ev rfl)) ?_; clear hF; intro a hF
    refine s_pu hF rfl rfl rfl ((by exact pu_pick_f (hF.ev rfl) (hF.ev rfl))) ?_; clear hF; intro a hF
    refine s_pu hF rfl rfl rfl (pu_move (hF.ev rfl)) ?_; clear hF; intro a hF
    refine fr_split hF (t := 16) rfl ?_ ?_
    · clear hF; intro hg16 hF   -- slot 16 true
      try simp only [decide_eq_true_eq, decide_eq_false_iff_not, Bool.not_eq_true', Bool.not_eq_false', Int.not_lt, Int.not_le, ne_eq, Decidable.not_not, Bool.or_eq_true, Bool.or_eq_false_iff, Bool.and_eq_true, Bool.and_eq_false_imp] at hg16
      omega
    · clear hF; intro hg16 hF   -- slot 16 false
      try simp only [decide_eq_true_eq, decide_eq_false_iff_not, Bool.not_eq_true', Bool.not_eq_false', Int.not_lt, Int.not_le, ne_eq, Decidable.not_not, Bool.or_eq_true, Bool.or_eq_false_iff, Bool.and_eq_true, Bool.and_eq_false_imp] at hg16
      refine s_pu hF rfl rfl rfl (pu_move (hF.ev rfl)) ?_; clear hF; intro a hF
      refine s_pu hF rfl rfl rfl (pu_lss (hF.ev rfl) (hF.ev rfl)) ?_; clear hF; intro a hF
      refine s_pu hF rfl rfl rfl ((by exact pu_pick_f (hF.ev rfl) (hF.ev rfl))) ?_; clear hF; intro a hF
      refine s_pu hF rfl rfl rfl (pu_move (hF.ev rfl)) ?_; clear hF; intro a hF
      refine fr_split hF (t := 20) rfl ?_ ?_
      · clear hF; intro hg20 hF   -- slot 20 true
        try simp only [decide_eq_true_eq, decide_eq_false_iff_not, Bool.not_eq_true', Bool.not_eq_false', Int.not_lt, Int.not_le, ne_eq, Decidable.not_not, Bool.or_eq_true, Bool.or_eq_false_iff, Bool.and_eq_true, Bool.and_eq_false_imp] at hg20
        omega
      · clear hF; intro hg20 hF   -- slot 20 false
        try simp only [decide_eq_true_eq, decide_eq_false_iff_not, Bool.not_eq_true', Bool.not_eq_false', Int.not_lt, Int.not_le, ne_eq, Decidable.not_not, Bool.or_eq_true, Bool.or_eq_false_iff, Bool.and_eq_true, Bool.and_eq_false_imp] at hg20
        refine s_pu hF rfl rfl rfl (pu_move (hF.ev rfl)) ?_; clear hF; intro a hF
        refine s_pu hF rfl rfl rfl (pu_gtr (hF.ev rfl) (hF.ev rfl)) ?_; clear hF; intro a hF
        refine s_pu hF rfl rfl rfl ((by exact pu_pick_f (hF.ev rfl) (hF.ev rfl))) ?_; clear hF; intro a hF
        refine s_pu hF rfl rfl rfl (pu_move (hF.ev rfl)) ?_; clear hF; intro a hF
        refine fr_split hF (t := 24) rfl ?_ ?_
        · clear hF; intro hg24 hF   -- slot 24 true
          try simp only [decide_eq_true_eq, decide_eq_false_iff_not, Bool.not_eq_true', Bool.not_eq_false', Int.not_lt, Int.not_le, ne_eq, Decidable.not_not, Bool.or_eq_true, Bool.or_eq_false_iff, Bool.and_eq_true, Bool.and_eq_false_imp] at hg24
          omega
        · clear hF; intro hg24 hF   -- slot 24 false
          try simp only [decide_eq_true_eq, decide_eq_false_iff_not, Bool.not_eq_true', Bool.not_eq_false', Int.not_lt, Int.not_le, ne_eq, Decidable.not_not, Bool.or_eq_true, Bool.or_eq_false_iff, Bool.and_eq_true, Bool.and_eq_false_imp] at hg24
          refine s_pu hF rfl rfl rfl (pu_move (hF.ev rfl)) ?_; clear hF; intro a hF
          refine s_pu hF rfl rfl rfl (pu_lss (hF.ev rfl) (hF.ev rfl)) ?_; clear hF; intro a hF
          refine s_pu hF rfl rfl rfl ((by exact pu_pick_f (hF.ev rfl) (hF.ev rfl))) ?_; clear hF; intro a hF
          refine s_pu hF rfl rfl rfl (pu_move (hF.ev rfl)) ?_; clear hF; intro a hF
          refine fr_split hF (t := 28) rfl ?_ ?_
          · clear hF; intro hg28 hF   -- slot 28 true
            try simp only [decide_eq_true_eq, decide_eq_false_iff_not, Bool.not_eq_true', Bool.not_eq_false', Int.not_lt, Int.not_le, ne_eq, Decidable.not_not, Bool.or_eq_true, Bool.or_eq_false_iff, Bool.and_eq_true, Bool.and_eq_false_imp] at hg28
            omega
          · clear hF; intro hg28 hF   -- slot 28 false
            try simp only [decide_eq_true_eq, decide_eq_false_iff_not, Bool.not_eq_true', Bool.not_eq_false', Int.not_lt, Int.not_le, ne_eq, Decidable.not_not, Bool.or_eq_true, Bool.or_eq_false_iff, Bool.and_eq_true, Bool.and_eq_false_imp] at hg28
            refine s_pu hF rfl rfl rfl (pu_move (hF.ev rfl)) ?_; clear hF; intro a hF
            refine s_pu hF rfl rfl rfl (pu_gtr (hF.ev rfl) (hF.ev rfl)) ?_; clear hF; intro a hF
            refine s_pu hF rfl rfl rfl ((by exact pu_pick_f (hF.ev rfl) (hF.ev rfl))) ?_; clear hF; intro a hF
            refine s_done ?_
            refine hK2 _ _ ?_; clear hK2
            refine wp_cond_split (hF.ev rfl) (fun hc0 => ?_) (fun hc0 => ?_)
            · -- cond 0 true
              try simp only [decide_eq_true_eq, decide_eq_false_iff_not, Bool.not_eq_true', Bool.not_eq_false', Int.not_lt, Int.not_le, ne_eq, Decidable.not_not, Bool.or_eq_true, Bool.or_eq_false_iff, Bool.and_eq_true, Bool.and_eq_false_imp] at hc0
              omega
            · -- cond 0 false
              try simp only [decide_eq_true_eq, decide_eq_false_iff_not, Bool.not_eq_true', Bool.not_eq_false', Int.not_lt, Int.not_le, ne_eq, Decidable.not_not, Bool.or_eq_true, Bool.or_eq_false_iff, Bool.and_eq_true, Bool.and_eq_false_imp] at hc0
              refine wp_skip ?_
              refine hK1 _ _ ?_; clear hK1
              refine wp_seq_k fun K3 hK3 => ?_
              refine wp_region_lit ?_
              refine s_en hF rfl rfl rfl (run_fn fk30 (hF.ev rfl) (hF.evs rfl)) (wNew_i (n := 256) hS (by omega) (by omega)) ?_
              clear hS; rintro e w ⟨gw, rfl, hS⟩
              refine ⟨_, rfl, ?_⟩; clear hF; intro a hF
              refine s_pu hF rfl rfl rfl (pu_move (hF.ev rfl)) ?_; clear hF; intro a hF
              refine s_pu hF rfl rfl rfl (pu_extract (hF.ev rfl) rfl) ?_; clear hF; intro a hF
              refine s_pu hF rfl rfl rfl (pu_extract (hF.ev rfl) rfl) ?_; clear hF; intro a hF
              refine s_pu hF rfl rfl rfl (pu_assign (hF.ev rfl)) ?_; clear hF; intro a hF
              refine s_pu hF rfl rfl rfl (pu_assign (hF.ev rfl)) ?_; clear hF; intro a hF
              refine s_done ?_
              refine hK3 _ _ ?_; clear hK3
              refine wp_seq_k fun K4 hK4 => ?_
              refine wp_seq_k fun K5 hK5 => ?_
              refine wp_region_lit ?_
              refine s_pu hF rfl rfl rfl (pu_move (hF.ev rfl)) ?_; clear hF; intro a hF
              refine s_pu hF rfl rfl rfl (pu_neq (hF.ev rfl) (hF.ev rfl)) ?_; clear hF; intro a hF
              refine s_done ?_
              refine hK5 _ _ ?_; clear hK5
              refine wp_cond_false (hF.ev rfl) ?_
              refine wp_skip ?_
              refine hK4 _ _ ?_; clear hK4
              refine wp_seq_k fun K6 hK6 => ?_
              refine wp_region_lit ?_
              refine s_pu hF rfl rfl rfl (pu_move (hF.ev rfl)) ?_; clear hF; intro a hF
              refine s_pu hF rfl rfl rfl (pu_move (hF.ev rfl)) ?_; clear hF; intro a hF
              refine s_pu hF rfl rfl rfl (pu_move (hF.ev rfl)) ?_; clear hF; intro a hF
              refine s_pu hF rfl rfl rfl (pu_move (hF.ev rfl)) ?_; clear hF; intro a hF
              refine s_newm (Value.int .i64) ptrV hF rfl rfl rfl ef_map hS ?_; clear hF hS; intro b43 w hS a hF
              refine s_newm PKey.val (Value.int .i64) hF rfl rfl rfl ef_map hS ?_; clear hF hS; intro b44 w hS a hF
              refine s_newm wayV (Value.int .i64) hF rfl rfl rfl ef_map hS ?_; clear hF hS; intro b45 w hS a hF
              refine s_pu hF rfl rfl rfl ((pu_build st91 (hF.evp rfl) rfl rfl : Pu _ _ _ (.agg #[_, _, _, _, _, _, _, _, _, _]))) ?_; clear hF; intro a hF
              refine s_newp hF rfl rfl rfl (ef_box (cs := #[_, _, _, _, _, _, _, _, _, _]) (hF.ev rfl) rfl) hS ?_; clear hF hS; intro b47 w hS a hF
              refine s_pu hF rfl rfl rfl (pu_assign (hF.ev rfl)) ?_; clear hF; intro a hF
              refine s_pu hF rfl rfl rfl (pu_assign (hF.ev rfl)) ?_; clear hF; intro a hF
              refine s_done ?_
              refine hK6 _ _ ?_; clear hK6
              refine wp_ret ?_
              refine fin2 Try.results8 hF rfl rfl ?_
              refine ⟨_, rfl, tab_bs.2 ⟨[], tab_shut (wg := gw) (km := b43) (kk := b44) (kw := b45) (hw := .slice none 0 0) (hl := .slice none 0 0) rfl ?_⟩⟩
              exact (row_nil (E := 3) (sz := 1) (row_nil (E := 3) (sz := 1) hS)).sel [2, 4, 3, 2]
theorem new_no {most timeout remember : Int} (hS : Sat w0 w F) (h : ¬ newOk most timeout remember) : Calls Try.prog 8 #[.int .i64 most, .int .i64 timeout, .int .i64 remember] w fun e w' => e = .returned (.tuple #[.pointer none, .int .i64 1]) ∧ Sat w0 w' F := by
  unfold newOk at h
  refine enter Try.func8 rfl Try.ntmps8 (Nat.le_of_ble_eq_true rfl) fun a hF => ?_
  refine wp_seq_k fun K0 hK0 => ?_
  refine wp_region_lit ?_
  refine s_pu hF rfl rfl rfl (pu_assign (hF.ev rfl)) ?_; clear hF; intro a hF
  refine s_pu hF rfl rfl rfl (pu_assign (hF.ev rfl)) ?_; clear hF; intro a hF
  refine s_done ?_
  refine hK0 _ _ ?_; clear hK0
  refine wp_seq_k fun K1 hK1 => ?_
  refine wp_seq_k fun K2 hK2 => ?_
  refine wp_region_lit ?_
  refine s_pu hF rfl rfl rfl (pu_move (hF.ev rfl)) ?_; clear hF; intro a hF
  refine s_pu hF rfl rfl rfl (pu_lss (hF.ev rfl) (hF.ev rfl)) ?_; clear hF; intro a hF
  refine s_pu hF rfl rfl rfl (pu_move (hF.ev rfl)) ?_; clear hF; intro a hF
  refine fr_split hF (t := 12) rfl ?_ ?_
  · clear hF; intro hg12 hF   -- slot 12 true
    try simp only [decide_eq_true_eq, decide_eq_false_iff_not, Bool.not_eq_true', Bool.not_eq_false', Int.not_lt, Int.not_le, ne_eq, Decidable.not_not, Bool.or_eq_true, Bool.or_eq_false_iff, Bool.and_eq_true, Bool.and_eq_false_imp] at hg12
    refine s_no hF rfl rfl rfl ?_; clear hF; intro a hF
    refine s_no hF rfl rfl rfl ?_; clear hF; intro a hF
    refine s_pu hF rfl rfl rfl ((by exact pu_pick_t (hF.ev rfl) (hF.ev rfl))) ?_; clear hF; intro a hF
    refine s_pu hF rfl rfl rfl (pu_move (hF.ev rfl)) ?_; clear hF; intro a hF
    refine s_no hF rfl rfl rfl ?_; clear hF; intro a hF
    refine s_no hF rfl rfl rfl ?_; clear hF; intro a hF
    refine s_pu hF rfl rfl rfl ((by exact pu_pick_t (hF.ev rfl) (hF.ev rfl))) ?_; clear hF; intro a hF
    refine s_pu hF rfl rfl rfl (pu_move (hF.ev rfl)) ?_; clear hF; intro a hF
    refine s_no hF rfl rfl rfl ?_; clear hF; intro a hF
    refine s_no hF rfl rfl rfl ?_; clear hF; intro a hF
    refine s_pu hF rfl rfl rfl ((by exact pu_pick_t (hF.ev rfl) (hF.ev rfl))) ?_; clear hF; intro a hF
    refine s_pu hF rfl rfl rfl (pu_move (hF.ev rfl)) ?_; clear hF; intro a hF
    refine s_no hF rfl rfl rfl ?_; clear hF; intro a hF
    refine s_no hF rfl rfl rfl ?_; clear hF; intro a hF
    refine s_pu hF rfl rfl rfl ((by exact pu_pick_t (hF.ev rfl) (hF.ev rfl))) ?_; clear hF; intro a hF
    refine s_pu hF rfl rfl rfl (pu_move (hF.ev rfl)) ?_; clear hF; intro a hF
    refine s_no hF rfl rfl rfl ?_; clear hF; intro a hF
    refine s_no hF rfl rfl rfl ?_; clear hF; intro a hF
    refine s_pu hF rfl rfl rfl ((by exact pu_pick_t (hF.ev rfl) (hF.ev rfl))) ?_; clear hF; intro a hF
    refine s_done ?_
    refine hK2 _ _ ?_; clear hK2
    refine wp_cond_true (hF.ev rfl) ?_
    refine wp_seq_k fun K3 hK3 => ?_
    refine wp_region_lit ?_
    refine s_pu hF rfl rfl rfl (pu_assign (hF.ev rfl)) ?_; clear hF; intro a hF
    refine s_pu hF rfl rfl rfl (pu_assign (hF.ev rfl)) ?_; clear hF; intro a hF
    refine s_done ?_
    refine hK3 _ _ ?_; clear hK3
    refine wp_ret ?_
    refine then_ret ?_
    refine fin2 Try.results8 hF rfl rfl ?_
    exact ⟨rfl, hS⟩
  · clear hF; intro hg12 hF   -- slot 12 false
    try simp only [decide_eq_true_eq, decide_eq_false_iff_not, Bool.not_eq_true', Bool.not_eq_false', Int.not_lt, Int.not_le, ne_eq, Decidable.not_not, Bool.or_eq_true, Bool.or_eq_false_iff, Bool.and_eq_true, Bool.and_eq_false_imp] at hg12
    refine s_pu hF rfl rfl rfl (pu_move (hF.ev rfl)) ?_; clear hF; intro a hF
    refine s_pu hF rfl rfl rfl (pu_gtr (hF.ev rfl) (hF.ev rfl)) ?_; clear hF; intro a hF
    refine s_pu hF rfl rfl rfl ((by exact pu_pick_f (hF.ev rfl) (hF.ev rfl))) ?_; clear hF; intro a hF
    refine s_pu hF rfl rfl rfl (pu_move (hF.ev rfl)) ?_; clear hF; intro a hF
    refine fr_split hF (t := 16) rfl ?_ ?_
    · clear hF; intro hg16 hF   -- slot 16 true
      try simp only [decide_eq_true_eq, decide_eq_false_iff_not, Bool.not_eq_true', Bool.not_eq_false', Int.not_lt, Int.not_le, ne_eq, Decidable.not_not, Bool.or_eq_true, Bool.or_eq_false_iff, Bool.and_eq_true, Bool.and_eq_false_imp] at hg16
      refine s_no hF rfl rfl rfl ?_; clear hF; intro a hF
      refine s_no hF rfl rfl rfl ?_; clear hF; intro a hF
      refine s_pu hF rfl rfl rfl ((by exact pu_pick_t (hF.ev rfl) (hF.ev rfl))) ?_; clear hF; intro a hF
      refine s_pu hF rfl rfl rfl (pu_move (hF.ev rfl)) ?_; clear hF; intro a hF
      refine s_no hF rfl rfl rfl ?_; clear hF; intro a hF
      refine s_no hF rfl rfl rfl ?_; clear hF; intro a hF
      refine s_pu hF rfl rfl rfl ((by exact pu_pick_t (hF.ev rfl) (hF.ev rfl))) ?_; clear hF; intro a hF
      refine s_pu hF rfl rfl rfl (pu_move (hF.ev rfl)) ?_; clear hF; intro a hF
      refine s_no hF rfl rfl rfl ?_; clear hF; intro a hF
      refine s_no hF rfl rfl rfl ?_; clear hF; intro a hF
      refine s_pu hF rfl rfl rfl ((by exact pu_pick_t (hF.ev rfl) (hF.ev rfl))) ?_; clear hF; intro a hF
      refine s_pu hF rfl rfl rfl (pu_move (hF.ev rfl)) ?_; clear hF; intro a hF
      refine s_no hF rfl rfl rfl ?_; clear hF; intro a hF
      refine s_no hF rfl rfl rfl ?_; clear hF; intro a hF
      refine s_pu hF rfl rfl rfl ((by exact pu_pick_t (hF.ev rfl) (hF.ev rfl))) ?_; clear hF; intro a hF
      refine s_done ?_
      refine hK2 _ _ ?_; clear hK2
      refine wp_cond_true (hF.ev rfl) ?_
      refine wp_seq_k fun K3 hK3 => ?_
      refine wp_region_lit ?_
      refine s_pu hF rfl rfl rfl (pu_assign (hF.ev rfl)) ?_; clear hF; intro a hF
      refine s_pu hF rfl rfl rfl (pu_assign (hF.ev rfl)) ?_; clear hF; intro a hF
      refine s_done ?_
      refine hK3 _ _ ?_; clear hK3
      refine wp_ret ?_
      refine then_ret ?_
      refine fin2 Try.results8 hF rfl rfl ?_
      exact ⟨rfl, hS⟩
    · clear hF; intro hg16 hF   -- slot 16 false
      try simp only [decide_eq_true_eq, decide_eq_false_iff_not, Bool.not_eq_true', Bool.not_eq_false', Int.not_lt, Int.not_le, ne_eq, Decidable.not_not, Bool.or_eq_true, Bool.or_eq_false_iff, Bool.and_eq_true, Bool.and_eq_false_imp] at hg16
      refine s_pu hF rfl rfl rfl (pu_move (hF.ev rfl)) ?_; clear hF; intro a hF
      refine s_pu hF rfl rfl rfl (pu_lss (hF.ev rfl) (hF.ev rfl)) ?_; clear hF; intro a hF
      refine s_pu hF rfl rfl rfl ((by exact pu_pick_f (hF.ev rfl) (hF.ev rfl))) ?_; clear hF; intro a hF
      refine s_pu hF rfl rfl rfl (pu_move (hF.ev rfl)) ?_; clear hF; intro a hF
      refine fr_split hF (t := 20) rfl ?_ ?_
      · clear hF; intro hg20 hF   -- slot 20 true
        try simp only [decide_eq_true_eq, decide_eq_false_iff_not, Bool.not_eq_true', Bool.not_eq_false', Int.not_lt, Int.not_le, ne_eq, Decidable.not_not, Bool.or_eq_true, Bool.or_eq_false_iff, Bool.and_eq_true, Bool.and_eq_false_imp] at hg20
        refine s_no hF rfl rfl rfl ?_; clear hF; intro a hF
        refine s_no hF rfl rfl rfl ?_; clear hF; intro a hF
        refine s_pu hF rfl rfl rfl ((by exact pu_pick_t (hF.ev rfl) (hF.ev rfl))) ?_; clear hF; intro a hF
        refine s_pu hF rfl rfl rfl (pu_move (hF.ev rfl)) ?_; clear hF; intro a hF
        refine s_no hF rfl rfl rfl ?_; clear hF; intro a hF
        refine s_no hF rfl rfl rfl ?_; clear hF; intro a hF
        refine s_pu hF rfl rfl rfl ((by exact pu_pick_t (hF.ev rfl) (hF.ev rfl))) ?_; clear hF; intro a hF
        refine s_pu hF rfl rfl rfl (pu_move (hF.ev rfl)) ?_; clear hF; intro a hF
        refine s_no hF rfl rfl rfl ?_; clear hF; intro a hF
        refine s_no hF rfl rfl rfl ?_; clear hF; intro a hF
        refine s_pu hF rfl rfl rfl ((by exact pu_pick_t (hF.ev rfl) (hF.ev rfl))) ?_; clear hF; intro a hF
        refine s_done ?_
        refine hK2 _ _ ?_; clear hK2
        refine wp_cond_true (hF.ev rfl) ?_
        refine wp_seq_k fun K3 hK3 => ?_
        refine wp_region_lit ?_
        refine s_pu hF rfl rfl rfl (pu_assign (hF.ev rfl)) ?_; clear hF; intro a hF
        refine s_pu hF rfl rfl rfl (pu_assign (hF.ev rfl)) ?_; clear hF; intro a hF
        refine s_done ?_
        refine hK3 _ _ ?_; clear hK3
        refine wp_ret ?_
        refine then_ret ?_
        refine fin2 Try.results8 hF rfl rfl ?_
        exact ⟨rfl, hS⟩
      · clear hF; intro hg20 hF   -- slot 20 false
        try simp only [decide_eq_true_eq, decide_eq_false_iff_not, Bool.not_eq_true', Bool.not_eq_false', Int.not_lt, Int.not_le, ne_eq, Decidable.not_not, Bool.or_eq_true, Bool.or_eq_false_iff, Bool.and_eq_true, Bool.and_eq_false_imp] at hg20
        refine s_pu hF rfl rfl rfl (pu_move (hF.ev rfl)) ?_; clear hF; intro a hF
        refine s_pu hF rfl rfl rfl (pu_gtr (hF.ev rfl) (hF.ev rfl)) ?_; clear hF; intro a hF
        refine s_pu hF rfl rfl rfl ((by exact pu_pick_f (hF.ev rfl) (hF.ev rfl))) ?_; clear hF; intro a hF
        refine s_pu hF rfl rfl rfl (pu_move (hF.ev rfl)) ?_; clear hF; intro a hF
        refine fr_split hF (t := 24) rfl ?_ ?_
        · clear hF; intro hg24 hF   -- slot 24 true
          try simp only [decide_eq_true_eq, decide_eq_false_iff_not, Bool.not_eq_true', Bool.not_eq_false', Int.not_lt, Int.not_le, ne_eq, Decidable.not_not, Bool.or_eq_true, Bool.or_eq_false_iff, Bool.and_eq_true, Bool.and_eq_false_imp] at hg24
          refine s_no hF rfl rfl rfl ?_; clear hF; intro a hF
          refine s_no hF rfl rfl rfl ?_; clear hF; intro a hF
          refine s_pu hF rfl rfl rfl ((by exact pu_pick_t (hF.ev rfl) (hF.ev rfl))) ?_; clear hF; intro a hF
          refine s_pu hF rfl rfl rfl (pu_move (hF.ev rfl)) ?_; clear hF; intro a hF
          refine s_no hF rfl rfl rfl ?_; clear hF; intro a hF
          refine s_no hF rfl rfl rfl ?_; clear hF; intro a hF
          refine s_pu hF rfl rfl rfl ((by exact pu_pick_t (hF.ev rfl) (hF.ev rfl))) ?_; clear hF; intro a hF
          refine s_done ?_
          refine hK2 _ _ ?_; clear hK2
          refine wp_cond_true (hF.ev rfl) ?_
          refine wp_seq_k fun K3 hK3 => ?_
          refine wp_region_lit ?_
          refine s_pu hF rfl rfl rfl (pu_assign (hF.ev rfl)) ?_; clear hF; intro a hF
          refine s_pu hF rfl rfl rfl (pu_assign (hF.ev rfl)) ?_; clear hF; intro a hF
          refine s_done ?_
          refine hK3 _ _ ?_; clear hK3
          refine wp_ret ?_
          refine then_ret ?_
          refine fin2 Try.results8 hF rfl rfl ?_
          exact ⟨rfl, hS⟩
        · clear hF; intro hg24 hF   -- slot 24 false
          try simp only [decide_eq_true_eq, decide_eq_false_iff_not, Bool.not_eq_true', Bool.not_eq_false', Int.not_lt, Int.not_le, ne_eq, Decidable.not_not, Bool.or_eq_true, Bool.or_eq_false_iff, Bool.and_eq_true, Bool.and_eq_false_imp] at hg24
          refine s_pu hF rfl rfl rfl (pu_move (hF.ev rfl)) ?_; clear hF; intro a hF
          refine s_pu hF rfl rfl rfl (pu_lss (hF.ev rfl) (hF.ev rfl)) ?_; clear hF; intro a hF
          refine s_pu hF rfl rfl rfl ((by exact pu_pick_f (hF.ev rfl) (hF.ev rfl))) ?_; clear hF; intro a hF
          refine s_pu hF rfl rfl rfl (pu_move (hF.ev rfl)) ?_; clear hF; intro a hF
          refine fr_split hF (t := 28) rfl ?_ ?_
          · clear hF; intro hg28 hF   -- slot 28 true
            try simp only [decide_eq_true_eq, decide_eq_false_iff_not, Bool.not_eq_true', Bool.not_eq_false', Int.not_lt, Int.not_le, ne_eq, Decidable.not_not, Bool.or_eq_true, Bool.or_eq_false_iff, Bool.and_eq_true, Bool.and_eq_false_imp] at hg28
            refine s_no hF rfl rfl rfl ?_; clear hF; intro a hF
            refine s_no hF rfl rfl rfl ?_; clear hF; intro a hF
            refine s_pu hF rfl rfl rfl ((by exact pu_pick_t (hF.ev rfl) (hF.ev rfl))) ?_; clear hF; intro a hF
            refine s_done ?_
            refine hK2 _ _ ?_; clear hK2
            refine wp_cond_true (hF.ev rfl) ?_
            refine wp_seq_k fun K3 hK3 => ?_
            refine wp_region_lit ?_
            refine s_pu hF rfl rfl rfl (pu_assign (hF.ev rfl)) ?_; clear hF; intro a hF
            refine s_pu hF rfl rfl rfl (pu_assign (hF.ev rfl)) ?_; clear hF; intro a hF
            refine s_done ?_
            refine hK3 _ _ ?_; clear hK3
            refine wp_ret ?_
            refine then_ret ?_
            refine fin2 Try.results8 hF rfl rfl ?_
            exact ⟨rfl, hS⟩
          · clear hF; intro hg28 hF   -- slot 28 false
            try simp only [decide_eq_true_eq, decide_eq_false_iff_not, Bool.not_eq_true', Bool.not_eq_false', Int.not_lt, Int.not_le, ne_eq, Decidable.not_not, Bool.or_eq_true, Bool.or_eq_false_iff, Bool.and_eq_true, Bool.and_eq_false_imp] at hg28
            refine s_pu hF rfl rfl rfl (pu_move (hF.ev rfl)) ?_; clear hF; intro a hF
            refine s_pu hF rfl rfl rfl (pu_gtr (hF.ev rfl) (hF.ev rfl)) ?_; clear hF; intro a hF
            refine s_pu hF rfl rfl rfl ((by exact pu_pick_f (hF.ev rfl) (hF.ev rfl))) ?_; clear hF; intro a hF
            refine s_done ?_
            refine hK2 _ _ ?_; clear hK2
            refine wp_cond_split (hF.ev rfl) (fun hc0 => ?_) (fun hc0 => ?_)
            · -- cond 0 true
              try simp only [decide_eq_true_eq, decide_eq_false_iff_not, Bool.not_eq_true', Bool.not_eq_false', Int.not_lt, Int.not_le, ne_eq, Decidable.not_not, Bool.or_eq_true, Bool.or_eq_false_iff, Bool.and_eq_true, Bool.and_eq_false_imp] at hc0
              refine wp_seq_k fun K3 hK3 => ?_
              refine wp_region_lit ?_
              refine s_pu hF rfl rfl rfl (pu_assign (hF.ev rfl)) ?_; clear hF; intro a hF
              refine s_pu hF rfl rfl rfl (pu_assign (hF.ev rfl)) ?_; clear hF; intro a hF
              refine s_done ?_
              refine hK3 _ _ ?_; clear hK3
              refine wp_ret ?_
              refine then_ret ?_
              refine fin2 Try.results8 hF rfl rfl ?_
              exact ⟨rfl, hS⟩
            · -- cond 0 false
              try simp only [decide_eq_true_eq, decide_eq_false_iff_not, Bool.not_eq_true', Bool.not_eq_false', Int.not_lt, Int.not_le, ne_eq, Decidable.not_not, Bool.or_eq_true, Bool.or_eq_false_iff, Bool.and_eq_true, Bool.and_eq_false_imp] at hc0
              omega
theorem len_c (hS : Sat w0 w (tabC k g T :: F)) : Calls Try.prog 11 #[.pointer (some ⟨g, 0, none⟩)] w fun e w' => e = .returned (.int .i64 (waitsL T.L).length) ∧ Sat w0 w' (tabC k g T :: F) := by
  obtain ⟨bs, hS⟩ := tab_bs.1 hS
  obtain ⟨wg, km, kk, kw, o, d, o', d', hb, hS⟩ := tab_open hS
  unfold tabO at hS
  simp only [List.cons_append, List.nil_append] at hS
  refine enter Try.func11 rfl Try.ntmps11 (Nat.le_of_ble_eq_true rfl) fun a hF => ?_
  refine wp_seq_k fun K0 hK0 => ?_
  refine wp_region_lit ?_
  refine s_pu hF rfl rfl rfl (pu_assign (hF.ev rfl)) ?_; clear hF; intro a hF
  refine s_done ?_
  refine hK0 _ _ ?_; clear hK0
  refine wp_seq_k fun K1 hK1 => ?_
  refine wp_region_lit ?_
  refine s_pu hF rfl rfl rfl (pu_move (hF.ev rfl)) ?_; clear hF; intro a hF
  refine s_pu hF rfl rfl rfl ((by exact pu_nil (hF.ev rfl))) ?_; clear hF; intro a hF
  refine s_pu hF rfl rfl rfl ((by exact pu_field fd91_8 (hF.ev rfl))) ?_; clear hF; intro a hF
  refine s_rd hF rfl rfl rfl (by exact rd_load pl22 (hF.ev rfl) (hS.cellL (i := 0) rfl rfl)) ?_; clear hF; intro a hF
  refine s_pu hF rfl rfl rfl (pu_len sl22 (hF.ev rfl)) ?_; clear hF; intro a hF
  refine s_pu hF rfl rfl rfl (pu_assign (hF.ev rfl)) ?_; clear hF; intro a hF
  refine s_done ?_
  refine hK1 _ _ ?_; clear hK1
  refine wp_ret ?_
  refine fin1 Try.results11 hF rfl ?_
  exact ⟨rfl, tab_bs.2 ⟨bs, tab_shut hb hS⟩⟩
theorem late_c (hS : Sat w0 w (tabC k g T :: F)) : Calls Try.prog 20 #[.pointer (some ⟨g, 0, none⟩)] w fun e w' => e = .returned (.int .i64 (latesL T.L).length) ∧ Sat w0 w' (tabC k g T :: F) := by
  obtain ⟨bs, hS⟩ := tab_bs.1 hS
  obtain ⟨wg, km, kk, kw, o, d, o', d', hb, hS⟩ := tab_open hS
  unfold tabO at hS
  simp only [List.cons_append, List.nil_append] at hS
  refine enter Try.func20 rfl Try.ntmps20 (Nat.le_of_ble_eq_true rfl) fun a hF => ?_
  refine wp_seq_k fun K0 hK0 => ?_
  refine wp_region_lit ?_
  refine s_pu hF rfl rfl rfl (pu_assign (hF.ev rfl)) ?_; clear hF; intro a hF
  refine s_done ?_
  refine hK0 _ _ ?_; clear hK0
  refine wp_seq_k fun K1 hK1 => ?_
  refine wp_region_lit ?_
  refine s_pu hF rfl rfl rfl (pu_move (hF.ev rfl)) ?_; clear hF; intro a hF
  refine s_pu hF rfl rfl rfl ((by exact pu_nil (hF.ev rfl))) ?_; clear hF; intro a hF
  refine s_pu hF rfl rfl rfl ((by exact pu_field fd91_9 (hF.ev rfl))) ?_; clear hF; intro a hF
  refine s_rd hF rfl rfl rfl (by exact rd_load pl22 (hF.ev rfl) (hS.cellL (i := 0) rfl rfl)) ?_; clear hF; intro a hF
  refine s_pu hF rfl rfl rfl (pu_len sl22 (hF.ev rfl)) ?_; clear hF; intro a hF
  refine s_pu hF rfl rfl rfl (pu_assign (hF.ev rfl)) ?_; clear hF; intro a hF
  refine s_done ?_
  refine hK1 _ _ ?_; clear hK1
  refine wp_ret ?_
  refine fin1 Try.results20 hF rfl ?_
  exact ⟨rfl, tab_bs.2 ⟨bs, tab_shut hb hS⟩⟩
theorem has_c {q : PKey} (hS : Sat w0 w (tabC k g T :: F)) : Calls Try.prog 15 #[.pointer (some ⟨g, 0, none⟩), q.val] w fun e w' => e = .returned (.bool (mGet (keysL T.L) q).isSome) ∧ Sat w0 w' (tabC k g T :: F) := by
  obtain ⟨bs, hS⟩ := tab_bs.1 hS
  obtain ⟨wg, km, kk, kw, o, d, o', d', hb, hS⟩ := tab_open hS
  unfold tabO at hS
  simp only [List.cons_append, List.nil_append] at hS
  unfold PKey.val PKey.sc
  simp only [List.map_cons, List.map_nil, Sc.val]
  refine enter Try.func15 rfl Try.ntmps15 (Nat.le_of_ble_eq_true rfl) fun a hF => ?_
  refine wp_seq_k fun K0 hK0 => ?_
  refine wp_region_lit ?_
  refine s_newp hF rfl rfl rfl (ef_box (cs := #[_, _, _, _, _]) (hF.ev rfl) rfl) hS ?_; clear hF hS; intro b3 w hS a hF
  refine s_pu hF rfl rfl rfl (pu_assign (hF.ev rfl)) ?_; clear hF; intro a hF
  refine s_done ?_
  refine hK0 _ _ ?_; clear hK0
  refine wp_seq_k fun K1 hK1 => ?_
  rcases hm : mGet (keysL T.L) q with _ | v
  · -- none
    refine d_start (S := (fun w => Sat w0 w _)) (ds := []) (ord := [(0, .pu), (1, .pu), (2, .pu), (3, .tk), (4, .tk), (5, .tk), (6, .pu), (7, .pu), (8, .pu), (9, .pu), (10, .pu)]) mixed ⟨by kernel_rfl, fun _ d _ _ _ h => by cases d <;> exact h⟩ hS.drew fun hD => ?_
    replace hS := hS.drew; generalize w.drew = w at hS ⊢
    refine d_pu hD hF rfl rfl rfl rfl rfl (pu_move (hF.ev rfl)) ?_; clear hF; intro a hF
    refine d_pu hD hF rfl rfl rfl rfl rfl ((by exact pu_nil (hF.ev rfl))) ?_; clear hF; intro a hF
    refine d_pu hD hF rfl rfl rfl rfl rfl ((by exact pu_field fd91_6 (hF.ev rfl))) ?_; clear hF; intro a hF
    refine d_rd hD hF rfl rfl rfl rfl rfl hS (fun w hS => (by exact rd_load pl88 (hF.ev rfl) (hS.cellL (i := 1) rfl rfl))) ?_; clear hF; intro a hF
    refine d_rd hD hF rfl rfl rfl rfl rfl hS (fun w hS => (by exact rd_loadB (i := 0) (vs := [_, _, _, _, _]) ag30 (hF.ev rfl) hS rfl rfl)) ?_; clear hF; intro a hF
    refine d_rd hD hF rfl rfl rfl rfl rfl hS (fun w hS => by exact rd_look_n (x := q) 3 keys30 Try.underlying88 ze3 (hF.ev rfl) (hF.ev rfl) hS rfl hm) ?_; clear hF; intro a hF
    refine d_pu hD hF rfl rfl rfl rfl rfl (pu_move (hF.ev rfl)) ?_; clear hF; intro a hF
    refine d_pu hD hF rfl rfl rfl rfl rfl (pu_extract (hF.ev rfl) rfl) ?_; clear hF; intro a hF
    refine d_pu hD hF rfl rfl rfl rfl rfl (pu_extract (hF.ev rfl) rfl) ?_; clear hF; intro a hF
    refine d_pu hD hF rfl rfl rfl rfl rfl (pu_assign (hF.ev rfl)) ?_; clear hF; intro a hF
    refine d_pu hD hF rfl rfl rfl rfl rfl (pu_assign (hF.ev rfl)) ?_; clear hF; intro a hF
    refine d_done hD rfl ?_; clear hD
    refine hK1 _ _ ?_; clear hK1
    refine wp_seq_k fun K2 hK2 => ?_
    refine wp_region_lit ?_
    refine s_pu hF rfl rfl rfl (pu_move (hF.ev rfl)) ?_; clear hF; intro a hF
    refine s_pu hF rfl rfl rfl (pu_assign (hF.ev rfl)) ?_; clear hF; intro a hF
    refine s_done ?_
    refine hK2 _ _ ?_; clear hK2
    refine wp_ret ?_
    refine fin1 Try.results15 hF rfl ?_
    exact ⟨by rw [hm]; rfl, tab_bs.2 ⟨bs, tab_shut hb hS.tail⟩⟩
  · -- some
    refine d_start (S := (fun w => Sat w0 w _)) (ds := []) (ord := [(0, .pu), (1, .pu), (2, .pu), (3, .tk), (4, .tk), (5, .tk), (6, .pu), (7, .pu), (8, .pu), (9, .pu), (10, .pu)]) mixed ⟨by kernel_rfl, fun _ d _ _ _ h => by cases d <;> exact h⟩ hS.drew fun hD => ?_
    replace hS := hS.drew; generalize w.drew = w at hS ⊢
    refine d_pu hD hF rfl rfl rfl rfl rfl (pu_move (hF.ev rfl)) ?_; clear hF; intro a hF
    refine d_pu hD hF rfl rfl rfl rfl rfl ((by exact pu_nil (hF.ev rfl))) ?_; clear hF; intro a hF
    refine d_pu hD hF rfl rfl rfl rfl rfl ((by exact pu_field fd91_6 (hF.ev rfl))) ?_; clear hF; intro a hF
    refine d_rd hD hF rfl rfl rfl rfl rfl hS (fun w hS => (by exact rd_load pl88 (hF.ev rfl) (hS.cellL (i := 1) rfl rfl))) ?_; clear hF; intro a hF
    refine d_rd hD hF rfl rfl rfl rfl rfl hS (fun w hS => (by exact rd_loadB (i := 0) (vs := [_, _, _, _, _]) ag30 (hF.ev rfl) hS rfl rfl)) ?_; clear hF; intro a hF
    refine d_rd hD hF rfl rfl rfl rfl rfl hS (fun w hS => by exact rd_look_s (x := q) 3 keys30 Try.underlying88 ze3 (hF.ev rfl) (hF.ev rfl) hS rfl hm) ?_; clear hF; intro a hF
    refine d_pu hD hF rfl rfl rfl rfl rfl (pu_move (hF.ev rfl)) ?_; clear hF; intro a hF
    refine d_pu hD hF rfl rfl rfl rfl rfl (pu_extract (hF.ev rfl) rfl) ?_; clear hF; intro a hF
    refine d_pu hD hF rfl rfl rfl rfl rfl (pu_extract (hF.ev rfl) rfl) ?_; clear hF; intro a hF
    refine d_pu hD hF rfl rfl rfl rfl rfl (pu_assign (hF.ev rfl)) ?_; clear hF; intro a hF
    refine d_pu hD hF rfl rfl rfl rfl rfl (pu_assign (hF.ev rfl)) ?_; clear hF; intro a hF
    refine d_done hD rfl ?_; clear hD
    refine hK1 _ _ ?_; clear hK1
    refine wp_seq_k fun K2 hK2 => ?_
    refine wp_region_lit ?_
    refine s_pu hF rfl rfl rfl (pu_move (hF.ev rfl)) ?_; clear hF; intro a hF
    refine s_pu hF rfl rfl rfl (pu_assign (hF.ev rfl)) ?_; clear hF; intro a hF
    refine s_done ?_
    refine hK2 _ _ ?_; clear hK2
    refine wp_ret ?_
    refine fin1 Try.results15 hF rfl ?_
    exact ⟨by rw [hm]; rfl, tab_bs.2 ⟨bs, tab_shut hb hS.tail⟩⟩
end short
end Go.Proofs.Ytbfdebddoncfhaa
