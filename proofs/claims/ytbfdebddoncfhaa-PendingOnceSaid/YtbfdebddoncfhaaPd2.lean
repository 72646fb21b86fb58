import Derived.Test.YtbfdebddoncfhaaPd1
/-! Pending: a list without a number; the keys of the maps. -/
namespace Go.Proofs.Ytbfdebddoncfhaa
open Go Go.RowKit Go.Proofs.Ytbfdebddoncfhaa.Sk
set_option linter.unusedVariables false
set_option linter.unusedSimpArgs false
set_option maxRecDepth 100000

def lack (n : Int) (zs : List Int) : List Int := zs.filter fun x => !decide (x = n)
theorem lack_all {n : Int} {zs : List Int} (h : ∀ z ∈ zs, z ≠ n) : lack n zs = zs := List.filter_eq_self.2 fun z hz => by simpa using h z hz
theorem lack_snoc {n : Int} {zs : List Int} {m : Nat} (h : m < zs.length) : lack n (zs.take (m + 1)) = lack n (zs.take m) ++ (if zs.getD m 0 = n then [] else [zs.getD m 0]) := by
  unfold lack
  have e : zs.getD m 0 = zs[m] := by simp [List.getD_eq_getElem?_getD, h]
  rw [List.take_add_one, List.getElem?_eq_getElem h, List.filter_append, e]
  congr 1
  by_cases hx : zs[m] = n <;> simp [hx]
theorem ints_set {ys : List Int} {i : Nat} {x : Int} : (ints ys).set i (.int .i64 x) = ints (ys.set i x) := by
  unfold ints
  rw [List.map_set]
theorem getD_drop {ys zs : List Int} {m : Nat} (h : ys.drop m = zs.drop m) : ys.getD m 0 = zs.getD m 0 := by
  have : (ys.drop m)[0]? = (zs.drop m)[0]? := by rw [h]
  simp only [List.getElem?_drop, Nat.add_zero] at this
  rw [List.getD_eq_getElem?_getD, List.getD_eq_getElem?_getD, this]
theorem delete_c {w0 w : World} {C : List Chunk} {b c : Nat} {A : Option Addr} {zs : List Int} {n : Int} (hS : Sat w0 w (.obj b (.cells #[.int .i64 n] 3 (0, 0)) :: rowC 3 1 (.slice A zs.length c) zs.length (ints zs) :: C)) (hlen : zs.length ≤ 140737488355328) :
    Calls Try.prog 53 #[.slice A zs.length c, .func (.func 54) #[] #[.pointer (some ⟨b, 0, none⟩)]] w fun e w' => ∃ A' c', e = .returned (.slice A' (lack n zs).length c') ∧
      Sat w0 w' (.obj b (.cells #[.int .i64 n] 3 (0, 0)) :: rowC 3 1 (.slice A' (lack n zs).length c') (lack n zs).length (ints (lack n zs)) :: C) := by
  refine enter Try.func53 rfl Try.ntmps53 (Nat.le_of_ble_eq_true rfl) fun a hF => ?_
  refine wp_seq_k fun K0 hK0 => ?_
  refine wp_region_lit ?_
  refine s_pu hF rfl rfl rfl (pu_assign (hF.ev rfl)) ?_; clear hF; intro a hF
  refine s_done ?_
  refine hK0 _ _ ?_; clear hK0
  refine wp_seq_k fun K1 hK1 => ?_
  refine wp_region_lit ?_
  refine s_pu hF rfl rfl rfl (pu_move (hF.ev rfl)) ?_; clear hF; intro a hF
  refine s_pu hF rfl rfl rfl (pu_move (hF.ev rfl)) ?_; clear hF; intro a hF
  refine s_en hF rfl rfl rfl (run_fn fk68 (hF.ev rfl) (hF.evs rfl)) (index_c hS hlen) ?_
  clear hS; rintro e w ⟨i, rfl, hi, hS⟩
  refine ⟨_, rfl, ?_⟩; clear hF; intro a hF
  refine s_pu hF rfl rfl rfl (pu_assign (hF.ev rfl)) ?_; clear hF; intro a hF
  refine s_done ?_
  refine hK1 _ _ ?_; clear hK1
  refine wp_seq_k fun K2 hK2 => ?_
  refine wp_seq_k fun K3 hK3 => ?_
  refine wp_region_lit ?_
  refine s_pu hF rfl rfl rfl (pu_move (hF.ev rfl)) ?_; clear hF; intro a hF
  refine s_pu hF rfl rfl rfl (pu_eql (hF.ev rfl) (hF.ev rfl)) ?_; clear hF; intro a hF
  refine s_done ?_
  refine hK3 _ _ ?_; clear hK3
  refine wp_cond_split (hF.ev rfl) (fun hc0 => ?_) (fun hc0 => ?_)
  · -- cond 0 true
    try simp only [decide_eq_true_eq, decide_eq_false_iff_not, Bool.not_eq_true', Bool.not_eq_false', Int.not_lt, Int.not_le, ne_eq, Decidable.not_not, Bool.or_eq_true, Bool.or_eq_false_iff, Bool.and_eq_true, Bool.and_eq_false_imp] at hc0
    refine wp_seq_k fun K4 hK4 => ?_
    refine wp_region_lit ?_
    refine s_pu hF rfl rfl rfl (pu_move (hF.ev rfl)) ?_; clear hF; intro a hF
    refine s_pu hF rfl rfl rfl (pu_assign (hF.ev rfl)) ?_; clear hF; intro a hF
    refine s_done ?_
    refine hK4 _ _ ?_; clear hK4
    refine wp_ret ?_
    refine then_ret ?_
    refine fin1 Try.results53 hF rfl ?_
    obtain ⟨_, hno⟩ | ⟨k, rfl, _⟩ := hi
    · rw [lack_all hno]
      exact ⟨_, _, rfl, hS⟩
    · omega
  · -- cond 0 false
    try simp only [decide_eq_true_eq, decide_eq_false_iff_not, Bool.not_eq_true', Bool.not_eq_false', Int.not_lt, Int.not_le, ne_eq, Decidable.not_not, Bool.or_eq_true, Bool.or_eq_false_iff, Bool.and_eq_true, Bool.and_eq_false_imp] at hc0
    obtain ⟨k, rfl, hk, hkn, hno⟩ : ∃ k : Nat, i = k ∧ k < zs.length ∧ zs.getD k 0 = n ∧ ∀ z ∈ zs.take k, z ≠ n := by
      rcases hi with ⟨h, _⟩ | h
      · exact absurd h hc0
      · exact h
    clear hi
    refine wp_skip ?_
    refine hK2 _ _ ?_; clear hK2
    refine wp_seq_k fun K4 hK4 => ?_
    refine wp_seq_k fun K5 hK5 => ?_
    refine wp_region_lit ?_
    refine s_pu hF rfl rfl rfl (pu_move (hF.ev rfl)) ?_; clear hF; intro a hF
    refine s_pu hF rfl rfl rfl ((by exact pu_add64 (hF.ev rfl) (hF.ev rfl) (by omega))) ?_; clear hF; intro a hF
    refine s_pu hF rfl rfl rfl (pu_assign (hF.ev rfl)) ?_; clear hF; intro a hF
    refine s_done ?_
    refine hK5 _ _ ?_; clear hK5
    refine wp_block ?_
    refine wp_ind (fun j a w => ∃ (m i : Nat) (ys : List Int), j = zs.length - m ∧ m ≤ zs.length ∧ i < m ∧ ys.length = zs.length ∧ i = (lack n (zs.take m)).length ∧ ys.take i = lack n (zs.take m) ∧ ys.drop m = zs.drop m ∧
      Fr a 42 [(0, .slice A zs.length c), (1, .func (.func 54) #[] #[.pointer (some ⟨b, 0, none⟩)]), (5, .int .i64 i), (6, .int .i64 m)] ∧
      Sat w0 w (.obj b (.cells #[.int .i64 n] 3 (0, 0)) :: rowC 3 1 (.slice A zs.length c) zs.length (ints ys) :: C)) (zs.length - (k + 1)) ?_ ?_
    · have e1 : lack n (zs.take (k + 1)) = zs.take k := by rw [lack_snoc hk, if_pos hkn, List.append_nil, lack_all hno]
      refine ⟨k + 1, k, zs, rfl, by omega, by omega, rfl, ?_, ?_, rfl, hF.sub ⟨rfl, rfl, rfl, rfl, trivial⟩, hS⟩
      · rw [e1, List.length_take]; omega
      · rw [e1]
    clear hS hF
    rintro j a w ⟨m, i, ys, rfl, hm, him, hys, hi, ht, hd, hF, hS⟩
    refine wp_seq_k fun K6 hK6 => ?_
    refine wp_seq_k fun K7 hK7 => ?_
    refine wp_region_lit ?_
    refine s_pu hF rfl rfl rfl (pu_move (hF.ev rfl)) ?_; clear hF; intro a hF
    refine s_pu hF rfl rfl rfl (pu_move (hF.ev rfl)) ?_; clear hF; intro a hF
    refine s_pu hF rfl rfl rfl (pu_len sl22 (hF.ev rfl)) ?_; clear hF; intro a hF
    refine s_pu hF rfl rfl rfl (pu_lss (hF.ev rfl) (hF.ev rfl)) ?_; clear hF; intro a hF
    refine s_done ?_
    refine hK7 _ _ ?_; clear hK7
    refine wp_cond_split (hF.ev rfl) (fun hc1 => ?_) (fun hc1 => ?_)
    · -- cond 1 true
      try simp only [decide_eq_true_eq, decide_eq_false_iff_not, Bool.not_eq_true', Bool.not_eq_false', Int.not_lt, Int.not_le, ne_eq, Decidable.not_not, Bool.or_eq_true, Bool.or_eq_false_iff, Bool.and_eq_true, Bool.and_eq_false_imp] at hc1
      have hml : m < zs.length := by omega
      obtain ⟨g, rfl⟩ := row_some (i := 1) hS rfl (by omega)
      have hv := row_at (i := 1) hS rfl (ints_at (zs := ys) (i := m) (by omega))
      have hil : i < zs.length := by omega
      rw [getD_drop hd] at hv
      have hsn := lack_snoc (n := n) hml
      refine wp_skip ?_
      refine hK6 _ _ ?_; clear hK6
      refine wp_seq_k fun K8 hK8 => ?_
      refine wp_block ?_
      refine wp_seq_k fun K9 hK9 => ?_
      refine wp_region_lit ?_
      refine s_pu hF rfl rfl rfl (pu_move (hF.ev rfl)) ?_; clear hF; intro a hF
      refine s_pu hF rfl rfl rfl (pu_move (hF.ev rfl)) ?_; clear hF; intro a hF
      refine s_pu hF rfl rfl rfl ((by exact pu_elem sl22 (hF.ev rfl) (hF.ev rfl) (by omega) (by omega))) ?_; clear hF; intro a hF
      refine s_rd hF rfl rfl rfl (by exact rd_load pl3 (hF.ev rfl) (by assumption)) ?_; clear hF; intro a hF
      refine s_pu hF rfl rfl rfl (pu_assign (hF.ev rfl)) ?_; clear hF; intro a hF
      refine s_done ?_
      refine hK9 _ _ ?_; clear hK9
      refine wp_seq_k fun K10 hK10 => ?_
      refine wp_region_lit ?_
      refine s_pu hF rfl rfl rfl (pu_move (hF.ev rfl)) ?_; clear hF; intro a hF
      refine s_pu hF rfl rfl rfl (pu_move (hF.ev rfl)) ?_; clear hF; intro a hF
      refine s_en hF rfl rfl rfl (run_fn fk54 (hF.ev rfl) (hF.evs rfl)) (isn_c hS) ?_
      clear hS; rintro e w ⟨rfl, hS⟩
      refine ⟨_, rfl, ?_⟩; clear hF; intro a hF
      refine s_pu hF rfl rfl rfl (pu_not (hF.ev rfl)) ?_; clear hF; intro a hF
      refine s_done ?_
      refine hK10 _ _ ?_; clear hK10
      refine wp_cond_split (hF.ev rfl) (fun hc2 => ?_) (fun hc2 => ?_)
      · -- cond 2 true
        try simp only [decide_eq_true_eq, decide_eq_false_iff_not, Bool.not_eq_true', Bool.not_eq_false', Int.not_lt, Int.not_le, ne_eq, Decidable.not_not, Bool.or_eq_true, Bool.or_eq_false_iff, Bool.and_eq_true, Bool.and_eq_false_imp] at hc2
        refine wp_seq_k fun K11 hK11 => ?_
        refine wp_region_lit ?_
        refine s_pu hF rfl rfl rfl (pu_move (hF.ev rfl)) ?_; clear hF; intro a hF
        refine s_pu hF rfl rfl rfl (pu_move (hF.ev rfl)) ?_; clear hF; intro a hF
        refine s_pu hF rfl rfl rfl (pu_move (hF.ev rfl)) ?_; clear hF; intro a hF
        refine s_pu hF rfl rfl rfl ((by exact pu_elem sl22 (hF.ev rfl) (hF.ev rfl) (by omega) (by omega))) ?_; clear hF; intro a hF
        ((refine s_rstore 1 hF rfl (hF.ev rfl) (hF.ev rfl) hS rfl sz3 rfl (by omega) ?_))
        clear hS; intro w hS; (try simp only [upd, del] at hS)
        refine s_done ?_
        refine hK11 _ _ ?_; clear hK11
        refine wp_region_lit ?_
        refine s_pu hF rfl rfl rfl (pu_move (hF.ev rfl)) ?_; clear hF; intro a hF
        refine s_pu hF rfl rfl rfl ((by exact pu_add64 (hF.ev rfl) (hF.ev rfl) (by omega))) ?_; clear hF; intro a hF
        refine s_pu hF rfl rfl rfl (pu_assign (hF.ev rfl)) ?_; clear hF; intro a hF
        refine s_done ?_
        refine blk_normal ?_
        refine hK8 _ _ ?_; clear hK8
        refine wp_region_lit ?_
        refine s_pu hF rfl rfl rfl (pu_move (hF.ev rfl)) ?_; clear hF; intro a hF
        refine s_pu hF rfl rfl rfl ((by exact pu_add64 (hF.ev rfl) (hF.ev rfl) (by omega))) ?_; clear hF; intro a hF
        refine s_pu hF rfl rfl rfl (pu_assign (hF.ev rfl)) ?_; clear hF; intro a hF
        refine s_done ?_
        first
          | (rw [if_pos hc2, List.append_nil] at hsn
             refine ⟨_, by omega, m + 1, i, ys, rfl, by omega, by omega, hys, by rw [hsn]; exact hi, by rw [hsn]; exact ht, ?_, hF.sub ⟨rfl, rfl, rfl, rfl, trivial⟩, hS⟩
             rw [← List.drop_drop, hd, List.drop_drop])
          | (rw [if_neg hc2] at hsn
             rw [ints_set] at hS
             have htl : (ys.take i).length = i := by rw [List.length_take]; omega
             refine ⟨_, by omega, m + 1, i + 1, ys.set i (zs.getD m 0), rfl, by omega, by omega, by rw [List.length_set]; exact hys, by rw [hsn, List.length_append, ← hi]; rfl, ?_, ?_, hF.sub ⟨rfl, rfl, rfl, rfl, trivial⟩, hS⟩
             · rw [hsn, ← ht, List.take_add_one, List.getElem?_set_self (by omega), List.take_set_of_le (Nat.le_refl i)]; rfl
             · rw [List.drop_set_of_lt (by omega), ← List.drop_drop, hd, List.drop_drop])
      · -- cond 2 false
        try simp only [decide_eq_true_eq, decide_eq_false_iff_not, Bool.not_eq_true', Bool.not_eq_false', Int.not_lt, Int.not_le, ne_eq, Decidable.not_not, Bool.or_eq_true, Bool.or_eq_false_iff, Bool.and_eq_true, Bool.and_eq_false_imp] at hc2
        refine wp_skip ?_
        refine blk_normal ?_
        refine hK8 _ _ ?_; clear hK8
        refine wp_region_lit ?_
        refine s_pu hF rfl rfl rfl (pu_move (hF.ev rfl)) ?_; clear hF; intro a hF
        refine s_pu hF rfl rfl rfl ((by exact pu_add64 (hF.ev rfl) (hF.ev rfl) (by omega))) ?_; clear hF; intro a hF
        refine s_pu hF rfl rfl rfl (pu_assign (hF.ev rfl)) ?_; clear hF; intro a hF
        refine s_done ?_
        first
          | (rw [if_pos hc2, List.append_nil] at hsn
             refine ⟨_, by omega, m + 1, i, ys, rfl, by omega, by omega, hys, by rw [hsn]; exact hi, by rw [hsn]; exact ht, ?_, hF.sub ⟨rfl, rfl, rfl, rfl, trivial⟩, hS⟩
             rw [← List.drop_drop, hd, List.drop_drop])
          | (rw [if_neg hc2] at hsn
             rw [ints_set] at hS
             have htl : (ys.take i).length = i := by rw [List.length_take]; omega
             refine ⟨_, by omega, m + 1, i + 1, ys.set i (zs.getD m 0), rfl, by omega, by omega, by rw [List.length_set]; exact hys, by rw [hsn, List.length_append, ← hi]; rfl, ?_, ?_, hF.sub ⟨rfl, rfl, rfl, rfl, trivial⟩, hS⟩
             · rw [hsn, ← ht, List.take_add_one, List.getElem?_set_self (by omega), List.take_set_of_le (Nat.le_refl i)]; rfl
             · rw [List.drop_set_of_lt (by omega), ← List.drop_drop, hd, List.drop_drop])
    · -- cond 1 false
      try simp only [decide_eq_true_eq, decide_eq_false_iff_not, Bool.not_eq_true', Bool.not_eq_false', Int.not_lt, Int.not_le, ne_eq, Decidable.not_not, Bool.or_eq_true, Bool.or_eq_false_iff, Bool.and_eq_true, Bool.and_eq_false_imp] at hc1
      refine wp_exit ?_
      refine then_exit ?_
      refine then_exit ?_
      refine blk_exit ?_
      refine hK4 _ _ ?_; clear hK4
      refine wp_seq_k fun K8 hK8 => ?_
      refine wp_region_lit ?_
      have hml : m = zs.length := by omega
      subst hml
      rw [List.take_length] at hi ht
      have hcap : zs.length ≤ c := by
        obtain ⟨A', c', e, h, _⟩ := row_val (hS.front 1 rfl)
        injection e with _ _ e3
        omega
      obtain ⟨g, rfl⟩ := row_some (i := 1) hS rfl (by omega)
      refine s_pu hF rfl rfl rfl (pu_move (hF.ev rfl)) ?_; clear hF; intro a hF
      refine s_pu hF rfl rfl rfl (pu_move (hF.ev rfl)) ?_; clear hF; intro a hF
      refine s_pu hF rfl rfl rfl (pu_cutLo sl22 (hF.ev rfl) (hF.ev rfl) (by omega) (by omega)) ?_; clear hF; intro a hF
      have hil : i < zs.length := him
      refine s_clear_tail (k := i) (m := zs.length) 1 hF rfl sl22 ze3 rfl rfl (hF.ev rfl) hS rfl hil ?_
      clear hS; intro w xs' hxs hS; (try simp only [upd, del] at hS)
      refine s_done ?_
      refine hK8 _ _ ?_; clear hK8
      refine wp_seq_k fun K9 hK9 => ?_
      refine wp_region_lit ?_
      refine s_pu hF rfl rfl rfl (pu_move (hF.ev rfl)) ?_; clear hF; intro a hF
      refine s_pu hF rfl rfl rfl (pu_move (hF.ev rfl)) ?_; clear hF; intro a hF
      refine s_pu hF rfl rfl rfl (pu_cutHi sl22 (hF.ev rfl) (hF.ev rfl) (by omega) (by omega)) ?_; clear hF; intro a hF
      refine s_pu hF rfl rfl rfl (pu_assign (hF.ev rfl)) ?_; clear hF; intro a hF
      refine s_done ?_
      refine hK9 _ _ ?_; clear hK9
      refine wp_ret ?_
      refine fin1 Try.results53 hF rfl ?_
      have hil : i ≤ zs.length := by omega
      have h2 := row_cut (m := i) (hS.front 1 rfl) hil
      rw [Nat.mul_one, hxs] at h2
      have e2 : (ints ys).take i = ints (lack n zs) := by rw [← ht]; unfold ints; rw [List.map_take]
      rw [e2] at h2
      subst hi
      exact ⟨_, _, rfl, h2.sel [1]⟩
theorem without_c {w0 w : World} {C : List Chunk} {c : Nat} {A : Option Addr} {zs : List Int} {n : Int} (hS : Sat w0 w (rowC 3 1 (.slice A zs.length c) zs.length (ints zs) :: C)) (hlen : zs.length ≤ 140737488355328) :
    Calls Try.prog 37 #[.slice A zs.length c, .int .i64 n] w fun e w' => ∃ A' c', e = .returned (.slice A' (lack n zs).length c') ∧ Sat w0 w' (rowC 3 1 (.slice A' (lack n zs).length c') (lack n zs).length (ints (lack n zs)) :: C) := by
  refine enter Try.func37 rfl Try.ntmps37 (Nat.le_of_ble_eq_true rfl) fun a hF => ?_
  refine wp_seq_k fun K0 hK0 => ?_
  refine wp_region_lit ?_
  refine s_newp hF rfl rfl rfl (ef_box (cs := #[_]) (hF.ev rfl) rfl) hS ?_; clear hF hS; intro b3 w hS a hF
  refine s_pu hF rfl rfl rfl (pu_assign (hF.ev rfl)) ?_; clear hF; intro a hF
  refine s_done ?_
  refine hK0 _ _ ?_; clear hK0
  refine wp_seq_k fun K1 hK1 => ?_
  refine wp_region_lit ?_
  refine s_pu hF rfl rfl rfl (pu_move (hF.ev rfl)) ?_; clear hF; intro a hF
  refine s_pu hF rfl rfl rfl (pu_func (hF.evs rfl)) ?_; clear hF; intro a hF
  refine s_en hF rfl rfl rfl (run_fn fk53 (hF.ev rfl) (hF.evs rfl)) (delete_c hS hlen) ?_
  clear hS; rintro e w ⟨A', c', rfl, hS⟩
  refine ⟨_, rfl, ?_⟩; clear hF; intro a hF
  refine s_pu hF rfl rfl rfl (pu_assign (hF.ev rfl)) ?_; clear hF; intro a hF
  refine s_done ?_
  refine hK1 _ _ ?_; clear hK1
  refine wp_ret ?_
  refine fin1 Try.results37 hF rfl ?_
  exact ⟨_, _, rfl, hS.tail⟩
end Go.Proofs.Ytbfdebddoncfhaa
