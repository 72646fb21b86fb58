import Derived.Test.YtommaijibiipeaaSh3
import Derived.Test.YtommaijibiipeaaSk25
import Derived.Test.YtommaijibiipeaaSk24
/-! The reference's Share: the largest rest first (Sk24 too). -/
namespace Go.Proofs.Ytommaijibiipeaa
open Go Go.RowKit Go.Proofs.Ytommaijibiipeaa.Sk
set_option linter.unusedVariables false
set_option linter.unusedSimpArgs false
set_option maxRecDepth 100000

/-- The rests, those that had one unit more struck out. -/
def strike (r : List Int) (ys : List Prt) : List Int := ys.foldl (fun o y => o.set y.1.toNat (-1)) r
theorem strike_len (r : List Int) (ys : List Prt) : (strike r ys).length = r.length := by
  induction ys generalizing r with
  | nil => rfl
  | cons y t ih => show (strike (r.set y.1.toNat (-1)) t).length = _; rw [ih]; simp
theorem strike_snoc {r : List Int} {ys : List Prt} {k : Nat} {y : Prt} (h : ys[k]? = some y) : strike r (ys.take (k + 1)) = (strike r (ys.take k)).set y.1.toNat (-1) := by
  rw [List.take_add_one, h]
  simp [strike]
theorem strike_get : ∀ (ys : List Prt) (r : List Int) (i : Nat), i < r.length → (∀ y ∈ ys, 0 ≤ y.1) → (strike r ys).getD i 0 = if ys.any (fun y => decide (y.1 = (i : Int))) = true then -1 else r.getD i 0
  | [], r, i, hi, h => by simp [strike]
  | y :: t, r, i, hi, h => by
    show (strike (r.set y.1.toNat (-1)) t).getD i 0 = _
    rw [strike_get t _ i (by simpa using hi) (fun z hz => h z (by simp [hz]))]
    have hy := h y (by simp)
    by_cases ht : t.any (fun y => decide (y.1 = (i : Int))) = true
    · rw [if_pos ht, if_pos (by simp only [List.any_cons, ht, Bool.or_true])]
    · rw [if_neg ht]
      by_cases e : y.1 = (i : Int)
      · rw [if_pos (by simp [e])]
        have e2 : y.1.toNat = i := by omega
        rw [e2, List.getD_eq_getElem?_getD, List.getElem?_set_self hi]
        rfl
      · rw [if_neg (by simp only [List.any_cons, Bool.or_eq_true, decide_eq_true_eq]; rintro (h | h) <;> simp_all)]
        have e2 : y.1.toNat ≠ i := by omega
        rw [List.getD_eq_getElem?_getD, List.getElem?_set_ne e2, List.getD_eq_getElem?_getD]
/-- The first of the largest is the next in order. -/
theorem pick_next {u : Int} {zs : List Int} {ys : List Prt} {t k : Nat} {y : Prt} (hp : ys.Perm (prts u zs)) (hs : Srt ys) (h0 : ∀ i, i < zs.length → 0 ≤ u * zs.getD i 0 % total zs) (hy : ys[t]? = some y) (hk : k < zs.length)
    (hmax : ∀ j, j < zs.length → (strike (rs u zs) (ys.take t)).getD j 0 ≤ (strike (rs u zs) (ys.take t)).getD k 0)
    (hfst : ∀ j, j < k → (strike (rs u zs) (ys.take t)).getD j 0 < (strike (rs u zs) (ys.take t)).getD k 0) : y.1 = (k : Int) := by
  have hnn : ∀ z ∈ ys, ∃ i : Nat, i < zs.length ∧ z = ((i : Int), u * zs.getD i 0 % total zs) := fun z hz => prts_mem (hp.mem_iff.1 hz)
  have hym : y ∈ ys := List.mem_of_getElem? hy
  obtain ⟨p, hpl, rfl⟩ := hnn y hym
  have hnd : (ys.map (·.1)).Nodup := by
    refine (hp.map (·.1)).nodup_iff.2 ?_
    unfold prts
    rw [List.map_map]
    refine List.Pairwise.map _ (fun a b h => ?_) (List.nodup_range (n := zs.length))
    intro e
    have e2 : (a : Int) = (b : Int) := e
    exact h (by omega)
  have htl := (List.getElem?_eq_some_iff.1 hy).1
  have hget : ∀ i, i < zs.length → (strike (rs u zs) (ys.take t)).getD i 0 = if (ys.take t).any (fun y => decide (y.1 = (i : Int))) = true then -1 else u * zs.getD i 0 % total zs := by
    intro i hi
    rw [strike_get _ _ _ (by rw [rs_len]; exact hi) (fun z hz => by obtain ⟨j, _, rfl⟩ := hnn z (List.mem_of_mem_take hz); exact Int.natCast_nonneg _), rs_getD hi]
  have hp2 : (strike (rs u zs) (ys.take t)).getD p 0 = u * zs.getD p 0 % total zs := by
    rw [hget p hpl, if_neg]
    rw [List.any_eq_true]
    rintro ⟨z, hz, e⟩
    obtain ⟨j, hj⟩ := List.mem_iff_getElem?.1 hz
    rw [List.getElem?_take] at hj
    split at hj
    · rename_i hjt
      have h1 : (ys.map (·.1))[j]? = some z.1 := by rw [List.getElem?_map, hj]; rfl
      have h2 : (ys.map (·.1))[t]? = some (p : Int) := by rw [List.getElem?_map, hy]; rfl
      have e2 : z.1 = (p : Int) := by simpa using e
      rw [e2] at h1
      have h3 := (List.getElem?_eq_some_iff.1 h1).1
      have := (List.getElem?_inj (h₀ := h3) hnd).1 (h1.trans h2.symm)
      omega
    · cases hj
  by_cases e : p = k
  · rw [e]
  exfalso
  -- place k: struck out, or behind y
  have h1 := hmax p hpl
  rw [hp2] at h1
  have hpn := h0 p hpl
  by_cases hst : (ys.take t).any (fun y => decide (y.1 = (k : Int))) = true
  · rw [hget k hk, if_pos hst] at h1
    omega
  · have hk2 := hget k hk
    rw [if_neg hst] at hk2
    have hkm : ((k : Int), u * zs.getD k 0 % total zs) ∈ ys := hp.mem_iff.2 (List.mem_of_getElem? (prts_get hk))
    obtain ⟨j, hj⟩ := List.mem_iff_getElem?.1 hkm
    have hjl := (List.getElem?_eq_some_iff.1 hj).1
    have hjt : t < j := by
      rcases Nat.lt_trichotomy j t with h | h | h
      · exfalso
        apply hst
        rw [List.any_eq_true]
        exact ⟨_, List.mem_of_getElem? (i := j) (by rw [List.getElem?_take, if_pos h]; exact hj), by simp⟩
      · subst h
        rw [hy] at hj
        injection hj with hj
        have h5 : (p : Int) = (k : Int) := congrArg Prod.fst hj
        exact absurd (by omega : p = k) e
      · exact h
    have hlt : lt ((p : Int), u * zs.getD p 0 % total zs) ((k : Int), u * zs.getD k 0 % total zs) := by
      have := List.pairwise_iff_getElem.1 hs t j htl hjl hjt
      rwa [(List.getElem?_eq_some_iff.1 hy).2, (List.getElem?_eq_some_iff.1 hj).2] at this
    rcases hlt with hlt | ⟨h3, h4⟩
    · simp only at hlt
      omega
    · simp only at h3 h4
      have := hfst p (by omega)
      rw [hp2, hk2] at this
      omega
theorem getD_mem0 {l : List Int} {i : Nat} (h : i < l.length) : l.getD i 0 ∈ l := by rw [List.getD_eq_getElem?_getD, List.getElem?_eq_getElem h]; exact List.getElem_mem h
set_option maxHeartbeats 1000000 in
theorem refShare_c {w0 w : World} {F : List Chunk} {av : Option Addr} {len cap : Nat} {zs outs : List Int} {u : Int} (hS : Sat w0 w F) (hR : Reads w0 F av len zs) (hlen : len ≤ 17592186044400) (hd : shErr u zs = 0 → Dealt u zs outs) :
    Calls Try.prog 15 #[.int .i64 u, .slice av len cap] w fun e w' => (shErr u zs = 0 ∧ ∃ A c, outs.length = zs.length ∧ e = .returned (.tuple #[.slice A outs.length c, .int .i64 0]) ∧ Sat w0 w' (rowC 3 1 (.slice A outs.length c) outs.length (ints outs) :: F)) ∨
      (shErr u zs ≠ 0 ∧ e = .returned (.tuple #[.slice none 0 0, .int .i64 (shErr u zs)]) ∧ Sat w0 w' F) := by
  have hl := hR.long
  subst hl
  refine enter Try.func15 rfl Try.ntmps15 (Nat.le_of_ble_eq_true rfl) fun a hF => ?_
  refine wp_seq_k fun K0 hK0 => ?_
  -- region 0
  refine wp_region_lit ?_
  refine s_pu hF rfl rfl rfl (pu_assign (hF.ev rfl)) ?_; clear hF; intro a hF
  refine s_pu hF rfl rfl rfl (pu_assign (hF.ev rfl)) ?_; clear hF; intro a hF
  refine s_done ?_
  refine hK0 _ _ ?_; clear hK0
  refine wp_seq_k fun K1 hK1 => ?_
  -- region 1
  refine wp_region_lit ?_
  refine s_pu hF rfl rfl rfl (pu_move (hF.ev rfl)) ?_; clear hF; intro a hF
  refine s_en hF rfl rfl rfl (run_fn fk22 (hF.ev rfl) (hF.evs rfl)) (refAmount_c 0 hS) ?_
  clear hS; rintro e w ⟨rfl, hS⟩
  refine ⟨_, rfl, ?_⟩; clear hF; intro a hF
  refine s_pu hF rfl rfl rfl (pu_assign (hF.ev rfl)) ?_; clear hF; intro a hF
  refine s_done ?_
  refine hK1 _ _ ?_; clear hK1
  refine wp_seq_k fun K2 hK2 => ?_
  refine wp_seq_k fun K3 hK3 => ?_
  -- region 2
  refine wp_region_lit ?_
  refine s_pu hF rfl rfl rfl (pu_move (hF.ev rfl)) ?_; clear hF; intro a hF
  refine s_pu hF rfl rfl rfl (pu_not (hF.ev rfl)) ?_; clear hF; intro a hF
  refine s_done ?_
  refine hK3 _ _ ?_; clear hK3
  refine wp_cond_split (hF.ev rfl) (fun hc0 => ?_) (fun hc0 => ?_)
  · -- cond 0 true
    try simp only [decide_eq_true_eq, decide_eq_false_iff_not, Bool.not_eq_true', Bool.not_eq_false', Int.not_lt, Int.not_le, ne_eq, Decidable.not_not, Bool.or_eq_true, Bool.or_eq_false_iff, Bool.and_eq_true, Bool.and_eq_false_imp] at hc0
    refine wp_seq_k fun K4 hK4 => ?_
    -- region 3
    refine wp_region_lit ?_
    refine s_pu hF rfl rfl rfl (pu_assign (hF.ev rfl)) ?_; clear hF; intro a hF
    refine s_pu hF rfl rfl rfl (pu_assign (hF.ev rfl)) ?_; clear hF; intro a hF
    refine s_done ?_
    refine hK4 _ _ ?_; clear hK4
    refine wp_ret ?_
    refine then_ret ?_
    refine fin2 Try.results15 hF rfl rfl ?_
    right
    unfold shErr
    rw [if_neg (by rw [hc0]; decide)]
    exact ⟨by decide, rfl, hS⟩
  · -- cond 0 false
    try simp only [decide_eq_true_eq, decide_eq_false_iff_not, Bool.not_eq_true', Bool.not_eq_false', Int.not_lt, Int.not_le, ne_eq, Decidable.not_not, Bool.or_eq_true, Bool.or_eq_false_iff, Bool.and_eq_true, Bool.and_eq_false_imp] at hc0
    have hu := amt_iff.1 hc0
    refine wp_skip ?_
    refine hK2 _ _ ?_; clear hK2
    refine wp_seq_k fun K4 hK4 => ?_
    refine wp_seq_k fun K5 hK5 => ?_
    -- region 4
    refine wp_region_lit ?_
    refine s_pu hF rfl rfl rfl (pu_move (hF.ev rfl)) ?_; clear hF; intro a hF
    refine s_pu hF rfl rfl rfl (pu_len sl22 (hF.ev rfl)) ?_; clear hF; intro a hF
    refine s_pu hF rfl rfl rfl (pu_lss (hF.ev rfl) (hF.ev rfl)) ?_; clear hF; intro a hF
    refine s_pu hF rfl rfl rfl (pu_move (hF.ev rfl)) ?_; clear hF; intro a hF
    refine fr_split hF (t := 23) rfl ?_ ?_
    · clear hF; intro hg23 hF   -- slot 23 true
      try simp only [decide_eq_true_eq, decide_eq_false_iff_not, Bool.not_eq_true', Bool.not_eq_false', Int.not_lt, Int.not_le, ne_eq, Decidable.not_not, Bool.or_eq_true, Bool.or_eq_false_iff, Bool.and_eq_true, Bool.and_eq_false_imp] at hg23
      refine s_no hF rfl rfl rfl ?_; clear hF; intro a hF
      refine s_no hF rfl rfl rfl ?_; clear hF; intro a hF
      refine s_no hF rfl rfl rfl ?_; clear hF; intro a hF
      refine s_pu hF rfl rfl rfl ((by first | exact pu_pick_t (hF.ev rfl) (hF.ev rfl) | exact pu_pick_f (hF.ev rfl) (hF.ev rfl) | exact pu_pick (hF.ev rfl) (hF.ev rfl) (hF.ev rfl))) ?_; clear hF; intro a hF
      refine s_done ?_
      refine hK5 _ _ ?_; clear hK5
      refine wp_cond_true (hF.ev rfl) ?_
      refine wp_seq_k fun K6 hK6 => ?_
      -- region 5
      refine wp_region_lit ?_
      refine s_pu hF rfl rfl rfl (pu_assign (hF.ev rfl)) ?_; clear hF; intro a hF
      refine s_pu hF rfl rfl rfl (pu_assign (hF.ev rfl)) ?_; clear hF; intro a hF
      refine s_done ?_
      refine hK6 _ _ ?_; clear hK6
      refine wp_ret ?_
      refine then_ret ?_
      refine fin2 Try.results15 hF rfl rfl ?_
      right
      have he : shErr u zs = 1 := by
        have : zs = [] := List.eq_nil_of_length_eq_zero (by omega)
        subst this
        unfold shErr
        rw [if_pos hc0, if_neg (fun h => h.2.2 rfl)]
      rw [he]
      exact ⟨by decide, rfl, hS⟩
    · clear hF; intro hg23 hF   -- slot 23 false
      try simp only [decide_eq_true_eq, decide_eq_false_iff_not, Bool.not_eq_true', Bool.not_eq_false', Int.not_lt, Int.not_le, ne_eq, Decidable.not_not, Bool.or_eq_true, Bool.or_eq_false_iff, Bool.and_eq_true, Bool.and_eq_false_imp] at hg23
      refine s_pu hF rfl rfl rfl (pu_move (hF.ev rfl)) ?_; clear hF; intro a hF
      refine s_pu hF rfl rfl rfl (pu_len sl22 (hF.ev rfl)) ?_; clear hF; intro a hF
      refine s_pu hF rfl rfl rfl (pu_gtr (hF.ev rfl) (hF.ev rfl)) ?_; clear hF; intro a hF
      refine s_pu hF rfl rfl rfl ((by first | exact pu_pick_t (hF.ev rfl) (hF.ev rfl) | exact pu_pick_f (hF.ev rfl) (hF.ev rfl) | exact pu_pick (hF.ev rfl) (hF.ev rfl) (hF.ev rfl))) ?_; clear hF; intro a hF
      refine s_done ?_
      refine hK5 _ _ ?_; clear hK5
      refine wp_cond_split (hF.ev rfl) (fun hc1 => ?_) (fun hc1 => ?_)
      · -- cond 1 true
        try simp only [decide_eq_true_eq, decide_eq_false_iff_not, Bool.not_eq_true', Bool.not_eq_false', Int.not_lt, Int.not_le, ne_eq, Decidable.not_not, Bool.or_eq_true, Bool.or_eq_false_iff, Bool.and_eq_true, Bool.and_eq_false_imp] at hc1
        refine wp_seq_k fun K6 hK6 => ?_
        -- region 5
        refine wp_region_lit ?_
        refine s_pu hF rfl rfl rfl (pu_assign (hF.ev rfl)) ?_; clear hF; intro a hF
        refine s_pu hF rfl rfl rfl (pu_assign (hF.ev rfl)) ?_; clear hF; intro a hF
        refine s_done ?_
        refine hK6 _ _ ?_; clear hK6
        refine wp_ret ?_
        refine then_ret ?_
        refine fin2 Try.results15 hF rfl rfl ?_
        right
        have he : shErr u zs = 1 := by
          unfold shErr
          rw [if_pos hc0, if_neg (fun h => by omega)]
        rw [he]
        exact ⟨by decide, rfl, hS⟩
      · -- cond 1 false
        try simp only [decide_eq_true_eq, decide_eq_false_iff_not, Bool.not_eq_true', Bool.not_eq_false', Int.not_lt, Int.not_le, ne_eq, Decidable.not_not, Bool.or_eq_true, Bool.or_eq_false_iff, Bool.and_eq_true, Bool.and_eq_false_imp] at hc1
        refine wp_skip ?_
        refine hK4 _ _ ?_; clear hK4
        refine wp_seq_k fun K6 hK6 => ?_
        -- region 6
        refine wp_region_lit ?_
        refine s_pu hF rfl rfl rfl (pu_assign (hF.ev rfl)) ?_; clear hF; intro a hF
        refine s_done ?_
        refine hK6 _ _ ?_; clear hK6
        refine wp_seq_k fun K7 hK7 => ?_
        refine wp_seq_k fun K8 hK8 => ?_
        -- region 7
        refine wp_region_lit ?_
        refine s_pu hF rfl rfl rfl (pu_assign (hF.ev rfl)) ?_; clear hF; intro a hF
        refine s_done ?_
        refine hK8 _ _ ?_; clear hK8
        refine wp_block ?_
        refine wp_ind (fun j a w => ∃ (i : Nat), j = zs.length - i ∧ i ≤ zs.length ∧ (∀ z ∈ zs.take i, 0 ≤ z ∧ z ≤ 1000000) ∧
          Fr a 117 [(0, .int .i64 u), (1, .slice av zs.length cap), (7, .int .i64 (total (zs.take i))), (8, .int .i64 i)] ∧ Sat w0 w F) zs.length
          ⟨0, by omega, by omega, by simp, hF.sub ⟨rfl, rfl, rfl, rfl, trivial⟩, hS⟩ ?_
        clear hS hF
        rintro j a w ⟨i, rfl, hi, hall, hF, hS⟩
        refine wp_seq_k fun K9 hK9 => ?_
        refine wp_seq_k fun K10 hK10 => ?_
        -- region 8
        refine wp_region_lit ?_
        refine s_pu hF rfl rfl rfl (pu_move (hF.ev rfl)) ?_; clear hF; intro a hF
        refine s_pu hF rfl rfl rfl (pu_move (hF.ev rfl)) ?_; clear hF; intro a hF
        refine s_pu hF rfl rfl rfl (pu_len sl22 (hF.ev rfl)) ?_; clear hF; intro a hF
        refine s_pu hF rfl rfl rfl (pu_lss (hF.ev rfl) (hF.ev rfl)) ?_; clear hF; intro a hF
        refine s_done ?_
        refine hK10 _ _ ?_; clear hK10
        refine wp_cond_split (hF.ev rfl) (fun hc2 => ?_) (fun hc2 => ?_)
        · -- cond 2 true
          try simp only [decide_eq_true_eq, decide_eq_false_iff_not, Bool.not_eq_true', Bool.not_eq_false', Int.not_lt, Int.not_le, ne_eq, Decidable.not_not, Bool.or_eq_true, Bool.or_eq_false_iff, Bool.and_eq_true, Bool.and_eq_false_imp] at hc2
          have hil : i < zs.length := by omega
          obtain ⟨x, rfl, hv⟩ := hR.at_ i hil
          have hv1 := hv w hS
          have hmem : zs.getD i 0 ∈ zs := by rw [List.getD_eq_getElem?_getD, List.getElem?_eq_getElem hil]; exact List.getElem_mem hil
          have htn : 0 ≤ total (zs.take i) ∧ total (zs.take i) ≤ 1000000 * i := by
            have := total_nonneg (zs := zs.take i) hall i
            rw [List.take_take, Nat.min_self] at this
            exact ⟨this.1, this.2.1⟩
          refine wp_skip ?_
          refine hK9 _ _ ?_; clear hK9
          refine wp_seq_k fun K11 hK11 => ?_
          refine wp_block ?_
          refine wp_seq_k fun K12 hK12 => ?_
          refine wp_seq_k fun K13 hK13 => ?_
          -- region 10
          refine wp_region_lit ?_
          refine s_pu hF rfl rfl rfl (pu_move (hF.ev rfl)) ?_; clear hF; intro a hF
          refine s_pu hF rfl rfl rfl (pu_move (hF.ev rfl)) ?_; clear hF; intro a hF
          refine s_pu hF rfl rfl rfl ((by first | exact pu_elem sl22 (hF.ev rfl) (hF.ev rfl) (by first | omega | simp) (by first | omega | (simp; done) | (simp; omega)) | exact pu_elemA sl22 (hF.ev rfl) (hF.ev rfl) (by omega) (by omega))) ?_; clear hF; intro a hF
          refine s_rd hF rfl rfl rfl (by first | exact rd_load pl3 (hF.ev rfl) (by assumption) | exact rd_load pl3 (hF.ev rfl) (hS.cellL (i := 0) rfl rfl) | exact rd_load pl3 (hF.ev rfl) (hS.cellL (i := 1) rfl rfl) | exact rd_load pl3 (hF.ev rfl) (hS.cellL (i := 2) rfl rfl) | exact rd_load pl3 (hF.ev rfl) (hS.cellL (i := 3) rfl rfl) | exact rd_load pl3 (hF.ev rfl) (hS.cell (i := 0) rfl (by assumption)) | exact rd_load pl3 (hF.ev rfl) (hS.cell (i := 1) rfl (by assumption)) | exact rd_load pl3 (hF.ev rfl) (hS.cell (i := 2) rfl (by assumption)) | exact rd_load pl3 (hF.ev rfl) (hS.cell (i := 3) rfl (by assumption)) | exact rd_load pl3 (hF.ev rfl) (row_at (i := 0) hS rfl (by first | assumption | rfl)) | exact rd_load pl3 (hF.ev rfl) (row_at0 (i := 0) hS rfl (by first | assumption | rfl)) | exact rd_load pl3 (hF.ev rfl) (row_at (i := 1) hS rfl (by first | assumption | rfl)) | exact rd_load pl3 (hF.ev rfl) (row_at0 (i := 1) hS rfl (by first | assumption | rfl)) | exact rd_load pl3 (hF.ev rfl) (row_at (i := 2) hS rfl (by first | assumption | rfl)) | exact rd_load pl3 (hF.ev rfl) (row_at0 (i := 2) hS rfl (by first | assumption | rfl)) | exact rd_load pl3 (hF.ev rfl) (row_at (i := 3) hS rfl (by first | assumption | rfl)) | exact rd_load pl3 (hF.ev rfl) (row_at0 (i := 3) hS rfl (by first | assumption | rfl))) ?_; clear hF; intro a hF
          refine s_pu hF rfl rfl rfl (pu_lss (hF.ev rfl) (hF.ev rfl)) ?_; clear hF; intro a hF
          refine s_pu hF rfl rfl rfl (pu_move (hF.ev rfl)) ?_; clear hF; intro a hF
          refine fr_split hF (t := 39) rfl ?_ ?_
          · clear hF; intro hg39 hF   -- slot 39 true
            try simp only [decide_eq_true_eq, decide_eq_false_iff_not, Bool.not_eq_true', Bool.not_eq_false', Int.not_lt, Int.not_le, ne_eq, Decidable.not_not, Bool.or_eq_true, Bool.or_eq_false_iff, Bool.and_eq_true, Bool.and_eq_false_imp] at hg39
            refine s_no hF rfl rfl rfl ?_; clear hF; intro a hF
            refine s_no hF rfl rfl rfl ?_; clear hF; intro a hF
            refine s_no hF rfl rfl rfl ?_; clear hF; intro a hF
            refine s_no hF rfl rfl rfl ?_; clear hF; intro a hF
            refine s_no hF rfl rfl rfl ?_; clear hF; intro a hF
            refine s_pu hF rfl rfl rfl ((by first | exact pu_pick_t (hF.ev rfl) (hF.ev rfl) | exact pu_pick_f (hF.ev rfl) (hF.ev rfl) | exact pu_pick (hF.ev rfl) (hF.ev rfl) (hF.ev rfl))) ?_; clear hF; intro a hF
            refine s_done ?_
            refine hK13 _ _ ?_; clear hK13
            refine wp_cond_true (hF.ev rfl) ?_
            refine wp_seq_k fun K14 hK14 => ?_
            -- region 11
            refine wp_region_lit ?_
            refine s_pu hF rfl rfl rfl (pu_assign (hF.ev rfl)) ?_; clear hF; intro a hF
            refine s_pu hF rfl rfl rfl (pu_assign (hF.ev rfl)) ?_; clear hF; intro a hF
            refine s_done ?_
            refine hK14 _ _ ?_; clear hK14
            refine wp_ret ?_
            refine then_ret ?_
            refine blk_ret ?_
            refine then_ret ?_
            refine then_ret ?_
            refine blk_ret ?_
            refine then_ret ?_
            refine fin2 Try.results15 hF rfl rfl ?_
            right
            have hbad : ¬ (zs.all wOk = true) := fun h => by
              have := wOk_iff.1 (List.all_eq_true.1 h _ hmem)
              omega
            have he : shErr u zs = 1 := by
              unfold shErr
              rw [if_pos hc0, if_neg (fun h => hbad h.1)]
            rw [he]
            exact ⟨by decide, rfl, hS⟩
          · clear hF; intro hg39 hF   -- slot 39 false
            try simp only [decide_eq_true_eq, decide_eq_false_iff_not, Bool.not_eq_true', Bool.not_eq_false', Int.not_lt, Int.not_le, ne_eq, Decidable.not_not, Bool.or_eq_true, Bool.or_eq_false_iff, Bool.and_eq_true, Bool.and_eq_false_imp] at hg39
            refine s_pu hF rfl rfl rfl (pu_move (hF.ev rfl)) ?_; clear hF; intro a hF
            refine s_pu hF rfl rfl rfl (pu_move (hF.ev rfl)) ?_; clear hF; intro a hF
            refine s_pu hF rfl rfl rfl ((by first | exact pu_elem sl22 (hF.ev rfl) (hF.ev rfl) (by first | omega | simp) (by first | omega | (simp; done) | (simp; omega)) | exact pu_elemA sl22 (hF.ev rfl) (hF.ev rfl) (by omega) (by omega))) ?_; clear hF; intro a hF
            refine s_rd hF rfl rfl rfl (by first | exact rd_load pl3 (hF.ev rfl) (by assumption) | exact rd_load pl3 (hF.ev rfl) (hS.cellL (i := 0) rfl rfl) | exact rd_load pl3 (hF.ev rfl) (hS.cellL (i := 1) rfl rfl) | exact rd_load pl3 (hF.ev rfl) (hS.cellL (i := 2) rfl rfl) | exact rd_load pl3 (hF.ev rfl) (hS.cellL (i := 3) rfl rfl) | exact rd_load pl3 (hF.ev rfl) (hS.cell (i := 0) rfl (by assumption)) | exact rd_load pl3 (hF.ev rfl) (hS.cell (i := 1) rfl (by assumption)) | exact rd_load pl3 (hF.ev rfl) (hS.cell (i := 2) rfl (by assumption)) | exact rd_load pl3 (hF.ev rfl) (hS.cell (i := 3) rfl (by assumption)) | exact rd_load pl3 (hF.ev rfl) (row_at (i := 0) hS rfl (by first | assumption | rfl)) | exact rd_load pl3 (hF.ev rfl) (row_at0 (i := 0) hS rfl (by first | assumption | rfl)) | exact rd_load pl3 (hF.ev rfl) (row_at (i := 1) hS rfl (by first | assumption | rfl)) | exact rd_load pl3 (hF.ev rfl) (row_at0 (i := 1) hS rfl (by first | assumption | rfl)) | exact rd_load pl3 (hF.ev rfl) (row_at (i := 2) hS rfl (by first | assumption | rfl)) | exact rd_load pl3 (hF.ev rfl) (row_at0 (i := 2) hS rfl (by first | assumption | rfl)) | exact rd_load pl3 (hF.ev rfl) (row_at (i := 3) hS rfl (by first | assumption | rfl)) | exact rd_load pl3 (hF.ev rfl) (row_at0 (i := 3) hS rfl (by first | assumption | rfl))) ?_; clear hF; intro a hF
            refine s_pu hF rfl rfl rfl (pu_gtr (hF.ev rfl) (hF.ev rfl)) ?_; clear hF; intro a hF
            refine s_pu hF rfl rfl rfl ((by first | exact pu_pick_t (hF.ev rfl) (hF.ev rfl) | exact pu_pick_f (hF.ev rfl) (hF.ev rfl) | exact pu_pick (hF.ev rfl) (hF.ev rfl) (hF.ev rfl))) ?_; clear hF; intro a hF
            refine s_done ?_
            refine hK13 _ _ ?_; clear hK13
            refine wp_cond_split (hF.ev rfl) (fun hc3 => ?_) (fun hc3 => ?_)
            · -- cond 3 true
              try simp only [decide_eq_true_eq, decide_eq_false_iff_not, Bool.not_eq_true', Bool.not_eq_false', Int.not_lt, Int.not_le, ne_eq, Decidable.not_not, Bool.or_eq_true, Bool.or_eq_false_iff, Bool.and_eq_true, Bool.and_eq_false_imp] at hc3
              refine wp_seq_k fun K14 hK14 => ?_
              -- region 11
              refine wp_region_lit ?_
              refine s_pu hF rfl rfl rfl (pu_assign (hF.ev rfl)) ?_; clear hF; intro a hF
              refine s_pu hF rfl rfl rfl (pu_assign (hF.ev rfl)) ?_; clear hF; intro a hF
              refine s_done ?_
              refine hK14 _ _ ?_; clear hK14
              refine wp_ret ?_
              refine then_ret ?_
              refine blk_ret ?_
              refine then_ret ?_
              refine then_ret ?_
              refine blk_ret ?_
              refine then_ret ?_
              refine fin2 Try.results15 hF rfl rfl ?_
              right
              have hbad : ¬ (zs.all wOk = true) := fun h => by
                have := wOk_iff.1 (List.all_eq_true.1 h _ hmem)
                omega
              have he : shErr u zs = 1 := by
                unfold shErr
                rw [if_pos hc0, if_neg (fun h => hbad h.1)]
              rw [he]
              exact ⟨by decide, rfl, hS⟩
            · -- cond 3 false
              try simp only [decide_eq_true_eq, decide_eq_false_iff_not, Bool.not_eq_true', Bool.not_eq_false', Int.not_lt, Int.not_le, ne_eq, Decidable.not_not, Bool.or_eq_true, Bool.or_eq_false_iff, Bool.and_eq_true, Bool.and_eq_false_imp] at hc3
              refine wp_skip ?_
              refine hK12 _ _ ?_; clear hK12
              -- region 12
              refine wp_region_lit ?_
              refine s_pu hF rfl rfl rfl (pu_move (hF.ev rfl)) ?_; clear hF; intro a hF
              refine s_pu hF rfl rfl rfl (pu_move (hF.ev rfl)) ?_; clear hF; intro a hF
              refine s_pu hF rfl rfl rfl (pu_move (hF.ev rfl)) ?_; clear hF; intro a hF
              refine s_pu hF rfl rfl rfl ((by first | exact pu_elem sl22 (hF.ev rfl) (hF.ev rfl) (by first | omega | simp) (by first | omega | (simp; done) | (simp; omega)) | exact pu_elemA sl22 (hF.ev rfl) (hF.ev rfl) (by omega) (by omega))) ?_; clear hF; intro a hF
              refine s_rd hF rfl rfl rfl (by first | exact rd_load pl3 (hF.ev rfl) (by assumption) | exact rd_load pl3 (hF.ev rfl) (hS.cellL (i := 0) rfl rfl) | exact rd_load pl3 (hF.ev rfl) (hS.cellL (i := 1) rfl rfl) | exact rd_load pl3 (hF.ev rfl) (hS.cellL (i := 2) rfl rfl) | exact rd_load pl3 (hF.ev rfl) (hS.cellL (i := 3) rfl rfl) | exact rd_load pl3 (hF.ev rfl) (hS.cell (i := 0) rfl (by assumption)) | exact rd_load pl3 (hF.ev rfl) (hS.cell (i := 1) rfl (by assumption)) | exact rd_load pl3 (hF.ev rfl) (hS.cell (i := 2) rfl (by assumption)) | exact rd_load pl3 (hF.ev rfl) (hS.cell (i := 3) rfl (by assumption)) | exact rd_load pl3 (hF.ev rfl) (row_at (i := 0) hS rfl (by first | assumption | rfl)) | exact rd_load pl3 (hF.ev rfl) (row_at0 (i := 0) hS rfl (by first | assumption | rfl)) | exact rd_load pl3 (hF.ev rfl) (row_at (i := 1) hS rfl (by first | assumption | rfl)) | exact rd_load pl3 (hF.ev rfl) (row_at0 (i := 1) hS rfl (by first | assumption | rfl)) | exact rd_load pl3 (hF.ev rfl) (row_at (i := 2) hS rfl (by first | assumption | rfl)) | exact rd_load pl3 (hF.ev rfl) (row_at0 (i := 2) hS rfl (by first | assumption | rfl)) | exact rd_load pl3 (hF.ev rfl) (row_at (i := 3) hS rfl (by first | assumption | rfl)) | exact rd_load pl3 (hF.ev rfl) (row_at0 (i := 3) hS rfl (by first | assumption | rfl))) ?_; clear hF; intro a hF
              refine s_pu hF rfl rfl rfl ((by first | exact pu_add64 (hF.ev rfl) (hF.ev rfl) (by omega) | exact pu_add (hF.ev rfl) (hF.ev rfl))) ?_; clear hF; intro a hF
              refine s_pu hF rfl rfl rfl (pu_assign (hF.ev rfl)) ?_; clear hF; intro a hF
              refine s_done ?_
              refine blk_normal ?_
              refine hK11 _ _ ?_; clear hK11
              -- region 9
              refine wp_region_lit ?_
              refine s_pu hF rfl rfl rfl (pu_move (hF.ev rfl)) ?_; clear hF; intro a hF
              refine s_pu hF rfl rfl rfl ((by first | exact pu_add64 (hF.ev rfl) (hF.ev rfl) (by omega) | exact pu_add (hF.ev rfl) (hF.ev rfl))) ?_; clear hF; intro a hF
              refine s_pu hF rfl rfl rfl (pu_assign (hF.ev rfl)) ?_; clear hF; intro a hF
              refine s_done ?_
              have hall2 : ∀ z ∈ zs.take (i + 1), 0 ≤ z ∧ z ≤ 1000000 := by
                intro z hz
                rw [List.take_add_one, List.getElem?_eq_getElem hil] at hz
                rcases List.mem_append.1 hz with hz | hz
                · exact hall z hz
                · simp at hz
                  subst hz
                  have e : zs.getD i 0 = zs[i] := by rw [List.getD_eq_getElem?_getD, List.getElem?_eq_getElem hil]; rfl
                  rw [e] at hc3 hg39
                  omega
              refine ⟨_, by omega, i + 1, rfl, by omega, hall2, ?_, hS⟩
              rw [total_take hil]
              exact hF.sub ⟨rfl, rfl, rfl, rfl, trivial⟩
        · -- cond 2 false
          try simp only [decide_eq_true_eq, decide_eq_false_iff_not, Bool.not_eq_true', Bool.not_eq_false', Int.not_lt, Int.not_le, ne_eq, Decidable.not_not, Bool.or_eq_true, Bool.or_eq_false_iff, Bool.and_eq_true, Bool.and_eq_false_imp] at hc2
          have hil : i = zs.length := by omega
          subst hil
          rw [List.take_length] at hall hF
          have hok : zs.all wOk = true := List.all_eq_true.2 fun z hz => wOk_iff.2 (hall z hz)
          refine wp_exit ?_
          refine then_exit ?_
          refine then_exit ?_
          refine blk_exit ?_
          refine hK7 _ _ ?_; clear hK7
          refine wp_seq_k fun K11 hK11 => ?_
          refine wp_seq_k fun K12 hK12 => ?_
          -- region 13
          refine wp_region_lit ?_
          refine s_pu hF rfl rfl rfl (pu_move (hF.ev rfl)) ?_; clear hF; intro a hF
          refine s_pu hF rfl rfl rfl (pu_eql (hF.ev rfl) (hF.ev rfl)) ?_; clear hF; intro a hF
          refine s_done ?_
          refine hK12 _ _ ?_; clear hK12
          refine wp_cond_split (hF.ev rfl) (fun hc4 => ?_) (fun hc4 => ?_)
          · -- cond 4 true
            try simp only [decide_eq_true_eq, decide_eq_false_iff_not, Bool.not_eq_true', Bool.not_eq_false', Int.not_lt, Int.not_le, ne_eq, Decidable.not_not, Bool.or_eq_true, Bool.or_eq_false_iff, Bool.and_eq_true, Bool.and_eq_false_imp] at hc4
            refine wp_seq_k fun K13 hK13 => ?_
            -- region 14
            refine wp_region_lit ?_
            refine s_pu hF rfl rfl rfl (pu_assign (hF.ev rfl)) ?_; clear hF; intro a hF
            refine s_pu hF rfl rfl rfl (pu_assign (hF.ev rfl)) ?_; clear hF; intro a hF
            refine s_done ?_
            refine hK13 _ _ ?_; clear hK13
            refine wp_ret ?_
            refine then_ret ?_
            refine fin2 Try.results15 hF rfl rfl ?_
            right
            have he : shErr u zs = 1 := by
              unfold shErr
              rw [if_pos hc0, if_neg]
              rintro ⟨_, h1, h2⟩
              exact h2 hc4
            rw [he]
            exact ⟨by decide, rfl, hS⟩
          · -- cond 4 false
            try simp only [decide_eq_true_eq, decide_eq_false_iff_not, Bool.not_eq_true', Bool.not_eq_false', Int.not_lt, Int.not_le, ne_eq, Decidable.not_not, Bool.or_eq_true, Bool.or_eq_false_iff, Bool.and_eq_true, Bool.and_eq_false_imp] at hc4
            have htn := total_nonneg hall zs.length
            rw [List.take_length] at htn
            have ht1 : 1 ≤ total zs := by omega
            have hse : shErr u zs = 0 := by
              unfold shErr
              rw [if_pos hc0, if_pos ⟨hok, by omega, by omega⟩]
            have hdd := hd hse
            have hmm : ∀ i, i < zs.length → 0 ≤ u * zs.getD i 0 ∧ u * zs.getD i 0 ≤ 999999999999 * 1000000 ∧ 0 ≤ u * zs.getD i 0 / total zs ∧ u * zs.getD i 0 / total zs ≤ u * zs.getD i 0 ∧ 0 ≤ u * zs.getD i 0 % total zs ∧ u * zs.getD i 0 % total zs < total zs := by
              intro i hi
              have hz := hall (zs.getD i 0) (by rw [List.getD_eq_getElem?_getD, List.getElem?_eq_getElem hi]; exact List.getElem_mem hi)
              have h0 : 0 ≤ u * zs.getD i 0 := Int.mul_nonneg hu.1 hz.1
              exact ⟨h0, Int.mul_le_mul (by omega) hz.2 hz.1 (by omega), Int.ediv_nonneg h0 (by omega), Int.ediv_le_self _ h0, Int.emod_nonneg _ (by omega), Int.emod_lt_of_pos _ (by omega)⟩
            refine wp_skip ?_
            refine hK11 _ _ ?_; clear hK11
            refine wp_seq_k fun K13 hK13 => ?_
            -- region 15
            refine wp_region_lit ?_
            refine s_pu hF rfl rfl rfl (pu_assign (hF.ev rfl)) ?_; clear hF; intro a hF
            refine s_done ?_
            refine hK13 _ _ ?_; clear hK13
            refine wp_seq_k fun K14 hK14 => ?_
            -- region 16
            refine wp_region_lit ?_
            refine s_pu hF rfl rfl rfl (pu_assign (hF.ev rfl)) ?_; clear hF; intro a hF
            refine s_done ?_
            refine hK14 _ _ ?_; clear hK14
            refine wp_seq_k fun K15 hK15 => ?_
            -- region 17
            refine wp_region_lit ?_
            refine s_pu hF rfl rfl rfl (pu_move (hF.ev rfl)) ?_; clear hF; intro a hF
            refine s_pu hF rfl rfl rfl (pu_assign (hF.ev rfl)) ?_; clear hF; intro a hF
            refine s_done ?_
            refine hK15 _ _ ?_; clear hK15
            refine wp_seq_k fun K16 hK16 => ?_
            refine wp_seq_k fun K17 hK17 => ?_
            -- region 18
            refine wp_region_lit ?_
            refine s_pu hF rfl rfl rfl (pu_assign (hF.ev rfl)) ?_; clear hF; intro a hF
            refine s_done ?_
            refine hK17 _ _ ?_; clear hK17
            refine wp_block ?_
            replace hS := row_nil (E := 3) (sz := 1) (row_nil (E := 3) (sz := 1) hS)
            refine wp_ind (fun j a w => ∃ (i : Nat) (A B : Option Addr) (c d : Nat), j = zs.length - i ∧ i ≤ zs.length ∧
              Fr a 117 [(0, .int .i64 u), (1, .slice av zs.length cap), (7, .int .i64 (total zs)), (9, .slice A i c), (10, .slice B i d), (11, .int .i64 (u - total ((qs u zs).take i))), (12, .int .i64 i)] ∧
              Sat w0 w (rowC 3 1 (.slice A i c) i (ints ((qs u zs).take i)) :: rowC 3 1 (.slice B i d) i (ints ((rs u zs).take i)) :: F)) zs.length
              ⟨0, none, none, 0, 0, by omega, by omega, ?_, hS⟩ ?_
            · rw [show u - total ((qs u zs).take 0) = u by simp [total]]
              exact hF.sub ⟨rfl, rfl, rfl, rfl, rfl, rfl, rfl, trivial⟩
            clear hS hF
            rintro j a w ⟨i, A, B, c, d, rfl, hi, hF, hS⟩
            refine wp_seq_k fun K18 hK18 => ?_
            refine wp_seq_k fun K19 hK19 => ?_
            -- region 19
            refine wp_region_lit ?_
            refine s_pu hF rfl rfl rfl (pu_move (hF.ev rfl)) ?_; clear hF; intro a hF
            refine s_pu hF rfl rfl rfl (pu_move (hF.ev rfl)) ?_; clear hF; intro a hF
            refine s_pu hF rfl rfl rfl (pu_len sl22 (hF.ev rfl)) ?_; clear hF; intro a hF
            refine s_pu hF rfl rfl rfl (pu_lss (hF.ev rfl) (hF.ev rfl)) ?_; clear hF; intro a hF
            refine s_done ?_
            refine hK19 _ _ ?_; clear hK19
            refine wp_cond_split (hF.ev rfl) (fun hc5 => ?_) (fun hc5 => ?_)
            · -- cond 5 true
              try simp only [decide_eq_true_eq, decide_eq_false_iff_not, Bool.not_eq_true', Bool.not_eq_false', Int.not_lt, Int.not_le, ne_eq, Decidable.not_not, Bool.or_eq_true, Bool.or_eq_false_iff, Bool.and_eq_true, Bool.and_eq_false_imp] at hc5
              have hil : i < zs.length := by omega
              obtain ⟨x, rfl, hv⟩ := hR.at_ i hil
              have hv1 := hv w (hS.drop 0 |>.drop 0)
              obtain ⟨m1, m2, m3, m4, m5, m6⟩ := hmm i hil
              have hqb := qsum_le hu.1 hall ht1 (i := i) hi
              have hqb2 := qsum_le hu.1 hall ht1 (i := i + 1) hil
              have hqt : total ((qs u zs).take (i + 1)) = total ((qs u zs).take i) + u * zs.getD i 0 / total zs := by
                rw [total_take (by rw [qs_len]; exact hil), List.getD_eq_getElem?_getD, qs_get hil]
                rfl
              rw [hqt] at hqb2
              refine wp_skip ?_
              refine hK18 _ _ ?_; clear hK18
              refine wp_seq_k fun K20 hK20 => ?_
              refine wp_block ?_
              refine wp_seq_k fun K21 hK21 => ?_
              -- region 21
              refine wp_region_lit ?_
              refine s_pu hF rfl rfl rfl (pu_move (hF.ev rfl)) ?_; clear hF; intro a hF
              refine s_pu hF rfl rfl rfl (pu_move (hF.ev rfl)) ?_; clear hF; intro a hF
              refine s_pu hF rfl rfl rfl (pu_move (hF.ev rfl)) ?_; clear hF; intro a hF
              refine s_pu hF rfl rfl rfl ((by first | exact pu_elem sl22 (hF.ev rfl) (hF.ev rfl) (by first | omega | simp) (by first | omega | (simp; done) | (simp; omega)) | exact pu_elemA sl22 (hF.ev rfl) (hF.ev rfl) (by omega) (by omega))) ?_; clear hF; intro a hF
              refine s_rd hF rfl rfl rfl (by first | exact rd_load pl3 (hF.ev rfl) (by assumption) | exact rd_load pl3 (hF.ev rfl) (hS.cellL (i := 0) rfl rfl) | exact rd_load pl3 (hF.ev rfl) (hS.cellL (i := 1) rfl rfl) | exact rd_load pl3 (hF.ev rfl) (hS.cellL (i := 2) rfl rfl) | exact rd_load pl3 (hF.ev rfl) (hS.cellL (i := 3) rfl rfl) | exact rd_load pl3 (hF.ev rfl) (hS.cell (i := 0) rfl (by assumption)) | exact rd_load pl3 (hF.ev rfl) (hS.cell (i := 1) rfl (by assumption)) | exact rd_load pl3 (hF.ev rfl) (hS.cell (i := 2) rfl (by assumption)) | exact rd_load pl3 (hF.ev rfl) (hS.cell (i := 3) rfl (by assumption)) | exact rd_load pl3 (hF.ev rfl) (row_at (i := 0) hS rfl (by first | assumption | rfl)) | exact rd_load pl3 (hF.ev rfl) (row_at0 (i := 0) hS rfl (by first | assumption | rfl)) | exact rd_load pl3 (hF.ev rfl) (row_at (i := 1) hS rfl (by first | assumption | rfl)) | exact rd_load pl3 (hF.ev rfl) (row_at0 (i := 1) hS rfl (by first | assumption | rfl)) | exact rd_load pl3 (hF.ev rfl) (row_at (i := 2) hS rfl (by first | assumption | rfl)) | exact rd_load pl3 (hF.ev rfl) (row_at0 (i := 2) hS rfl (by first | assumption | rfl)) | exact rd_load pl3 (hF.ev rfl) (row_at (i := 3) hS rfl (by first | assumption | rfl)) | exact rd_load pl3 (hF.ev rfl) (row_at0 (i := 3) hS rfl (by first | assumption | rfl))) ?_; clear hF; intro a hF
              refine s_pu hF rfl rfl rfl ((by first | exact pu_mul64 (hF.ev rfl) (hF.ev rfl) (by omega) | exact pu_mul (hF.ev rfl) (hF.ev rfl))) ?_; clear hF; intro a hF
              refine s_pu hF rfl rfl rfl (pu_move (hF.ev rfl)) ?_; clear hF; intro a hF
              refine s_pu hF rfl rfl rfl (pu_quo64 (hF.ev rfl) (hF.ev rfl) (by omega)) ?_; clear hF; intro a hF
              refine s_pu hF rfl rfl rfl (pu_assign (hF.ev rfl)) ?_; clear hF; intro a hF
              refine s_done ?_
              refine hK21 _ _ ?_; clear hK21
              refine wp_seq_k fun K22 hK22 => ?_
              -- region 22
              refine wp_region_lit ?_
              refine s_pu hF rfl rfl rfl (pu_move (hF.ev rfl)) ?_; clear hF; intro a hF
              refine s_pu hF rfl rfl rfl (pu_move (hF.ev rfl)) ?_; clear hF; intro a hF
              refine s_news hF rfl rfl rfl (ef_lit1 (cs := [_]) sl22 ze3 rfl (hF.ev rfl) (by first | rfl | exact cells_one (by assumption)) rfl (by omega) (by omega)) hS ?_; clear hF hS; intro b71 w hS a hF
              (first | (refine s_append 0 1 hF rfl rfl sl22 el3 (hF.ev rfl) (hF.ev rfl) hS rfl rfl rfl (by first | rfl | (simp only [List.all_cons, List.all_nil, Value.oneCell', Bool.and_true, Bool.true_and]; assumption) | (simp [Value.oneCell', *]; done)) (by unfold maxLen; omega) (by omega) ?_) | (refine s_append 0 2 hF rfl rfl sl22 el3 (hF.ev rfl) (hF.ev rfl) hS rfl rfl rfl (by first | rfl | (simp only [List.all_cons, List.all_nil, Value.oneCell', Bool.and_true, Bool.true_and]; assumption) | (simp [Value.oneCell', *]; done)) (by unfold maxLen; omega) (by omega) ?_) | (refine s_append 0 3 hF rfl rfl sl22 el3 (hF.ev rfl) (hF.ev rfl) hS rfl rfl rfl (by first | rfl | (simp only [List.all_cons, List.all_nil, Value.oneCell', Bool.and_true, Bool.true_and]; assumption) | (simp [Value.oneCell', *]; done)) (by unfold maxLen; omega) (by omega) ?_) | (refine s_append 1 0 hF rfl rfl sl22 el3 (hF.ev rfl) (hF.ev rfl) hS rfl rfl rfl (by first | rfl | (simp only [List.all_cons, List.all_nil, Value.oneCell', Bool.and_true, Bool.true_and]; assumption) | (simp [Value.oneCell', *]; done)) (by unfold maxLen; omega) (by omega) ?_) | (refine s_append 1 2 hF rfl rfl sl22 el3 (hF.ev rfl) (hF.ev rfl) hS rfl rfl rfl (by first | rfl | (simp only [List.all_cons, List.all_nil, Value.oneCell', Bool.and_true, Bool.true_and]; assumption) | (simp [Value.oneCell', *]; done)) (by unfold maxLen; omega) (by omega) ?_) | (refine s_append 1 3 hF rfl rfl sl22 el3 (hF.ev rfl) (hF.ev rfl) hS rfl rfl rfl (by first | rfl | (simp only [List.all_cons, List.all_nil, Value.oneCell', Bool.and_true, Bool.true_and]; assumption) | (simp [Value.oneCell', *]; done)) (by unfold maxLen; omega) (by omega) ?_) | (refine s_append 2 0 hF rfl rfl sl22 el3 (hF.ev rfl) (hF.ev rfl) hS rfl rfl rfl (by first | rfl | (simp only [List.all_cons, List.all_nil, Value.oneCell', Bool.and_true, Bool.true_and]; assumption) | (simp [Value.oneCell', *]; done)) (by unfold maxLen; omega) (by omega) ?_) | (refine s_append 2 1 hF rfl rfl sl22 el3 (hF.ev rfl) (hF.ev rfl) hS rfl rfl rfl (by first | rfl | (simp only [List.all_cons, List.all_nil, Value.oneCell', Bool.and_true, Bool.true_and]; assumption) | (simp [Value.oneCell', *]; done)) (by unfold maxLen; omega) (by omega) ?_) | (refine s_append 2 3 hF rfl rfl sl22 el3 (hF.ev rfl) (hF.ev rfl) hS rfl rfl rfl (by first | rfl | (simp only [List.all_cons, List.all_nil, Value.oneCell', Bool.and_true, Bool.true_and]; assumption) | (simp [Value.oneCell', *]; done)) (by unfold maxLen; omega) (by omega) ?_) | (refine s_append 3 0 hF rfl rfl sl22 el3 (hF.ev rfl) (hF.ev rfl) hS rfl rfl rfl (by first | rfl | (simp only [List.all_cons, List.all_nil, Value.oneCell', Bool.and_true, Bool.true_and]; assumption) | (simp [Value.oneCell', *]; done)) (by unfold maxLen; omega) (by omega) ?_) | (refine s_append 3 1 hF rfl rfl sl22 el3 (hF.ev rfl) (hF.ev rfl) hS rfl rfl rfl (by first | rfl | (simp only [List.all_cons, List.all_nil, Value.oneCell', Bool.and_true, Bool.true_and]; assumption) | (simp [Value.oneCell', *]; done)) (by unfold maxLen; omega) (by omega) ?_) | (refine s_append 3 2 hF rfl rfl sl22 el3 (hF.ev rfl) (hF.ev rfl) hS rfl rfl rfl (by first | rfl | (simp only [List.all_cons, List.all_nil, Value.oneCell', Bool.and_true, Bool.true_and]; assumption) | (simp [Value.oneCell', *]; done)) (by unfold maxLen; omega) (by omega) ?_)); (clear hS hF; intro A72 q72 w hS a hF; (try simp only [upd, del] at hS))
              refine s_pu hF rfl rfl rfl (pu_assign (hF.ev rfl)) ?_; clear hF; intro a hF
              refine s_done ?_
              rw [ints_snoc, show (qs u zs).take i ++ [u * zs.getD i 0 / total zs] = (qs u zs).take (i + 1) by rw [List.take_add_one, qs_get hil]; rfl] at hS
              replace hS := hS.drop 1
              simp only [del] at hS
              have hv1 := hv w hS.tail.tail
              refine hK22 _ _ ?_; clear hK22
              refine wp_seq_k fun K23 hK23 => ?_
              -- region 23
              refine wp_region_lit ?_
              refine s_pu hF rfl rfl rfl (pu_move (hF.ev rfl)) ?_; clear hF; intro a hF
              refine s_pu hF rfl rfl rfl (pu_move (hF.ev rfl)) ?_; clear hF; intro a hF
              refine s_pu hF rfl rfl rfl (pu_move (hF.ev rfl)) ?_; clear hF; intro a hF
              refine s_pu hF rfl rfl rfl (pu_move (hF.ev rfl)) ?_; clear hF; intro a hF
              refine s_pu hF rfl rfl rfl ((by first | exact pu_elem sl22 (hF.ev rfl) (hF.ev rfl) (by first | omega | simp) (by first | omega | (simp; done) | (simp; omega)) | exact pu_elemA sl22 (hF.ev rfl) (hF.ev rfl) (by omega) (by omega))) ?_; clear hF; intro a hF
              refine s_rd hF rfl rfl rfl (by first | exact rd_load pl3 (hF.ev rfl) (by assumption) | exact rd_load pl3 (hF.ev rfl) (hS.cellL (i := 0) rfl rfl) | exact rd_load pl3 (hF.ev rfl) (hS.cellL (i := 1) rfl rfl) | exact rd_load pl3 (hF.ev rfl) (hS.cellL (i := 2) rfl rfl) | exact rd_load pl3 (hF.ev rfl) (hS.cellL (i := 3) rfl rfl) | exact rd_load pl3 (hF.ev rfl) (hS.cell (i := 0) rfl (by assumption)) | exact rd_load pl3 (hF.ev rfl) (hS.cell (i := 1) rfl (by assumption)) | exact rd_load pl3 (hF.ev rfl) (hS.cell (i := 2) rfl (by assumption)) | exact rd_load pl3 (hF.ev rfl) (hS.cell (i := 3) rfl (by assumption)) | exact rd_load pl3 (hF.ev rfl) (row_at (i := 0) hS rfl (by first | assumption | rfl)) | exact rd_load pl3 (hF.ev rfl) (row_at0 (i := 0) hS rfl (by first | assumption | rfl)) | exact rd_load pl3 (hF.ev rfl) (row_at (i := 1) hS rfl (by first | assumption | rfl)) | exact rd_load pl3 (hF.ev rfl) (row_at0 (i := 1) hS rfl (by first | assumption | rfl)) | exact rd_load pl3 (hF.ev rfl) (row_at (i := 2) hS rfl (by first | assumption | rfl)) | exact rd_load pl3 (hF.ev rfl) (row_at0 (i := 2) hS rfl (by first | assumption | rfl)) | exact rd_load pl3 (hF.ev rfl) (row_at (i := 3) hS rfl (by first | assumption | rfl)) | exact rd_load pl3 (hF.ev rfl) (row_at0 (i := 3) hS rfl (by first | assumption | rfl))) ?_; clear hF; intro a hF
              refine s_pu hF rfl rfl rfl ((by first | exact pu_mul64 (hF.ev rfl) (hF.ev rfl) (by omega) | exact pu_mul (hF.ev rfl) (hF.ev rfl))) ?_; clear hF; intro a hF
              refine s_pu hF rfl rfl rfl (pu_move (hF.ev rfl)) ?_; clear hF; intro a hF
              refine s_pu hF rfl rfl rfl (pu_rem64 (hF.ev rfl) (hF.ev rfl) (by omega)) ?_; clear hF; intro a hF
              refine s_news hF rfl rfl rfl (ef_lit1 (cs := [_]) sl22 ze3 rfl (hF.ev rfl) (by first | rfl | exact cells_one (by assumption)) rfl (by omega) (by omega)) hS ?_; clear hF hS; intro b82 w hS a hF
              (first | (refine s_append 0 1 hF rfl rfl sl22 el3 (hF.ev rfl) (hF.ev rfl) hS rfl rfl rfl (by first | rfl | (simp only [List.all_cons, List.all_nil, Value.oneCell', Bool.and_true, Bool.true_and]; assumption) | (simp [Value.oneCell', *]; done)) (by unfold maxLen; omega) (by omega) ?_) | (refine s_append 0 2 hF rfl rfl sl22 el3 (hF.ev rfl) (hF.ev rfl) hS rfl rfl rfl (by first | rfl | (simp only [List.all_cons, List.all_nil, Value.oneCell', Bool.and_true, Bool.true_and]; assumption) | (simp [Value.oneCell', *]; done)) (by unfold maxLen; omega) (by omega) ?_) | (refine s_append 0 3 hF rfl rfl sl22 el3 (hF.ev rfl) (hF.ev rfl) hS rfl rfl rfl (by first | rfl | (simp only [List.all_cons, List.all_nil, Value.oneCell', Bool.and_true, Bool.true_and]; assumption) | (simp [Value.oneCell', *]; done)) (by unfold maxLen; omega) (by omega) ?_) | (refine s_append 1 0 hF rfl rfl sl22 el3 (hF.ev rfl) (hF.ev rfl) hS rfl rfl rfl (by first | rfl | (simp only [List.all_cons, List.all_nil, Value.oneCell', Bool.and_true, Bool.true_and]; assumption) | (simp [Value.oneCell', *]; done)) (by unfold maxLen; omega) (by omega) ?_) | (refine s_append 1 2 hF rfl rfl sl22 el3 (hF.ev rfl) (hF.ev rfl) hS rfl rfl rfl (by first | rfl | (simp only [List.all_cons, List.all_nil, Value.oneCell', Bool.and_true, Bool.true_and]; assumption) | (simp [Value.oneCell', *]; done)) (by unfold maxLen; omega) (by omega) ?_) | (refine s_append 1 3 hF rfl rfl sl22 el3 (hF.ev rfl) (hF.ev rfl) hS rfl rfl rfl (by first | rfl | (simp only [List.all_cons, List.all_nil, Value.oneCell', Bool.and_true, Bool.true_and]; assumption) | (simp [Value.oneCell', *]; done)) (by unfold maxLen; omega) (by omega) ?_) | (refine s_append 2 0 hF rfl rfl sl22 el3 (hF.ev rfl) (hF.ev rfl) hS rfl rfl rfl (by first | rfl | (simp only [List.all_cons, List.all_nil, Value.oneCell', Bool.and_true, Bool.true_and]; assumption) | (simp [Value.oneCell', *]; done)) (by unfold maxLen; omega) (by omega) ?_) | (refine s_append 2 1 hF rfl rfl sl22 el3 (hF.ev rfl) (hF.ev rfl) hS rfl rfl rfl (by first | rfl | (simp only [List.all_cons, List.all_nil, Value.oneCell', Bool.and_true, Bool.true_and]; assumption) | (simp [Value.oneCell', *]; done)) (by unfold maxLen; omega) (by omega) ?_) | (refine s_append 2 3 hF rfl rfl sl22 el3 (hF.ev rfl) (hF.ev rfl) hS rfl rfl rfl (by first | rfl | (simp only [List.all_cons, List.all_nil, Value.oneCell', Bool.and_true, Bool.true_and]; assumption) | (simp [Value.oneCell', *]; done)) (by unfold maxLen; omega) (by omega) ?_) | (refine s_append 3 0 hF rfl rfl sl22 el3 (hF.ev rfl) (hF.ev rfl) hS rfl rfl rfl (by first | rfl | (simp only [List.all_cons, List.all_nil, Value.oneCell', Bool.and_true, Bool.true_and]; assumption) | (simp [Value.oneCell', *]; done)) (by unfold maxLen; omega) (by omega) ?_) | (refine s_append 3 1 hF rfl rfl sl22 el3 (hF.ev rfl) (hF.ev rfl) hS rfl rfl rfl (by first | rfl | (simp only [List.all_cons, List.all_nil, Value.oneCell', Bool.and_true, Bool.true_and]; assumption) | (simp [Value.oneCell', *]; done)) (by unfold maxLen; omega) (by omega) ?_) | (refine s_append 3 2 hF rfl rfl sl22 el3 (hF.ev rfl) (hF.ev rfl) hS rfl rfl rfl (by first | rfl | (simp only [List.all_cons, List.all_nil, Value.oneCell', Bool.and_true, Bool.true_and]; assumption) | (simp [Value.oneCell', *]; done)) (by unfold maxLen; omega) (by omega) ?_)); (clear hS hF; intro A83 q83 w hS a hF; (try simp only [upd, del] at hS))
              refine s_pu hF rfl rfl rfl (pu_assign (hF.ev rfl)) ?_; clear hF; intro a hF
              refine s_done ?_
              rw [ints_snoc, show (rs u zs).take i ++ [u * zs.getD i 0 % total zs] = (rs u zs).take (i + 1) by rw [List.take_add_one, show (rs u zs)[i]? = some (u * zs.getD i 0 % total zs) by unfold rs; rw [List.getElem?_map, prts_get hil]; rfl]; rfl] at hS
              replace hS := (hS.drop 1).front 1 rfl
              simp only [del] at hS
              refine hK23 _ _ ?_; clear hK23
              -- region 24
              refine wp_region_lit ?_
              refine s_pu hF rfl rfl rfl (pu_move (hF.ev rfl)) ?_; clear hF; intro a hF
              refine s_pu hF rfl rfl rfl (pu_move (hF.ev rfl)) ?_; clear hF; intro a hF
              refine s_pu hF rfl rfl rfl ((by first | exact pu_sub64 (hF.ev rfl) (hF.ev rfl) (by omega) | exact pu_sub (hF.ev rfl) (hF.ev rfl))) ?_; clear hF; intro a hF
              refine s_pu hF rfl rfl rfl (pu_assign (hF.ev rfl)) ?_; clear hF; intro a hF
              refine s_done ?_
              refine blk_normal ?_
              refine hK20 _ _ ?_; clear hK20
              -- region 20
              refine wp_region_lit ?_
              refine s_pu hF rfl rfl rfl (pu_move (hF.ev rfl)) ?_; clear hF; intro a hF
              refine s_pu hF rfl rfl rfl ((by first | exact pu_add64 (hF.ev rfl) (hF.ev rfl) (by omega) | exact pu_add (hF.ev rfl) (hF.ev rfl))) ?_; clear hF; intro a hF
              refine s_pu hF rfl rfl rfl (pu_assign (hF.ev rfl)) ?_; clear hF; intro a hF
              refine s_done ?_
              refine ⟨_, by omega, i + 1, _, _, _, _, rfl, by omega, ?_, hS⟩
              rw [hqt, ← Int.sub_sub]
              exact hF.sub ⟨rfl, rfl, rfl, rfl, rfl, rfl, rfl, trivial⟩
            · -- cond 5 false
              try simp only [decide_eq_true_eq, decide_eq_false_iff_not, Bool.not_eq_true', Bool.not_eq_false', Int.not_lt, Int.not_le, ne_eq, Decidable.not_not, Bool.or_eq_true, Bool.or_eq_false_iff, Bool.and_eq_true, Bool.and_eq_false_imp] at hc5
              refine wp_exit ?_
              refine then_exit ?_
              refine then_exit ?_
              refine blk_exit ?_
              refine hK16 _ _ ?_; clear hK16
              refine wp_seq_k fun K20 hK20 => ?_
              refine wp_block ?_
              have hil : i = zs.length := by omega
              subst hil
              rw [List.take_of_length_le (by rw [qs_len]; exact Nat.le_refl _), List.take_of_length_le (by rw [rs_len]; exact Nat.le_refl _)] at hS
              rw [List.take_of_length_le (by rw [qs_len]; exact Nat.le_refl _)] at hF
              have hlb := left_bd hu.1 hall ht1
              obtain ⟨ys, hp, hs, hout⟩ := hdd
              have hyl : ys.length = zs.length := by rw [hp.length_eq, prts_len]
              obtain ⟨ga, rfl⟩ := row_some (i := 0) hS rfl (by omega)
              obtain ⟨gb, rfl⟩ := row_some (i := 1) hS rfl (by omega)
              refine wp_ind (fun j a w => ∃ (t : Nat), j = (left u zs).toNat - t ∧ t ≤ (left u zs).toNat ∧
                Fr a 117 [(9, .slice (some ⟨ga, 0, none⟩) zs.length c), (10, .slice (some ⟨gb, 0, none⟩) zs.length d), (11, .int .i64 (left u zs - t))] ∧
                Sat w0 w (rowC 3 1 (.slice (some ⟨ga, 0, none⟩) zs.length c) zs.length (ints (bump (qs u zs) (ys.take t))) :: rowC 3 1 (.slice (some ⟨gb, 0, none⟩) zs.length d) zs.length (ints (strike (rs u zs) (ys.take t))) :: F)) (left u zs).toNat
                ⟨0, by omega, by omega, by rw [show left u zs - (0 : Nat) = u - total (qs u zs) by simp [left]]; exact hF.sub ⟨rfl, rfl, rfl, trivial⟩, hS⟩ ?_
              clear hS hF
              rintro j a w ⟨t, rfl, htl, hF, hS⟩
              refine wp_seq_k fun K21 hK21 => ?_
              refine wp_seq_k fun K22 hK22 => ?_
              -- region 25
              refine wp_region_lit ?_
              refine s_pu hF rfl rfl rfl (pu_move (hF.ev rfl)) ?_; clear hF; intro a hF
              refine s_pu hF rfl rfl rfl (pu_gtr (hF.ev rfl) (hF.ev rfl)) ?_; clear hF; intro a hF
              refine s_done ?_
              refine hK22 _ _ ?_; clear hK22
              refine wp_cond_split (hF.ev rfl) (fun hc6 => ?_) (fun hc6 => ?_)
              · -- cond 6 true
                try simp only [decide_eq_true_eq, decide_eq_false_iff_not, Bool.not_eq_true', Bool.not_eq_false', Int.not_lt, Int.not_le, ne_eq, Decidable.not_not, Bool.or_eq_true, Bool.or_eq_false_iff, Bool.and_eq_true, Bool.and_eq_false_imp] at hc6
                have htn : t < ys.length := by omega
                obtain ⟨y, hy⟩ : ∃ y, ys[t]? = some y := ⟨ys[t], List.getElem?_eq_getElem htn⟩
                obtain ⟨R, hR2⟩ : ∃ R, R = strike (rs u zs) (ys.take t) := ⟨_, rfl⟩
                obtain ⟨O, hO⟩ : ∃ O, O = bump (qs u zs) (ys.take t) := ⟨_, rfl⟩
                have hRl : R.length = zs.length := by rw [hR2, strike_len, rs_len]
                have hOl : O.length = zs.length := by rw [hO, bump_len, qs_len]
                rw [← hR2, ← hO] at hS
                refine wp_skip ?_
                refine hK21 _ _ ?_; clear hK21
                refine wp_block ?_
                refine wp_seq_k fun K23 hK23 => ?_
                -- region 26
                refine wp_region_lit ?_
                refine s_pu hF rfl rfl rfl (pu_assign (hF.ev rfl)) ?_; clear hF; intro a hF
                refine s_done ?_
                refine hK23 _ _ ?_; clear hK23
                refine wp_seq_k fun K24 hK24 => ?_
                refine wp_seq_k fun K25 hK25 => ?_
                -- region 27
                refine wp_region_lit ?_
                refine s_pu hF rfl rfl rfl (pu_assign (hF.ev rfl)) ?_; clear hF; intro a hF
                refine s_done ?_
                refine hK25 _ _ ?_; clear hK25
                refine wp_block ?_
                refine wp_ind (fun j a w => ∃ (k i : Nat), j = zs.length - i ∧ 1 ≤ i ∧ i ≤ zs.length ∧ k < i ∧ (∀ j, j < i → R.getD j 0 ≤ R.getD k 0) ∧ (∀ j, j < k → R.getD j 0 < R.getD k 0) ∧
                  Fr a 117 [(9, .slice (some ⟨ga, 0, none⟩) zs.length c), (10, .slice (some ⟨gb, 0, none⟩) zs.length d), (11, .int .i64 (left u zs - t)), (14, .int .i64 k), (15, .int .i64 i)] ∧
                  Sat w0 w (rowC 3 1 (.slice (some ⟨ga, 0, none⟩) zs.length c) zs.length (ints O) :: rowC 3 1 (.slice (some ⟨gb, 0, none⟩) zs.length d) zs.length (ints R) :: F)) (zs.length - 1)
                  ⟨0, 1, by omega, by omega, by omega, by omega, fun j hj => by rw [show j = 0 by omega]; exact Int.le_refl _, fun j hj => by omega, hF.sub ⟨rfl, rfl, rfl, rfl, rfl, trivial⟩, hS⟩ ?_
                clear hS hF
                rintro j a w ⟨k, i, rfl, hi1, hi, hki, hmx, hfst, hF, hS⟩
                refine wp_seq_k fun K26 hK26 => ?_
                refine wp_seq_k fun K27 hK27 => ?_
                -- region 28
                refine wp_region_lit ?_
                refine s_pu hF rfl rfl rfl (pu_move (hF.ev rfl)) ?_; clear hF; intro a hF
                refine s_pu hF rfl rfl rfl (pu_move (hF.ev rfl)) ?_; clear hF; intro a hF
                refine s_pu hF rfl rfl rfl (pu_len sl22 (hF.ev rfl)) ?_; clear hF; intro a hF
                refine s_pu hF rfl rfl rfl (pu_lss (hF.ev rfl) (hF.ev rfl)) ?_; clear hF; intro a hF
                refine s_done ?_
                refine hK27 _ _ ?_; clear hK27
                refine wp_cond_split (hF.ev rfl) (fun hc7 => ?_) (fun hc7 => ?_)
                · -- cond 7 true
                  try simp only [decide_eq_true_eq, decide_eq_false_iff_not, Bool.not_eq_true', Bool.not_eq_false', Int.not_lt, Int.not_le, ne_eq, Decidable.not_not, Bool.or_eq_true, Bool.or_eq_false_iff, Bool.and_eq_true, Bool.and_eq_false_imp] at hc7
                  have hil : i < zs.length := by omega
                  have hrk := ints_at (zs := R) (i := k) (by omega)
                  have hri := ints_at (zs := R) (i := i) (by omega)
                  refine wp_skip ?_
                  refine hK26 _ _ ?_; clear hK26
                  refine wp_seq_k fun K28 hK28 => ?_
                  refine wp_block ?_
                  refine wp_seq_k fun K29 hK29 => ?_
                  -- region 30
                  refine d_start (S := (fun w => Sat w0 w _)) (ds := []) (ord := [(0, .pu), (1, .pu), (2, .pu), (3, .tk), (4, .pu), (5, .pu), (6, .pu), (7, .tk), (8, .pu)]) mixed ⟨chk_fast (by kernel_rfl), fun _ d _ _ _ h => by cases d <;> exact h⟩ hS.drew fun hD => ?_
                  replace hS := hS.drew; generalize w.drew = w at hS ⊢
                  refine d_pu hD hF rfl rfl rfl rfl rfl (pu_move (hF.ev rfl)) ?_; clear hF; intro a hF
                  refine d_pu hD hF rfl rfl rfl rfl rfl (pu_move (hF.ev rfl)) ?_; clear hF; intro a hF
                  refine d_pu hD hF rfl rfl rfl rfl rfl ((by first | exact pu_elem sl22 (hF.ev rfl) (hF.ev rfl) (by first | omega | simp) (by first | omega | (simp; done) | (simp; omega)) | exact pu_elemA sl22 (hF.ev rfl) (hF.ev rfl) (by omega) (by omega))) ?_; clear hF; intro a hF
                  refine d_rd hD hF rfl rfl rfl rfl rfl hS (fun w hS => (by first | exact rd_load pl3 (hF.ev rfl) (by assumption) | exact rd_load pl3 (hF.ev rfl) (hS.cellL (i := 0) rfl rfl) | exact rd_load pl3 (hF.ev rfl) (hS.cellL (i := 1) rfl rfl) | exact rd_load pl3 (hF.ev rfl) (hS.cellL (i := 2) rfl rfl) | exact rd_load pl3 (hF.ev rfl) (hS.cellL (i := 3) rfl rfl) | exact rd_load pl3 (hF.ev rfl) (hS.cell (i := 0) rfl (by assumption)) | exact rd_load pl3 (hF.ev rfl) (hS.cell (i := 1) rfl (by assumption)) | exact rd_load pl3 (hF.ev rfl) (hS.cell (i := 2) rfl (by assumption)) | exact rd_load pl3 (hF.ev rfl) (hS.cell (i := 3) rfl (by assumption)) | exact rd_load pl3 (hF.ev rfl) (row_at (i := 0) hS rfl (by first | assumption | rfl)) | exact rd_load pl3 (hF.ev rfl) (row_at0 (i := 0) hS rfl (by first | assumption | rfl)) | exact rd_load pl3 (hF.ev rfl) (row_at (i := 1) hS rfl (by first | assumption | rfl)) | exact rd_load pl3 (hF.ev rfl) (row_at0 (i := 1) hS rfl (by first | assumption | rfl)) | exact rd_load pl3 (hF.ev rfl) (row_at (i := 2) hS rfl (by first | assumption | rfl)) | exact rd_load pl3 (hF.ev rfl) (row_at0 (i := 2) hS rfl (by first | assumption | rfl)) | exact rd_load pl3 (hF.ev rfl) (row_at (i := 3) hS rfl (by first | assumption | rfl)) | exact rd_load pl3 (hF.ev rfl) (row_at0 (i := 3) hS rfl (by first | assumption | rfl)))) ?_; clear hF; intro a hF
                  refine d_pu hD hF rfl rfl rfl rfl rfl (pu_move (hF.ev rfl)) ?_; clear hF; intro a hF
                  refine d_pu hD hF rfl rfl rfl rfl rfl (pu_move (hF.ev rfl)) ?_; clear hF; intro a hF
                  refine d_pu hD hF rfl rfl rfl rfl rfl ((by first | exact pu_elem sl22 (hF.ev rfl) (hF.ev rfl) (by first | omega | simp) (by first | omega | (simp; done) | (simp; omega)) | exact pu_elemA sl22 (hF.ev rfl) (hF.ev rfl) (by omega) (by omega))) ?_; clear hF; intro a hF
                  refine d_rd hD hF rfl rfl rfl rfl rfl hS (fun w hS => (by first | exact rd_load pl3 (hF.ev rfl) (by assumption) | exact rd_load pl3 (hF.ev rfl) (hS.cellL (i := 0) rfl rfl) | exact rd_load pl3 (hF.ev rfl) (hS.cellL (i := 1) rfl rfl) | exact rd_load pl3 (hF.ev rfl) (hS.cellL (i := 2) rfl rfl) | exact rd_load pl3 (hF.ev rfl) (hS.cellL (i := 3) rfl rfl) | exact rd_load pl3 (hF.ev rfl) (hS.cell (i := 0) rfl (by assumption)) | exact rd_load pl3 (hF.ev rfl) (hS.cell (i := 1) rfl (by assumption)) | exact rd_load pl3 (hF.ev rfl) (hS.cell (i := 2) rfl (by assumption)) | exact rd_load pl3 (hF.ev rfl) (hS.cell (i := 3) rfl (by assumption)) | exact rd_load pl3 (hF.ev rfl) (row_at (i := 0) hS rfl (by first | assumption | rfl)) | exact rd_load pl3 (hF.ev rfl) (row_at0 (i := 0) hS rfl (by first | assumption | rfl)) | exact rd_load pl3 (hF.ev rfl) (row_at (i := 1) hS rfl (by first | assumption | rfl)) | exact rd_load pl3 (hF.ev rfl) (row_at0 (i := 1) hS rfl (by first | assumption | rfl)) | exact rd_load pl3 (hF.ev rfl) (row_at (i := 2) hS rfl (by first | assumption | rfl)) | exact rd_load pl3 (hF.ev rfl) (row_at0 (i := 2) hS rfl (by first | assumption | rfl)) | exact rd_load pl3 (hF.ev rfl) (row_at (i := 3) hS rfl (by first | assumption | rfl)) | exact rd_load pl3 (hF.ev rfl) (row_at0 (i := 3) hS rfl (by first | assumption | rfl)))) ?_; clear hF; intro a hF
                  refine d_pu hD hF rfl rfl rfl rfl rfl (pu_gtr (hF.ev rfl) (hF.ev rfl)) ?_; clear hF; intro a hF
                  refine d_done hD rfl ?_; clear hD
                  refine hK29 _ _ ?_; clear hK29
                  refine wp_cond_split (hF.ev rfl) (fun hc8 => ?_) (fun hc8 => ?_)
                  · -- cond 8 true
                    try simp only [decide_eq_true_eq, decide_eq_false_iff_not, Bool.not_eq_true', Bool.not_eq_false', Int.not_lt, Int.not_le, ne_eq, Decidable.not_not, Bool.or_eq_true, Bool.or_eq_false_iff, Bool.and_eq_true, Bool.and_eq_false_imp] at hc8
                    -- region 31
                    refine wp_region_lit ?_
                    refine s_pu hF rfl rfl rfl (pu_move (hF.ev rfl)) ?_; clear hF; intro a hF
                    refine s_pu hF rfl rfl rfl (pu_assign (hF.ev rfl)) ?_; clear hF; intro a hF
                    refine s_done ?_
                    refine blk_normal ?_
                    refine hK28 _ _ ?_; clear hK28
                    -- region 29
                    refine wp_region_lit ?_
                    refine s_pu hF rfl rfl rfl (pu_move (hF.ev rfl)) ?_; clear hF; intro a hF
                    refine s_pu hF rfl rfl rfl ((by first | exact pu_add64 (hF.ev rfl) (hF.ev rfl) (by omega) | exact pu_add (hF.ev rfl) (hF.ev rfl))) ?_; clear hF; intro a hF
                    refine s_pu hF rfl rfl rfl (pu_assign (hF.ev rfl)) ?_; clear hF; intro a hF
                    refine s_done ?_
                    first
                      | exact ⟨_, by omega, i, i + 1, rfl, by omega, by omega, by omega, fun j hj => by
                          by_cases e : j = i
                          · rw [e]; exact Int.le_refl _
                          · have := hmx j (by omega); omega, fun j hj => by
                          have := hmx j hj; omega, hF.sub ⟨rfl, rfl, rfl, rfl, rfl, trivial⟩, hS⟩
                      | exact ⟨_, by omega, k, i + 1, rfl, by omega, by omega, by omega, fun j hj => by
                          by_cases e : j = i
                          · rw [e]; omega
                          · exact hmx j (by omega), hfst, hF.sub ⟨rfl, rfl, rfl, rfl, rfl, trivial⟩, hS⟩
                  · -- cond 8 false
                    try simp only [decide_eq_true_eq, decide_eq_false_iff_not, Bool.not_eq_true', Bool.not_eq_false', Int.not_lt, Int.not_le, ne_eq, Decidable.not_not, Bool.or_eq_true, Bool.or_eq_false_iff, Bool.and_eq_true, Bool.and_eq_false_imp] at hc8
                    refine wp_skip ?_
                    refine blk_normal ?_
                    refine hK28 _ _ ?_; clear hK28
                    -- region 29
                    refine wp_region_lit ?_
                    refine s_pu hF rfl rfl rfl (pu_move (hF.ev rfl)) ?_; clear hF; intro a hF
                    refine s_pu hF rfl rfl rfl ((by first | exact pu_add64 (hF.ev rfl) (hF.ev rfl) (by omega) | exact pu_add (hF.ev rfl) (hF.ev rfl))) ?_; clear hF; intro a hF
                    refine s_pu hF rfl rfl rfl (pu_assign (hF.ev rfl)) ?_; clear hF; intro a hF
                    refine s_done ?_
                    first
                      | exact ⟨_, by omega, i, i + 1, rfl, by omega, by omega, by omega, fun j hj => by
                          by_cases e : j = i
                          · rw [e]; exact Int.le_refl _
                          · have := hmx j (by omega); omega, fun j hj => by
                          have := hmx j hj; omega, hF.sub ⟨rfl, rfl, rfl, rfl, rfl, trivial⟩, hS⟩
                      | exact ⟨_, by omega, k, i + 1, rfl, by omega, by omega, by omega, fun j hj => by
                          by_cases e : j = i
                          · rw [e]; omega
                          · exact hmx j (by omega), hfst, hF.sub ⟨rfl, rfl, rfl, rfl, rfl, trivial⟩, hS⟩
                · -- cond 7 false
                  try simp only [decide_eq_true_eq, decide_eq_false_iff_not, Bool.not_eq_true', Bool.not_eq_false', Int.not_lt, Int.not_le, ne_eq, Decidable.not_not, Bool.or_eq_true, Bool.or_eq_false_iff, Bool.and_eq_true, Bool.and_eq_false_imp] at hc7
                  have hil : i = zs.length := by omega
                  subst hil
                  have hyk : y.1 = (k : Int) := pick_next hp hs (fun i hi => (hmm i hi).2.2.2.2.1) hy hki (by rw [← hR2]; exact hmx) (by rw [← hR2]; exact hfst)
                  have hok := ints_at (zs := O) (i := k) (by omega)
                  have hob : 0 ≤ O.getD k 0 ∧ O.getD k 0 ≤ 999999999999 + (zs.length : Nat) := by
                    refine bump_bd (o := qs u zs) ?_ (ys.take t) zs.length (by rw [List.length_take]; omega) _ (by rw [← hO]; exact getD_mem0 (by omega))
                    intro z hz
                    obtain ⟨m, hm⟩ := List.mem_iff_getElem?.1 hz
                    have hml := (List.getElem?_eq_some_iff.1 hm).1
                    rw [qs_len] at hml
                    rw [qs_get hml] at hm
                    have q1 := qsum_le hu.1 hall ht1 (i := m) (by omega)
                    have q2 := qsum_le hu.1 hall ht1 (i := m + 1) (by omega)
                    rw [total_take (by rw [qs_len]; exact hml), List.getD_eq_getElem?_getD, qs_get hml] at q2
                    have q3 := (hmm m hml).2.2.1
                    injection hm with hm
                    subst hm
                    simp only [Option.getD_some] at q2
                    exact ⟨q3, by omega⟩
                  refine wp_exit ?_
                  refine then_exit ?_
                  refine then_exit ?_
                  refine blk_exit ?_
                  refine hK24 _ _ ?_; clear hK24
                  refine wp_seq_k fun K28 hK28 => ?_
                  -- region 32
                  refine wp_region_lit ?_
                  refine s_pu hF rfl rfl rfl (pu_move (hF.ev rfl)) ?_; clear hF; intro a hF
                  refine s_pu hF rfl rfl rfl (pu_move (hF.ev rfl)) ?_; clear hF; intro a hF
                  refine s_pu hF rfl rfl rfl ((by first | exact pu_elem sl22 (hF.ev rfl) (hF.ev rfl) (by first | omega | simp) (by first | omega | (simp; done) | (simp; omega)) | exact pu_elemA sl22 (hF.ev rfl) (hF.ev rfl) (by omega) (by omega))) ?_; clear hF; intro a hF
                  refine s_rd hF rfl rfl rfl (by first | exact rd_load pl3 (hF.ev rfl) (by assumption) | exact rd_load pl3 (hF.ev rfl) (hS.cellL (i := 0) rfl rfl) | exact rd_load pl3 (hF.ev rfl) (hS.cellL (i := 1) rfl rfl) | exact rd_load pl3 (hF.ev rfl) (hS.cellL (i := 2) rfl rfl) | exact rd_load pl3 (hF.ev rfl) (hS.cellL (i := 3) rfl rfl) | exact rd_load pl3 (hF.ev rfl) (hS.cell (i := 0) rfl (by assumption)) | exact rd_load pl3 (hF.ev rfl) (hS.cell (i := 1) rfl (by assumption)) | exact rd_load pl3 (hF.ev rfl) (hS.cell (i := 2) rfl (by assumption)) | exact rd_load pl3 (hF.ev rfl) (hS.cell (i := 3) rfl (by assumption)) | exact rd_load pl3 (hF.ev rfl) (row_at (i := 0) hS rfl (by first | assumption | rfl)) | exact rd_load pl3 (hF.ev rfl) (row_at0 (i := 0) hS rfl (by first | assumption | rfl)) | exact rd_load pl3 (hF.ev rfl) (row_at (i := 1) hS rfl (by first | assumption | rfl)) | exact rd_load pl3 (hF.ev rfl) (row_at0 (i := 1) hS rfl (by first | assumption | rfl)) | exact rd_load pl3 (hF.ev rfl) (row_at (i := 2) hS rfl (by first | assumption | rfl)) | exact rd_load pl3 (hF.ev rfl) (row_at0 (i := 2) hS rfl (by first | assumption | rfl)) | exact rd_load pl3 (hF.ev rfl) (row_at (i := 3) hS rfl (by first | assumption | rfl)) | exact rd_load pl3 (hF.ev rfl) (row_at0 (i := 3) hS rfl (by first | assumption | rfl))) ?_; clear hF; intro a hF
                  refine s_pu hF rfl rfl rfl ((by first | exact pu_add64 (hF.ev rfl) (hF.ev rfl) (by omega) | exact pu_add (hF.ev rfl) (hF.ev rfl))) ?_; clear hF; intro a hF
                  refine s_pu hF rfl rfl rfl ((by first | exact pu_elem sl22 (hF.ev rfl) (hF.ev rfl) (by first | omega | simp) (by first | omega | (simp; done) | (simp; omega)) | exact pu_elemA sl22 (hF.ev rfl) (hF.ev rfl) (by omega) (by omega))) ?_; clear hF; intro a hF
                  (first | (refine s_rstore 0 hF rfl (hF.ev rfl) (hF.ev rfl) hS rfl sz3 rfl (by omega) ?_) | (refine s_rstore 1 hF rfl (hF.ev rfl) (hF.ev rfl) hS rfl sz3 rfl (by omega) ?_) | (refine s_rstore 2 hF rfl (hF.ev rfl) (hF.ev rfl) hS rfl sz3 rfl (by omega) ?_) | (refine s_rstore 3 hF rfl (hF.ev rfl) (hF.ev rfl) hS rfl sz3 rfl (by omega) ?_) | (refine s_store (vs := [_]) (cs' := _) 0 hF rfl (hF.ev rfl) (hF.ev rfl) hS rfl rfl sz3 (by first | rfl | (simp only [List.all_cons, List.all_nil, Value.oneCell', Bool.and_true, Bool.true_and]; assumption) | (simp [Value.oneCell', *]; done)) (by first | exact Nat.le_of_ble_eq_true rfl | (simp [Value.cells]; omega)) rfl ?_) | (refine s_store (vs := [_]) (cs' := _) 1 hF rfl (hF.ev rfl) (hF.ev rfl) hS rfl rfl sz3 (by first | rfl | (simp only [List.all_cons, List.all_nil, Value.oneCell', Bool.and_true, Bool.true_and]; assumption) | (simp [Value.oneCell', *]; done)) (by first | exact Nat.le_of_ble_eq_true rfl | (simp [Value.cells]; omega)) rfl ?_) | (refine s_store (vs := [_]) (cs' := _) 2 hF rfl (hF.ev rfl) (hF.ev rfl) hS rfl rfl sz3 (by first | rfl | (simp only [List.all_cons, List.all_nil, Value.oneCell', Bool.and_true, Bool.true_and]; assumption) | (simp [Value.oneCell', *]; done)) (by first | exact Nat.le_of_ble_eq_true rfl | (simp [Value.cells]; omega)) rfl ?_) | (refine s_store (vs := [_]) (cs' := _) 3 hF rfl (hF.ev rfl) (hF.ev rfl) hS rfl rfl sz3 (by first | rfl | (simp only [List.all_cons, List.all_nil, Value.oneCell', Bool.and_true, Bool.true_and]; assumption) | (simp [Value.oneCell', *]; done)) (by first | exact Nat.le_of_ble_eq_true rfl | (simp [Value.cells]; omega)) rfl ?_))
                  clear hS; intro w hS; (try simp only [upd, del] at hS)
                  refine s_done ?_
                  refine hK28 _ _ ?_; clear hK28
                  refine wp_seq_k fun K29 hK29 => ?_
                  -- region 33
                  refine wp_region_lit ?_
                  refine s_pu hF rfl rfl rfl (pu_move (hF.ev rfl)) ?_; clear hF; intro a hF
                  refine s_pu hF rfl rfl rfl (pu_move (hF.ev rfl)) ?_; clear hF; intro a hF
                  refine s_pu hF rfl rfl rfl ((by first | exact pu_elem sl22 (hF.ev rfl) (hF.ev rfl) (by first | omega | simp) (by first | omega | (simp; done) | (simp; omega)) | exact pu_elemA sl22 (hF.ev rfl) (hF.ev rfl) (by omega) (by omega))) ?_; clear hF; intro a hF
                  (first | (refine s_rstore 0 hF rfl (hF.ev rfl) (hF.ev rfl) hS rfl sz3 rfl (by omega) ?_) | (refine s_rstore 1 hF rfl (hF.ev rfl) (hF.ev rfl) hS rfl sz3 rfl (by omega) ?_) | (refine s_rstore 2 hF rfl (hF.ev rfl) (hF.ev rfl) hS rfl sz3 rfl (by omega) ?_) | (refine s_rstore 3 hF rfl (hF.ev rfl) (hF.ev rfl) hS rfl sz3 rfl (by omega) ?_) | (refine s_store (vs := [_]) (cs' := _) 0 hF rfl (hF.ev rfl) (hF.ev rfl) hS rfl rfl sz3 (by first | rfl | (simp only [List.all_cons, List.all_nil, Value.oneCell', Bool.and_true, Bool.true_and]; assumption) | (simp [Value.oneCell', *]; done)) (by first | exact Nat.le_of_ble_eq_true rfl | (simp [Value.cells]; omega)) rfl ?_) | (refine s_store (vs := [_]) (cs' := _) 1 hF rfl (hF.ev rfl) (hF.ev rfl) hS rfl rfl sz3 (by first | rfl | (simp only [List.all_cons, List.all_nil, Value.oneCell', Bool.and_true, Bool.true_and]; assumption) | (simp [Value.oneCell', *]; done)) (by first | exact Nat.le_of_ble_eq_true rfl | (simp [Value.cells]; omega)) rfl ?_) | (refine s_store (vs := [_]) (cs' := _) 2 hF rfl (hF.ev rfl) (hF.ev rfl) hS rfl rfl sz3 (by first | rfl | (simp only [List.all_cons, List.all_nil, Value.oneCell', Bool.and_true, Bool.true_and]; assumption) | (simp [Value.oneCell', *]; done)) (by first | exact Nat.le_of_ble_eq_true rfl | (simp [Value.cells]; omega)) rfl ?_) | (refine s_store (vs := [_]) (cs' := _) 3 hF rfl (hF.ev rfl) (hF.ev rfl) hS rfl rfl sz3 (by first | rfl | (simp only [List.all_cons, List.all_nil, Value.oneCell', Bool.and_true, Bool.true_and]; assumption) | (simp [Value.oneCell', *]; done)) (by first | exact Nat.le_of_ble_eq_true rfl | (simp [Value.cells]; omega)) rfl ?_))
                  clear hS; intro w hS; (try simp only [upd, del] at hS)
                  refine s_done ?_
                  refine hK29 _ _ ?_; clear hK29
                  -- region 34
                  refine wp_region_lit ?_
                  refine s_pu hF rfl rfl rfl (pu_move (hF.ev rfl)) ?_; clear hF; intro a hF
                  refine s_pu hF rfl rfl rfl ((by first | exact pu_sub64 (hF.ev rfl) (hF.ev rfl) (by omega) | exact pu_sub (hF.ev rfl) (hF.ev rfl))) ?_; clear hF; intro a hF
                  refine s_pu hF rfl rfl rfl (pu_assign (hF.ev rfl)) ?_; clear hF; intro a hF
                  refine s_done ?_
                  refine blk_normal ?_
                  rw [ints_set, ints_set] at hS
                  have e1 := bump_snoc (o := qs u zs) hy
                  have e2 := strike_snoc (r := rs u zs) hy
                  rw [← hO, hyk, Int.toNat_natCast] at e1
                  rw [← hR2, hyk, Int.toNat_natCast] at e2
                  refine ⟨_, by omega, t + 1, rfl, by omega, ?_, by rw [e1, e2]; exact hS⟩
                  rw [show left u zs - ((t + 1 : Nat) : Int) = left u zs - t - 1 by omega]
                  exact hF.sub ⟨rfl, rfl, rfl, trivial⟩
              · -- cond 6 false
                try simp only [decide_eq_true_eq, decide_eq_false_iff_not, Bool.not_eq_true', Bool.not_eq_false', Int.not_lt, Int.not_le, ne_eq, Decidable.not_not, Bool.or_eq_true, Bool.or_eq_false_iff, Bool.and_eq_true, Bool.and_eq_false_imp] at hc6
                refine wp_exit ?_
                refine then_exit ?_
                refine then_exit ?_
                refine blk_exit ?_
                refine hK20 _ _ ?_; clear hK20
                refine wp_seq_k fun K23 hK23 => ?_
                -- region 35
                refine wp_region_lit ?_
                refine s_pu hF rfl rfl rfl (pu_move (hF.ev rfl)) ?_; clear hF; intro a hF
                refine s_pu hF rfl rfl rfl (pu_assign (hF.ev rfl)) ?_; clear hF; intro a hF
                refine s_pu hF rfl rfl rfl (pu_assign (hF.ev rfl)) ?_; clear hF; intro a hF
                refine s_done ?_
                refine hK23 _ _ ?_; clear hK23
                refine wp_ret ?_
                refine fin2 Try.results15 hF rfl rfl ?_
                have htl2 : t = (left u zs).toNat := by omega
                subst htl2
                rw [← hout] at hS
                have hol : outs.length = zs.length := by rw [hout, bump_len, qs_len]
                rw [show (Value.slice (some ⟨ga, 0, none⟩) zs.length c) = .slice (some ⟨ga, 0, none⟩) outs.length c by rw [hol]]
                exact .inl ⟨hse, _, _, hol, rfl, by rw [hol]; exact hS.drop 1⟩
end Go.Proofs.Ytommaijibiipeaa
