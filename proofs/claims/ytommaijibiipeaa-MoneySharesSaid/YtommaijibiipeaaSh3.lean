import Derived.Test.YtommaijibiipeaaSh2
/-! Share: what is dealt out is fair. -/
namespace Go.Proofs.Ytommaijibiipeaa
open Go Go.RowKit Go.Proofs.Ytommaijibiipeaa.Sk
set_option linter.unusedVariables false
set_option linter.unusedSimpArgs false
set_option maxRecDepth 100000

theorem total_cons (x : Int) (l : List Int) : total (x :: l) = x + total l := by
  have := total_app (a := [x]) (b := l)
  simpa [total] using this
theorem total_perm {a b : List Int} (h : a.Perm b) : total a = total b := by
  induction h with
  | nil => rfl
  | cons x _ ih => rw [total_cons, total_cons, ih]
  | swap x y l => rw [total_cons, total_cons, total_cons, total_cons]; omega
  | trans _ _ h1 h2 => rw [h1, h2]
theorem total_set {o : List Int} {i : Nat} (h : i < o.length) : total (o.set i (o.getD i 0 + 1)) = total o + 1 := by
  have e : o = o.take i ++ o[i] :: o.drop (i + 1) := by rw [← List.drop_eq_getElem_cons, List.take_append_drop]
  have hl : (o.take i).length = i := by rw [List.length_take]; omega
  have hg : o.getD i 0 = o[i] := by rw [List.getD_eq_getElem?_getD, List.getElem?_eq_getElem h]; rfl
  have e2 : o.set i (o[i] + 1) = o.take i ++ (o[i] + 1) :: o.drop (i + 1) := by
    conv => lhs; arg 1; rw [e]
    have := set_mid (o.take i) (o.drop (i + 1)) o[i] (o[i] + 1)
    rw [hl] at this
    exact this
  rw [hg, e2, total_app, total_cons]
  conv => rhs; rw [e, total_app, total_cons]
  omega
theorem bump_total : ∀ (ys : List Prt) (o : List Int), (∀ y ∈ ys, y.1.toNat < o.length) → total (bump o ys) = total o + ys.length := by
  intro ys
  induction ys with
  | nil => intro o _; simp [bump]
  | cons y r ih =>
    intro o h
    have := ih (o.set y.1.toNat (o.getD y.1.toNat 0 + 1)) (fun z hz => by rw [List.length_set]; exact h z (by simp [hz]))
    have e : bump o (y :: r) = bump (o.set y.1.toNat (o.getD y.1.toNat 0 + 1)) r := rfl
    rw [e, this, total_set (h y (by simp)), List.length_cons]
    omega
theorem bump_get : ∀ (ys : List Prt) (o : List Int) (i : Nat), (ys.map (·.1)).Nodup → (∀ y ∈ ys, 0 ≤ y.1) → i < o.length → (bump o ys).getD i 0 = o.getD i 0 + (if ys.any (fun y => decide (y.1 = (i : Int))) = true then 1 else 0) := by
  intro ys
  induction ys with
  | nil => intro o i _ _ _; simp [bump]
  | cons y r ih =>
    intro o i hnd hnn hi
    rw [List.map_cons, List.nodup_cons] at hnd
    have e : bump o (y :: r) = bump (o.set y.1.toNat (o.getD y.1.toNat 0 + 1)) r := rfl
    rw [e, ih _ i hnd.2 (fun z hz => hnn z (by simp [hz])) (by rw [List.length_set]; exact hi)]
    have hy0 := hnn y (by simp)
    rw [List.any_cons]
    by_cases hy : y.1 = (i : Int)
    · have hno : r.any (fun y => decide (y.1 = (i : Int))) = false := by
        rw [List.any_eq_false]
        intro z hz hzz
        exact hnd.1 (by rw [hy]; exact List.mem_map.2 ⟨z, hz, by simpa using hzz⟩)
      have : y.1.toNat = i := by omega
      rw [hno, this, List.getD_eq_getElem?_getD, List.getElem?_set_self hi]
      simp [hy]
    · have : y.1.toNat ≠ i := by omega
      rw [List.getD_eq_getElem?_getD, List.getElem?_set_ne this, ← List.getD_eq_getElem?_getD, decide_eq_false hy, Bool.false_or]
def rs (u : Int) (zs : List Int) : List Int := (prts u zs).map (·.2)
theorem rs_len {u : Int} {zs : List Int} : (rs u zs).length = zs.length := by simp [rs, prts_len]
theorem rs_getD {u : Int} {zs : List Int} {i : Nat} (h : i < zs.length) : (rs u zs).getD i 0 = u * zs.getD i 0 % total zs := by
  unfold rs
  rw [List.getD_eq_getElem?_getD, List.getElem?_map, prts_get h]
  rfl
theorem rsum {u : Int} {zs : List Int} : ∀ i, i ≤ zs.length → total zs * total ((qs u zs).take i) + total ((rs u zs).take i) = u * total (zs.take i) := by
  intro i
  induction i with
  | zero => intro _; simp [total]
  | succ i ih =>
    intro hi
    have ih := ih (by omega)
    have hi2 : i < zs.length := by omega
    have hq : (qs u zs).getD i 0 = u * zs.getD i 0 / total zs := by rw [List.getD_eq_getElem?_getD, qs_get hi2]; rfl
    rw [total_take (zs := qs u zs) (by rw [qs_len]; exact hi2), total_take (zs := rs u zs) (by rw [rs_len]; exact hi2), total_take hi2, hq, rs_getD hi2]
    have e1 := Int.mul_ediv_add_emod (u * zs.getD i 0) (total zs)
    rw [Int.mul_add, Int.mul_add]
    omega
theorem rs_left {u : Int} {zs : List Int} : total (rs u zs) = total zs * left u zs := by
  have := rsum (u := u) (zs := zs) zs.length (Nat.le_refl _)
  rw [List.take_of_length_le (by rw [qs_len]; omega), List.take_of_length_le (by rw [rs_len]; omega), List.take_length] at this
  unfold left
  rw [Int.mul_sub, Int.mul_comm (total zs) u]
  omega
theorem lt_asymm {p q : Prt} (h : lt p q) : ¬ lt q p := by
  intro h2
  rcases h with h | ⟨h, h'⟩ <;> rcases h2 with h2 | ⟨h2, h2'⟩ <;> omega
theorem total_bd {l : List Int} {b : Int} (h : ∀ z ∈ l, z ≤ b) : total l ≤ b * l.length := by
  induction l with
  | nil => simp [total]
  | cons x r ih =>
    rw [total_cons, List.length_cons]
    have h1 := h x (by simp)
    have h2 := ih (fun z hz => h z (by simp [hz]))
    rw [show ((r.length + 1 : Nat) : Int) = (r.length : Int) + 1 by omega, Int.mul_add, Int.mul_one]
    omega
/-- The facts on what is dealt out. -/
structure Fair (u : Int) (zs outs : List Int) (b : Nat → Bool) : Prop where
  get : ∀ i, i < zs.length → outs.getD i 0 = u * zs.getD i 0 / total zs + (if b i = true then 1 else 0)
  pos : ∀ i, i < zs.length → b i = true → 0 < u * zs.getD i 0 % total zs
  ord : ∀ i k, i < zs.length → k < zs.length → lt ((i : Int), u * zs.getD i 0 % total zs) ((k : Int), u * zs.getD k 0 % total zs) → b k = true → b i = true
  sum : total outs = u
theorem dealt_fair {u : Int} {zs outs : List Int} (hd : Dealt u zs outs) (h0 : 0 ≤ u) (hall : ∀ z ∈ zs, 0 ≤ z ∧ z ≤ 1000000) (ht : 1 ≤ total zs) : ∃ b, Fair u zs outs b := by
  obtain ⟨ys, hp, hs, rfl⟩ := hd
  obtain ⟨lf, hlf⟩ : ∃ lf : Nat, left u zs = lf := ⟨(left u zs).toNat, by have := (left_bd h0 hall ht).1; omega⟩
  have hlb := (left_bd h0 hall ht).2
  have hlf2 : (left u zs).toNat = lf := by omega
  rw [hlf2]
  have hyl : ys.length = zs.length := by rw [hp.length_eq, prts_len]
  have hmem : ∀ y ∈ ys.take lf, ∃ i : Nat, i < zs.length ∧ y = ((i : Int), u * zs.getD i 0 % total zs) := fun y hy => prts_mem (hp.mem_iff.1 (List.mem_of_mem_take hy))
  have hnd0 : (ys.map (·.1)).Nodup := by
    have h1 : ((prts u zs).map (·.1)).Nodup := by
      have := prts_up (u := u) (zs := zs)
      unfold Up at this
      exact List.pairwise_map.2 (this.imp (fun {a b} hab => by omega))
    exact (hp.map (·.1)).nodup_iff.2 h1
  have hnd : ((ys.take lf).map (·.1)).Nodup := by
    rw [List.map_take]
    exact hnd0.sublist (List.take_sublist _ _)
  have hsp : ∀ x ∈ ys.take lf, ∀ y ∈ ys.drop lf, lt x y := by
    unfold Srt at hs
    rw [← List.take_append_drop lf ys, List.pairwise_append] at hs
    exact hs.2.2
  have hr0 : ∀ y ∈ ys, 0 ≤ y.2 ∧ y.2 ≤ total zs - 1 := by
    intro y hy
    obtain ⟨k, hk, rfl⟩ := prts_mem (hp.mem_iff.1 hy)
    have e2 := Int.emod_nonneg (u * zs.getD k 0) (show total zs ≠ 0 by omega)
    have e3 := Int.emod_lt_of_pos (u * zs.getD k 0) (show 0 < total zs by omega)
    exact ⟨e2, by simp only; omega⟩
  have hpos : ∀ y ∈ ys.take lf, 0 < y.2 := by
    intro y hy
    have hy0 := hr0 y (List.mem_of_mem_take hy)
    rcases Int.lt_or_eq_of_le hy0.1 with h | h
    · exact h
    · exfalso
      obtain ⟨k, hk⟩ := List.mem_iff_getElem?.1 hy
      have hkl : k < lf := by
        have := (List.getElem?_eq_some_iff.1 hk).1
        rw [List.length_take] at this
        omega
      have hk2 : ys[k]? = some y := by
        rw [List.getElem?_take, if_pos hkl] at hk
        exact hk
      obtain ⟨_, hz⟩ := mem_take_rest hs hk2
      have e1 : total (ys.map (·.2)) = total zs * lf := by
        rw [total_perm (hp.map (·.2)), ← hlf]
        exact rs_left
      have e2 : ys.map (·.2) = (ys.take k).map (·.2) ++ (ys.drop k).map (·.2) := by rw [← List.map_append, List.take_append_drop]
      have e3 : total ((ys.drop k).map (·.2)) ≤ 0 * (((ys.drop k).map (·.2)).length : Int) := total_bd (fun z hz2 => by
        obtain ⟨v, hv, rfl⟩ := List.mem_map.1 hz2
        have := hz v hv
        omega)
      have e4 : total ((ys.take k).map (·.2)) ≤ (total zs - 1) * (((ys.take k).map (·.2)).length : Int) := total_bd (fun z hz2 => by
        obtain ⟨v, hv, rfl⟩ := List.mem_map.1 hz2
        exact (hr0 v (List.mem_of_mem_take hv)).2)
      have e5 : ((ys.take k).map (·.2)).length = k := by rw [List.length_map, List.length_take]; omega
      rw [e2, total_app] at e1
      rw [e5] at e4
      have e6 : (total zs - 1) * (k : Int) ≤ (total zs - 1) * lf := Int.mul_le_mul_of_nonneg_left (by omega) (by omega)
      have e7 : (total zs - 1) * (lf : Int) = total zs * lf - lf := by rw [Int.sub_mul, Int.one_mul]
      omega
  refine ⟨fun i => (ys.take lf).any fun y => decide (y.1 = (i : Int)), ⟨?_, ?_, ?_, ?_⟩⟩
  · intro i hi
    have := bump_get (ys.take lf) (qs u zs) i hnd (fun y hy => by obtain ⟨k, _, rfl⟩ := hmem y hy; simp only; omega) (by rw [qs_len]; exact hi)
    rw [this]
    congr 1
    rw [List.getD_eq_getElem?_getD, qs_get hi]
    rfl
  · intro i hi hb
    obtain ⟨y, hy, hyi⟩ := List.any_eq_true.1 hb
    obtain ⟨k, hk, hyk⟩ := hmem y hy
    have := hpos y hy
    have hyi : y.1 = (i : Int) := by simpa using hyi
    rw [hyk] at hyi this
    have : k = i := by simp only at hyi; omega
    subst this
    assumption
  · intro i k hi hk hlt hb
    obtain ⟨y, hy, hyi⟩ := List.any_eq_true.1 hb
    obtain ⟨k', hk', hyk⟩ := hmem y hy
    have hyi : y.1 = (k : Int) := by simpa using hyi
    have : k' = k := by rw [hyk] at hyi; simp only at hyi; omega
    subst this
    have hin : ((i : Int), u * zs.getD i 0 % total zs) ∈ ys := hp.mem_iff.2 (List.mem_of_getElem? (prts_get hi))
    rw [← List.take_append_drop lf ys] at hin
    rcases List.mem_append.1 hin with h | h
    · exact List.any_eq_true.2 ⟨_, h, by simp⟩
    · exfalso
      have := hsp y hy _ h
      rw [hyk] at this
      exact lt_asymm hlt this
  · rw [bump_total _ _ (fun y hy => by obtain ⟨k, hk, rfl⟩ := hmem y hy; rw [qs_len]; simpa using hk), List.length_take, hyl]
    unfold left at hlf
    rw [show min lf zs.length = lf by omega]
    omega
section
variable {u : Int} {zs outs : List Int} {b : Nat → Bool}
theorem fair_one (hf : Fair u zs outs b) (h0 : 0 ≤ u) (hall : ∀ z ∈ zs, 0 ≤ z ∧ z ≤ 1000000) (ht : 1 ≤ total zs) {i : Nat} (hi : i < zs.length) :
    u * zs.getD i 0 / total zs ≤ outs.getD i 0 ∧ outs.getD i 0 ≤ u * zs.getD i 0 / total zs + 1 ∧ 0 ≤ outs.getD i 0 ∧ outs.getD i 0 ≤ u ∧ (u * zs.getD i 0 % total zs = 0 → outs.getD i 0 = u * zs.getD i 0 / total zs) ∧ (zs.getD i 0 = 0 → outs.getD i 0 = 0) := by
  have hz := hall (zs.getD i 0) (by rw [List.getD_eq_getElem?_getD, List.getElem?_eq_getElem hi]; exact List.getElem_mem hi)
  have hg := hf.get i hi
  have hp := hf.pos i hi
  have hm0 : 0 ≤ u * zs.getD i 0 := Int.mul_nonneg h0 hz.1
  have hq0 : 0 ≤ u * zs.getD i 0 / total zs := Int.ediv_nonneg hm0 (by omega)
  have e1 := Int.mul_ediv_add_emod (u * zs.getD i 0) (total zs)
  have hzt : zs.getD i 0 ≤ total zs := by
    have h1 := (total_nonneg hall (i + 1)).2.2
    have h2 := (total_nonneg hall i).1
    rw [total_take hi] at h1
    omega
  have hmu : u * zs.getD i 0 ≤ u * total zs := Int.mul_le_mul_of_nonneg_left hzt h0
  have hqu : u * zs.getD i 0 / total zs ≤ u := Int.ediv_le_of_le_mul (by omega) hmu
  have hr0 : u * zs.getD i 0 % total zs = 0 → outs.getD i 0 = u * zs.getD i 0 / total zs := by
    intro h
    rw [hg]
    cases hb : b i with
    | false => simp
    | true => have := hp hb; omega
  refine ⟨?_, ?_, ?_, ?_, hr0, ?_⟩
  · rw [hg]; split <;> omega
  · rw [hg]; split <;> omega
  · rw [hg]; split <;> omega
  · rw [hg]
    split
    · rename_i hb
      have hp := hp hb
      have hlt : u * zs.getD i 0 / total zs < u := by
        have h2 : total zs * (u * zs.getD i 0 / total zs) < total zs * u := by rw [Int.mul_comm (total zs) u]; omega
        exact Int.lt_of_mul_lt_mul_left h2 (by omega)
      omega
    · omega
  · intro h
    have : u * zs.getD i 0 % total zs = 0 := by rw [h, Int.mul_zero, Int.zero_emod]
    rw [hr0 this, h, Int.mul_zero, Int.zero_ediv]
theorem fair_two (hf : Fair u zs outs b) (h0 : 0 ≤ u) (hall : ∀ z ∈ zs, 0 ≤ z ∧ z ≤ 1000000) (ht : 1 ≤ total zs) {k i : Nat} (hk : k < zs.length) (hi : i < zs.length) :
    (k < i → zs.getD i 0 ≤ zs.getD k 0 → outs.getD i 0 ≤ outs.getD k 0) ∧ (zs.getD k 0 < zs.getD i 0 → outs.getD k 0 ≤ outs.getD i 0) := by
  have hzk := hall (zs.getD k 0) (by rw [List.getD_eq_getElem?_getD, List.getElem?_eq_getElem hk]; exact List.getElem_mem hk)
  have hzi := hall (zs.getD i 0) (by rw [List.getD_eq_getElem?_getD, List.getElem?_eq_getElem hi]; exact List.getElem_mem hi)
  have key : ∀ {p q : Nat}, p < zs.length → q < zs.length → zs.getD q 0 ≤ zs.getD p 0 → (zs.getD q 0 = zs.getD p 0 → p < q) → (u * zs.getD q 0 = u * zs.getD p 0 → zs.getD q 0 ≠ zs.getD p 0 → u = 0) → outs.getD q 0 ≤ outs.getD p 0 := by
    intro p q hp hq hle heq hu0
    have gp := hf.get p hp
    have gq := hf.get q hq
    have hm : u * zs.getD q 0 ≤ u * zs.getD p 0 := Int.mul_le_mul_of_nonneg_left hle h0
    have hd : u * zs.getD q 0 / total zs ≤ u * zs.getD p 0 / total zs := Int.ediv_le_ediv (by omega) hm
    rcases Int.lt_or_eq_of_le hd with h | h
    · rw [gp, gq]
      split <;> split <;> omega
    · rw [gp, gq, h]
      cases hbq : b q with
      | false => simp; split <;> omega
      | true =>
        have e1 := Int.mul_ediv_add_emod (u * zs.getD p 0) (total zs)
        have e2 := Int.mul_ediv_add_emod (u * zs.getD q 0) (total zs)
        rw [h] at e2
        have hpo := hf.pos q hq hbq
        have hlt : lt ((p : Int), u * zs.getD p 0 % total zs) ((q : Int), u * zs.getD q 0 % total zs) := by
          rcases Int.lt_or_eq_of_le hm with h1 | h1
          · exact .inl (by simp only; omega)
          · refine .inr ⟨by simp only; omega, ?_⟩
            simp only
            by_cases hzz : zs.getD q 0 = zs.getD p 0
            · have := heq hzz; omega
            · have := hu0 h1 hzz
              subst this
              rw [Int.zero_mul, Int.zero_emod] at hpo
              omega
        rw [hf.ord p q hp hq hlt hbq]
        exact Int.le_refl _
  have hcan : ∀ {p q : Nat}, u * zs.getD q 0 = u * zs.getD p 0 → zs.getD q 0 ≠ zs.getD p 0 → u = 0 := by
    intro p q h1 h2
    by_cases hu : u = 0
    · exact hu
    · exact absurd (Int.eq_of_mul_eq_mul_left hu h1) h2
  exact ⟨fun hki hle => key hk hi hle (fun _ => hki) hcan, fun hlt => key hi hk (by omega) (fun h => by omega) hcan⟩
end
end Go.Proofs.Ytommaijibiipeaa
