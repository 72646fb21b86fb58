import Derived.Test.YtommaijibiipeaaSs5
import Derived.Test.YtommaijibiipeaaMo3
import Derived.Test.YtommaijibiipeaaSk23
/-! Share: the plain part. -/
namespace Go.Proofs.Ytommaijibiipeaa
open Go Go.RowKit Go.Proofs.Ytommaijibiipeaa.Sk
set_option linter.unusedVariables false
set_option linter.unusedSimpArgs false
set_option maxRecDepth 100000

theorem ints_set {ys : List Int} {i : Nat} {x : Int} : (ints ys).set i (.int .i64 x) = ints (ys.set i x) := by
  unfold ints
  rw [List.map_set]
theorem ints_snoc {l : List Int} {x : Int} : ints l ++ [.int .i64 x] = ints (l ++ [x]) := by unfold ints; simp
theorem ints_at {zs : List Int} {i : Nat} (h : i < zs.length) : (ints zs)[i]? = some (.int .i64 (zs.getD i 0)) := by
  unfold ints
  simp [List.getD_eq_getElem?_getD, h]
def wOk (z : Int) : Bool := decide (0 ≤ z) && decide (z ≤ 1000000)
theorem wOk_iff {z : Int} : wOk z = true ↔ 0 ≤ z ∧ z ≤ 1000000 := by simp [wOk]
def qs (u : Int) (zs : List Int) : List Int := (List.range zs.length).map fun i : Nat => u * zs.getD i 0 / total zs
def prts (u : Int) (zs : List Int) : List Prt := (List.range zs.length).map fun i : Nat => ((i : Int), u * zs.getD i 0 % total zs)
def left (u : Int) (zs : List Int) : Int := u - total (qs u zs)
def bump (o : List Int) (ys : List Prt) : List Int := ys.foldl (fun o y => o.set y.1.toNat (o.getD y.1.toNat 0 + 1)) o
def shErr (u : Int) (zs : List Int) : Int := if amt u = true then (if zs.all wOk = true ∧ zs.length ≤ 100 ∧ total zs ≠ 0 then 0 else 1) else 71
section
variable {u : Int} {zs : List Int}
theorem qs_len : (qs u zs).length = zs.length := by simp [qs]
theorem prts_len : (prts u zs).length = zs.length := by simp [prts]
theorem qs_get {i : Nat} (h : i < zs.length) : (qs u zs)[i]? = some (u * zs.getD i 0 / total zs) := by simp [qs, h]
theorem prts_get {i : Nat} (h : i < zs.length) : (prts u zs)[i]? = some ((i : Int), u * zs.getD i 0 % total zs) := by simp [prts, h]
theorem prts_up : Up (prts u zs) := by
  unfold Up prts
  rw [List.pairwise_map]
  exact List.pairwise_lt_range.imp (fun {a b} h => by simp only; omega)
theorem prts_mem {p : Prt} (h : p ∈ prts u zs) : ∃ i : Nat, i < zs.length ∧ p = ((i : Int), u * zs.getD i 0 % total zs) := by
  obtain ⟨i, hi, e⟩ := List.mem_map.1 h
  exact ⟨i, List.mem_range.1 hi, e.symm⟩
theorem fill_stepG {α : Type} {xs : List α} {N i : Nat} {z v : α} (hN : xs.length = N) (hi : i < N) (hv : xs[i]? = some v) : (xs.take i ++ List.replicate (N - i) z).set i v = xs.take (i + 1) ++ List.replicate (N - (i + 1)) z := by
  have hl : (xs.take i).length = i := by rw [List.length_take]; omega
  rw [show N - i = (N - (i + 1)) + 1 by omega, List.replicate_succ]
  have := set_mid (xs.take i) (List.replicate (N - (i + 1)) z) z v
  rw [hl] at this
  rw [this, List.take_add_one, hv]
  simp
theorem total_nonneg (h : ∀ z ∈ zs, 0 ≤ z ∧ z ≤ 1000000) : ∀ i, 0 ≤ total (zs.take i) ∧ total (zs.take i) ≤ 1000000 * i ∧ total (zs.take i) ≤ total zs := by
  have key : ∀ i, 0 ≤ total (zs.take i) ∧ total (zs.take i) ≤ 1000000 * i := by
    intro i
    induction i with
    | zero => simp [total]
    | succ i ih =>
      by_cases hi : i < zs.length
      · rw [total_take hi]
        have := h (zs.getD i 0) (by rw [List.getD_eq_getElem?_getD, List.getElem?_eq_getElem hi]; exact List.getElem_mem hi)
        omega
      · rw [List.take_of_length_le (by omega)] at ih ⊢
        omega
  have mono : ∀ k i, total (zs.take i) ≤ total (zs.take (i + k)) := by
    intro k
    induction k with
    | zero => intro i; exact Int.le_refl _
    | succ k ih =>
      intro i
      by_cases hi : i + k < zs.length
      · have h1 := ih i
        rw [show i + (k + 1) = (i + k) + 1 by omega, total_take hi]
        have := h (zs.getD (i + k) 0) (by rw [List.getD_eq_getElem?_getD, List.getElem?_eq_getElem hi]; exact List.getElem_mem hi)
        omega
      · have h1 := ih i
        rw [List.take_of_length_le (show zs.length ≤ i + k by omega)] at h1
        rw [List.take_of_length_le (show zs.length ≤ i + (k + 1) by omega)]
        exact h1
  intro i
  refine ⟨(key i).1, (key i).2, ?_⟩
  have := mono zs.length i
  rw [List.take_of_length_le (show zs.length ≤ i + zs.length by omega)] at this
  exact this
/-- The sum of the parts that were dealt out, and of the rests. -/
theorem sums (h0 : 0 ≤ u) (h : ∀ z ∈ zs, 0 ≤ z ∧ z ≤ 1000000) (ht : 1 ≤ total zs) : ∀ i, i ≤ zs.length → ∃ r : Int, 0 ≤ r ∧ r ≤ (total zs - 1) * i ∧ total zs * total ((qs u zs).take i) + r = u * total (zs.take i) ∧ 0 ≤ total ((qs u zs).take i) := by
  intro i
  induction i with
  | zero => intro _; exact ⟨0, by omega, by simp, by simp [total], by simp [total]⟩
  | succ i ih =>
    intro hi
    obtain ⟨r, r0, r1, r2, r3⟩ := ih (by omega)
    have hi2 : i < zs.length := by omega
    have hz := h (zs.getD i 0) (by rw [List.getD_eq_getElem?_getD, List.getElem?_eq_getElem hi2]; exact List.getElem_mem hi2)
    have hq : (qs u zs).getD i 0 = u * zs.getD i 0 / total zs := by rw [List.getD_eq_getElem?_getD, qs_get hi2]; rfl
    rw [total_take (zs := qs u zs) (by rw [qs_len]; exact hi2), total_take hi2, hq]
    have e1 := Int.mul_ediv_add_emod (u * zs.getD i 0) (total zs)
    have e2 := Int.emod_nonneg (u * zs.getD i 0) (show total zs ≠ 0 by omega)
    have e3 := Int.emod_lt_of_pos (u * zs.getD i 0) (show 0 < total zs by omega)
    have e4 : 0 ≤ u * zs.getD i 0 / total zs := Int.ediv_nonneg (Int.mul_nonneg h0 hz.1) (by omega)
    refine ⟨r + u * zs.getD i 0 % total zs, by omega, ?_, ?_, by omega⟩
    · rw [show ((i + 1 : Nat) : Int) = (i : Int) + 1 by omega, Int.mul_add, Int.mul_one]
      omega
    · rw [Int.mul_add, Int.mul_add, ← r2]
      omega
theorem qsum_le (h0 : 0 ≤ u) (h : ∀ z ∈ zs, 0 ≤ z ∧ z ≤ 1000000) (ht : 1 ≤ total zs) {i : Nat} (hi : i ≤ zs.length) : 0 ≤ total ((qs u zs).take i) ∧ total ((qs u zs).take i) ≤ u := by
  obtain ⟨r, r0, r1, r2, r3⟩ := sums h0 h ht i hi
  refine ⟨r3, ?_⟩
  have h1 := (total_nonneg h i).2.2
  have h2 : u * total (zs.take i) ≤ u * total zs := Int.mul_le_mul_of_nonneg_left h1 h0
  have h3 : total zs * total ((qs u zs).take i) ≤ total zs * u := by rw [Int.mul_comm (total zs) u]; omega
  exact Int.le_of_mul_le_mul_left h3 (by omega)
theorem left_bd (h0 : 0 ≤ u) (h : ∀ z ∈ zs, 0 ≤ z ∧ z ≤ 1000000) (ht : 1 ≤ total zs) : 0 ≤ left u zs ∧ left u zs ≤ zs.length := by
  obtain ⟨r, r0, r1, r2, r3⟩ := sums h0 h ht zs.length (Nat.le_refl _)
  have hq := qsum_le h0 h ht (Nat.le_refl zs.length)
  rw [← qs_len (u := u), List.take_length] at hq
  rw [← qs_len (u := u), List.take_length] at r2
  rw [qs_len, List.take_length] at r2
  unfold left
  refine ⟨by omega, ?_⟩
  have e1 : total zs * (u - total (qs u zs)) = r := by rw [Int.mul_sub, Int.mul_comm (total zs) u]; omega
  have e2 : total zs * (u - total (qs u zs)) ≤ total zs * zs.length := by
    rw [e1]
    have : (total zs - 1) * (zs.length : Int) = total zs * zs.length - zs.length := by rw [Int.sub_mul, Int.one_mul]
    omega
  exact Int.le_of_mul_le_mul_left e2 (by omega)
end
end Go.Proofs.Ytommaijibiipeaa
