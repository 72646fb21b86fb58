import Derived.Test.YtbpkfifiigpdcaaWh7
/-! WheelOnce: what it keeps beside the wheel, and comes. -/
namespace Go.Proofs.Ytbpkfifiigpdcaa
open Go Go.RowKit Go.Proofs.Ytbpkfifiigpdcaa.Sk
set_option linter.unusedVariables false
set_option linter.unusedSimpArgs false
set_option maxRecDepth 100000

/-- A thing that was laid down: its number, its tick, whether it has come, and where it lies. -/
structure Th where
  i : Nat
  due : Int
  done : Bool
  b : Nat
def Th.ent (r : Th) : Ent := ⟨r.i + 1, r.due, .slice (some ⟨r.b, 0, none⟩) 1 1, rfl⟩
def Th.chunk (r : Th) : Chunk := rowC 3 1 (.slice (some ⟨r.b, 0, none⟩) 1 1) 1 [.int .i64 r.i]
def dues (R : List Th) : List Value := R.map fun r => .int .i64 r.due
def dones (R : List Th) : List Value := R.map fun r => .bool r.done
def pend (R : List Th) : List Ent := (R.filter fun r => !r.done).map Th.ent
def mark (ks : List Nat) (R : List Th) : List Th := R.map fun r => { r with done := r.done || ks.contains r.i }
def ring (now : Int) (R : List Th) : List Th := R.map fun r => { r with done := r.done || decide (r.due = now + 1) }
def dueAt (now : Int) (R : List Th) : List Th := R.filter fun r => !r.done && decide (r.due = now + 1)
/-- Each stands where its number says. -/
def Numbered (R : List Th) : Prop := ∀ (i : Nat) (r : Th), R[i]? = some r → r.i = i
section pure
variable {R : List Th} {now : Int}
theorem Numbered.get (h : Numbered R) {r : Th} (hr : r ∈ R) : R[r.i]? = some r := by
  obtain ⟨i, hi⟩ := List.getElem?_of_mem hr
  rw [h i r hi]; exact hi
theorem Numbered.rises (h : Numbered R) : (R.map Th.i).Pairwise (· < ·) := by
  have : R.map Th.i = List.range R.length := by
    apply List.ext_getElem?
    intro j
    by_cases hj : j < R.length
    · rw [List.getElem?_map, List.getElem?_eq_getElem hj, List.getElem?_range hj]
      simp [h j _ (List.getElem?_eq_getElem hj)]
    · simp [hj]
  rw [this]
  exact List.pairwise_lt_range
theorem pend_mem {e : Ent} (he : e ∈ pend R) : ∃ r ∈ R, r.done = false ∧ r.ent = e := by
  obtain ⟨r, hr, rfl⟩ := List.mem_map.1 he
  obtain ⟨hr, hd⟩ := List.mem_filter.1 hr
  exact ⟨r, hr, by simpa using hd, rfl⟩
theorem mem_pend {r : Th} (hr : r ∈ R) (hd : r.done = false) : r.ent ∈ pend R := List.mem_map.2 ⟨r, List.mem_filter.2 ⟨hr, by simp [hd]⟩, rfl⟩
theorem pend_len : (pend R).length ≤ R.length := by
  unfold pend
  rw [List.length_map]
  exact List.length_filter_le _ _
theorem pend_rising (h : Numbered R) : Rising (pend R) R.length := by
  refine ⟨?_, fun e he => ?_⟩
  · have h1 := h.rises
    have h2 : ((R.filter fun r => !r.done).map Th.i).Pairwise (· < ·) := h1.sublist ((List.filter_sublist).map _)
    rw [List.pairwise_map] at h2
    unfold pend
    rw [List.map_map, List.pairwise_map]
    exact h2.imp (fun {a b} hab => by simp only [Function.comp, Th.ent]; omega)
  · obtain ⟨r, hr, _, rfl⟩ := pend_mem he
    have := (List.getElem?_eq_some_iff.1 (h.get hr)).1
    simp only [Th.ent]
    omega
theorem pend_due : (pend R).filter (fun e => decide (e.at_ = now + 1)) = (dueAt now R).map Th.ent := by
  unfold pend dueAt
  rw [List.filter_map, List.filter_filter]
  congr 1
  apply List.filter_congr
  intro r _
  exact Bool.and_comm _ _
theorem pend_left : (pend R).filter (fun e => !decide (e.at_ = now + 1)) = pend (ring now R) := by
  unfold pend ring
  rw [List.filter_map, List.filter_filter, List.filter_map, List.map_map]
  have : (Th.ent ∘ fun r : Th => { r with done := r.done || decide (r.due = now + 1) }) = Th.ent := rfl
  rw [this]
  congr 1
  apply List.filter_congr
  intro r _
  simp only [Function.comp, Th.ent, Bool.not_or]
  exact Bool.and_comm _ _
theorem ring_len : (ring now R).length = R.length := by simp [ring]
theorem ring_dues : dues (ring now R) = dues R := by simp [dues, ring]
theorem ring_chunk : (ring now R).map Th.chunk = R.map Th.chunk := by
  unfold ring
  rw [List.map_map]
  rfl
theorem ring_num (h : Numbered R) : Numbered (ring now R) := by
  intro i r hr
  unfold ring at hr
  rw [List.getElem?_map] at hr
  cases hq : R[i]? with
  | none => rw [hq] at hr; cases hr
  | some q =>
    rw [hq] at hr
    injection hr with hr
    subst hr
    exact h i q hq
theorem mark_nil : mark [] R = R := by simp [mark]
theorem Numbered.eq (h : Numbered R) {q r : Th} (hq : q ∈ R) (hr : r ∈ R) (e : q.i = r.i) : q = r := by
  have h1 := h.get hq
  have h2 := h.get hr
  rw [e, h2] at h1
  injection h1 with h1
  exact h1.symm
theorem mark_all (h : Numbered R) : dones (mark ((dueAt now R).map Th.i) R) = dones (ring now R) := by
  unfold dones mark ring
  rw [List.map_map, List.map_map]
  apply List.map_congr_left
  intro r hr
  simp only [Function.comp]
  congr 1
  cases hd : r.done
  · rw [Bool.false_or, Bool.false_or, Bool.eq_iff_iff]
    simp only [List.contains_eq_any_beq, List.any_eq_true, beq_iff_eq, decide_eq_true_eq]
    constructor
    · rintro ⟨x, hx, hxe⟩
      obtain ⟨q, hq, rfl⟩ := List.mem_map.1 hx
      obtain ⟨hq, hqd⟩ := List.mem_filter.1 hq
      have := h.eq hr hq hxe
      subst this
      simp at hqd
      exact hqd.2
    · intro e
      exact ⟨r.i, List.mem_map.2 ⟨r, List.mem_filter.2 ⟨hr, by simp [hd, e]⟩, rfl⟩, rfl⟩
  · rfl
theorem mark_set (h : Numbered R) {q : Th} (hq : q ∈ R) (ks : List Nat) : (dones (mark ks R)).set q.i (.bool true) = dones (mark (ks ++ [q.i]) R) := by
  apply List.ext_getElem?
  intro j
  rw [List.getElem?_set]
  unfold dones mark
  simp only [List.map_map, List.getElem?_map]
  have hlt := (List.getElem?_eq_some_iff.1 (h.get hq)).1
  by_cases hj : q.i = j
  · subst hj
    rw [if_pos rfl, if_pos (by simpa using hlt), h.get hq]
    simp
  · rw [if_neg hj]
    cases hr : R[j]? with
    | none => rfl
    | some r =>
      have := h j r hr
      simp [this, Ne.symm hj]
theorem mark_at {q : Th} {i : Nat} (hq : R[i]? = some q) (ks : List Nat) : (dones (mark ks R))[i]? = some (.bool (q.done || ks.contains q.i)) := by
  unfold dones mark
  simp [hq]
theorem dues_at {q : Th} {i : Nat} (hq : R[i]? = some q) : (dues R)[i]? = some (.int .i64 q.due) := by simp [dues, hq]
theorem dones_at {q : Th} {i : Nat} (hq : R[i]? = some q) : (dones R)[i]? = some (.bool q.done) := by simp [dones, hq]
def undone (j : Nat) (R : List Th) : Nat := ((R.take j).filter fun r => !r.done).length
theorem undone_le {j : Nat} : undone j R ≤ j := by
  unfold undone
  exact Nat.le_trans (List.length_filter_le _ _) (by simp; omega)
theorem undone_succ {j : Nat} {r : Th} (h : R[j]? = some r) : undone (j + 1) R = undone j R + if r.done then 0 else 1 := by
  unfold undone
  rw [List.take_add_one, h]
  cases hd : r.done <;> simp [hd]
theorem undone_all : undone R.length R = (pend R).length := by simp [undone, pend]
theorem due_sorted (h : Numbered R) : ((dueAt now R).map Th.i).Pairwise (· < ·) := h.rises.sublist ((List.filter_sublist).map _)
end pure
theorem nth_map {f : Th → Chunk} : ∀ {R : List Th} {i : Nat} {r : Th}, R[i]? = some r → nth (R.map f) i = some (f r)
  | [], _, _, h => by simp at h
  | a :: R, 0, r, h => by simp at h; subst h; rfl
  | a :: R, i + 1, r, h => by
    simp only [List.getElem?_cons_succ] at h
    exact nth_map (R := R) h
end Go.Proofs.Ytbpkfifiigpdcaa
