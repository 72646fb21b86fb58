import Derived.Test.YtbpkfifiigpdcaaSk28
import Derived.Lib.QuietBelow
import Derived.Shelf.GgSortFunc.RowK
/-! Sk, part twenty-nine: rows in the sort's worlds. -/
namespace Go.Proofs.Ytbpkfifiigpdcaa.Sk
open Go Go.RowKit Go.Sort
set_option linter.unusedVariables false
set_option linter.unusedSimpArgs false
section
variable {w0 w W : World} {C : List Chunk} {blk : Nat} {E k : Nat}
theorem Sat.grown (h : Sat W w [whole W]) : ∃ q os, w = grow (W.drewN q) os := by
  obtain ⟨⟨d, os⟩, hp⟩ := regrown_of_below h.below
  have hd := h.output.2
  subst hp
  have hd' : W.drawn ≤ d := hd
  refine ⟨d - W.drawn, os, ?_⟩
  unfold redrawn World.drewN grow
  simp only
  congr 1
  omega
theorem Sat.grow (h : Sat w0 w C) (os : Array Obj) : Sat w0 (Go.Sort.grow w os) C := by
  obtain ⟨f, hf, hs⟩ := h.own
  refine ⟨h.os, h.tape, h.output, Nat.le_trans h.size (by simp), f, hf, fun i o hi => ?_⟩
  have := hs i o hi
  have hlt := (Array.getElem?_eq_some_iff.1 this).1
  rw [heap_grow_old _ _ hlt]
  exact this
theorem Sat.ahead (h : Sat w0 w C) (n : Nat) : Sat w0 (Go.Sort.ahead w n) C := h.same rfl rfl rfl rfl (by simp)
theorem Sat.mapBlock {cur : Array Value} {fz : Nat × Nat} (h : Sat w0 w (.obj blk (.cells cur E fz) :: C)) (f : Array Value → Array Value) : Sat w0 (Go.Sort.mapBlock w blk f) (.obj blk (.cells (f cur) E fz) :: C) := by
  refine h.set rfl rfl rfl (by simp [Go.Sort.mapBlock]) ?_ ?_
  · simp only [Go.Sort.mapBlock, Array.getElem?_modify, if_true, h.obj, Option.map_some, onCells]
  · intro i hi
    simp only [Go.Sort.mapBlock, Array.getElem?_modify, if_neg (Ne.symm hi)]
variable {α : Type} [Inhabited α] {enc : α → List Value} {d d' : Array α} {c n : Nat}
theorem flat_list (hk : ∀ x, (enc x).length = k) : ∀ l : List α, (List.range (l.length * k)).map (fun t => (enc l.toArray[t / k]!)[t % k]!) = l.flatMap enc
  | [] => by simp
  | a :: l => by
    have ih := flat_list hk l
    rw [List.length_cons, Nat.add_mul, Nat.one_mul, Nat.add_comm, List.range_add, List.map_append, List.flatMap_cons]
    congr 1
    · apply List.ext_getElem
      · simp [hk]
      · intro i h1 h2
        have hi : i < k := by simpa using h1
        rw [List.getElem_map, List.getElem_range, Nat.div_eq_of_lt hi, Nat.mod_eq_of_lt hi]
        simp [h2]
    · rw [List.map_map, ← ih]
      apply List.map_congr_left
      intro t ht
      have ht' : t < l.length * k := by simpa using ht
      have hk0 : 0 < k := by
        rcases Nat.eq_zero_or_pos k with h | h
        · subst h; simp at ht'
        · exact h
      simp only [Function.comp]
      rw [Nat.add_div_left _ hk0, Nat.add_mod_left]
      simp
theorem flatK_list (hk : ∀ x, (enc x).length = k) : (flatK enc k d).toList = d.toList.flatMap enc := by
  rw [← flat_list hk]
  unfold flatK
  simp [Array.toList_range]
theorem row_holds (hk : ∀ x, (enc x).length = k) (h : Sat w0 w (rowC E k (.slice (some ⟨blk, 0, none⟩) d.size c) d.size (d.toList.flatMap enc) :: C)) : HoldsK enc k w blk 0 d ∧ blk < w.heap.size := by
  rcases (row_open h).2 with ⟨e, _⟩ | ⟨g, cap, cur, e, h1, h2, h3, h4, hC⟩
  · cases e
  · injection e with e1 e2 e3
    injection e1 with e1
    injection e1 with e1
    subst e1
    refine ⟨fun j hj => ⟨?_, ?_⟩, (Array.getElem?_eq_some_iff.1 hC.obj).1⟩
    · have hj' : j < d.size * k := by simpa using hj
      have h5 : cur[j]? = some ((flatK enc k d)[j]!) := by
        have h6 : (cur.toList.take (d.size * k))[j]? = (flatK enc k d).toList[j]? := by rw [h4, flatK_list hk]
        rw [List.getElem?_take, if_pos hj'] at h6
        have h7 : (flatK enc k d).toList[j]? = some ((flatK enc k d)[j]!) := by
          rw [Array.getElem?_toList, Array.getElem?_eq_getElem hj, getElem!_pos _ j hj]
        rw [h7] at h6
        simpa using h6
      rw [Nat.zero_add]
      exact hC.cell (i := 0) rfl h5
    · exact sat_frozen (i := 0) hC rfl
theorem row_sorted (hk : ∀ x, (enc x).length = k) (h : Sat w0 w (rowC E k (.slice (some ⟨blk, 0, none⟩) d.size c) d.size (d.toList.flatMap enc) :: C)) (hd : d'.size = d.size) (m : Nat) (os : Array Obj) :
    Sat w0 (grow (putRowK enc k (Go.Sort.ahead w m) blk 0 d') os) (rowC E k (.slice (some ⟨blk, 0, none⟩) d.size c) d.size (d'.toList.flatMap enc) :: C) := by
  refine Sat.grow ?_ os
  rcases (row_open h).2 with ⟨e, _⟩ | ⟨g, cap, cur, e, h1, h2, h3, h4, hC⟩
  · cases e
  · injection e with e1 e2 e3
    injection e1 with e1
    injection e1 with e1
    subst e1
    subst e3
    have hS := Sat.mapBlock (hC.ahead m) (putCells id 0 (flatK enc k d'))
    refine row_shut hS h1 h2 (by simp [putCells, h3]) ?_
    rw [← flatK_list hk]
    apply List.ext_getElem?
    intro j
    rw [List.getElem?_take]
    split
    · rename_i hj
      have hj2 : j < c * k := Nat.lt_of_lt_of_le hj (Nat.mul_le_mul_right _ h1)
      have hjc : j < cur.size := by rw [h3]; exact hj2
      have hjf : j < (flatK enc k d').size := by simpa [hd] using hj
      simp [putCells, hjc, hjf, hd, hj]
    · rename_i hj
      rw [List.getElem?_eq_none]
      simpa [hd] using hj
end
end Go.Proofs.Ytbpkfifiigpdcaa.Sk
