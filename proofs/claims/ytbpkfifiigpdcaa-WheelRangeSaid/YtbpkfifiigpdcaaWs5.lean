import Derived.Test.YtbpkfifiigpdcaaWs4
import Derived.Test.YtbpkfifiigpdcaaLy
/-! slices.SortFunc of the entries. -/
namespace Go.Proofs.Ytbpkfifiigpdcaa
open Go Go.RowKit Go.Proofs.Ytbpkfifiigpdcaa.Sk Go.Sort
set_option linter.unusedVariables false
set_option linter.unusedSimpArgs false
set_option maxRecDepth 100000

theorem ltOf_ent (x y : Ent) : ltOf entCmp x y = decide (x.at_ < y.at_ ∨ (x.at_ = y.at_ ∧ x.timer < y.timer)) := by
  unfold ltOf
  exact decide_eq_decide.2 (entCmp_lt x y)
theorem ent_swo : SWO (ltOf entCmp) where
  irrefl x := by rw [ltOf_ent]; simp
  trans x y z h1 h2 := by rw [ltOf_ent, decide_eq_true_eq] at *; omega
  ntrans x y z h1 h2 := by rw [ltOf_ent, decide_eq_false_iff_not] at *; omega
theorem enters_fn {P : Program} {f : FuncId} (hf : FnB P f) : ∀ args w, (callFunc f args).run P w = .ok (.enter f args) w := by
  intro args w
  obtain ⟨fn, h1, h2, h3⟩ := hf
  have e : (program).run P w = .ok P w := rfl
  simp only [callFunc, Sem.run_bind, e, Sem.run_pure, Result.andThen_ok, h1, h2, h3, Bool.false_eq_true, if_false]
theorem ent_lays (blk size : Nat) (w : World) : CmpLays Try.prog 46 #[] Ent.cells 3 entCmp blk 0 size w := by
  intro m os dk _ x y
  refine (entCmp_c (x := x) (y := y) (sat_whole (sortWorldK Ent.cells 3 w blk 0 m dk os))).mono ?_
  rintro e w' ⟨rfl, h⟩
  exact ⟨rfl, h.grown⟩
theorem sort_c {w0 w : World} {F : List Chunk} {A : Option Addr} {c : Nat} {l : List Ent} (hS : Sat w0 w (rowC 89 3 (.slice A l.length c) l.length (entCells l) :: F)) (hn : (l.map Ent.timer).Nodup) (hlen : l.length ≤ 140737488355328) :
    Calls Try.prog 45 #[.slice A l.length c, .func (.func 46) #[] #[]] w fun e w' => e = .returned (.tuple #[]) ∧ Sat w0 w' (rowC 89 3 (.slice A l.length c) l.length (entCells (sortE l)) :: F) := by
  rcases Nat.eq_zero_or_pos l.length with h0 | h0
  · have hl : l = [] := List.eq_nil_of_length_eq_zero h0
    subst hl
    have h := AnyF.slices_SortFunc_none sortE_lays A c (.func (.func 46) #[] #[]) w
    refine Calls.mono (f := 45) h ?_
    rintro e w' ⟨rfl, rfl⟩
    exact ⟨rfl, by simpa [sortE] using hS⟩
  · obtain ⟨g, c', e, _, _⟩ := row_cell hS h0
    injection e with e1 e2 e3
    subst e1
    have hk : ∀ x : Ent, x.cells.length = 3 := fun _ => rfl
    have hS' : Sat w0 w (rowC 89 3 (.slice (some ⟨g, 0, none⟩) l.toArray.size c) l.toArray.size (l.toArray.toList.flatMap Ent.cells) :: F) := hS
    obtain ⟨hH, hb⟩ := row_holds hk hS'
    have h := AnyQ.slices_SortFunc sortE_lays 3 (aggB_run ag89) (sizeB_run (by
      have := ag89
      simp only [aggB, Bool.and_eq_true] at this
      exact this.1)) Ent.cells hk (fun x v hv => by
        simp [Ent.cells] at hv
        rcases hv with rfl | rfl | rfl
        · rfl
        · rfl
        · exact x.one) entCmp ent_swo 46 #[] g 0 c l.toArray w (enters_fn fk46) (ent_lays g _ w) hH hb (by simp; omega)
    refine Calls.mono (f := 45) h ?_
    rintro e w' ⟨rfl, d', m, os, hp, hs, rfl⟩
    refine ⟨rfl, ?_⟩
    obtain ⟨hp1, _, hp3⟩ := hp
    have hS2 := row_sorted hk hS' hp1 m os
    have hperm : d'.toList.Perm l := by
      have e1 : d'.extract 0 l.toArray.size = d' := by rw [← hp1]; simp
      have e2 : l.toArray.extract 0 l.toArray.size = l.toArray := by simp
      rw [e1, e2] at hp3
      exact hp3
    have hsort : d'.toList.Pairwise (fun a b => entLe a b = true) := by
      rw [List.pairwise_iff_getElem]
      intro i j hi hj hij
      have hi' : i < d'.size := by simpa using hi
      have hj' : j < d'.size := by simpa using hj
      have h1 := hs i j (by omega) hij (by rw [← hp1]; exact hj')
      rw [getElem!_pos d' i hi', getElem!_pos d' j hj', ltOf_ent, decide_eq_false_iff_not] at h1
      simp only [entLe, decide_eq_true_eq, Array.getElem_toList]
      omega
    have := sortE_unique hn hperm hsort
    rw [this] at hS2
    exact hS2
end Go.Proofs.Ytbpkfifiigpdcaa
