import Derived.Test.YtbpkfifiigpdcaaWs11
import Derived.ChangeSame
import Derived.SizedLaws
import Derived.WideShapes
import Derived.ProofKit
/-! A script that comes in: opened. -/
namespace Go.Proofs.Ytbpkfifiigpdcaa
open Go Go.ChangeShapes Go.WideShapes Go.RowKit Go.Proofs.Ytbpkfifiigpdcaa.Sk
set_option linter.unusedVariables false
set_option linter.unusedSimpArgs false
set_option maxRecDepth 100000
section
variable {H : Type} {enc : TypeId × Value → H} {w : World} {base : Nat} {sp : Nat → Bool} {held : Bool}
theorem open_op {n : Nat} {cs : List Value} {x : DataW H × List MemPlace} (h : DataW.trod enc Try.prog w base sp held n 49 cs = some x) : ∃ o : Op, cs = o.cells ∧ (Lit.int .i64 o.n).wf = true := by
  have c3 : Try.prog.cellsOf 3 = 1 := by kernel_rfl
  have c4 : Try.prog.cellsOf 4 = 1 := by kernel_rfl
  have c49 : Try.prog.cellsOf 49 = 3 := by kernel_rfl
  obtain ⟨xs, n, _, hx, hsz, hlen, hg⟩ := DataW.trod_struct Try.underlying49 h
  match cs, hsz.trans c49 with
  | [x0, x1, x2], _ =>
    match xs, hlen with
    | [y0, y1, y2], _ =>
      have t0 := hg 0 _ rfl
      have t1 := hg 1 _ rfl
      have t2 := hg 2 _ rfl
      simp [c3, c4] at t0 t1 t2
      obtain ⟨n0, e0, _, _⟩ := DataW.trod_int Try.underlying3 t0
      obtain ⟨n1, e1, _⟩ := DataW.trod_bool Try.underlying4 t1
      obtain ⟨n2, e2, _, g2⟩ := DataW.trod_int Try.underlying3 t2
      simp at e0 e1 e2
      subst e0 e1 e2
      exact ⟨⟨n0, n1, n2⟩, rfl, g2⟩
theorem open_ops {a : Option Addr} {len cap : Nat} {d : DataW H} {p : List MemPlace} (h : DataW.Trod enc Try.prog w base sp held 37 (.slice a len cap) d p) : ∃ ops : Nat → Op, CellsIn w a len 3 (fun i => (ops i).cells) ∧ ∀ i, (Lit.int .i64 (ops i).n).wf = true := by
  have c49 : Try.prog.cellsOf 49 = 3 := by kernel_rfl
  obtain ⟨fuel, hf⟩ := h
  rcases DataW.trod_slice Try.underlying37 hf with ⟨hcs, _⟩ | ⟨x, l, c, el, rs, n, _, hcs, _, _, _, _, hl, hg, _, _⟩
  · simp [Value.cells] at hcs
    obtain ⟨rfl, rfl, rfl⟩ := hcs
    exact ⟨fun _ => ⟨0, false, 0⟩, fun i hi => absurd hi (by omega), fun _ => rfl⟩
  · simp [Value.cells] at hcs
    obtain ⟨rfl, rfl, rfl⟩ := hcs
    rw [c49] at hg
    have key : ∀ i, ∃ o : Op, (Lit.int .i64 o.n).wf = true ∧ (i < len → ∀ j v, o.cells[j]? = some v → w.cell? ((x.add (i * 3)).add j) = some v) := by
      intro i
      by_cases hi : i < len
      · have h1 := hg i hi
        rw [List.getElem?_eq_getElem (by omega), Option.bind_eq_some_iff] at h1
        obtain ⟨cs, h2, h3⟩ := h1
        obtain ⟨o, rfl, hw⟩ := open_op h3
        obtain ⟨_, h4, h5⟩ := World.cells?_some h2
        refine ⟨o, hw, fun _ j v hj => ?_⟩
        rw [← hj]
        refine h5 j ?_
        have := (List.getElem?_eq_some_iff.1 hj).1
        simpa [Op.cells] using this
      · exact ⟨⟨0, false, 0⟩, rfl, fun h => absurd h hi⟩
    exact ⟨fun i => (key i).choose, fun i hi => ⟨x, rfl, (key i).choose_spec.2 hi⟩, fun i => (key i).choose_spec.1⟩
theorem sized_ops {a : Option Addr} {len cap : Nat} {d : DataW H} {p : List MemPlace} {ts : List TypeId} {ds : List (DataW H)} {j : Nat} (hsz : (DataW.weightsEach Try.prog ts ds).all (· ≤ reachBytes) = true) (ht : ts[j]? = some 37) (hd : ds[j]? = some d) (h : DataW.Trod enc Try.prog w base sp held 37 (.slice a len cap) d p) : len * 24 ≤ 140737488351232 := by
  obtain ⟨fuel, hf⟩ := h
  rcases DataW.trod_slice Try.underlying37 hf with ⟨hcs, _⟩ | ⟨x, l, c, el, rs, n, _, hcs, hx, _, _, _, hl, _, _, _⟩
  · simp [Value.cells] at hcs
    obtain ⟨rfl, rfl, rfl⟩ := hcs
    simp
  · simp [Value.cells] at hcs
    obtain ⟨rfl, rfl, rfl⟩ := hcs
    obtain ⟨hx, _⟩ := Prod.mk.inj hx
    subst hx
    have z := sized_slice hsz ht hd Try.underlying37
    have b : Try.prog.bytesOf 49 = 24 := by kernel_rfl
    rw [b, List.length_map, List.length_map, hl] at z
    have r : reachBytes = 140737488351232 := by decide
    omega
end
end Go.Proofs.Ytbpkfifiigpdcaa
