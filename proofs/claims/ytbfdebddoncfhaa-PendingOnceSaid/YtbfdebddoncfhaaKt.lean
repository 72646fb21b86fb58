import Derived.Test.YtbfdebddoncfhaaPo8
import Derived.ChangeSame
import Derived.SizedLaws
import Derived.WideShapes
import Derived.ProofKit
/-! A script that comes in: opened. -/
namespace Go.Proofs.Ytbfdebddoncfhaa
open Go Go.ChangeShapes Go.WideShapes Go.RowKit Go.Proofs.Ytbfdebddoncfhaa.Sk
set_option linter.unusedVariables false
set_option linter.unusedSimpArgs false
set_option maxRecDepth 100000
section
variable {H : Type} {enc : TypeId × Value → H} {w : World} {base : Nat} {sp : Nat → Bool} {held : Bool}
theorem open_op {n : Nat} {cs : List Value} {x : DataW H × List MemPlace} (h : DataW.trod enc Try.prog w base sp held n 54 cs = some x) : ∃ o : Stp, cs = o.cells ∧ (Lit.int .i64 o.what).wf = true ∧ (Lit.int .i64 o.n).wf = true := by
  have c3 : Try.prog.cellsOf 3 = 1 := by kernel_rfl
  have c54 : Try.prog.cellsOf 54 = 2 := by kernel_rfl
  obtain ⟨xs, n, _, hx, hsz, hlen, hg⟩ := DataW.trod_struct Try.underlying54 h
  match cs, hsz.trans c54 with
  | [x0, x1], _ =>
    match xs, hlen with
    | [y0, y1], _ =>
      have t0 := hg 0 _ rfl
      have t1 := hg 1 _ rfl
      simp [c3] at t0 t1
      obtain ⟨n0, e0, _, g0⟩ := DataW.trod_int Try.underlying3 t0
      obtain ⟨n1, e1, _, g1⟩ := DataW.trod_int Try.underlying3 t1
      simp at e0 e1
      subst e0 e1
      exact ⟨⟨n0, n1⟩, rfl, g0, g1⟩
theorem open_ops {a : Option Addr} {len cap : Nat} {d : DataW H} {p : List MemPlace} (h : DataW.Trod enc Try.prog w base sp held 48 (.slice a len cap) d p) : ∃ ops : Nat → Stp, CellsIn w a len 2 (fun i => (ops i).cells) ∧ ∀ i, (Lit.int .i64 (ops i).what).wf = true ∧ (Lit.int .i64 (ops i).n).wf = true := by
  have c54 : Try.prog.cellsOf 54 = 2 := by kernel_rfl
  obtain ⟨fuel, hf⟩ := h
  rcases DataW.trod_slice Try.underlying48 hf with ⟨hcs, _⟩ | ⟨x, l, c, el, rs, n, _, hcs, _, _, _, _, hl, hg, _, _⟩
  · simp [Value.cells] at hcs
    obtain ⟨rfl, rfl, rfl⟩ := hcs
    exact ⟨fun _ => ⟨0, 0⟩, fun i hi => absurd hi (by omega), fun _ => ⟨rfl, rfl⟩⟩
  · simp [Value.cells] at hcs
    obtain ⟨rfl, rfl, rfl⟩ := hcs
    rw [c54] at hg
    have key : ∀ i, ∃ o : Stp, ((Lit.int .i64 o.what).wf = true ∧ (Lit.int .i64 o.n).wf = true) ∧ (i < len → ∀ j v, o.cells[j]? = some v → w.cell? ((x.add (i * 2)).add j) = some v) := by
      intro i
      by_cases hi : i < len
      · have h1 := hg i hi
        rw [List.getElem?_eq_getElem (by omega), Option.bind_eq_some_iff] at h1
        obtain ⟨cs, h2, h3⟩ := h1
        obtain ⟨o, rfl, hw⟩ := open_op h3
        obtain ⟨_, h4, h5⟩ := World.cells?_some h2
        refine ⟨o, hw, fun _ j v hj => ?_⟩
        rw [← hj]
        refine h5 j ?_
        have := (List.getElem?_eq_some_iff.1 hj).1
        simpa [Stp.cells] using this
      · exact ⟨⟨0, 0⟩, ⟨rfl, rfl⟩, fun h => absurd h hi⟩
    exact ⟨fun i => (key i).choose, fun i hi => ⟨x, rfl, (key i).choose_spec.2 hi⟩, fun i => (key i).choose_spec.1⟩
theorem sized_ops {a : Option Addr} {len cap : Nat} {d : DataW H} {p : List MemPlace} {ts : List TypeId} {ds : List (DataW H)} {j : Nat} (hsz : (DataW.weightsEach Try.prog ts ds).all (· ≤ reachBytes) = true) (ht : ts[j]? = some 48) (hd : ds[j]? = some d) (h : DataW.Trod enc Try.prog w base sp held 48 (.slice a len cap) d p) : len * 16 ≤ 140737488351232 := by
  obtain ⟨fuel, hf⟩ := h
  rcases DataW.trod_slice Try.underlying48 hf with ⟨hcs, _⟩ | ⟨x, l, c, el, rs, n, _, hcs, hx, _, _, _, hl, _, _, _⟩
  · simp [Value.cells] at hcs
    obtain ⟨rfl, rfl, rfl⟩ := hcs
    simp
  · simp [Value.cells] at hcs
    obtain ⟨rfl, rfl, rfl⟩ := hcs
    obtain ⟨hx, _⟩ := Prod.mk.inj hx
    subst hx
    have z := sized_slice hsz ht hd Try.underlying48
    have b : Try.prog.bytesOf 54 = 16 := by kernel_rfl
    rw [b, List.length_map, List.length_map, hl] at z
    have r : reachBytes = 140737488351232 := by decide
    omega
end
end Go.Proofs.Ytbfdebddoncfhaa
