import Derived.Test.YtbfdebddoncfhaaFc
import Derived.ChangeSame
import Derived.ShutString
import Derived.WideShapes
import Derived.ProofKit
/-! A key that comes in: opened, and shut. -/
namespace Go.Proofs.Ytbfdebddoncfhaa
open Go Go.ChangeShapes Go.WideShapes Go.RowKit Go.Proofs.Ytbfdebddoncfhaa.Sk
set_option linter.unusedVariables false
set_option linter.unusedSimpArgs false
set_option maxRecDepth 100000
section
variable {H : Type} {enc : TypeId × Value → H} {w : World} {base : Nat} {sp : Nat → Bool} {held : Bool}
theorem open_key {r : Reach} {b0 : Nat} {v : Value} {d : DataW H} {p : List MemPlace} (hv : Value.okWide Try.prog w r b0 30 v) (h : DataW.Trod enc Try.prog w base sp held 30 v d p) :
    ∃ (l c : Int) (s1 s2 s3 : ByteArray), v = .agg #[.int .i64 l, .int .i64 c, .string s1, .string s2, .string s3] ∧ d = .agg [.lit (.int .i64 l), .lit (.int .i64 c), .lit (.string s1.data.toList), .lit (.string s2.data.toList), .lit (.string s3.data.toList)] ∧ p = [] ∧
      (Lit.int .i64 l).wf = true ∧ (Lit.int .i64 c).wf = true ∧ s1.size ≤ maxLen ∧ s2.size ≤ maxLen ∧ s3.size ≤ maxLen := by
  have c3 : Try.prog.cellsOf 3 = 1 := by kernel_rfl
  have c9 : Try.prog.cellsOf 9 = 1 := by kernel_rfl
  have c30 : Try.prog.cellsOf 30 = 5 := by kernel_rfl
  obtain ⟨cs, rfl, hsz⟩ := okWide_struct Try.underlying30 hv
  obtain ⟨l⟩ := cs
  match l, hsz.trans c30 with
  | [x0, x1, x2, x3, x4], _ =>
    obtain ⟨fuel, hf⟩ := h
    obtain ⟨xs, n, _, hx, _, hlen, hg⟩ := DataW.trod_struct Try.underlying30 hf
    match xs, hlen with
    | [y0, y1, y2, y3, y4], _ =>
      have t0 := hg 0 _ rfl
      have t1 := hg 1 _ rfl
      have t2 := hg 2 _ rfl
      have t3 := hg 3 _ rfl
      have t4 := hg 4 _ rfl
      simp [Value.cells, c3, c9] at t0 t1 t2 t3 t4
      obtain ⟨n0, e0, f0, g0⟩ := DataW.trod_int Try.underlying3 t0
      obtain ⟨n1, e1, f1, g1⟩ := DataW.trod_int Try.underlying3 t1
      obtain ⟨n2, e2, f2, g2⟩ := DataW.trod_string Try.underlying9 t2
      obtain ⟨n3, e3, f3, g3⟩ := DataW.trod_string Try.underlying9 t3
      obtain ⟨n4, e4, f4, g4⟩ := DataW.trod_string Try.underlying9 t4
      simp at e0 e1 e2 e3 e4
      subst e0 e1 e2 e3 e4 f0 f1 f2 f3 f4
      simp at hx
      exact ⟨n0, n1, n2, n3, n4, rfl, hx.1, hx.2, g0, g1, g2, g3, g4⟩
theorem shut_key {l c : Int} {s1 s2 s3 : ByteArray} (g0 : (Lit.int .i64 l).wf = true) (g1 : (Lit.int .i64 c).wf = true) (g2 : s1.size ≤ maxLen) (g3 : s2.size ≤ maxLen) (g4 : s3.size ≤ maxLen) :
    DataW.Trod enc Try.prog w base sp held 30 (.agg #[.int .i64 l, .int .i64 c, .string s1, .string s2, .string s3]) (.agg [.lit (.int .i64 l), .lit (.int .i64 c), .lit (.string s1.data.toList), .lit (.string s2.data.toList), .lit (.string s3.data.toList)]) [] := by
  have c3 : Try.prog.cellsOf 3 = 1 := by kernel_rfl
  have c9 : Try.prog.cellsOf 9 = 1 := by kernel_rfl
  have c30 : Try.prog.cellsOf 30 = 5 := by kernel_rfl
  have u3 := Try.underlying3
  have u9 := Try.underlying9
  have := trod_struct_mk (enc := enc) (w := w) (base := base) (spare := sp) (held := held) (n := 1) (cs := [.int .i64 l, .int .i64 c, .string s1, .string s2, .string s3])
    (xs := [(.lit (.int .i64 l), []), (.lit (.int .i64 c), []), (.lit (.string s1.data.toList), []), (.lit (.string s2.data.toList), []), (.lit (.string s3.data.toList), [])]) Try.underlying30 c30.symm
    (by simp [c3, c9, DataW.trod, u3, u9, g0, g1, g2, g3, g4])
  exact ⟨2, by simpa [Value.cells] using this⟩
end
end Go.Proofs.Ytbfdebddoncfhaa
