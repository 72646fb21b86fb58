import Derived.Test.YtbpkfifiigpdcaaWh10
/-! WheelOnce: its walk, in the form that the row asks for. -/
namespace Go.Proofs.Ytbpkfifiigpdcaa
open Go Go.RowKit Go.Proofs.Ytbpkfifiigpdcaa.Sk
theorem wheelOnce_walk (W : World) (s : Int) (hs : (Lit.int .i64 s).wf = true) (a1 : Option Addr) (l1 q1 : Nat) (z1 : List Int) (h1 : IsRow .i64 W a1 l1 q1 z1) (_ : l1 * 8 ≤ 140737488351232)
    (a2 : Option Addr) (l2 q2 : Nat) (z2 : List Int) (h2 : IsRow .i64 W a2 l2 q2 z2) (_ : l2 * 8 ≤ 140737488351232) (a3 : Option Addr) (l3 q3 : Nat) (z3 : List Int) (h3 : IsRow .i64 W a3 l3 q3 z3) (_ : l3 * 8 ≤ 140737488351232) :
    Calls Try.prog 3 #[.int .i64 s, .slice a1 l1 q1, .slice a2 l2 q2, .slice a3 l3 q3] W fun e w' => e = .returned (.bool true) ∧ Below W.heap.size W w' :=
  once_c W s (wf64 hs).1 (wf64 hs).2 h1.ints h2.ints h3.ints
end Go.Proofs.Ytbpkfifiigpdcaa
