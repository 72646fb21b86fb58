import Derived.Test.YtbpkfifiigpdcaaSk31
/-! Sk, part thirty-two: a struct loaded from wherever it lies; slices of structs that came in; calls on a chunk in its place. -/
namespace Go.Proofs.Ytbpkfifiigpdcaa.Sk
open Go Go.RowKit
set_option linter.unusedVariables false
set_option linter.unusedSimpArgs false
section
variable {P : Program} {ρ : Operand → Value} {dst : Option Tmp} {ty : TypeId} {pos : String} {af : Array Edge} {g : Option (Nat × Bool)} {w : World}
/-- Element i of a slice that came in holds the cells f i. -/
def CellsIn (W : World) (a : Option Addr) (len sz : Nat) (f : Nat → List Value) : Prop := ∀ i, i < len → ∃ x, a = some x ∧ ∀ j v, (f i)[j]? = some v → W.cell? ((x.add (i * sz)).add j) = some v
theorem CellsIn.at_ {W w0 w : World} {a : Option Addr} {len sz i k : Nat} {f : Nat → List Value} {C : List Chunk} (h : CellsIn W a len sz f) (hi : i < len) (hS : Sat w0 w C) (hk : nth C k = some (whole W)) : ∃ x, a = some x ∧ ∀ j v, (f i)[j]? = some v → w.cell? ((x.add ((i : Int).toNat * sz)).add j) = some v := by
  obtain ⟨x, rfl, hc⟩ := h i hi
  exact ⟨x, rfl, fun j v hj => by rw [Int.toNat_natCast]; exact hS.whole_at hk (hc j v hj)⟩
end
section
variable {P : Program} {f : FuncId} {args : Array Value} {w w0 : World} {C : List Chunk} {c : Chunk} {v : Value}
theorem at_keep (i : Nat) (hS : Sat w0 w C) (hi : nth C i = some c) (h : Sat w0 w (c :: del C i) → Calls P f args w (fun e w' => e = .returned v ∧ Sat w0 w' (c :: del C i))) : Calls P f args w (fun e w' => e = .returned v ∧ Sat w0 w' C) :=
  (h (hS.front i hi)).mono fun _ _ ⟨h1, h2⟩ => ⟨h1, same_place i h2 hi⟩
end
end Go.Proofs.Ytbpkfifiigpdcaa.Sk
