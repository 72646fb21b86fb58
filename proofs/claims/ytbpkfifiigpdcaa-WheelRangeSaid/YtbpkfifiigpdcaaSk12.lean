import Derived.Test.YtbpkfifiigpdcaaSk11
/-! Sk, part twelve: min, max. -/
namespace Go.Proofs.Ytbpkfifiigpdcaa.Sk
open Go Go.RowKit
set_option linter.unusedVariables false
set_option linter.unusedSimpArgs false
section ops
variable {P : Program} {ρ : Operand → Value} {dst : Option Tmp} {ty : TypeId} {pos : String} {af : Array Edge} {gd : Option (Nat × Bool)}
theorem pu_min {x y : Operand} {ts : Array TypeId} {k k' : IntKind} {m n : Int} (hx : ρ x = .int k m) (hy : ρ y = .int k' n) : Pu P ρ ⟨dst, .call { callee := .builtin .min, args := #[x, y], argTypes := ts }, ty, pos, af, gd⟩ (.int k (min m n)) := fun w => by
  simp only [execOp, resolve, invoke, builtin, Sem.run_bind, Sem.run_pure, Result.andThen_ok, List.map_toArray, List.map_cons, List.map_nil, hx, hy]
  have : (Builtin.min_ ts ty #[.int k m, .int k' n]).run P w = .ok (.int k (if n < m then n else m)) w := by
    simp [Builtin.min_, Builtin.min2]
  rw [this]
  have e : (if n < m then n else m) = min m n := by
    split <;> omega
  simp [e]
theorem pu_max {x y : Operand} {ts : Array TypeId} {k k' : IntKind} {m n : Int} (hx : ρ x = .int k m) (hy : ρ y = .int k' n) : Pu P ρ ⟨dst, .call { callee := .builtin .max, args := #[x, y], argTypes := ts }, ty, pos, af, gd⟩ (.int k (max m n)) := fun w => by
  simp only [execOp, resolve, invoke, builtin, Sem.run_bind, Sem.run_pure, Result.andThen_ok, List.map_toArray, List.map_cons, List.map_nil, hx, hy]
  have : (Builtin.max_ ts ty #[.int k m, .int k' n]).run P w = .ok (.int k (if n > m then n else m)) w := by
    simp [Builtin.max_, Builtin.max2]
  rw [this]
  have e : (if n > m then n else m) = max m n := by
    split <;> omega
  simp [e]
end ops
end Go.Proofs.Ytbpkfifiigpdcaa.Sk
