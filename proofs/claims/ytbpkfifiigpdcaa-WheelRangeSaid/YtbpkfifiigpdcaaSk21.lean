import Derived.Test.YtbpkfifiigpdcaaSk20
/-! Sk, part twenty-one: exclusive or. -/
namespace Go.Proofs.Ytbpkfifiigpdcaa.Sk
open Go Go.RowKit
set_option linter.unusedVariables false
set_option linter.unusedSimpArgs false
section
variable {P : Program} {ρ : Operand → Value} {dst : Option Tmp} {ty : TypeId} {pos : String} {af : Array Edge} {g : Option (Nat × Bool)}
def xorI (m n : Int) : Int := IntKind.i64.wrap (BitVec.ofInt 64 m ^^^ BitVec.ofInt 64 n).toNat
theorem pu_xor {t u : Nat} {x y : Operand} {m n : Int} (hx : ρ x = .int .i64 m) (hy : ρ y = .int .i64 n) : Pu P ρ ⟨dst, .binOp .xor t x y u, ty, pos, af, g⟩ (.int .i64 (xorI m n)) := fun w => by
  simp [execOp, hx, hy, eqGuard, binOp, Op.intBits, Sem.run, Sem.bind, bind, pure, xorI]
  rfl
theorem xor_ne {m : Int} : xorI m 1 ≠ m := by
  intro h
  have h1 : BitVec.ofInt 64 (xorI m 1) = BitVec.ofInt 64 m ^^^ BitVec.ofInt 64 1 := by
    unfold xorI
    generalize BitVec.ofInt 64 m ^^^ BitVec.ofInt 64 1 = r
    apply BitVec.eq_of_toNat_eq
    rw [BitVec.toNat_ofInt]
    have hr := r.isLt
    simp [IntKind.wrap, IntKind.bits, IntKind.signed]
    split <;> omega
  rw [h] at h1
  have h2 : BitVec.ofInt 64 m ^^^ BitVec.ofInt 64 m = BitVec.ofInt 64 m ^^^ (BitVec.ofInt 64 m ^^^ BitVec.ofInt 64 1) := by rw [← h1]
  rw [← BitVec.xor_assoc, BitVec.xor_self, BitVec.zero_xor] at h2
  exact absurd h2 (by decide)
theorem xor_wf {m : Int} : -9223372036854775808 ≤ xorI m 1 ∧ xorI m 1 ≤ 9223372036854775807 := by
  unfold xorI
  generalize BitVec.ofInt 64 m ^^^ BitVec.ofInt 64 1 = r
  have hr := r.isLt
  simp [IntKind.wrap, IntKind.bits, IntKind.signed]
  split <;> omega
end
end Go.Proofs.Ytbpkfifiigpdcaa.Sk
