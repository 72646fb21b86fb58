import Derived.Test.YtbpkfifiigpdcaaSk17
/-! Sk, part eighteen: a field at any address. -/
namespace Go.Proofs.Ytbpkfifiigpdcaa.Sk
open Go Go.RowKit
set_option linter.unusedVariables false
set_option linter.unusedSimpArgs false
section
variable {P : Program} {ρ : Operand → Value} {dst : Option Tmp} {ty : TypeId} {pos : String} {af : Array Edge} {g : Option (Nat × Bool)}
theorem pu_fieldA {s i off : Nat} {x : Operand} {A : Addr} (hf : fieldB P s i off = true) (hx : ρ x = .pointer (some A)) : Pu P ρ ⟨dst, .fieldAddr s x i, ty, pos, af, g⟩ (.pointer (some (A.add off))) := fun w => by
  unfold fieldB at hf
  split at hf
  · rename_i fs hu
    split at hf
    · rename_i f hfi
      simp only [Bool.and_eq_true, beq_iff_eq] at hf
      obtain ⟨ho, hz⟩ := hf
      split at hz
      · rename_i j hj
        have hz' : j.size ≠ 0 := by simpa using hz
        simp [execOp, hx, Instr.fieldAt, underlying, program, hu, hfi, Instr.sureAddr, fieldPlace, sizeOf, typeInfo, hj, hz', Sem.run, ho, Sem.bind, bind, pure]
      · cases hz
    · cases hf
  · cases hf
end
end Go.Proofs.Ytbpkfifiigpdcaa.Sk
