import Derived.Test.YtbpkfifiigpdcaaSk18
/-! Sk, part nineteen: structs of numbers and texts compared; exclusive or. -/
namespace Go.Proofs.Ytbpkfifiigpdcaa.Sk
open Go Go.RowKit
set_option linter.unusedVariables false
set_option linter.unusedSimpArgs false
section
variable {P : Program} {ρ : Operand → Value} {dst : Option Tmp} {ty : TypeId} {pos : String} {af : Array Edge} {g : Option (Nat × Bool)}
theorem struct_eq {K : Type} [DecidableEq K] {kt : TypeId} {fs : Array Field} (sc : K → List Sc) (hu : P.underlying kt = some (.struct fs)) (hp : P.stoodInHeld kt = false) (hfit : ∀ x, fitB P fs.toList (sc x) 0 = true) (hlike : ∀ x y, likeAll (sc x) (sc y) = true)
    (hinj : ∀ x y, sc x = sc y → x = y) (x y : K) (w : World) : (Op.equal kt (.agg ((sc x).map Sc.val).toArray) (.agg ((sc y).map Sc.val).toArray)).run P w = .ok (decide (x = y)) w := by
  have hf : P.fieldsOf kt = fs := by simp [Program.fieldsOf, hu]
  have h1 := eq_fields (P := P) (w := w) 9998 fs.toList (sc x) (sc y) ((sc x).map Sc.val).toArray ((sc y).map Sc.val).toArray 0 (hfit x) (hlike x y) (fun i s h => by simp [h]) (fun i s h => by simp [h])
  unfold Op.equal Op.maxDepth
  rw [show (10000 : Nat) = 9999 + 1 from rfl, run_equalIn_struct (P := P) w 9999 kt _ _ (by rw [hf]; exact hu) hp, hf, h1]
  congr 1
  by_cases hxy : x = y
  · subst hxy; simp
  · rw [decide_eq_false hxy, decide_eq_false (fun e => hxy (hinj x y e))]
theorem pu_aeq {t u : Nat} {x y : Operand} {xs ys : Array Value} {r : Bool} (hg : P.eqGuardType P.depth t = false) (hx : ρ x = .agg xs) (hy : ρ y = .agg ys) (he : ∀ w, (Op.equal t (.agg xs) (.agg ys)).run P w = .ok r w) : Pu P ρ ⟨dst, .binOp .eql t x y u, ty, pos, af, g⟩ (.bool r) :=
  pu_eq_of hx hy (fun w => run_eql_of rfl (he w)) (fun w => by
    have e : (program).run P w = .ok P w := rfl
    unfold eqGuard
    simp [Sem.run_bind, e, Result.andThen_ok, hg])
end
end Go.Proofs.Ytbpkfifiigpdcaa.Sk
