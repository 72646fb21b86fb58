import Derived.Test.YtbpkfifiigpdcaaSk13
/-! Sk, part fourteen: a place where ways meet. -/
namespace Go.Proofs.Ytbpkfifiigpdcaa.Sk
open Go Go.RowKit
set_option linter.unusedVariables false
section
variable {P : Program} {x y : Code} {Q : Exit → Act → World → Prop} {a : Act} {w : World}
theorem wp_seq_j (J : Act → World → Prop) (h2 : x.wp P (Exit.then J Q) a w) (h1 : ∀ a w, J a w → y.wp P Q a w) : (Code.seq x y).wp P Q a w :=
  wp_seq_k fun K hK => wp_mono h2 fun e a w h => by
    cases e with
    | normal => exact hK _ _ (h1 _ _ h)
    | _ => exact h
end
end Go.Proofs.Ytbpkfifiigpdcaa.Sk
