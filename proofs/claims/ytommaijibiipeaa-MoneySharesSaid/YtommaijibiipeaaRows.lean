/-
  No cell of these rows narrows 'for every input' (looked for: loops, veiled, ifaces, maps, wideKeys, modest, calm, conditions, laid).
  DERIVED. THE GIVEN ROWS OF THIS SEAT. 5 by the template 'for every input the law returns true; each argument reads behind the call as it read before'; 0 by the template 'total and deterministic' (their statements: YtommaijibiipeaaTotals.lean).
  GIVEN WITH THE SEED: the statements are not yours to turn. If you find one false, say at which input.
  Laid BY PROGRAM, IN A SANDBOX (cutbox-rows.mjs): the forced cells as the released guide's own fill.sh prints them over the translation e4af53f3c201b80d… (all of the seat's roots in one cut). By AI agents, Wed Nov 11 2026. No macro, syntax, notation, axiom, sorry.
-/
import Derived.Test.YtommaijibiipeaaChecked
import GoSem.Claim
import GoSem.ClaimJoined
import GoSem.ClaimMapViews
import Derived.JoinedTies
import Derived.KernelRfl
namespace Go.Proofs.Ytommaijibiipeaa
/- THE CELL 'sum', in the pinned program and in every row, IS THE sha256 OF THE DUMP (.gsa) THAT YtommaijibiipeaaProg.lean LOADS. Nothing in Lean hashes anything: it is a label: what it is worth is what the hold of that sum in a sandbox is worth. -/
noncomputable def Try.pinned : Pinned := { name := "ytommaijibiipeaa", sum := "e4af53f3c201b80db5ac3ad0562c1009ce49fb42cce3df23907d8168cdc30fd2", checked := Try.checked }
namespace Rows
def none {H : Type} : Left H := { results := [], args := [] }

/-- 'turnstilelaw7.MoneySums': WHATEVER THE INPUT: true; the input reads as it did. -/
def moneySumsSpec : ChangeSpec := { name := "moneySums", fn := fun _ => fun
  | [d1, d2, d3] => { results := [.lit (.bool true)], args := [d1, d2, d3] }
  | _ => none }
def moneySumsRow : OpenClaim := { program := "ytommaijibiipeaa", sum := "e4af53f3c201b80db5ac3ad0562c1009ce49fb42cce3df23907d8168cdc30fd2", func := "turnstile/turnstilelaw7.MoneySums", spec := "moneySums", apart := false }
def MoneySumsSaid : Prop := moneySumsRow.holds Try.pinned (OpenSpec.ofChange moneySumsSpec)

/-- ITS FALSE NEIGHBOUR: 'it returns false'. Refute it at one input. -/
def moneySumsWrong : ChangeSpec := { name := "moneySums", fn := fun _ => fun
  | [d1, d2, d3] => { results := [.lit (.bool false)], args := [d1, d2, d3] }
  | _ => none }
def MoneySumsWrongFalsely : Prop := moneySumsRow.holds Try.pinned (OpenSpec.ofChange moneySumsWrong)

/-- 'turnstilelaw7.MoneyShares': WHATEVER THE INPUT: true; the input reads as it did. -/
def moneySharesSpec : ChangeSpec := { name := "moneyShares", fn := fun _ => fun
  | [d1, d2, d3, d4] => { results := [.lit (.bool true)], args := [d1, d2, d3, d4] }
  | _ => none }
def moneySharesRow : OpenClaim := { program := "ytommaijibiipeaa", sum := "e4af53f3c201b80db5ac3ad0562c1009ce49fb42cce3df23907d8168cdc30fd2", func := "turnstile/turnstilelaw7.MoneyShares", spec := "moneyShares", unfollowed := true, recurses := true, apart := false }
def MoneySharesSaid : Prop := moneySharesRow.holds Try.pinned (OpenSpec.ofChange moneySharesSpec)

/-- ITS FALSE NEIGHBOUR: 'it returns false'. Refute it at one input. -/
def moneySharesWrong : ChangeSpec := { name := "moneyShares", fn := fun _ => fun
  | [d1, d2, d3, d4] => { results := [.lit (.bool false)], args := [d1, d2, d3, d4] }
  | _ => none }
def MoneySharesWrongFalsely : Prop := moneySharesRow.holds Try.pinned (OpenSpec.ofChange moneySharesWrong)

/-- 'turnstilelaw7.MoneyFair': WHATEVER THE INPUT: true; the input reads as it did. -/
def moneyFairSpec : ChangeSpec := { name := "moneyFair", fn := fun _ => fun
  | [d1, d2] => { results := [.lit (.bool true)], args := [d1, d2] }
  | _ => none }
def moneyFairRow : OpenClaim := { program := "ytommaijibiipeaa", sum := "e4af53f3c201b80db5ac3ad0562c1009ce49fb42cce3df23907d8168cdc30fd2", func := "turnstile/turnstilelaw7.MoneyFair", spec := "moneyFair", unfollowed := true, recurses := true, apart := false }
def MoneyFairSaid : Prop := moneyFairRow.holds Try.pinned (OpenSpec.ofChange moneyFairSpec)

/-- ITS FALSE NEIGHBOUR: 'it returns false'. Refute it at one input. -/
def moneyFairWrong : ChangeSpec := { name := "moneyFair", fn := fun _ => fun
  | [d1, d2] => { results := [.lit (.bool false)], args := [d1, d2] }
  | _ => none }
def MoneyFairWrongFalsely : Prop := moneyFairRow.holds Try.pinned (OpenSpec.ofChange moneyFairWrong)

/-- 'turnstilelaw7.MoneyTogether': WHATEVER THE INPUT: true; the input reads as it did. -/
def moneyTogetherSpec : ChangeSpec := { name := "moneyTogether", fn := fun _ => fun
  | [d1, d2, d3] => { results := [.lit (.bool true)], args := [d1, d2, d3] }
  | _ => none }
def moneyTogetherRow : OpenClaim := { program := "ytommaijibiipeaa", sum := "e4af53f3c201b80db5ac3ad0562c1009ce49fb42cce3df23907d8168cdc30fd2", func := "turnstile/turnstilelaw7.MoneyTogether", spec := "moneyTogether", unfollowed := true, recurses := true, apart := false }
def MoneyTogetherSaid : Prop := moneyTogetherRow.holds Try.pinned (OpenSpec.ofChange moneyTogetherSpec)

/-- ITS FALSE NEIGHBOUR: 'it returns false'. Refute it at one input. -/
def moneyTogetherWrong : ChangeSpec := { name := "moneyTogether", fn := fun _ => fun
  | [d1, d2, d3] => { results := [.lit (.bool false)], args := [d1, d2, d3] }
  | _ => none }
def MoneyTogetherWrongFalsely : Prop := moneyTogetherRow.holds Try.pinned (OpenSpec.ofChange moneyTogetherWrong)

/-- 'turnstilelaw7.MoneyPlaces': WHATEVER THE INPUT: true; the input reads as it did. -/
def moneyPlacesSpec : ChangeSpec := { name := "moneyPlaces", fn := fun _ => fun
  | [d1, d2] => { results := [.lit (.bool true)], args := [d1, d2] }
  | _ => none }
def moneyPlacesRow : OpenClaim := { program := "ytommaijibiipeaa", sum := "e4af53f3c201b80db5ac3ad0562c1009ce49fb42cce3df23907d8168cdc30fd2", func := "turnstile/turnstilelaw7.MoneyPlaces", spec := "moneyPlaces", unfollowed := true, recurses := true, apart := false }
def MoneyPlacesSaid : Prop := moneyPlacesRow.holds Try.pinned (OpenSpec.ofChange moneyPlacesSpec)

/-- ITS FALSE NEIGHBOUR: 'it returns false'. Refute it at one input. -/
def moneyPlacesWrong : ChangeSpec := { name := "moneyPlaces", fn := fun _ => fun
  | [d1, d2] => { results := [.lit (.bool false)], args := [d1, d2] }
  | _ => none }
def MoneyPlacesWrongFalsely : Prop := moneyPlacesRow.holds Try.pinned (OpenSpec.ofChange moneyPlacesWrong)

/- THE SECOND FORM. 'bulk': how many values and letters a reading holds, each counted each time it is reached (what is shared counts as often as it is met; a slice's spare places count too). A statement '..UptoSaid' is the law's where the arguments, and the package variables that the reading takes, are together of bulk at most 1048576: NARROWER than '..Said'. Prove '..Said' where nothing that the law and all that it calls make is longer than what came in: it says more and counts as full. Else prove '..UptoSaid'. A law counts once. -/
mutual
def uptoBulk {H : Type} : DataW H → Nat
  | .lit (.string bytes) => bytes.length + 1
  | .lit _ => 1
  | .nil => 1
  | .ptr d => uptoBulk d + 1
  | .slice elems spare => uptoBulkAll elems + uptoBulkAll spare + 1
  | .agg parts => uptoBulkAll parts + 1
  | .iface _ d => uptoBulk d + 1
  | .map entries => uptoBulkEntries entries + 1
  | .held _ => 1
def uptoBulkAll {H : Type} : List (DataW H) → Nat
  | [] => 0
  | d :: r => uptoBulk d + uptoBulkAll r
def uptoBulkEntries {H : Type} : List (Lit × DataW H) → Nat
  | [] => 0
  | x :: r => uptoBulkEntry x + uptoBulkEntries r
def uptoBulkEntry {H : Type} : Lit × DataW H → Nat
  | (.string bytes, d) => bytes.length + uptoBulk d + 1
  | (_, d) => uptoBulk d + 1
 end
def uptoSmall : (H : Type) → List (DataW H) → Bool := fun _ ds => decide (uptoBulkAll ds ≤ 1048576)
def OpenSpec.upto (s : _root_.Go.ChangeSpec) : _root_.Go.OpenSpec := { _root_.Go.OpenSpec.ofChange s with cond := some uptoSmall }

/-- 'turnstilelaw7.MoneySums', WHERE WHAT IT READS IS OF BULK AT MOST 1048576: true; the input reads as it did. -/
def moneySumsUptoRow : OpenClaim := { program := "ytommaijibiipeaa", sum := "e4af53f3c201b80db5ac3ad0562c1009ce49fb42cce3df23907d8168cdc30fd2", func := "turnstile/turnstilelaw7.MoneySums", spec := "moneySums", apart := false, narrowed := true }
def MoneySumsUptoSaid : Prop := moneySumsUptoRow.holds Try.pinned (OpenSpec.upto moneySumsSpec)

/-- 'turnstilelaw7.MoneyShares', WHERE WHAT IT READS IS OF BULK AT MOST 1048576: true; the input reads as it did. -/
def moneySharesUptoRow : OpenClaim := { program := "ytommaijibiipeaa", sum := "e4af53f3c201b80db5ac3ad0562c1009ce49fb42cce3df23907d8168cdc30fd2", func := "turnstile/turnstilelaw7.MoneyShares", spec := "moneyShares", unfollowed := true, recurses := true, apart := false, narrowed := true }
def MoneySharesUptoSaid : Prop := moneySharesUptoRow.holds Try.pinned (OpenSpec.upto moneySharesSpec)

/-- 'turnstilelaw7.MoneyFair', WHERE WHAT IT READS IS OF BULK AT MOST 1048576: true; the input reads as it did. -/
def moneyFairUptoRow : OpenClaim := { program := "ytommaijibiipeaa", sum := "e4af53f3c201b80db5ac3ad0562c1009ce49fb42cce3df23907d8168cdc30fd2", func := "turnstile/turnstilelaw7.MoneyFair", spec := "moneyFair", unfollowed := true, recurses := true, apart := false, narrowed := true }
def MoneyFairUptoSaid : Prop := moneyFairUptoRow.holds Try.pinned (OpenSpec.upto moneyFairSpec)

/-- 'turnstilelaw7.MoneyTogether', WHERE WHAT IT READS IS OF BULK AT MOST 1048576: true; the input reads as it did. -/
def moneyTogetherUptoRow : OpenClaim := { program := "ytommaijibiipeaa", sum := "e4af53f3c201b80db5ac3ad0562c1009ce49fb42cce3df23907d8168cdc30fd2", func := "turnstile/turnstilelaw7.MoneyTogether", spec := "moneyTogether", unfollowed := true, recurses := true, apart := false, narrowed := true }
def MoneyTogetherUptoSaid : Prop := moneyTogetherUptoRow.holds Try.pinned (OpenSpec.upto moneyTogetherSpec)

/-- 'turnstilelaw7.MoneyPlaces', WHERE WHAT IT READS IS OF BULK AT MOST 1048576: true; the input reads as it did. -/
def moneyPlacesUptoRow : OpenClaim := { program := "ytommaijibiipeaa", sum := "e4af53f3c201b80db5ac3ad0562c1009ce49fb42cce3df23907d8168cdc30fd2", func := "turnstile/turnstilelaw7.MoneyPlaces", spec := "moneyPlaces", unfollowed := true, recurses := true, apart := false, narrowed := true }
def MoneyPlacesUptoSaid : Prop := moneyPlacesUptoRow.holds Try.pinned (OpenSpec.upto moneyPlacesSpec)

end Rows
end Go.Proofs.Ytommaijibiipeaa
