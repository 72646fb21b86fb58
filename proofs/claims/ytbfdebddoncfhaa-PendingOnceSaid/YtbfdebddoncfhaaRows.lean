/-
  NARROWER THAN 'FOR EVERY INPUT', by the rows' own cells (each row's printed sentence says how): PendingPlays: loops.
  DERIVED. THE GIVEN ROWS OF THIS SEAT. 4 by the template 'for every input the law returns true; each argument reads behind the call as it read before'; 0 by the template 'total and deterministic' (their statements: YtbfdebddoncfhaaTotals.lean).
  GIVEN WITH THE SEED: the statements are not yours to turn. If you find one false, say at which input.
  Laid BY PROGRAM, IN A SANDBOX (cutbox-rows.mjs): the forced cells as the released guide's own fill.sh prints them over the translation d75c019134e9ecae… (all of the seat's roots in one cut). By AI agents, Wed Nov 11 2026. No macro, syntax, notation, axiom, sorry.
-/
import Derived.Test.YtbfdebddoncfhaaChecked
import GoSem.Claim
import GoSem.ClaimJoined
import GoSem.ClaimMapViews
import Derived.JoinedTies
import Derived.KernelRfl
namespace Go.Proofs.Ytbfdebddoncfhaa
/- THE CELL 'sum', in the pinned program and in every row, IS THE sha256 OF THE DUMP (.gsa) THAT YtbfdebddoncfhaaProg.lean LOADS. Nothing in Lean hashes anything: it is a label: what it is worth is what the hold of that sum in a sandbox is worth. -/
noncomputable def Try.pinned : Pinned := { name := "ytbfdebddoncfhaa", sum := "d75c019134e9ecae8b031c28b9f64304e66c0ab63e6aa9d95ed14977c5a3981e", checked := Try.checked }
namespace Rows
def none {H : Type} : Left H := { results := [], args := [] }

/-- 'turnstilelaw19.PendingFull': WHATEVER THE INPUT: true; the input reads as it did. -/
def pendingFullSpec : ChangeSpec := { name := "pendingFull", fn := fun _ => fun
  | [d1, d2] => { results := [.lit (.bool true)], args := [d1, d2] }
  | _ => none }
def pendingFullRow : OpenClaim := { program := "ytbfdebddoncfhaa", sum := "d75c019134e9ecae8b031c28b9f64304e66c0ab63e6aa9d95ed14977c5a3981e", func := "turnstile/turnstilelaw19.PendingFull", spec := "pendingFull", unfollowed := true, recurses := true, plainKeys := false, apart := false }
def PendingFullSaid : Prop := pendingFullRow.holds Try.pinned (OpenSpec.ofChange pendingFullSpec)

/-- ITS FALSE NEIGHBOUR: 'it returns false'. Refute it at one input. -/
def pendingFullWrong : ChangeSpec := { name := "pendingFull", fn := fun _ => fun
  | [d1, d2] => { results := [.lit (.bool false)], args := [d1, d2] }
  | _ => none }
def PendingFullWrongFalsely : Prop := pendingFullRow.holds Try.pinned (OpenSpec.ofChange pendingFullWrong)

/-- 'turnstilelaw19.PendingTwice': WHATEVER THE INPUT: true; the input reads as it did. -/
def pendingTwiceSpec : ChangeSpec := { name := "pendingTwice", fn := fun _ => fun
  | [d1, d2, d3, d4, d5, d6] => { results := [.lit (.bool true)], args := [d1, d2, d3, d4, d5, d6] }
  | _ => none }
def pendingTwiceRow : OpenClaim := { program := "ytbfdebddoncfhaa", sum := "d75c019134e9ecae8b031c28b9f64304e66c0ab63e6aa9d95ed14977c5a3981e", func := "turnstile/turnstilelaw19.PendingTwice", spec := "pendingTwice", unfollowed := true, recurses := true, plainKeys := false, apart := false }
def PendingTwiceSaid : Prop := pendingTwiceRow.holds Try.pinned (OpenSpec.ofChange pendingTwiceSpec)

/-- ITS FALSE NEIGHBOUR: 'it returns false'. Refute it at one input. -/
def pendingTwiceWrong : ChangeSpec := { name := "pendingTwice", fn := fun _ => fun
  | [d1, d2, d3, d4, d5, d6] => { results := [.lit (.bool false)], args := [d1, d2, d3, d4, d5, d6] }
  | _ => none }
def PendingTwiceWrongFalsely : Prop := pendingTwiceRow.holds Try.pinned (OpenSpec.ofChange pendingTwiceWrong)

/-- 'turnstilelaw19.PendingOnce': WHATEVER THE INPUT: true; the input reads as it did. -/
def pendingOnceSpec : ChangeSpec := { name := "pendingOnce", fn := fun _ => fun
  | [d1, d2, d3, d4] => { results := [.lit (.bool true)], args := [d1, d2, d3, d4] }
  | _ => none }
def pendingOnceRow : OpenClaim := { program := "ytbfdebddoncfhaa", sum := "d75c019134e9ecae8b031c28b9f64304e66c0ab63e6aa9d95ed14977c5a3981e", func := "turnstile/turnstilelaw19.PendingOnce", spec := "pendingOnce", unfollowed := true, recurses := true, plainKeys := false, apart := false }
def PendingOnceSaid : Prop := pendingOnceRow.holds Try.pinned (OpenSpec.ofChange pendingOnceSpec)

/-- ITS FALSE NEIGHBOUR: 'it returns false'. Refute it at one input. -/
def pendingOnceWrong : ChangeSpec := { name := "pendingOnce", fn := fun _ => fun
  | [d1, d2, d3, d4] => { results := [.lit (.bool false)], args := [d1, d2, d3, d4] }
  | _ => none }
def PendingOnceWrongFalsely : Prop := pendingOnceRow.holds Try.pinned (OpenSpec.ofChange pendingOnceWrong)

/-- 'turnstilelaw19.PendingPlays': WHATEVER THE INPUT: true; the input reads as it did. -/
def pendingPlaysSpec : ChangeSpec := { name := "pendingPlays", fn := fun _ => fun
  | [d1, d2, d3, d4, d5] => { results := [.lit (.bool true)], args := [d1, d2, d3, d4, d5] }
  | _ => none }
def pendingPlaysRow : OpenClaim := { program := "ytbfdebddoncfhaa", sum := "d75c019134e9ecae8b031c28b9f64304e66c0ab63e6aa9d95ed14977c5a3981e", func := "turnstile/turnstilelaw19.PendingPlays", spec := "pendingPlays", unfollowed := true, recurses := true, loops := true, plainKeys := false, apart := false }
def PendingPlaysSaid : Prop := pendingPlaysRow.holds Try.pinned (OpenSpec.ofChange pendingPlaysSpec)

/-- ITS FALSE NEIGHBOUR: 'it returns false'. Refute it at one input. -/
def pendingPlaysWrong : ChangeSpec := { name := "pendingPlays", fn := fun _ => fun
  | [d1, d2, d3, d4, d5] => { results := [.lit (.bool false)], args := [d1, d2, d3, d4, d5] }
  | _ => none }
def PendingPlaysWrongFalsely : Prop := pendingPlaysRow.holds Try.pinned (OpenSpec.ofChange pendingPlaysWrong)

/- THE SECOND FORM. 'bulk': how many values and letters a reading holds, each counted each time it is reached (what is shared counts as often as it is met; a slice's spare places count too). A statement '..UptoSaid' is the law's where the arguments, and the package variables that the reading takes, are together of bulk at most 1048576: NARROWER than '..Said'. Prove '..Said' where nothing that the law and all that it calls make is longer than what came in: it says more and counts as full. Else prove '..UptoSaid'. A law counts once. -/
mutual
def uptoBulk {H : Type} : DataW H → Nat
  | .lit (.string bytes) => bytes.length + 1
  | .lit _ => 1
  | .nil => 1
  | .ptr d => uptoBulk d + 1
  | .slice elems spare => uptoBulkAll elems + uptoBulkAll spare + 1
  | .agg parts => uptoBulkAll parts + 1
  | .iface _ d => uptoBulk d + 1
  | .map entries => uptoBulkEntries entries + 1
  | .held _ => 1
def uptoBulkAll {H : Type} : List (DataW H) → Nat
  | [] => 0
  | d :: r => uptoBulk d + uptoBulkAll r
def uptoBulkEntries {H : Type} : List (Lit × DataW H) → Nat
  | [] => 0
  | x :: r => uptoBulkEntry x + uptoBulkEntries r
def uptoBulkEntry {H : Type} : Lit × DataW H → Nat
  | (.string bytes, d) => bytes.length + uptoBulk d + 1
  | (_, d) => uptoBulk d + 1
 end
def uptoSmall : (H : Type) → List (DataW H) → Bool := fun _ ds => decide (uptoBulkAll ds ≤ 1048576)
def OpenSpec.upto (s : _root_.Go.ChangeSpec) : _root_.Go.OpenSpec := { _root_.Go.OpenSpec.ofChange s with cond := some uptoSmall }

/-- 'turnstilelaw19.PendingFull', WHERE WHAT IT READS IS OF BULK AT MOST 1048576: true; the input reads as it did. -/
def pendingFullUptoRow : OpenClaim := { program := "ytbfdebddoncfhaa", sum := "d75c019134e9ecae8b031c28b9f64304e66c0ab63e6aa9d95ed14977c5a3981e", func := "turnstile/turnstilelaw19.PendingFull", spec := "pendingFull", unfollowed := true, recurses := true, plainKeys := false, apart := false, narrowed := true }
def PendingFullUptoSaid : Prop := pendingFullUptoRow.holds Try.pinned (OpenSpec.upto pendingFullSpec)

/-- 'turnstilelaw19.PendingTwice', WHERE WHAT IT READS IS OF BULK AT MOST 1048576: true; the input reads as it did. -/
def pendingTwiceUptoRow : OpenClaim := { program := "ytbfdebddoncfhaa", sum := "d75c019134e9ecae8b031c28b9f64304e66c0ab63e6aa9d95ed14977c5a3981e", func := "turnstile/turnstilelaw19.PendingTwice", spec := "pendingTwice", unfollowed := true, recurses := true, plainKeys := false, apart := false, narrowed := true }
def PendingTwiceUptoSaid : Prop := pendingTwiceUptoRow.holds Try.pinned (OpenSpec.upto pendingTwiceSpec)

/-- 'turnstilelaw19.PendingOnce', WHERE WHAT IT READS IS OF BULK AT MOST 1048576: true; the input reads as it did. -/
def pendingOnceUptoRow : OpenClaim := { program := "ytbfdebddoncfhaa", sum := "d75c019134e9ecae8b031c28b9f64304e66c0ab63e6aa9d95ed14977c5a3981e", func := "turnstile/turnstilelaw19.PendingOnce", spec := "pendingOnce", unfollowed := true, recurses := true, plainKeys := false, apart := false, narrowed := true }
def PendingOnceUptoSaid : Prop := pendingOnceUptoRow.holds Try.pinned (OpenSpec.upto pendingOnceSpec)

/-- 'turnstilelaw19.PendingPlays', WHERE WHAT IT READS IS OF BULK AT MOST 1048576: true; the input reads as it did. -/
def pendingPlaysUptoRow : OpenClaim := { program := "ytbfdebddoncfhaa", sum := "d75c019134e9ecae8b031c28b9f64304e66c0ab63e6aa9d95ed14977c5a3981e", func := "turnstile/turnstilelaw19.PendingPlays", spec := "pendingPlays", unfollowed := true, recurses := true, loops := true, plainKeys := false, apart := false, narrowed := true }
def PendingPlaysUptoSaid : Prop := pendingPlaysUptoRow.holds Try.pinned (OpenSpec.upto pendingPlaysSpec)

end Rows
end Go.Proofs.Ytbfdebddoncfhaa
