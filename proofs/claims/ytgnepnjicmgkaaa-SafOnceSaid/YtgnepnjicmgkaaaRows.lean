/-
  NARROWER THAN 'FOR EVERY INPUT', by the rows' own cells (each row's printed sentence says how): SafPlays: loops.
  DERIVED. THE GIVEN ROWS OF THIS SEAT. 3 by the template 'for every input the law returns true; each argument reads behind the call as it read before'; 0 by the template 'total and deterministic' (their statements: YtgnepnjicmgkaaaTotals.lean).
  GIVEN WITH THE SEED: the statements are not yours to turn. If you find one false, say at which input.
  Laid BY PROGRAM, IN A SANDBOX (cutbox-rows.mjs): the forced cells as the released guide's own fill.sh prints them over the translation a2aa618067b73785… (all of the seat's roots in one cut). By AI agents, Wed Nov 11 2026. No macro, syntax, notation, axiom, sorry.
-/
import Derived.Test.YtgnepnjicmgkaaaChecked
import GoSem.Claim
import GoSem.ClaimJoined
import GoSem.ClaimMapViews
import Derived.JoinedTies
import Derived.KernelRfl
namespace Go.Proofs.Ytgnepnjicmgkaaa
/- THE CELL 'sum', in the pinned program and in every row, IS THE sha256 OF THE DUMP (.gsa) THAT YtgnepnjicmgkaaaProg.lean LOADS. Nothing in Lean hashes anything: it is a label: what it is worth is what the hold of that sum in a sandbox is worth. -/
noncomputable def Try.pinned : Pinned := { name := "ytgnepnjicmgkaaa", sum := "a2aa618067b73785b94e11bf5365a7a269e552bd9aeac19f8741b66245887f1e", checked := Try.checked }
namespace Rows
def none {H : Type} : Left H := { results := [], args := [] }

/-- 'turnstilelaw20.SafWaits': WHATEVER THE INPUT: true; the input reads as it did. -/
def safWaitsSpec : ChangeSpec := { name := "safWaits", fn := fun _ => fun
  | [d1, d2, d3] => { results := [.lit (.bool true)], args := [d1, d2, d3] }
  | _ => none }
def safWaitsRow : OpenClaim := { program := "ytgnepnjicmgkaaa", sum := "a2aa618067b73785b94e11bf5365a7a269e552bd9aeac19f8741b66245887f1e", func := "turnstile/turnstilelaw20.SafWaits", spec := "safWaits", unfollowed := true, recurses := true, apart := false }
def SafWaitsSaid : Prop := safWaitsRow.holds Try.pinned (OpenSpec.ofChange safWaitsSpec)

/-- ITS FALSE NEIGHBOUR: 'it returns false'. Refute it at one input. -/
def safWaitsWrong : ChangeSpec := { name := "safWaits", fn := fun _ => fun
  | [d1, d2, d3] => { results := [.lit (.bool false)], args := [d1, d2, d3] }
  | _ => none }
def SafWaitsWrongFalsely : Prop := safWaitsRow.holds Try.pinned (OpenSpec.ofChange safWaitsWrong)

/-- 'turnstilelaw20.SafPlays': WHATEVER THE INPUT: true; the input reads as it did. -/
def safPlaysSpec : ChangeSpec := { name := "safPlays", fn := fun _ => fun
  | [d1, d2, d3, d4, d5] => { results := [.lit (.bool true)], args := [d1, d2, d3, d4, d5] }
  | _ => none }
def safPlaysRow : OpenClaim := { program := "ytgnepnjicmgkaaa", sum := "a2aa618067b73785b94e11bf5365a7a269e552bd9aeac19f8741b66245887f1e", func := "turnstile/turnstilelaw20.SafPlays", spec := "safPlays", unfollowed := true, recurses := true, loops := true, apart := false }
def SafPlaysSaid : Prop := safPlaysRow.holds Try.pinned (OpenSpec.ofChange safPlaysSpec)

/-- ITS FALSE NEIGHBOUR: 'it returns false'. Refute it at one input. -/
def safPlaysWrong : ChangeSpec := { name := "safPlays", fn := fun _ => fun
  | [d1, d2, d3, d4, d5] => { results := [.lit (.bool false)], args := [d1, d2, d3, d4, d5] }
  | _ => none }
def SafPlaysWrongFalsely : Prop := safPlaysRow.holds Try.pinned (OpenSpec.ofChange safPlaysWrong)

/-- 'turnstilelaw20.SafOnce': WHATEVER THE INPUT: true; the input reads as it did. -/
def safOnceSpec : ChangeSpec := { name := "safOnce", fn := fun _ => fun
  | [d1, d2, d3, d4] => { results := [.lit (.bool true)], args := [d1, d2, d3, d4] }
  | _ => none }
def safOnceRow : OpenClaim := { program := "ytgnepnjicmgkaaa", sum := "a2aa618067b73785b94e11bf5365a7a269e552bd9aeac19f8741b66245887f1e", func := "turnstile/turnstilelaw20.SafOnce", spec := "safOnce", unfollowed := true, recurses := true, apart := false }
def SafOnceSaid : Prop := safOnceRow.holds Try.pinned (OpenSpec.ofChange safOnceSpec)

/-- ITS FALSE NEIGHBOUR: 'it returns false'. Refute it at one input. -/
def safOnceWrong : ChangeSpec := { name := "safOnce", fn := fun _ => fun
  | [d1, d2, d3, d4] => { results := [.lit (.bool false)], args := [d1, d2, d3, d4] }
  | _ => none }
def SafOnceWrongFalsely : Prop := safOnceRow.holds Try.pinned (OpenSpec.ofChange safOnceWrong)

/- THE SECOND FORM. 'bulk': how many values and letters a reading holds, each counted each time it is reached (what is shared counts as often as it is met; a slice's spare places count too). A statement '..UptoSaid' is the law's where the arguments, and the package variables that the reading takes, are together of bulk at most 1048576: NARROWER than '..Said'. Prove '..Said' where nothing that the law and all that it calls make is longer than what came in: it says more and counts as full. Else prove '..UptoSaid'. A law counts once. -/
mutual
def uptoBulk {H : Type} : DataW H → Nat
  | .lit (.string bytes) => bytes.length + 1
  | .lit _ => 1
  | .nil => 1
  | .ptr d => uptoBulk d + 1
  | .slice elems spare => uptoBulkAll elems + uptoBulkAll spare + 1
  | .agg parts => uptoBulkAll parts + 1
  | .iface _ d => uptoBulk d + 1
  | .map entries => uptoBulkEntries entries + 1
  | .held _ => 1
def uptoBulkAll {H : Type} : List (DataW H) → Nat
  | [] => 0
  | d :: r => uptoBulk d + uptoBulkAll r
def uptoBulkEntries {H : Type} : List (Lit × DataW H) → Nat
  | [] => 0
  | x :: r => uptoBulkEntry x + uptoBulkEntries r
def uptoBulkEntry {H : Type} : Lit × DataW H → Nat
  | (.string bytes, d) => bytes.length + uptoBulk d + 1
  | (_, d) => uptoBulk d + 1
 end
def uptoSmall : (H : Type) → List (DataW H) → Bool := fun _ ds => decide (uptoBulkAll ds ≤ 1048576)
def OpenSpec.upto (s : _root_.Go.ChangeSpec) : _root_.Go.OpenSpec := { _root_.Go.OpenSpec.ofChange s with cond := some uptoSmall }

/-- 'turnstilelaw20.SafWaits', WHERE WHAT IT READS IS OF BULK AT MOST 1048576: true; the input reads as it did. -/
def safWaitsUptoRow : OpenClaim := { program := "ytgnepnjicmgkaaa", sum := "a2aa618067b73785b94e11bf5365a7a269e552bd9aeac19f8741b66245887f1e", func := "turnstile/turnstilelaw20.SafWaits", spec := "safWaits", unfollowed := true, recurses := true, apart := false, narrowed := true }
def SafWaitsUptoSaid : Prop := safWaitsUptoRow.holds Try.pinned (OpenSpec.upto safWaitsSpec)

/-- 'turnstilelaw20.SafPlays', WHERE WHAT IT READS IS OF BULK AT MOST 1048576: true; the input reads as it did. -/
def safPlaysUptoRow : OpenClaim := { program := "ytgnepnjicmgkaaa", sum := "a2aa618067b73785b94e11bf5365a7a269e552bd9aeac19f8741b66245887f1e", func := "turnstile/turnstilelaw20.SafPlays", spec := "safPlays", unfollowed := true, recurses := true, loops := true, apart := false, narrowed := true }
def SafPlaysUptoSaid : Prop := safPlaysUptoRow.holds Try.pinned (OpenSpec.upto safPlaysSpec)

/-- 'turnstilelaw20.SafOnce', WHERE WHAT IT READS IS OF BULK AT MOST 1048576: true; the input reads as it did. -/
def safOnceUptoRow : OpenClaim := { program := "ytgnepnjicmgkaaa", sum := "a2aa618067b73785b94e11bf5365a7a269e552bd9aeac19f8741b66245887f1e", func := "turnstile/turnstilelaw20.SafOnce", spec := "safOnce", unfollowed := true, recurses := true, apart := false, narrowed := true }
def SafOnceUptoSaid : Prop := safOnceUptoRow.holds Try.pinned (OpenSpec.upto safOnceSpec)

end Rows
end Go.Proofs.Ytgnepnjicmgkaaa
