/-
  No cell of these rows narrows 'for every input' (looked for: loops, veiled, ifaces, maps, wideKeys, modest, calm, conditions, laid).
  DERIVED. THE GIVEN ROWS OF THIS SEAT. 3 by the template 'for every input the law returns true; each argument reads behind the call as it read before'; 0 by the template 'total and deterministic' (their statements: YtjjnbkgmagkpgaaTotals.lean).
  GIVEN WITH THE SEED: the statements are not yours to turn. If you find one false, say at which input.
  Laid BY PROGRAM, IN A SANDBOX (cutbox-rows.mjs): the forced cells as the released guide's own fill.sh prints them over the translation a32bdd75534ad4d1… (all of the seat's roots in one cut). By AI agents, Wed Nov 11 2026. No macro, syntax, notation, axiom, sorry.
-/
import Derived.Test.YtjjnbkgmagkpgaaChecked
import GoSem.Claim
import GoSem.ClaimJoined
import GoSem.ClaimMapViews
import Derived.JoinedTies
import Derived.KernelRfl
namespace Go.Proofs.Ytjjnbkgmagkpgaa
/- THE CELL 'sum', in the pinned program and in every row, IS THE sha256 OF THE DUMP (.gsa) THAT YtjjnbkgmagkpgaaProg.lean LOADS. Nothing in Lean hashes anything: it is a label: what it is worth is what the hold of that sum in a sandbox is worth. -/
noncomputable def Try.pinned : Pinned := { name := "ytjjnbkgmagkpgaa", sum := "a32bdd75534ad4d11a4a5d7e6a246434663b200cd202ff4b6cad0f0c7c6da053", checked := Try.checked }
namespace Rows
def none {H : Type} : Left H := { results := [], args := [] }

/-- 'mootlaw17.ClockSides': WHATEVER THE INPUT: true; the input reads as it did. -/
def clockSidesSpec : ChangeSpec := { name := "clockSides", fn := fun _ => fun
  | [d1, d2, d3, d4] => { results := [.lit (.bool true)], args := [d1, d2, d3, d4] }
  | _ => none }
def clockSidesRow : OpenClaim := { program := "ytjjnbkgmagkpgaa", sum := "a32bdd75534ad4d11a4a5d7e6a246434663b200cd202ff4b6cad0f0c7c6da053", func := "moot/mootlaw17.ClockSides", spec := "clockSides", inPlace := ["internal/reflectlite.TypeOf"], unfollowed := true, recurses := true, apart := false }
def ClockSidesSaid : Prop := clockSidesRow.holds Try.pinned (OpenSpec.ofChange clockSidesSpec)

/-- ITS FALSE NEIGHBOUR: 'it returns false'. Refute it at one input. -/
def clockSidesWrong : ChangeSpec := { name := "clockSides", fn := fun _ => fun
  | [d1, d2, d3, d4] => { results := [.lit (.bool false)], args := [d1, d2, d3, d4] }
  | _ => none }
def ClockSidesWrongFalsely : Prop := clockSidesRow.holds Try.pinned (OpenSpec.ofChange clockSidesWrong)

/-- 'mootlaw17.ClockKnown': WHATEVER THE INPUT: true; the input reads as it did. -/
def clockKnownSpec : ChangeSpec := { name := "clockKnown", fn := fun _ => fun
  | [] => { results := [.lit (.bool true)], args := [] }
  | _ => none }
def clockKnownRow : OpenClaim := { program := "ytjjnbkgmagkpgaa", sum := "a32bdd75534ad4d11a4a5d7e6a246434663b200cd202ff4b6cad0f0c7c6da053", func := "moot/mootlaw17.ClockKnown", spec := "clockKnown", inPlace := ["internal/reflectlite.TypeOf"], unfollowed := true, recurses := true, apart := false }
def ClockKnownSaid : Prop := clockKnownRow.holds Try.pinned (OpenSpec.ofChange clockKnownSpec)

/-- ITS FALSE NEIGHBOUR: 'it returns false'. Refute it at one input. -/
def clockKnownWrong : ChangeSpec := { name := "clockKnown", fn := fun _ => fun
  | [] => { results := [.lit (.bool false)], args := [] }
  | _ => none }
def ClockKnownWrongFalsely : Prop := clockKnownRow.holds Try.pinned (OpenSpec.ofChange clockKnownWrong)

/-- 'mootlaw17.ClockLater': WHATEVER THE INPUT: true; the input reads as it did. -/
def clockLaterSpec : ChangeSpec := { name := "clockLater", fn := fun _ => fun
  | [d1, d2, d3, d4, d5, d6, d7] => { results := [.lit (.bool true)], args := [d1, d2, d3, d4, d5, d6, d7] }
  | _ => none }
def clockLaterRow : OpenClaim := { program := "ytjjnbkgmagkpgaa", sum := "a32bdd75534ad4d11a4a5d7e6a246434663b200cd202ff4b6cad0f0c7c6da053", func := "moot/mootlaw17.ClockLater", spec := "clockLater", inPlace := ["internal/reflectlite.TypeOf"], unfollowed := true, recurses := true, apart := false }
def ClockLaterSaid : Prop := clockLaterRow.holds Try.pinned (OpenSpec.ofChange clockLaterSpec)

/-- ITS FALSE NEIGHBOUR: 'it returns false'. Refute it at one input. -/
def clockLaterWrong : ChangeSpec := { name := "clockLater", fn := fun _ => fun
  | [d1, d2, d3, d4, d5, d6, d7] => { results := [.lit (.bool false)], args := [d1, d2, d3, d4, d5, d6, d7] }
  | _ => none }
def ClockLaterWrongFalsely : Prop := clockLaterRow.holds Try.pinned (OpenSpec.ofChange clockLaterWrong)

/- THE SECOND FORM. 'bulk': how many values and letters a reading holds, each counted each time it is reached (what is shared counts as often as it is met; a slice's spare places count too). A statement '..UptoSaid' is the law's where the arguments, and the package variables that the reading takes, are together of bulk at most 1048576: NARROWER than '..Said'. Prove '..Said' where nothing that the law and all that it calls make is longer than what came in: it says more and counts as full. Else prove '..UptoSaid'. A law counts once. -/
mutual
def uptoBulk {H : Type} : DataW H → Nat
  | .lit (.string bytes) => bytes.length + 1
  | .lit _ => 1
  | .nil => 1
  | .ptr d => uptoBulk d + 1
  | .slice elems spare => uptoBulkAll elems + uptoBulkAll spare + 1
  | .agg parts => uptoBulkAll parts + 1
  | .iface _ d => uptoBulk d + 1
  | .map entries => uptoBulkEntries entries + 1
  | .held _ => 1
def uptoBulkAll {H : Type} : List (DataW H) → Nat
  | [] => 0
  | d :: r => uptoBulk d + uptoBulkAll r
def uptoBulkEntries {H : Type} : List (Lit × DataW H) → Nat
  | [] => 0
  | x :: r => uptoBulkEntry x + uptoBulkEntries r
def uptoBulkEntry {H : Type} : Lit × DataW H → Nat
  | (.string bytes, d) => bytes.length + uptoBulk d + 1
  | (_, d) => uptoBulk d + 1
 end
def uptoSmall : (H : Type) → List (DataW H) → Bool := fun _ ds => decide (uptoBulkAll ds ≤ 1048576)
def OpenSpec.upto (s : _root_.Go.ChangeSpec) : _root_.Go.OpenSpec := { _root_.Go.OpenSpec.ofChange s with cond := some uptoSmall }

/-- 'mootlaw17.ClockSides', WHERE WHAT IT READS IS OF BULK AT MOST 1048576: true; the input reads as it did. -/
def clockSidesUptoRow : OpenClaim := { program := "ytjjnbkgmagkpgaa", sum := "a32bdd75534ad4d11a4a5d7e6a246434663b200cd202ff4b6cad0f0c7c6da053", func := "moot/mootlaw17.ClockSides", spec := "clockSides", inPlace := ["internal/reflectlite.TypeOf"], unfollowed := true, recurses := true, apart := false, narrowed := true }
def ClockSidesUptoSaid : Prop := clockSidesUptoRow.holds Try.pinned (OpenSpec.upto clockSidesSpec)

/-- 'mootlaw17.ClockKnown', WHERE WHAT IT READS IS OF BULK AT MOST 1048576: true; the input reads as it did. -/
def clockKnownUptoRow : OpenClaim := { program := "ytjjnbkgmagkpgaa", sum := "a32bdd75534ad4d11a4a5d7e6a246434663b200cd202ff4b6cad0f0c7c6da053", func := "moot/mootlaw17.ClockKnown", spec := "clockKnown", inPlace := ["internal/reflectlite.TypeOf"], unfollowed := true, recurses := true, apart := false, narrowed := true }
def ClockKnownUptoSaid : Prop := clockKnownUptoRow.holds Try.pinned (OpenSpec.upto clockKnownSpec)

/-- 'mootlaw17.ClockLater', WHERE WHAT IT READS IS OF BULK AT MOST 1048576: true; the input reads as it did. -/
def clockLaterUptoRow : OpenClaim := { program := "ytjjnbkgmagkpgaa", sum := "a32bdd75534ad4d11a4a5d7e6a246434663b200cd202ff4b6cad0f0c7c6da053", func := "moot/mootlaw17.ClockLater", spec := "clockLater", inPlace := ["internal/reflectlite.TypeOf"], unfollowed := true, recurses := true, apart := false, narrowed := true }
def ClockLaterUptoSaid : Prop := clockLaterUptoRow.holds Try.pinned (OpenSpec.upto clockLaterSpec)

end Rows
end Go.Proofs.Ytjjnbkgmagkpgaa
