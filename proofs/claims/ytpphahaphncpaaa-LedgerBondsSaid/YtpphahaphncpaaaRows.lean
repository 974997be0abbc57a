/-
  No cell of these rows narrows 'for every input' (looked for: loops, veiled, ifaces, maps, wideKeys, modest, calm, conditions, laid).
  DERIVED. THE GIVEN ROWS OF THIS SEAT. 3 by the template 'for every input the law returns true; each argument reads behind the call as it read before'; 0 by the template 'total and deterministic' (their statements: YtpphahaphncpaaaTotals.lean).
  GIVEN WITH THE SEED: the statements are not yours to turn. If you find one false, say at which input.
  Laid BY PROGRAM, IN A SANDBOX (cutbox-rows.mjs): the forced cells as the released guide's own fill.sh prints them over the translation 1120ba998c651531… (all of the seat's roots in one cut). By AI agents, Wed Nov 11 2026. No macro, syntax, notation, axiom, sorry.
-/
import Derived.Test.YtpphahaphncpaaaChecked
import GoSem.Claim
import GoSem.ClaimJoined
import GoSem.ClaimMapViews
import Derived.JoinedTies
import Derived.KernelRfl
namespace Go.Proofs.Ytpphahaphncpaaa
/- THE CELL 'sum', in the pinned program and in every row, IS THE sha256 OF THE DUMP (.gsa) THAT YtpphahaphncpaaaProg.lean LOADS. Nothing in Lean hashes anything: it is a label: what it is worth is what the hold of that sum in a sandbox is worth. -/
noncomputable def Try.pinned : Pinned := { name := "ytpphahaphncpaaa", sum := "1120ba998c651531ef82b2d2fecd834f19b1aba4ec5905d0278f4974fb1f5ed8", checked := Try.checked }
namespace Rows
def none {H : Type} : Left H := { results := [], args := [] }

/-- 'mootlaw18.LedgerKnown': WHATEVER THE INPUT: true; the input reads as it did. -/
def ledgerKnownSpec : ChangeSpec := { name := "ledgerKnown", fn := fun _ => fun
  | [] => { results := [.lit (.bool true)], args := [] }
  | _ => none }
def ledgerKnownRow : OpenClaim := { program := "ytpphahaphncpaaa", sum := "1120ba998c651531ef82b2d2fecd834f19b1aba4ec5905d0278f4974fb1f5ed8", func := "moot/mootlaw18.LedgerKnown", spec := "ledgerKnown", inPlace := ["internal/reflectlite.TypeOf"], unfollowed := true, recurses := true, apart := false }
def LedgerKnownSaid : Prop := ledgerKnownRow.holds Try.pinned (OpenSpec.ofChange ledgerKnownSpec)

/-- ITS FALSE NEIGHBOUR: 'it returns false'. Refute it at one input. -/
def ledgerKnownWrong : ChangeSpec := { name := "ledgerKnown", fn := fun _ => fun
  | [] => { results := [.lit (.bool false)], args := [] }
  | _ => none }
def LedgerKnownWrongFalsely : Prop := ledgerKnownRow.holds Try.pinned (OpenSpec.ofChange ledgerKnownWrong)

/-- 'mootlaw18.LedgerBonds': WHATEVER THE INPUT: true; the input reads as it did. -/
def ledgerBondsSpec : ChangeSpec := { name := "ledgerBonds", fn := fun _ => fun
  | [d1, d2, d3] => { results := [.lit (.bool true)], args := [d1, d2, d3] }
  | _ => none }
def ledgerBondsRow : OpenClaim := { program := "ytpphahaphncpaaa", sum := "1120ba998c651531ef82b2d2fecd834f19b1aba4ec5905d0278f4974fb1f5ed8", func := "moot/mootlaw18.LedgerBonds", spec := "ledgerBonds", inPlace := ["internal/reflectlite.TypeOf"], unfollowed := true, recurses := true, apart := false }
def LedgerBondsSaid : Prop := ledgerBondsRow.holds Try.pinned (OpenSpec.ofChange ledgerBondsSpec)

/-- ITS FALSE NEIGHBOUR: 'it returns false'. Refute it at one input. -/
def ledgerBondsWrong : ChangeSpec := { name := "ledgerBonds", fn := fun _ => fun
  | [d1, d2, d3] => { results := [.lit (.bool false)], args := [d1, d2, d3] }
  | _ => none }
def LedgerBondsWrongFalsely : Prop := ledgerBondsRow.holds Try.pinned (OpenSpec.ofChange ledgerBondsWrong)

/-- 'mootlaw18.LedgerNil': WHATEVER THE INPUT: true; the input reads as it did. -/
def ledgerNilSpec : ChangeSpec := { name := "ledgerNil", fn := fun _ => fun
  | [d1, d2, d3] => { results := [.lit (.bool true)], args := [d1, d2, d3] }
  | _ => none }
def ledgerNilRow : OpenClaim := { program := "ytpphahaphncpaaa", sum := "1120ba998c651531ef82b2d2fecd834f19b1aba4ec5905d0278f4974fb1f5ed8", func := "moot/mootlaw18.LedgerNil", spec := "ledgerNil", inPlace := ["internal/reflectlite.TypeOf"], unfollowed := true, recurses := true, apart := false }
def LedgerNilSaid : Prop := ledgerNilRow.holds Try.pinned (OpenSpec.ofChange ledgerNilSpec)

/-- ITS FALSE NEIGHBOUR: 'it returns false'. Refute it at one input. -/
def ledgerNilWrong : ChangeSpec := { name := "ledgerNil", fn := fun _ => fun
  | [d1, d2, d3] => { results := [.lit (.bool false)], args := [d1, d2, d3] }
  | _ => none }
def LedgerNilWrongFalsely : Prop := ledgerNilRow.holds Try.pinned (OpenSpec.ofChange ledgerNilWrong)

/- THE SECOND FORM. 'bulk': how many values and letters a reading holds, each counted each time it is reached (what is shared counts as often as it is met; a slice's spare places count too). A statement '..UptoSaid' is the law's where the arguments, and the package variables that the reading takes, are together of bulk at most 1048576: NARROWER than '..Said'. Prove '..Said' where nothing that the law and all that it calls make is longer than what came in: it says more and counts as full. Else prove '..UptoSaid'. A law counts once. -/
mutual
def uptoBulk {H : Type} : DataW H → Nat
  | .lit (.string bytes) => bytes.length + 1
  | .lit _ => 1
  | .nil => 1
  | .ptr d => uptoBulk d + 1
  | .slice elems spare => uptoBulkAll elems + uptoBulkAll spare + 1
  | .agg parts => uptoBulkAll parts + 1
  | .iface _ d => uptoBulk d + 1
  | .map entries => uptoBulkEntries entries + 1
  | .held _ => 1
def uptoBulkAll {H : Type} : List (DataW H) → Nat
  | [] => 0
  | d :: r => uptoBulk d + uptoBulkAll r
def uptoBulkEntries {H : Type} : List (Lit × DataW H) → Nat
  | [] => 0
  | x :: r => uptoBulkEntry x + uptoBulkEntries r
def uptoBulkEntry {H : Type} : Lit × DataW H → Nat
  | (.string bytes, d) => bytes.length + uptoBulk d + 1
  | (_, d) => uptoBulk d + 1
 end
def uptoSmall : (H : Type) → List (DataW H) → Bool := fun _ ds => decide (uptoBulkAll ds ≤ 1048576)
def OpenSpec.upto (s : _root_.Go.ChangeSpec) : _root_.Go.OpenSpec := { _root_.Go.OpenSpec.ofChange s with cond := some uptoSmall }

/-- 'mootlaw18.LedgerKnown', WHERE WHAT IT READS IS OF BULK AT MOST 1048576: true; the input reads as it did. -/
def ledgerKnownUptoRow : OpenClaim := { program := "ytpphahaphncpaaa", sum := "1120ba998c651531ef82b2d2fecd834f19b1aba4ec5905d0278f4974fb1f5ed8", func := "moot/mootlaw18.LedgerKnown", spec := "ledgerKnown", inPlace := ["internal/reflectlite.TypeOf"], unfollowed := true, recurses := true, apart := false, narrowed := true }
def LedgerKnownUptoSaid : Prop := ledgerKnownUptoRow.holds Try.pinned (OpenSpec.upto ledgerKnownSpec)

/-- 'mootlaw18.LedgerBonds', WHERE WHAT IT READS IS OF BULK AT MOST 1048576: true; the input reads as it did. -/
def ledgerBondsUptoRow : OpenClaim := { program := "ytpphahaphncpaaa", sum := "1120ba998c651531ef82b2d2fecd834f19b1aba4ec5905d0278f4974fb1f5ed8", func := "moot/mootlaw18.LedgerBonds", spec := "ledgerBonds", inPlace := ["internal/reflectlite.TypeOf"], unfollowed := true, recurses := true, apart := false, narrowed := true }
def LedgerBondsUptoSaid : Prop := ledgerBondsUptoRow.holds Try.pinned (OpenSpec.upto ledgerBondsSpec)

/-- 'mootlaw18.LedgerNil', WHERE WHAT IT READS IS OF BULK AT MOST 1048576: true; the input reads as it did. -/
def ledgerNilUptoRow : OpenClaim := { program := "ytpphahaphncpaaa", sum := "1120ba998c651531ef82b2d2fecd834f19b1aba4ec5905d0278f4974fb1f5ed8", func := "moot/mootlaw18.LedgerNil", spec := "ledgerNil", inPlace := ["internal/reflectlite.TypeOf"], unfollowed := true, recurses := true, apart := false, narrowed := true }
def LedgerNilUptoSaid : Prop := ledgerNilUptoRow.holds Try.pinned (OpenSpec.upto ledgerNilSpec)

end Rows
end Go.Proofs.Ytpphahaphncpaaa
