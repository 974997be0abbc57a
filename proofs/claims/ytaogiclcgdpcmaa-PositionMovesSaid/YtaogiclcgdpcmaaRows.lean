/-
  No cell of these rows narrows 'for every input' (looked for: loops, veiled, ifaces, maps, wideKeys, modest, calm, conditions, laid).
  DERIVED. THE GIVEN ROWS OF THIS SEAT. 4 by the template 'for every input the law returns true; each argument reads behind the call as it read before'; 0 by the template 'total and deterministic' (their statements: YtaogiclcgdpcmaaTotals.lean).
  GIVEN WITH THE SEED: the statements are not yours to turn. If you find one false, say at which input.
  Laid BY PROGRAM, IN A SANDBOX (cutbox-rows.mjs): the forced cells as the released guide's own fill.sh prints them over the translation 9738ef0456a1d966… (all of the seat's roots in one cut). By AI agents, Wed Nov 11 2026. No macro, syntax, notation, axiom, sorry.
-/
import Derived.Test.YtaogiclcgdpcmaaChecked
import GoSem.Claim
import GoSem.ClaimJoined
import GoSem.ClaimMapViews
import Derived.JoinedTies
import Derived.KernelRfl
namespace Go.Proofs.Ytaogiclcgdpcmaa
/- THE CELL 'sum', in the pinned program and in every row, IS THE sha256 OF THE DUMP (.gsa) THAT YtaogiclcgdpcmaaProg.lean LOADS. Nothing in Lean hashes anything: it is a label: what it is worth is what the hold of that sum in a sandbox is worth. -/
noncomputable def Try.pinned : Pinned := { name := "ytaogiclcgdpcmaa", sum := "9738ef0456a1d966e4314d0b390f57ac90c2f8c6fd97d6ca78beca0ec995e2f9", checked := Try.checked }
namespace Rows
def none {H : Type} : Left H := { results := [], args := [] }

/-- 'mootlaw16.PositionTree': WHATEVER THE INPUT: true; the input reads as it did. -/
def positionTreeSpec : ChangeSpec := { name := "positionTree", fn := fun _ => fun
  | [d1, d2] => { results := [.lit (.bool true)], args := [d1, d2] }
  | _ => none }
def positionTreeRow : OpenClaim := { program := "ytaogiclcgdpcmaa", sum := "9738ef0456a1d966e4314d0b390f57ac90c2f8c6fd97d6ca78beca0ec995e2f9", func := "moot/mootlaw16.PositionTree", spec := "positionTree", inPlace := ["internal/reflectlite.TypeOf"], unfollowed := true, recurses := true, apart := false }
def PositionTreeSaid : Prop := positionTreeRow.holds Try.pinned (OpenSpec.ofChange positionTreeSpec)

/-- ITS FALSE NEIGHBOUR: 'it returns false'. Refute it at one input. -/
def positionTreeWrong : ChangeSpec := { name := "positionTree", fn := fun _ => fun
  | [d1, d2] => { results := [.lit (.bool false)], args := [d1, d2] }
  | _ => none }
def PositionTreeWrongFalsely : Prop := positionTreeRow.holds Try.pinned (OpenSpec.ofChange positionTreeWrong)

/-- 'mootlaw16.PositionKnown': WHATEVER THE INPUT: true; the input reads as it did. -/
def positionKnownSpec : ChangeSpec := { name := "positionKnown", fn := fun _ => fun
  | [] => { results := [.lit (.bool true)], args := [] }
  | _ => none }
def positionKnownRow : OpenClaim := { program := "ytaogiclcgdpcmaa", sum := "9738ef0456a1d966e4314d0b390f57ac90c2f8c6fd97d6ca78beca0ec995e2f9", func := "moot/mootlaw16.PositionKnown", spec := "positionKnown", inPlace := ["internal/reflectlite.TypeOf"], unfollowed := true, recurses := true, apart := false }
def PositionKnownSaid : Prop := positionKnownRow.holds Try.pinned (OpenSpec.ofChange positionKnownSpec)

/-- ITS FALSE NEIGHBOUR: 'it returns false'. Refute it at one input. -/
def positionKnownWrong : ChangeSpec := { name := "positionKnown", fn := fun _ => fun
  | [] => { results := [.lit (.bool false)], args := [] }
  | _ => none }
def PositionKnownWrongFalsely : Prop := positionKnownRow.holds Try.pinned (OpenSpec.ofChange positionKnownWrong)

/-- 'mootlaw16.PositionOrder': WHATEVER THE INPUT: true; the input reads as it did. -/
def positionOrderSpec : ChangeSpec := { name := "positionOrder", fn := fun _ => fun
  | [d1, d2, d3, d4] => { results := [.lit (.bool true)], args := [d1, d2, d3, d4] }
  | _ => none }
def positionOrderRow : OpenClaim := { program := "ytaogiclcgdpcmaa", sum := "9738ef0456a1d966e4314d0b390f57ac90c2f8c6fd97d6ca78beca0ec995e2f9", func := "moot/mootlaw16.PositionOrder", spec := "positionOrder", inPlace := ["internal/reflectlite.TypeOf"], unfollowed := true, recurses := true, apart := false }
def PositionOrderSaid : Prop := positionOrderRow.holds Try.pinned (OpenSpec.ofChange positionOrderSpec)

/-- ITS FALSE NEIGHBOUR: 'it returns false'. Refute it at one input. -/
def positionOrderWrong : ChangeSpec := { name := "positionOrder", fn := fun _ => fun
  | [d1, d2, d3, d4] => { results := [.lit (.bool false)], args := [d1, d2, d3, d4] }
  | _ => none }
def PositionOrderWrongFalsely : Prop := positionOrderRow.holds Try.pinned (OpenSpec.ofChange positionOrderWrong)

/-- 'mootlaw16.PositionMoves': WHATEVER THE INPUT: true; the input reads as it did. -/
def positionMovesSpec : ChangeSpec := { name := "positionMoves", fn := fun _ => fun
  | [d1, d2] => { results := [.lit (.bool true)], args := [d1, d2] }
  | _ => none }
def positionMovesRow : OpenClaim := { program := "ytaogiclcgdpcmaa", sum := "9738ef0456a1d966e4314d0b390f57ac90c2f8c6fd97d6ca78beca0ec995e2f9", func := "moot/mootlaw16.PositionMoves", spec := "positionMoves", inPlace := ["internal/reflectlite.TypeOf"], unfollowed := true, recurses := true, apart := false }
def PositionMovesSaid : Prop := positionMovesRow.holds Try.pinned (OpenSpec.ofChange positionMovesSpec)

/-- ITS FALSE NEIGHBOUR: 'it returns false'. Refute it at one input. -/
def positionMovesWrong : ChangeSpec := { name := "positionMoves", fn := fun _ => fun
  | [d1, d2] => { results := [.lit (.bool false)], args := [d1, d2] }
  | _ => none }
def PositionMovesWrongFalsely : Prop := positionMovesRow.holds Try.pinned (OpenSpec.ofChange positionMovesWrong)

/- THE SECOND FORM. 'bulk': how many values and letters a reading holds, each counted each time it is reached (what is shared counts as often as it is met; a slice's spare places count too). A statement '..UptoSaid' is the law's where the arguments, and the package variables that the reading takes, are together of bulk at most 1048576: NARROWER than '..Said'. Prove '..Said' where nothing that the law and all that it calls make is longer than what came in: it says more and counts as full. Else prove '..UptoSaid'. A law counts once. -/
mutual
def uptoBulk {H : Type} : DataW H → Nat
  | .lit (.string bytes) => bytes.length + 1
  | .lit _ => 1
  | .nil => 1
  | .ptr d => uptoBulk d + 1
  | .slice elems spare => uptoBulkAll elems + uptoBulkAll spare + 1
  | .agg parts => uptoBulkAll parts + 1
  | .iface _ d => uptoBulk d + 1
  | .map entries => uptoBulkEntries entries + 1
  | .held _ => 1
def uptoBulkAll {H : Type} : List (DataW H) → Nat
  | [] => 0
  | d :: r => uptoBulk d + uptoBulkAll r
def uptoBulkEntries {H : Type} : List (Lit × DataW H) → Nat
  | [] => 0
  | x :: r => uptoBulkEntry x + uptoBulkEntries r
def uptoBulkEntry {H : Type} : Lit × DataW H → Nat
  | (.string bytes, d) => bytes.length + uptoBulk d + 1
  | (_, d) => uptoBulk d + 1
 end
def uptoSmall : (H : Type) → List (DataW H) → Bool := fun _ ds => decide (uptoBulkAll ds ≤ 1048576)
def OpenSpec.upto (s : _root_.Go.ChangeSpec) : _root_.Go.OpenSpec := { _root_.Go.OpenSpec.ofChange s with cond := some uptoSmall }

/-- 'mootlaw16.PositionTree', WHERE WHAT IT READS IS OF BULK AT MOST 1048576: true; the input reads as it did. -/
def positionTreeUptoRow : OpenClaim := { program := "ytaogiclcgdpcmaa", sum := "9738ef0456a1d966e4314d0b390f57ac90c2f8c6fd97d6ca78beca0ec995e2f9", func := "moot/mootlaw16.PositionTree", spec := "positionTree", inPlace := ["internal/reflectlite.TypeOf"], unfollowed := true, recurses := true, apart := false, narrowed := true }
def PositionTreeUptoSaid : Prop := positionTreeUptoRow.holds Try.pinned (OpenSpec.upto positionTreeSpec)

/-- 'mootlaw16.PositionKnown', WHERE WHAT IT READS IS OF BULK AT MOST 1048576: true; the input reads as it did. -/
def positionKnownUptoRow : OpenClaim := { program := "ytaogiclcgdpcmaa", sum := "9738ef0456a1d966e4314d0b390f57ac90c2f8c6fd97d6ca78beca0ec995e2f9", func := "moot/mootlaw16.PositionKnown", spec := "positionKnown", inPlace := ["internal/reflectlite.TypeOf"], unfollowed := true, recurses := true, apart := false, narrowed := true }
def PositionKnownUptoSaid : Prop := positionKnownUptoRow.holds Try.pinned (OpenSpec.upto positionKnownSpec)

/-- 'mootlaw16.PositionOrder', WHERE WHAT IT READS IS OF BULK AT MOST 1048576: true; the input reads as it did. -/
def positionOrderUptoRow : OpenClaim := { program := "ytaogiclcgdpcmaa", sum := "9738ef0456a1d966e4314d0b390f57ac90c2f8c6fd97d6ca78beca0ec995e2f9", func := "moot/mootlaw16.PositionOrder", spec := "positionOrder", inPlace := ["internal/reflectlite.TypeOf"], unfollowed := true, recurses := true, apart := false, narrowed := true }
def PositionOrderUptoSaid : Prop := positionOrderUptoRow.holds Try.pinned (OpenSpec.upto positionOrderSpec)

/-- 'mootlaw16.PositionMoves', WHERE WHAT IT READS IS OF BULK AT MOST 1048576: true; the input reads as it did. -/
def positionMovesUptoRow : OpenClaim := { program := "ytaogiclcgdpcmaa", sum := "9738ef0456a1d966e4314d0b390f57ac90c2f8c6fd97d6ca78beca0ec995e2f9", func := "moot/mootlaw16.PositionMoves", spec := "positionMoves", inPlace := ["internal/reflectlite.TypeOf"], unfollowed := true, recurses := true, apart := false, narrowed := true }
def PositionMovesUptoSaid : Prop := positionMovesUptoRow.holds Try.pinned (OpenSpec.upto positionMovesSpec)

end Rows
end Go.Proofs.Ytaogiclcgdpcmaa
