/-
  DERIVED. GIVEN WITH THE SEED: THE CARDS: each row of YtaogiclcgdpcmaaDoorRows.lean that lists a variable, with what it lists TIED to the program's text (the seventh form; the later family's looks); each row that meets fmt, with fmt's text TOLD by the authors' own Lean function (tested against real Go, not proved from fmt's source: count such statements apart). THE CARD IS WHAT COUNTS. Prove the row's statement (the work); the ties are given (YtaogiclcgdpcmaaDoorTie.lean); close each card by the builder's one call (the guide's Derived/Test/ToyasCard.lean, 'card_holds'). Laid BY PROGRAM, IN A SANDBOX (cutbox-door.mjs). By AI agents, Wed Nov 11 2026. No macro, syntax, notation, axiom, sorry.
-/
import Derived.Test.YtaogiclcgdpcmaaDoorRows
import GoSem.ClaimSeven
namespace Go.Proofs.YtaogiclcgdpcmaaDoor
namespace Rows

/-- THE TIED CARD OF 'mootlaw16.PositionCalls'. -/
def positionCallsCard : Claim7 := { stood := { row := positionCallsRow, standIns := [], harness := (true, "7ee16abe212591598be213e445d18d487951cefc1f57a6ff27dd8e4ec451e8ba"), looks := true }, kinds := [], alts := [], laidByText := true, laidKinds := [.handle], laidTests := true, laidLooks := .later }
def PositionCallsCardSaid : Prop := Claim7.holds Tryd.pinned (.plain (OpenSpec.ofChange positionCallsSpec)) positionCallsCard

/-- THE SECOND FORM's CARD OF 'mootlaw16.PositionCalls'. -/
def positionCallsUptoCard : Claim7 := { stood := { row := positionCallsUptoRow, standIns := [], harness := (true, "7ee16abe212591598be213e445d18d487951cefc1f57a6ff27dd8e4ec451e8ba"), looks := true }, kinds := [], alts := [], laidByText := true, laidKinds := [.handle], laidTests := true, laidLooks := .later }
def PositionCallsUptoCardSaid : Prop := Claim7.holds Tryd.pinned (.plain (OpenSpec.upto positionCallsSpec)) positionCallsUptoCard
end Rows
end Go.Proofs.YtaogiclcgdpcmaaDoor
