/-
  DERIVED. GIVEN WITH THE SEED: THE CARDS: each row of YtpphahaphncpaaaDoorRows.lean that lists a variable, with what it lists TIED to the program's text (the seventh form; the later family's looks); each row that meets fmt, with fmt's text TOLD by the authors' own Lean function (tested against real Go, not proved from fmt's source: count such statements apart). THE CARD IS WHAT COUNTS. Prove the row's statement (the work); the ties are given (YtpphahaphncpaaaDoorTie.lean); close each card by the builder's one call (the guide's Derived/Test/ToyasCard.lean, 'card_holds'). Laid BY PROGRAM, IN A SANDBOX (cutbox-door.mjs). By AI agents, Wed Nov 11 2026. No macro, syntax, notation, axiom, sorry.
-/
import Derived.Test.YtpphahaphncpaaaDoorRows
import GoSem.ClaimSeven
namespace Go.Proofs.YtpphahaphncpaaaDoor
namespace Rows

/-- THE TIED CARD OF 'mootlaw18.LedgerPlays'. -/
def ledgerPlaysCard : Claim7 := { stood := { row := ledgerPlaysRow, standIns := [], harness := (true, "4c9f1d2d4b06cc075a9bb9eeaee6c78ee3eb13320baaab792f6a8d8856050a7b"), looks := true }, kinds := [], alts := [], laidByText := true, laidKinds := [.handle], laidTests := true, laidLooks := .later }
def LedgerPlaysCardSaid : Prop := Claim7.holds Tryd.pinned (.plain (OpenSpec.ofChange ledgerPlaysSpec)) ledgerPlaysCard

/-- THE SECOND FORM's CARD OF 'mootlaw18.LedgerPlays'. -/
def ledgerPlaysUptoCard : Claim7 := { stood := { row := ledgerPlaysUptoRow, standIns := [], harness := (true, "4c9f1d2d4b06cc075a9bb9eeaee6c78ee3eb13320baaab792f6a8d8856050a7b"), looks := true }, kinds := [], alts := [], laidByText := true, laidKinds := [.handle], laidTests := true, laidLooks := .later }
def LedgerPlaysUptoCardSaid : Prop := Claim7.holds Tryd.pinned (.plain (OpenSpec.upto ledgerPlaysSpec)) ledgerPlaysUptoCard
end Rows
end Go.Proofs.YtpphahaphncpaaaDoor
