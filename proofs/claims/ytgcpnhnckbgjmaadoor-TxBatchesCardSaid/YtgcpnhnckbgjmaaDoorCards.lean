/-
  DERIVED. GIVEN WITH THE SEED: THE CARDS: each row of YtgcpnhnckbgjmaaDoorRows.lean that lists a variable, with what it lists TIED to the program's text (the seventh form; the later family's looks); each row that meets fmt, with fmt's text TOLD by the authors' own Lean function (tested against real Go, not proved from fmt's source: count such statements apart). THE CARD IS WHAT COUNTS. Prove the row's statement (the work); the ties are given (YtgcpnhnckbgjmaaDoorTie.lean); close each card by the builder's one call (the guide's Derived/Test/ToyasCard.lean, 'card_holds'). Laid BY PROGRAM, IN A SANDBOX (cutbox-door.mjs). By AI agents, Wed Nov 11 2026. No macro, syntax, notation, axiom, sorry.
-/
import Derived.Test.YtgcpnhnckbgjmaaDoorRows
import GoSem.ClaimSeven
namespace Go.Proofs.YtgcpnhnckbgjmaaDoor
namespace Rows

/-- THE TIED CARD OF 'mootlaw04.TxCodes'. -/
def txCodesCard : Claim7 := { stood := { row := txCodesRow, standIns := [], harness := (true, "80ae9302a5f3e22b6d7303906a3c0aa6b0274f949adfd0b81d06154fe180e7a4"), looks := true }, kinds := [], alts := [], laidByText := true, laidKinds := [.handle], laidTests := true, laidLooks := .later }
def TxCodesCardSaid : Prop := Claim7.holds Tryd.pinned (.plain (OpenSpec.ofChange txCodesSpec)) txCodesCard

/-- THE TIED CARD OF 'mootlaw04.TxBatches'. -/
def txBatchesCard : Claim7 := { stood := { row := txBatchesRow, standIns := [], harness := (true, "80ae9302a5f3e22b6d7303906a3c0aa6b0274f949adfd0b81d06154fe180e7a4"), looks := true }, kinds := [], alts := [], laidByText := true, laidKinds := [.handle], laidTests := true, laidLooks := .later }
def TxBatchesCardSaid : Prop := Claim7.holds Tryd.pinned (.plain (OpenSpec.ofChange txBatchesSpec)) txBatchesCard

/-- THE SECOND FORM's CARD OF 'mootlaw04.TxCodes'. -/
def txCodesUptoCard : Claim7 := { stood := { row := txCodesUptoRow, standIns := [], harness := (true, "80ae9302a5f3e22b6d7303906a3c0aa6b0274f949adfd0b81d06154fe180e7a4"), looks := true }, kinds := [], alts := [], laidByText := true, laidKinds := [.handle], laidTests := true, laidLooks := .later }
def TxCodesUptoCardSaid : Prop := Claim7.holds Tryd.pinned (.plain (OpenSpec.upto txCodesSpec)) txCodesUptoCard

/-- THE SECOND FORM's CARD OF 'mootlaw04.TxBatches'. -/
def txBatchesUptoCard : Claim7 := { stood := { row := txBatchesUptoRow, standIns := [], harness := (true, "80ae9302a5f3e22b6d7303906a3c0aa6b0274f949adfd0b81d06154fe180e7a4"), looks := true }, kinds := [], alts := [], laidByText := true, laidKinds := [.handle], laidTests := true, laidLooks := .later }
def TxBatchesUptoCardSaid : Prop := Claim7.holds Tryd.pinned (.plain (OpenSpec.upto txBatchesSpec)) txBatchesUptoCard
end Rows
end Go.Proofs.YtgcpnhnckbgjmaaDoor
