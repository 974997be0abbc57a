/-
  DERIVED. GIVEN WITH THE SEED: THE CARDS: each row of YtcblbmjcfckgjaaDoorRows.lean that lists a variable, with what it lists TIED to the program's text (the seventh form; the later family's looks); each row that meets fmt, with fmt's text TOLD by the authors' own Lean function (tested against real Go, not proved from fmt's source: count such statements apart). THE CARD IS WHAT COUNTS. Prove the row's statement (the work); the ties are given (YtcblbmjcfckgjaaDoorTie.lean); close each card by the builder's one call (the guide's Derived/Test/ToyasCard.lean, 'card_holds'). Laid BY PROGRAM, IN A SANDBOX (cutbox-door.mjs). By AI agents, Wed Nov 11 2026. No macro, syntax, notation, axiom, sorry.
-/
import Derived.Test.YtcblbmjcfckgjaaDoorRows
import GoSem.ClaimSeven
namespace Go.Proofs.YtcblbmjcfckgjaaDoor
namespace Rows

/-- THE TIED CARD OF 'mootlaw03.RlpDecodes'. -/
def rlpDecodesCard : Claim7 := { stood := { row := rlpDecodesRow, standIns := [], harness := (true, "82b38461c1a5232228c21d9dcee5d8c37a6bd7ab2a546e262c77f25dce5edf75"), looks := true }, kinds := [], alts := [], laidByText := true, laidKinds := [.handle], laidTests := true, laidLooks := .later }
def RlpDecodesCardSaid : Prop := Claim7.holds Tryd.pinned (.plain (OpenSpec.ofChange rlpDecodesSpec)) rlpDecodesCard

/-- THE TIED CARD OF 'mootlaw03.RlpKnown'. -/
def rlpKnownCard : Claim7 := { stood := { row := rlpKnownRow, standIns := [], harness := (true, "82b38461c1a5232228c21d9dcee5d8c37a6bd7ab2a546e262c77f25dce5edf75"), looks := true }, kinds := [], alts := [], laidByText := true, laidKinds := [.handle], laidTests := true, laidLooks := .later }
def RlpKnownCardSaid : Prop := Claim7.holds Tryd.pinned (.plain (OpenSpec.ofChange rlpKnownSpec)) rlpKnownCard

/-- THE TIED CARD OF 'mootlaw03.RlpNumbers'. -/
def rlpNumbersCard : Claim7 := { stood := { row := rlpNumbersRow, standIns := [], harness := (true, "82b38461c1a5232228c21d9dcee5d8c37a6bd7ab2a546e262c77f25dce5edf75"), looks := true }, kinds := [], alts := [], laidByText := true, laidKinds := [.handle], laidTests := true, laidLooks := .later }
def RlpNumbersCardSaid : Prop := Claim7.holds Tryd.pinned (.plain (OpenSpec.ofChange rlpNumbersSpec)) rlpNumbersCard

/-- THE SECOND FORM's CARD OF 'mootlaw03.RlpDecodes'. -/
def rlpDecodesUptoCard : Claim7 := { stood := { row := rlpDecodesUptoRow, standIns := [], harness := (true, "82b38461c1a5232228c21d9dcee5d8c37a6bd7ab2a546e262c77f25dce5edf75"), looks := true }, kinds := [], alts := [], laidByText := true, laidKinds := [.handle], laidTests := true, laidLooks := .later }
def RlpDecodesUptoCardSaid : Prop := Claim7.holds Tryd.pinned (.plain (OpenSpec.upto rlpDecodesSpec)) rlpDecodesUptoCard

/-- THE SECOND FORM's CARD OF 'mootlaw03.RlpKnown'. -/
def rlpKnownUptoCard : Claim7 := { stood := { row := rlpKnownUptoRow, standIns := [], harness := (true, "82b38461c1a5232228c21d9dcee5d8c37a6bd7ab2a546e262c77f25dce5edf75"), looks := true }, kinds := [], alts := [], laidByText := true, laidKinds := [.handle], laidTests := true, laidLooks := .later }
def RlpKnownUptoCardSaid : Prop := Claim7.holds Tryd.pinned (.plain (OpenSpec.upto rlpKnownSpec)) rlpKnownUptoCard

/-- THE SECOND FORM's CARD OF 'mootlaw03.RlpNumbers'. -/
def rlpNumbersUptoCard : Claim7 := { stood := { row := rlpNumbersUptoRow, standIns := [], harness := (true, "82b38461c1a5232228c21d9dcee5d8c37a6bd7ab2a546e262c77f25dce5edf75"), looks := true }, kinds := [], alts := [], laidByText := true, laidKinds := [.handle], laidTests := true, laidLooks := .later }
def RlpNumbersUptoCardSaid : Prop := Claim7.holds Tryd.pinned (.plain (OpenSpec.upto rlpNumbersSpec)) rlpNumbersUptoCard
end Rows
end Go.Proofs.YtcblbmjcfckgjaaDoor
