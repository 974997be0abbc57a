/-
  No cell of these rows narrows 'for every input' (looked for: loops, veiled, ifaces, maps, wideKeys, modest, calm, conditions, laid).
  DERIVED. THE GIVEN ROWS OF THIS SEAT. 6 by the template 'for every input the law returns true; each argument reads behind the call as it read before'; 0 by the template 'total and deterministic' (their statements: YtmjlifbnndmjoaaTotals.lean).
  GIVEN WITH THE SEED: the statements are not yours to turn. If you find one false, say at which input.
  Laid BY PROGRAM, IN A SANDBOX (cutbox-rows.mjs): the forced cells as the released guide's own fill.sh prints them over the translation bffd46849b5f1071… (all of the seat's roots in one cut). By AI agents, Wed Nov 11 2026. No macro, syntax, notation, axiom, sorry.
-/
import Derived.Test.YtmjlifbnndmjoaaChecked
import GoSem.Claim
import GoSem.ClaimJoined
import GoSem.ClaimMapViews
import Derived.JoinedTies
import Derived.KernelRfl
namespace Go.Proofs.Ytmjlifbnndmjoaa
/- THE CELL 'sum', in the pinned program and in every row, IS THE sha256 OF THE DUMP (.gsa) THAT YtmjlifbnndmjoaaProg.lean LOADS. Nothing in Lean hashes anything: it is a label: what it is worth is what the hold of that sum in a sandbox is worth. -/
noncomputable def Try.pinned : Pinned := { name := "ytmjlifbnndmjoaa", sum := "bffd46849b5f107106738ca5060a7fd1116d8aa553d61d7a452781aecda405c3", checked := Try.checked }
namespace Rows
def none {H : Type} : Left H := { results := [], args := [] }

/-- 'mootlaw01.WordGroups': WHATEVER THE INPUT: true; the input reads as it did. -/
def wordGroupsSpec : ChangeSpec := { name := "wordGroups", fn := fun _ => fun
  | [d1, d2, d3] => { results := [.lit (.bool true)], args := [d1, d2, d3] }
  | _ => none }
def wordGroupsRow : OpenClaim := { program := "ytmjlifbnndmjoaa", sum := "bffd46849b5f107106738ca5060a7fd1116d8aa553d61d7a452781aecda405c3", func := "moot/mootlaw01.WordGroups", spec := "wordGroups", inPlace := ["math/bits.Add64", "internal/reflectlite.TypeOf"], unfollowed := true, recurses := true, named := ["math/bits.divideError", "math/bits.overflowError"], apart := false }
def WordGroupsSaid : Prop := wordGroupsRow.holds Try.pinned (OpenSpec.ofChange wordGroupsSpec)

/-- ITS FALSE NEIGHBOUR: 'it returns false'. Refute it at one input. -/
def wordGroupsWrong : ChangeSpec := { name := "wordGroups", fn := fun _ => fun
  | [d1, d2, d3] => { results := [.lit (.bool false)], args := [d1, d2, d3] }
  | _ => none }
def WordGroupsWrongFalsely : Prop := wordGroupsRow.holds Try.pinned (OpenSpec.ofChange wordGroupsWrong)

/-- 'mootlaw01.WordBits': WHATEVER THE INPUT: true; the input reads as it did. -/
def wordBitsSpec : ChangeSpec := { name := "wordBits", fn := fun _ => fun
  | [d1, d2] => { results := [.lit (.bool true)], args := [d1, d2] }
  | _ => none }
def wordBitsRow : OpenClaim := { program := "ytmjlifbnndmjoaa", sum := "bffd46849b5f107106738ca5060a7fd1116d8aa553d61d7a452781aecda405c3", func := "moot/mootlaw01.WordBits", spec := "wordBits", inPlace := ["math/bits.Add64", "internal/reflectlite.TypeOf"], unfollowed := true, recurses := true, named := ["math/bits.divideError", "math/bits.overflowError"], apart := false }
def WordBitsSaid : Prop := wordBitsRow.holds Try.pinned (OpenSpec.ofChange wordBitsSpec)

/-- ITS FALSE NEIGHBOUR: 'it returns false'. Refute it at one input. -/
def wordBitsWrong : ChangeSpec := { name := "wordBits", fn := fun _ => fun
  | [d1, d2] => { results := [.lit (.bool false)], args := [d1, d2] }
  | _ => none }
def WordBitsWrongFalsely : Prop := wordBitsRow.holds Try.pinned (OpenSpec.ofChange wordBitsWrong)

/-- 'mootlaw01.WordShifts': WHATEVER THE INPUT: true; the input reads as it did. -/
def wordShiftsSpec : ChangeSpec := { name := "wordShifts", fn := fun _ => fun
  | [d1, d2] => { results := [.lit (.bool true)], args := [d1, d2] }
  | _ => none }
def wordShiftsRow : OpenClaim := { program := "ytmjlifbnndmjoaa", sum := "bffd46849b5f107106738ca5060a7fd1116d8aa553d61d7a452781aecda405c3", func := "moot/mootlaw01.WordShifts", spec := "wordShifts", inPlace := ["math/bits.Add64", "internal/reflectlite.TypeOf"], unfollowed := true, recurses := true, named := ["math/bits.divideError", "math/bits.overflowError"], apart := false }
def WordShiftsSaid : Prop := wordShiftsRow.holds Try.pinned (OpenSpec.ofChange wordShiftsSpec)

/-- ITS FALSE NEIGHBOUR: 'it returns false'. Refute it at one input. -/
def wordShiftsWrong : ChangeSpec := { name := "wordShifts", fn := fun _ => fun
  | [d1, d2] => { results := [.lit (.bool false)], args := [d1, d2] }
  | _ => none }
def WordShiftsWrongFalsely : Prop := wordShiftsRow.holds Try.pinned (OpenSpec.ofChange wordShiftsWrong)

/-- 'mootlaw01.WordOrders': WHATEVER THE INPUT: true; the input reads as it did. -/
def wordOrdersSpec : ChangeSpec := { name := "wordOrders", fn := fun _ => fun
  | [d1, d2] => { results := [.lit (.bool true)], args := [d1, d2] }
  | _ => none }
def wordOrdersRow : OpenClaim := { program := "ytmjlifbnndmjoaa", sum := "bffd46849b5f107106738ca5060a7fd1116d8aa553d61d7a452781aecda405c3", func := "moot/mootlaw01.WordOrders", spec := "wordOrders", inPlace := ["math/bits.Add64", "internal/reflectlite.TypeOf"], unfollowed := true, recurses := true, named := ["math/bits.divideError", "math/bits.overflowError"], apart := false }
def WordOrdersSaid : Prop := wordOrdersRow.holds Try.pinned (OpenSpec.ofChange wordOrdersSpec)

/-- ITS FALSE NEIGHBOUR: 'it returns false'. Refute it at one input. -/
def wordOrdersWrong : ChangeSpec := { name := "wordOrders", fn := fun _ => fun
  | [d1, d2] => { results := [.lit (.bool false)], args := [d1, d2] }
  | _ => none }
def WordOrdersWrongFalsely : Prop := wordOrdersRow.holds Try.pinned (OpenSpec.ofChange wordOrdersWrong)

/-- 'mootlaw01.WordParts': WHATEVER THE INPUT: true; the input reads as it did. -/
def wordPartsSpec : ChangeSpec := { name := "wordParts", fn := fun _ => fun
  | [d1, d2] => { results := [.lit (.bool true)], args := [d1, d2] }
  | _ => none }
def wordPartsRow : OpenClaim := { program := "ytmjlifbnndmjoaa", sum := "bffd46849b5f107106738ca5060a7fd1116d8aa553d61d7a452781aecda405c3", func := "moot/mootlaw01.WordParts", spec := "wordParts", inPlace := ["math/bits.Add64", "internal/reflectlite.TypeOf"], unfollowed := true, recurses := true, named := ["math/bits.divideError", "math/bits.overflowError"], apart := false }
def WordPartsSaid : Prop := wordPartsRow.holds Try.pinned (OpenSpec.ofChange wordPartsSpec)

/-- ITS FALSE NEIGHBOUR: 'it returns false'. Refute it at one input. -/
def wordPartsWrong : ChangeSpec := { name := "wordParts", fn := fun _ => fun
  | [d1, d2] => { results := [.lit (.bool false)], args := [d1, d2] }
  | _ => none }
def WordPartsWrongFalsely : Prop := wordPartsRow.holds Try.pinned (OpenSpec.ofChange wordPartsWrong)

/-- 'mootlaw01.WordLaws': WHATEVER THE INPUT: true; the input reads as it did. -/
def wordLawsSpec : ChangeSpec := { name := "wordLaws", fn := fun _ => fun
  | [d1, d2, d3] => { results := [.lit (.bool true)], args := [d1, d2, d3] }
  | _ => none }
def wordLawsRow : OpenClaim := { program := "ytmjlifbnndmjoaa", sum := "bffd46849b5f107106738ca5060a7fd1116d8aa553d61d7a452781aecda405c3", func := "moot/mootlaw01.WordLaws", spec := "wordLaws", inPlace := ["math/bits.Add64", "internal/reflectlite.TypeOf"], unfollowed := true, recurses := true, named := ["math/bits.divideError", "math/bits.overflowError"], apart := false }
def WordLawsSaid : Prop := wordLawsRow.holds Try.pinned (OpenSpec.ofChange wordLawsSpec)

/-- ITS FALSE NEIGHBOUR: 'it returns false'. Refute it at one input. -/
def wordLawsWrong : ChangeSpec := { name := "wordLaws", fn := fun _ => fun
  | [d1, d2, d3] => { results := [.lit (.bool false)], args := [d1, d2, d3] }
  | _ => none }
def WordLawsWrongFalsely : Prop := wordLawsRow.holds Try.pinned (OpenSpec.ofChange wordLawsWrong)

/- THE SECOND FORM. 'bulk': how many values and letters a reading holds, each counted each time it is reached (what is shared counts as often as it is met; a slice's spare places count too). A statement '..UptoSaid' is the law's where the arguments, and the package variables that the reading takes, are together of bulk at most 1048576: NARROWER than '..Said'. Prove '..Said' where nothing that the law and all that it calls make is longer than what came in: it says more and counts as full. Else prove '..UptoSaid'. A law counts once. -/
mutual
def uptoBulk {H : Type} : DataW H → Nat
  | .lit (.string bytes) => bytes.length + 1
  | .lit _ => 1
  | .nil => 1
  | .ptr d => uptoBulk d + 1
  | .slice elems spare => uptoBulkAll elems + uptoBulkAll spare + 1
  | .agg parts => uptoBulkAll parts + 1
  | .iface _ d => uptoBulk d + 1
  | .map entries => uptoBulkEntries entries + 1
  | .held _ => 1
def uptoBulkAll {H : Type} : List (DataW H) → Nat
  | [] => 0
  | d :: r => uptoBulk d + uptoBulkAll r
def uptoBulkEntries {H : Type} : List (Lit × DataW H) → Nat
  | [] => 0
  | x :: r => uptoBulkEntry x + uptoBulkEntries r
def uptoBulkEntry {H : Type} : Lit × DataW H → Nat
  | (.string bytes, d) => bytes.length + uptoBulk d + 1
  | (_, d) => uptoBulk d + 1
 end
def uptoSmall : (H : Type) → List (DataW H) → Bool := fun _ ds => decide (uptoBulkAll ds ≤ 1048576)
def OpenSpec.upto (s : _root_.Go.ChangeSpec) : _root_.Go.OpenSpec := { _root_.Go.OpenSpec.ofChange s with cond := some uptoSmall }

/-- 'mootlaw01.WordGroups', WHERE WHAT IT READS IS OF BULK AT MOST 1048576: true; the input reads as it did. -/
def wordGroupsUptoRow : OpenClaim := { program := "ytmjlifbnndmjoaa", sum := "bffd46849b5f107106738ca5060a7fd1116d8aa553d61d7a452781aecda405c3", func := "moot/mootlaw01.WordGroups", spec := "wordGroups", inPlace := ["math/bits.Add64", "internal/reflectlite.TypeOf"], unfollowed := true, recurses := true, named := ["math/bits.divideError", "math/bits.overflowError"], apart := false, narrowed := true }
def WordGroupsUptoSaid : Prop := wordGroupsUptoRow.holds Try.pinned (OpenSpec.upto wordGroupsSpec)

/-- 'mootlaw01.WordBits', WHERE WHAT IT READS IS OF BULK AT MOST 1048576: true; the input reads as it did. -/
def wordBitsUptoRow : OpenClaim := { program := "ytmjlifbnndmjoaa", sum := "bffd46849b5f107106738ca5060a7fd1116d8aa553d61d7a452781aecda405c3", func := "moot/mootlaw01.WordBits", spec := "wordBits", inPlace := ["math/bits.Add64", "internal/reflectlite.TypeOf"], unfollowed := true, recurses := true, named := ["math/bits.divideError", "math/bits.overflowError"], apart := false, narrowed := true }
def WordBitsUptoSaid : Prop := wordBitsUptoRow.holds Try.pinned (OpenSpec.upto wordBitsSpec)

/-- 'mootlaw01.WordShifts', WHERE WHAT IT READS IS OF BULK AT MOST 1048576: true; the input reads as it did. -/
def wordShiftsUptoRow : OpenClaim := { program := "ytmjlifbnndmjoaa", sum := "bffd46849b5f107106738ca5060a7fd1116d8aa553d61d7a452781aecda405c3", func := "moot/mootlaw01.WordShifts", spec := "wordShifts", inPlace := ["math/bits.Add64", "internal/reflectlite.TypeOf"], unfollowed := true, recurses := true, named := ["math/bits.divideError", "math/bits.overflowError"], apart := false, narrowed := true }
def WordShiftsUptoSaid : Prop := wordShiftsUptoRow.holds Try.pinned (OpenSpec.upto wordShiftsSpec)

/-- 'mootlaw01.WordOrders', WHERE WHAT IT READS IS OF BULK AT MOST 1048576: true; the input reads as it did. -/
def wordOrdersUptoRow : OpenClaim := { program := "ytmjlifbnndmjoaa", sum := "bffd46849b5f107106738ca5060a7fd1116d8aa553d61d7a452781aecda405c3", func := "moot/mootlaw01.WordOrders", spec := "wordOrders", inPlace := ["math/bits.Add64", "internal/reflectlite.TypeOf"], unfollowed := true, recurses := true, named := ["math/bits.divideError", "math/bits.overflowError"], apart := false, narrowed := true }
def WordOrdersUptoSaid : Prop := wordOrdersUptoRow.holds Try.pinned (OpenSpec.upto wordOrdersSpec)

/-- 'mootlaw01.WordParts', WHERE WHAT IT READS IS OF BULK AT MOST 1048576: true; the input reads as it did. -/
def wordPartsUptoRow : OpenClaim := { program := "ytmjlifbnndmjoaa", sum := "bffd46849b5f107106738ca5060a7fd1116d8aa553d61d7a452781aecda405c3", func := "moot/mootlaw01.WordParts", spec := "wordParts", inPlace := ["math/bits.Add64", "internal/reflectlite.TypeOf"], unfollowed := true, recurses := true, named := ["math/bits.divideError", "math/bits.overflowError"], apart := false, narrowed := true }
def WordPartsUptoSaid : Prop := wordPartsUptoRow.holds Try.pinned (OpenSpec.upto wordPartsSpec)

/-- 'mootlaw01.WordLaws', WHERE WHAT IT READS IS OF BULK AT MOST 1048576: true; the input reads as it did. -/
def wordLawsUptoRow : OpenClaim := { program := "ytmjlifbnndmjoaa", sum := "bffd46849b5f107106738ca5060a7fd1116d8aa553d61d7a452781aecda405c3", func := "moot/mootlaw01.WordLaws", spec := "wordLaws", inPlace := ["math/bits.Add64", "internal/reflectlite.TypeOf"], unfollowed := true, recurses := true, named := ["math/bits.divideError", "math/bits.overflowError"], apart := false, narrowed := true }
def WordLawsUptoSaid : Prop := wordLawsUptoRow.holds Try.pinned (OpenSpec.upto wordLawsSpec)

end Rows
end Go.Proofs.Ytmjlifbnndmjoaa
