/-
  An item's number, plain.
-/
import Derived.Test.YtgcpnhnckbgjmaaDoorNumb
set_option linter.unusedVariables false
set_option linter.unusedSimpArgs false
namespace Go.Proofs.YtgcpnhnckbgjmaaDoor
open Go.RowKit
variable {F : Nat → Prop}
/-- An item's number, and the number of what is wrong. -/
def val (x : Rlp.It) : Nat × Nat :=
  if x.list = true then (0, 3) else if 8 < x.bytes.length ∨ (0 < x.bytes.length ∧ (x.bytes.getD 0 0).toNat = 0) then (0, 12) else (Rlp.num x.bytes, 0)
theorem num_take (bs : List UInt8) (j : Nat) (hj : j < bs.length) : Rlp.num (bs.take (j + 1)) = Rlp.num (bs.take j) * 256 + (bs.getD j 0).toNat := by
  rw [List.take_succ_eq_append_getElem hj, Rlp.num_snoc, List.getD_eq_getElem?_getD, List.getElem?_eq_getElem hj]; rfl
theorem num_lt (bs : List UInt8) (j : Nat) : Rlp.num (bs.take j) < 256 ^ j := by
  induction j with
  | zero => simp [Rlp.num]
  | succ j ih =>
    rcases Nat.lt_or_ge j bs.length with h | h
    · rw [num_take bs j h, Nat.pow_succ]; have := (bs.getD j 0).toNat_lt; omega
    · rw [List.take_of_length_le (by omega)] at ih ⊢; rw [Nat.pow_succ]; omega
theorem num_56 (bs : List UInt8) (j : Nat) (hj : j < 8) : Rlp.num (bs.take j) < 72057594037927936 := by
  have h := num_lt bs j
  have : 256 ^ j ≤ 256 ^ 7 := Nat.pow_le_pow_right (by decide) (by omega)
  have e : (256 : Nat) ^ 7 = 72057594037927936 := by decide
  omega
end Go.Proofs.YtgcpnhnckbgjmaaDoor
