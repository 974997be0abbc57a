/-
  What each operation of layer 1 gives, as a number: the words' laws on BitVec 64, seen from the walk's integers.
-/
import Derived.Test.YtmjlifbnndmjoaaDoorWrd
import Derived.WalkKit
import Derived.Laws.Bits64b
import Derived.IntWalk
set_option linter.unusedVariables false
namespace Go.Proofs.YtmjlifbnndmjoaaDoor
open Go.RowKit

/-- A number of 64 bits, behind a name of its own. -/
structure R64 (a : Int) : Prop where
  lo : 0 ≤ a
  hi : a ≤ 18446744073709551615
/-- A number as a word, a word as a number. -/
def W64 (a : Int) : BitVec 64 := BitVec.ofInt 64 a
def val (x : BitVec 64) : Int := (x.toNat : Int)
theorem val_R (x : BitVec 64) : R64 (val x) := by unfold val; have := x.isLt; exact ⟨by omega, by omega⟩
theorem w64_val (x : BitVec 64) : W64 (val x) = x := by
  unfold W64 val; rw [BitVec.ofInt_natCast]; apply BitVec.eq_of_toNat_eq; rw [BitVec.toNat_ofNat]; exact Nat.mod_eq_of_lt x.isLt
theorem val_w64 {a : Int} (h : R64 a) : val (W64 a) = a := by
  obtain ⟨n, rfl⟩ := Int.eq_ofNat_of_zero_le h.lo
  unfold W64 val; rw [BitVec.ofInt_natCast, BitVec.toNat_ofNat]
  have := h.hi
  rw [Nat.mod_eq_of_lt (by omega)]
theorem val_inj {x y : BitVec 64} (h : val x = val y) : x = y := by rw [← w64_val x, ← w64_val y, h]
/-- An operation of words, as numbers. -/
def apZ (op : Nat) (a b c : Int) : Int := val (Wrd.ap op (W64 a) (W64 b) (W64 c))
theorem apZ_R (op : Nat) (a b c : Int) : R64 (apZ op a b c) := val_R _
theorem w64_apZ (op : Nat) (a b c : Int) : W64 (apZ op a b c) = Wrd.ap op (W64 a) (W64 b) (W64 c) := w64_val _

theorem val_add (x y : BitVec 64) : val (x + y) = IntKind.u64.wrap (val x + val y) := by
  unfold val; rw [BitVec.toNat_add, IntKind.wrap_u64]; omega
theorem val_sub (x y : BitVec 64) : val (x - y) = IntKind.u64.wrap (val x - val y) := by
  unfold val; rw [BitVec.toNat_sub, IntKind.wrap_u64]; have := x.isLt; have := y.isLt; omega
theorem val_neg (x : BitVec 64) : val (-x) = IntKind.u64.wrap (-(val x)) := by
  unfold val; rw [BitVec.toNat_neg, IntKind.wrap_u64]; have := x.isLt; omega
theorem val_mul (x y : BitVec 64) : val (x * y) = IntKind.u64.wrap (val x * val y) := by
  unfold val; rw [BitVec.toNat_mul, IntKind.wrap_u64, Int.natCast_emod, Int.natCast_mul]; rfl
theorem val_div (x y : BitVec 64) : val (x / y) = val x / val y := by
  unfold val; rw [BitVec.toNat_udiv]; exact Int.natCast_ediv _ _
theorem val_mod (x y : BitVec 64) : val (x % y) = val x % val y := by
  unfold val; rw [BitVec.toNat_umod]; exact Int.natCast_emod _ _
theorem val_and (x y : BitVec 64) : val (x &&& y) = bits .and .u64 (val x) (val y) := by
  unfold val; rw [bits_and_u64_nat _ _ x.isLt y.isLt, BitVec.toNat_and]
theorem val_or (x y : BitVec 64) : val (x ||| y) = bits .or .u64 (val x) (val y) := by
  unfold val; rw [bits_or_u64_nat _ _ x.isLt y.isLt, BitVec.toNat_or]
theorem val_xor (x y : BitVec 64) : val (x ^^^ y) = bits .xor .u64 (val x) (val y) := by
  unfold val; rw [bits_xor_u64_nat _ _ x.isLt y.isLt, BitVec.toNat_xor]
theorem val_eq (x y : BitVec 64) : (x == y) = (val x == val y) := by
  rw [Bool.eq_iff_iff]; simp only [beq_iff_eq]; exact ⟨fun h => by rw [h], val_inj⟩
theorem val_ult (x y : BitVec 64) : x.ult y = decide (val x < val y) := by
  show decide _ = _; unfold val; rw [decide_eq_decide]; omega
theorem val_zero {x : BitVec 64} : x = 0 ↔ val x = 0 := ⟨fun h => by subst h; rfl, fun h => val_inj h⟩
/-- The signed value, as Go's conversion gives it. -/
theorem val_int (x : BitVec 64) : x.toInt = IntKind.i64.wrap (val x) := by
  rw [Wrd.toInt_nat, IntKind.wrap_i64]; unfold val; have := x.isLt
  split <;> omega
theorem val_slt (x y : BitVec 64) : x.slt y = decide (IntKind.i64.wrap (val x) < IntKind.i64.wrap (val y)) := by
  rw [BitVec.slt_eq_decide, val_int, val_int]
theorem val_msb (x : BitVec 64) : x.msb = decide (IntKind.i64.wrap (val x) < 0) := by
  rw [BitVec.msb_eq_toInt, val_int]
/-- A truth, as a word. -/
def flagI (x : Bool) : Int := val (Wrd.flag x)
theorem flagI_true : flagI true = 1 := by decide
theorem flagI_false : flagI false = 0 := by decide
/-! Shifts, powers. -/
theorem val_shl (x : BitVec 64) (n : Nat) : val (x <<< n) = IntKind.u64.wrap (val x * 2 ^ min n 64) := by
  have e : (x <<< n).toNat = (x.toNat * 2 ^ min n 64) % 18446744073709551616 := by
    rw [BitVec.toNat_shiftLeft, Nat.shiftLeft_eq]
    rcases Nat.lt_or_ge 64 n with h | h
    · rw [Nat.min_eq_right (by omega), show n = 64 + (n - 64) by omega, Nat.pow_add, ← Nat.mul_assoc, Nat.mul_comm x.toNat, Nat.mul_assoc]
      rw [Nat.mul_comm x.toNat]
      show (18446744073709551616 * _) % 18446744073709551616 = (18446744073709551616 * _) % 18446744073709551616
      rw [Nat.mul_mod_right, Nat.mul_mod_right]
    · rw [Nat.min_eq_left h]
  unfold val
  rw [e, IntKind.wrap_u64, Int.natCast_emod, Int.natCast_mul, Int.natCast_pow]; rfl
theorem val_shr (x : BitVec 64) (n : Nat) : val (x >>> n) = val x / 2 ^ min n 64 := by
  have e : (x >>> n).toNat = x.toNat / 2 ^ min n 64 := by
    rw [BitVec.toNat_ushiftRight, Nat.shiftRight_eq_div_pow]
    rcases Nat.lt_or_ge 64 n with h | h
    · rw [Nat.min_eq_right (by omega), Nat.div_eq_of_lt x.isLt, Nat.div_eq_of_lt (Nat.lt_of_lt_of_le x.isLt (Nat.pow_le_pow_right (by omega) (by omega)))]
    · rw [Nat.min_eq_left h]
  unfold val
  rw [e, Int.natCast_ediv, Int.natCast_pow]; rfl
theorem val_int' (x : BitVec 64) : x.toInt = wrap64 (val x) := by rw [val_int, IntWalk.i64_left]
theorem val_of_int (x : BitVec 64) : val x = IntKind.u64.wrap x.toInt := by
  rw [Wrd.toInt_nat, IntKind.wrap_u64]; unfold val; have := x.isLt; split <;> omega
theorem div_far (t : Int) (n : Nat) (h0 : -9223372036854775808 ≤ t) (h1 : t ≤ 9223372036854775807) (hn : 64 ≤ n) : t / 2 ^ n = t / 2 ^ 64 := by
  have hp : (18446744073709551616 : Int) ≤ 2 ^ n := by
    have h : 18446744073709551616 ≤ 2 ^ n := Nat.pow_le_pow_right (n := 2) (by omega) hn
    have h2 : ((18446744073709551616 : Nat) : Int) ≤ ((2 ^ n : Nat) : Int) := Int.ofNat_le.2 h
    rw [Int.natCast_pow] at h2
    exact h2
  have hp' : (0 : Int) < 2 ^ n := by omega
  rcases Int.lt_or_le t 0 with h | h
  · have a : t / 2 ^ n = -1 := by
      apply Int.le_antisymm
      · have : t / 2 ^ n < 0 := Int.ediv_neg_of_neg_of_pos h hp'
        omega
      · rw [Int.le_ediv_iff_mul_le hp']; omega
    rw [a]; omega
  · rw [Int.ediv_eq_zero_of_lt h (by omega)]; omega
theorem val_sar (x : BitVec 64) (n : Nat) : val (x.sshiftRight n) = IntKind.u64.wrap (wrap64 (val x) / 2 ^ min n 64) := by
  rw [val_of_int, BitVec.toInt_sshiftRight, Int.shiftRight_eq_div_pow, ← val_int']
  congr 1
  have hl : -9223372036854775808 ≤ x.toInt := by rw [Wrd.toInt_nat]; have := x.isLt; split <;> omega
  have hr : x.toInt ≤ 9223372036854775807 := by rw [Wrd.toInt_nat]; have := x.isLt; split <;> omega
  have c : ((2 ^ n : Nat) : Int) = 2 ^ n := by simp
  rw [c]
  rcases Nat.lt_or_ge 64 n with h | h
  · rw [Nat.min_eq_right (by omega)]; exact div_far _ _ hl hr (by omega)
  · rw [Nat.min_eq_left h]
theorem sq_pow (x : BitVec 64) (k : Nat) : (x * x) ^ k = x ^ (2 * k) := by
  induction k with
  | zero => rfl
  | succ k ih => rw [BitVec.pow_succ, ih, show 2 * (k + 1) = 2 * k + 1 + 1 by omega, BitVec.pow_succ, BitVec.pow_succ, BitVec.mul_assoc]
theorem pow_odd (p x : BitVec 64) (n : Nat) (h : n % 2 = 1) : p * x ^ n = (p * x) * (x * x) ^ (n / 2) := by
  rw [sq_pow, show n = 2 * (n / 2) + 1 by omega, BitVec.pow_succ, show (2 * (n / 2) + 1) / 2 = n / 2 by omega, BitVec.mul_comm (x ^ _) x, BitVec.mul_assoc]
theorem pow_even (p x : BitVec 64) (n : Nat) (h : n % 2 = 0) : p * x ^ n = p * (x * x) ^ (n / 2) := by
  rw [sq_pow]; congr 2; omega
end Go.Proofs.YtmjlifbnndmjoaaDoor
