/-
  Words bit by bit, plain: no program.
-/
import Derived.Test.YtmjlifbnndmjoaaDoorWrd
set_option linter.unusedVariables false
set_option linter.unusedSimpArgs false
namespace Go.Proofs.YtmjlifbnndmjoaaDoor.Wrd
/-! Bit by bit: 11 to 15. -/
theorem bit_11 (a b : Wd) (i : Nat) (hi : i < 64) : (sext a b).getLsbD i = b.getLsbD (if a.toNat < 8 then min i (8 * a.toNat + 7) else i) := by
  unfold sext
  by_cases h : 7 ≤ a.toNat
  · rw [if_pos h]
    split
    · rw [show min i (8 * a.toNat + 7) = i by omega]
    · rfl
  · rw [if_neg h, if_pos (by omega), BitVec.getLsbD_sshiftRight]
    have h1 : ¬ 64 ≤ i := by omega
    simp only [h1, decide_false, Bool.not_false, Bool.true_and]
    split
    · rename_i h2
      rw [BitVec.getLsbD_shiftLeft]
      have h3 : ¬ (56 - 8 * a.toNat + i < 56 - 8 * a.toNat) := by omega
      simp only [h2, h3, decide_true, decide_false, Bool.not_false, Bool.true_and]
      rw [show 56 - 8 * a.toNat + i - (56 - 8 * a.toNat) = i by omega, show min i (8 * a.toNat + 7) = i by omega]
    · rw [BitVec.msb_eq_getLsbD_last, BitVec.getLsbD_shiftLeft]
      have h3 : ¬ (64 - 1 < 56 - 8 * a.toNat) := by omega
      simp only [h3, decide_false, Bool.not_false, Bool.true_and]
      rw [show 64 - 1 - (56 - 8 * a.toNat) = 8 * a.toNat + 7 by omega, show min i (8 * a.toNat + 7) = 8 * a.toNat + 7 by omega]
      simp
theorem bit_12 (a b : Wd) (i : Nat) (hi : i < 64) : (byt a b).getLsbD i = (decide (i < 8 ∧ a.toNat < 8) && b.getLsbD (56 - 8 * min a.toNat 7 + i)) := by
  unfold byt
  by_cases h : 7 < a.toNat
  · rw [if_pos h, decide_eq_false (by omega)]; simp
  · rw [if_neg h, BitVec.getLsbD_and, BitVec.getLsbD_ushiftRight, show min a.toNat 7 = a.toNat by omega]
    have e : (255 : Wd).getLsbD i = decide (i < 8) := by
      rw [show (255 : Wd) = BitVec.ofNat 64 (2 ^ 8 - 1) by rfl, BitVec.getLsbD_ofNat, Nat.testBit_two_pow_sub_one]
      simp [hi]
    rw [e]
    have h8 : a.toNat < 8 := by omega
    simp [h8, Bool.and_comm]
theorem bit_13 (a b : Wd) (i : Nat) (hi : i < 64) : (shl a b).getLsbD i = (decide (a.toNat ≤ i) && b.getLsbD (i - a.toNat)) := by
  unfold shl
  rw [BitVec.getLsbD_shiftLeft]
  by_cases h : a.toNat ≤ i
  · have : ¬ i < a.toNat := by omega
    simp [h, this, hi]
  · have : i < a.toNat := by omega
    simp [h, this]
theorem bit_14 (a b : Wd) (i : Nat) (hi : i < 64) : (shr a b).getLsbD i = (decide (a.toNat < 64 - i) && b.getLsbD (i + a.toNat)) := by
  unfold shr
  rw [BitVec.getLsbD_ushiftRight, Nat.add_comm a.toNat i]
  by_cases h : a.toNat < 64 - i
  · simp [h]
  · rw [BitVec.getLsbD_of_ge _ _ (by omega)]; simp
theorem bit_15 (a b : Wd) (i : Nat) (hi : i < 64) : (sar a b).getLsbD i = b.getLsbD (if a.toNat < 64 - i then i + a.toNat else 63) := by
  unfold sar
  rw [BitVec.getLsbD_sshiftRight]
  have h1 : ¬ 64 ≤ i := by omega
  simp only [h1, decide_false, Bool.not_false, Bool.true_and]
  by_cases h : a.toNat < 64 - i
  · rw [if_pos (by omega), if_pos h, Nat.add_comm]
  · rw [if_neg (by omega), if_neg h, BitVec.msb_eq_getLsbD_last]
theorem lsb_val (b : Wd) (k : Nat) : b.getLsbD k = decide (b.toNat / 2 ^ k % 2 = 1) := by
  rw [BitVec.getLsbD, Nat.testBit_eq_decide_div_mod_eq]
/-- What has been gathered of a word ahead of bit i. -/
def low (T : Wd) (i : Nat) : Nat := T.toNat % 2 ^ i
theorem low_zero (T : Wd) : low T 0 = 0 := by simp [low, Nat.mod_one]
theorem low_lt (T : Wd) (i : Nat) : low T i < 2 ^ i := Nat.mod_lt _ (Nat.two_pow_pos i)
theorem low_all (T : Wd) : low T 64 = T.toNat := Nat.mod_eq_of_lt T.isLt
theorem low_succ (T : Wd) (i : Nat) : low T (i + 1) = low T i + (if T.getLsbD i then 2 ^ i else 0) := by
  unfold low
  rw [lsb_val, Nat.pow_succ, Nat.mod_mul]
  rcases Nat.mod_two_eq_zero_or_one (T.toNat / 2 ^ i) with h | h <;> rw [h] <;> simp
theorem low_or (T : Wd) (i : Nat) : low T i ||| 2 ^ i = low T i + 2 ^ i := by
  rw [Nat.or_comm]
  have := Nat.shiftLeft_add_eq_or_of_lt (low_lt T i) 1
  rw [Nat.shiftLeft_eq, Nat.one_mul] at this
  rw [← this, Nat.add_comm]
/-! The power from the highest bit on. -/
theorem pow_bit (a : Wd) (n j : Nat) : a ^ (n / 2 ^ j) = (a ^ (n / 2 ^ (j + 1)) * a ^ (n / 2 ^ (j + 1))) * (if n / 2 ^ j % 2 = 1 then a else 1) := by
  have e : n / 2 ^ j = 2 * (n / 2 ^ (j + 1)) + n / 2 ^ j % 2 := by rw [Nat.pow_succ, ← Nat.div_div_eq_div_mul]; omega
  have ea : ∀ m k : Nat, a ^ (m + k) = a ^ m * a ^ k := by
    intro m k
    induction k with
    | zero => simp
    | succ k ih => rw [← Nat.add_assoc, BitVec.pow_succ, ih, BitVec.pow_succ, BitVec.mul_assoc]
  rcases Nat.mod_two_eq_zero_or_one (n / 2 ^ j) with h | h
  · rw [h] at e ⊢
    rw [e, Nat.two_mul, Nat.add_zero, ea]; simp
  · rw [h] at e ⊢
    rw [e, ea, Nat.two_mul, ea]; simp
end Go.Proofs.YtmjlifbnndmjoaaDoor.Wrd
