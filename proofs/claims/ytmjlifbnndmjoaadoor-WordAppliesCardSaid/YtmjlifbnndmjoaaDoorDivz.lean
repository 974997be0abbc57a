/-
  The division of two words by one, and by one bit after the other, plain: no program.
-/
import Derived.Test.YtmjlifbnndmjoaaDoorDv
set_option linter.unusedVariables false
namespace Go.Proofs.YtmjlifbnndmjoaaDoor.Dv
structure Nm (hi lo y s Y y1 y0 u L d1 d0 : Nat) : Prop where
  s63 : s ≤ 63
  Yeq : Y = y * 2 ^ s
  Y64 : Y < 18446744073709551616
  Ysp : Y = y1 * 4294967296 + y0
  h1 : 2147483648 ≤ y1
  h2 : y1 < 4294967296
  h3 : y0 < 4294967296
  ueq : u = hi * 2 ^ s + lo / 2 ^ (64 - s)
  ult : u < Y
  Leq : L = lo * 2 ^ s % 18446744073709551616
  d1eq : d1 = L / 4294967296
  d0eq : d0 = L % 4294967296
  N : (u * 4294967296 + d1) * 4294967296 + d0 = (hi * 18446744073709551616 + lo) * 2 ^ s
theorem pow_split (s : Nat) (h : s ≤ 64) : 2 ^ (64 - s) * 2 ^ s = 18446744073709551616 := by
  rw [← Nat.pow_add, show 64 - s + s = 64 by omega]
theorem low_div (lo s : Nat) (h : s ≤ 64) : lo * 2 ^ s / 18446744073709551616 = lo / 2 ^ (64 - s) := by
  rw [← pow_split s h, Nat.mul_div_mul_right _ _ (Nat.two_pow_pos s)]
theorem low_lt (lo s : Nat) (h : s ≤ 64) (hlo : lo < 18446744073709551616) : lo / 2 ^ (64 - s) < 2 ^ s := by
  rw [Nat.div_lt_iff_lt_mul (Nat.two_pow_pos _), Nat.mul_comm, pow_split s h]; exact hlo
theorem Nm.make (hi lo y : Nat) (h : hi < y) (hy : y < 18446744073709551616) (hlo : lo < 18446744073709551616) :
    ∃ Y y1 y0 u L d1 d0, Nm hi lo y (63 - y.log2) Y y1 y0 u L d1 d0 := by
  have hy0 : y ≠ 0 := by omega
  have l1 : 2 ^ y.log2 ≤ y := Nat.log2_self_le hy0
  have l2 : y < 2 ^ (y.log2 + 1) := Nat.lt_log2_self
  have l3 : y.log2 ≤ 63 := by
    have : y.log2 < 64 := (Nat.log2_lt hy0).2 hy
    omega
  obtain ⟨s, hs⟩ : ∃ s, s = 63 - y.log2 := ⟨_, rfl⟩
  have e1 : 2 ^ y.log2 * 2 ^ s = 9223372036854775808 := by rw [← Nat.pow_add, hs, show y.log2 + (63 - y.log2) = 63 by omega]
  have e2 : 2 ^ (y.log2 + 1) * 2 ^ s = 18446744073709551616 := by rw [← Nat.pow_add, hs, show y.log2 + 1 + (63 - y.log2) = 64 by omega]
  have b1 : 9223372036854775808 ≤ y * 2 ^ s := by rw [← e1]; exact Nat.mul_le_mul_right _ l1
  have b2 : y * 2 ^ s < 18446744073709551616 := by rw [← e2]; exact Nat.mul_lt_mul_of_pos_right l2 (Nat.two_pow_pos s)
  rw [← hs]
  have hs63 : s ≤ 63 := by omega
  have hl := low_lt lo s (by omega) hlo
  have hu : hi * 2 ^ s + lo / 2 ^ (64 - s) < y * 2 ^ s := by
    have : (hi + 1) * 2 ^ s ≤ y * 2 ^ s := Nat.mul_le_mul_right _ h
    rw [Nat.add_mul] at this; omega
  refine ⟨y * 2 ^ s, y * 2 ^ s / 4294967296, y * 2 ^ s % 4294967296, _, _, _, _, hs63, rfl, b2, by omega, by omega, by omega, by omega, rfl, hu, rfl, rfl, rfl, ?_⟩
  have d := low_div lo s (by omega)
  have e := Nat.div_add_mod (lo * 2 ^ s) 18446744073709551616
  rw [d] at e
  have e3 : (hi * 18446744073709551616 + lo) * 2 ^ s = hi * 2 ^ s * 18446744073709551616 + lo * 2 ^ s := by
    rw [Nat.add_mul, Nat.mul_right_comm]
  rw [e3]
  generalize lo / 2 ^ (64 - s) = p at e ⊢
  generalize hi * 2 ^ s = q
  generalize lo * 2 ^ s = t at e ⊢
  omega
theorem or_add (a b s : Nat) (h : b < 2 ^ s) : a * 2 ^ s ||| b = a * 2 ^ s + b := by
  rw [← Nat.shiftLeft_eq, ← Nat.shiftLeft_add_eq_or_of_lt h]
/-- What the whole division leaves. -/
theorem final (N y s : Nat) : N * 2 ^ s / (y * 2 ^ s) = N / y ∧ N * 2 ^ s % (y * 2 ^ s) / 2 ^ s = N % y := by
  refine ⟨Nat.mul_div_mul_right _ _ (Nat.two_pow_pos s), ?_⟩
  rw [Nat.mul_mod_mul_right, Nat.mul_div_cancel _ (Nat.two_pow_pos s)]
/-! The reference: bit by bit. -/
/-- Ahead of the round for bit j - 1: what has come so far is P = N / 2^j. -/
structure Rs (n P q r : Nat) : Prop where
  q : q = P / n % 18446744073709551616
  r : r = P % n
theorem Rs.next {n P q r : Nat} (h : Rs n P q r) (hn : 0 < n) (hn64 : n < 18446744073709551616) (b : Nat) (hb : b ≤ 1) :
    (r / 9223372036854775808 = 1 ∨ n ≤ (2 * r + b) % 18446744073709551616 → Rs n (2 * P + b) (2 * q % 18446744073709551616 + 1) (((2 * r + b) % 18446744073709551616 + 18446744073709551616 - n) % 18446744073709551616)) ∧
    (¬ (r / 9223372036854775808 = 1 ∨ n ≤ (2 * r + b) % 18446744073709551616) → Rs n (2 * P + b) (2 * q % 18446744073709551616) ((2 * r + b) % 18446744073709551616)) := by
  have hr : r < n := by rw [h.r]; exact Nat.mod_lt _ hn
  have e := Nat.div_add_mod P n
  have e2 : 2 * P + b = n * (2 * (P / n)) + (2 * r + b) := by
    rw [h.r, Nat.mul_left_comm]; omega
  constructor
  · intro ht
    have hge : n ≤ 2 * r + b := by omega
    have e3 : 2 * P + b = n * (2 * (P / n) + 1) + (2 * r + b - n) := by rw [e2, Nat.mul_add]; omega
    have hlt : 2 * r + b - n < n := by omega
    refine ⟨?_, ?_⟩
    · rw [e3, Nat.mul_add_div hn, Nat.div_eq_of_lt hlt, h.q]; omega
    · rw [e3, Nat.mul_add_mod, Nat.mod_eq_of_lt hlt]; omega
  · intro ht
    have hlt : 2 * r + b < n := by omega
    refine ⟨?_, ?_⟩
    · rw [e2, Nat.mul_add_div hn, Nat.div_eq_of_lt hlt, h.q]; omega
    · rw [e2, Nat.mul_add_mod, Nat.mod_eq_of_lt hlt]; omega
theorem bit_step (N j : Nat) : N / 2 ^ j = 2 * (N / 2 ^ (j + 1)) + N / 2 ^ j % 2 := by
  rw [Nat.pow_succ, ← Nat.div_div_eq_div_mul]; omega
theorem bit_hi (hi lo j : Nat) (hlo : lo < 18446744073709551616) : (hi * 18446744073709551616 + lo) / 2 ^ (j + 64) = hi / 2 ^ j := by
  rw [Nat.add_comm j 64, Nat.pow_add, ← Nat.div_div_eq_div_mul]
  congr 1; show _ / 18446744073709551616 = _; omega
theorem bit_lo (hi lo j : Nat) (hj : j < 64) : (hi * 18446744073709551616 + lo) / 2 ^ j % 2 = lo / 2 ^ j % 2 := by
  have e : hi * 18446744073709551616 = 2 ^ j * (2 * (hi * 2 ^ (63 - j))) := by
    have : 18446744073709551616 = 2 ^ j * (2 * 2 ^ (63 - j)) := by
      rw [← Nat.pow_succ', ← Nat.pow_add, show j + (63 - j).succ = 64 by omega]
    rw [this, Nat.mul_left_comm, Nat.mul_left_comm hi 2]
  rw [e, Nat.mul_add_div (Nat.two_pow_pos j)]; omega
/-! The whole product by 32 bits. -/
theorem wide (a0 a1 b0 b1 : Nat) (ha : a0 < 4294967296) (ha1 : a1 < 4294967296) (hb : b0 < 4294967296) (hb1 : b1 < 4294967296) :
    let low := a0 * b0
    let x := a1 * b0 + low / 4294967296
    let y := a0 * b1 + x % 4294967296
    low < 18446744073709551616 ∧ x < 18446744073709551616 ∧ y < 18446744073709551616 ∧ a1 * b1 < 18446744073709551616 ∧ a1 * b0 < 18446744073709551616 ∧ a0 * b1 < 18446744073709551616 ∧ a1 * b1 + x / 4294967296 < 18446744073709551616 ∧ a1 * b1 + x / 4294967296 + y / 4294967296 < 18446744073709551616 ∧
    (a1 * b1 + x / 4294967296 + y / 4294967296) * 18446744073709551616 + (y % 4294967296 * 4294967296 + low % 4294967296) = (a1 * 4294967296 + a0) * (b1 * 4294967296 + b0) := by
  intro low x y
  have m1 : a0 * b0 ≤ 4294967295 * 4294967295 := Nat.mul_le_mul (by omega) (by omega)
  have m2 : a1 * b0 ≤ 4294967295 * 4294967295 := Nat.mul_le_mul (by omega) (by omega)
  have m3 : a0 * b1 ≤ 4294967295 * 4294967295 := Nat.mul_le_mul (by omega) (by omega)
  have m4 : a1 * b1 ≤ 4294967295 * 4294967295 := Nat.mul_le_mul (by omega) (by omega)
  have e : (a1 * 4294967296 + a0) * (b1 * 4294967296 + b0) = a1 * b1 * 18446744073709551616 + (a1 * b0 + a0 * b1) * 4294967296 + a0 * b0 := by
    rw [Nat.add_mul, Nat.mul_add, Nat.mul_add]
    have : a1 * 4294967296 * (b1 * 4294967296) = a1 * b1 * 18446744073709551616 := by rw [Nat.mul_mul_mul_comm]
    rw [this, Nat.mul_right_comm a1 4294967296 b0, ← Nat.mul_assoc a0 b1]; omega
  rw [e]
  have hl : low = a0 * b0 := rfl
  have hx : x = a1 * b0 + low / 4294967296 := rfl
  have hy : y = a0 * b1 + x % 4294967296 := rfl
  clear_value low x y
  generalize a0 * b0 = p at *
  generalize a1 * b0 = q at *
  generalize a0 * b1 = t at *
  generalize a1 * b1 = v at *
  subst hl
  omega
end Go.Proofs.YtmjlifbnndmjoaaDoor.Dv
