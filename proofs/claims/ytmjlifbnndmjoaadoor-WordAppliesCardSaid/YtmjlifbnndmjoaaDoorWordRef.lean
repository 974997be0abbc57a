/-
  mootref01's Wide and Rest by their contracts.
-/
import Derived.Test.YtmjlifbnndmjoaaDoorDiv64
set_option linter.unusedVariables false
set_option linter.unusedSimpArgs false
namespace Go.Proofs.YtmjlifbnndmjoaaDoor
open Go.RowKit

theorem wrap_addN (x y : Nat) (h : x + y < 18446744073709551616) : IntKind.u64.wrap ((x : Int) + (y : Int)) = ((x + y : Nat) : Int) := by
  rw [← Int.natCast_add, wrapN, Nat.mod_eq_of_lt h]
set_option maxRecDepth 100000 in
theorem rwide_calls (a b : Nat) (ha : a < 18446744073709551616) (hb : b < 18446744073709551616) (w : World) :
    Calls Tryd.prog 7 #[.int .u64 a, .int .u64 b] w fun e w' => e = .returned (.tuple #[.int .u64 ((a * b / 18446744073709551616 : Nat) : Int), .int .u64 ((a * b % 18446744073709551616 : Nat) : Int)]) ∧ w = w' := by
  obtain ⟨a0, ha0⟩ : ∃ a0, a0 = a % 4294967296 := ⟨_, rfl⟩
  obtain ⟨a1, ha1⟩ : ∃ a1, a1 = a / 4294967296 := ⟨_, rfl⟩
  obtain ⟨b0, hb0⟩ : ∃ b0, b0 = b % 4294967296 := ⟨_, rfl⟩
  obtain ⟨b1, hb1⟩ : ∃ b1, b1 = b / 4294967296 := ⟨_, rfl⟩
  have hw := Dv.wide a0 a1 b0 b1 (by omega) (by omega) (by omega) (by omega)
  rw [show a1 * 4294967296 + a0 = a by omega, show b1 * 4294967296 + b0 = b by omega] at hw
  have A0 : bits .and .u64 (a : Int) 4294967295 = (a0 : Int) := by rw [mask32 _ ha, ha0]
  have A1 : (a : Int) / 4294967296 = (a1 : Int) := by omega
  have B0 : bits .and .u64 (b : Int) 4294967295 = (b0 : Int) := by rw [mask32 _ hb, hb0]
  have B1 : (b : Int) / 4294967296 = (b1 : Int) := by omega
  obtain ⟨low, hlow⟩ : ∃ low, low = a0 * b0 := ⟨_, rfl⟩
  obtain ⟨lh, hlh⟩ : ∃ lh, lh = low / 4294967296 := ⟨_, rfl⟩
  obtain ⟨l0, hl0⟩ : ∃ l0, l0 = low % 4294967296 := ⟨_, rfl⟩
  obtain ⟨p10, hp10⟩ : ∃ p10, p10 = a1 * b0 := ⟨_, rfl⟩
  obtain ⟨p01, hp01⟩ : ∃ p01, p01 = a0 * b1 := ⟨_, rfl⟩
  obtain ⟨p11, hp11⟩ : ∃ p11, p11 = a1 * b1 := ⟨_, rfl⟩
  obtain ⟨x, hx⟩ : ∃ x, x = p10 + lh := ⟨_, rfl⟩
  obtain ⟨x0, hx0⟩ : ∃ x0, x0 = x % 4294967296 := ⟨_, rfl⟩
  obtain ⟨xh, hxh⟩ : ∃ xh, xh = x / 4294967296 := ⟨_, rfl⟩
  obtain ⟨y, hy⟩ : ∃ y, y = p01 + x0 := ⟨_, rfl⟩
  obtain ⟨yh, hyh⟩ : ∃ yh, yh = y / 4294967296 := ⟨_, rfl⟩
  obtain ⟨z, hz⟩ : ∃ z, z = p11 + xh := ⟨_, rfl⟩
  obtain ⟨hi, hhi⟩ : ∃ hi, hi = z + yh := ⟨_, rfl⟩
  obtain ⟨ys, hys⟩ : ∃ ys, ys = y % 4294967296 * 4294967296 := ⟨_, rfl⟩
  obtain ⟨lo, hlo⟩ : ∃ lo, lo = ys + l0 := ⟨_, rfl⟩
  simp only [← hlow, ← hlh, ← hp10, ← hp01, ← hp11, ← hx, ← hx0, ← hxh, ← hy, ← hyh, ← hz, ← hhi, ← hys, ← hl0, ← hlo] at hw
  obtain ⟨w1, w2, w3, w4, w5, w6, w7, w8, w9⟩ := hw
  have E1 : IntKind.u64.wrap ((a0 : Int) * (b0 : Int)) = (low : Int) := by rw [wrap_mulN' _ _ (by omega), hlow]
  have E2 : IntKind.u64.wrap ((a1 : Int) * (b0 : Int)) = (p10 : Int) := by rw [wrap_mulN' _ _ (by omega), hp10]
  have E3 : (low : Int) / 4294967296 = (lh : Int) := by omega
  have E4 : IntKind.u64.wrap ((p10 : Int) + (lh : Int)) = (x : Int) := by rw [wrap_addN _ _ (by omega), hx]
  have E5 : IntKind.u64.wrap ((a0 : Int) * (b1 : Int)) = (p01 : Int) := by rw [wrap_mulN' _ _ (by omega), hp01]
  have E6 : bits .and .u64 (x : Int) 4294967295 = (x0 : Int) := by rw [mask32 _ w2, hx0]
  have E7 : IntKind.u64.wrap ((p01 : Int) + (x0 : Int)) = (y : Int) := by rw [wrap_addN _ _ (by omega), hy]
  have E8 : IntKind.u64.wrap ((a1 : Int) * (b1 : Int)) = (p11 : Int) := by rw [wrap_mulN' _ _ (by omega), hp11]
  have E9 : (x : Int) / 4294967296 = (xh : Int) := by omega
  have E10 : IntKind.u64.wrap ((p11 : Int) + (xh : Int)) = (z : Int) := by rw [wrap_addN _ _ (by omega), hz]
  have E11 : (y : Int) / 4294967296 = (yh : Int) := by omega
  have E12 : IntKind.u64.wrap ((z : Int) + (yh : Int)) = (hi : Int) := by rw [wrap_addN _ _ (by omega), hhi]
  have E13 : IntKind.u64.wrap ((y : Int) * 4294967296) = (ys : Int) := by rw [IntKind.wrap_u64]; omega
  have E14 : bits .and .u64 (low : Int) 4294967295 = (l0 : Int) := by rw [mask32 _ w1, hl0]
  have E15 : bits .or .u64 (ys : Int) (l0 : Int) = (lo : Int) := by
    rw [orN _ _ (by omega) (by omega), hlo, hys, show 4294967296 = 2 ^ 32 from rfl, Dv.or_add _ _ _ (show l0 < 2 ^ 32 by omega)]
  have R1 : a * b / 18446744073709551616 = hi := by omega
  have R2 : a * b % 18446744073709551616 = lo := by omega
  rw [R1, R2]
  clear w1 w2 w3 w4 w5 w6 w7 w8 w9 R1 R2 ha0 ha1 hb0 hb1 hlow hlh hl0 hp10 hp01 hp11 hx hx0 hxh hy hyh hz hhi hys hlo ha hb
  go_enter Tryd.func7, Tryd.ntmps7
  go_wp2
  go_returns
  exact ⟨rfl, rfl⟩
end Go.Proofs.YtmjlifbnndmjoaaDoor
