/-
  word.divided, word.shifted, word.power by their contracts.
-/
import Derived.Test.YtmjlifbnndmjoaaDoorWordFn
import Derived.Deep.QuietTactic
import Derived.BigQuiet
set_option linter.unusedVariables false
namespace Go.Proofs.YtmjlifbnndmjoaaDoor
open Go.RowKit

theorem divided_zero (op a : Int) (w : World) :
    Calls Tryd.prog 23 #[.int .i64 op, .int .u64 a, .int .u64 0] w fun e w' => e = .returned (.int .u64 0) ∧ w = w' := by
  go_enter Tryd.func23, Tryd.ntmps23
  go_wp2
  go_ret
  exact ⟨rfl, rfl⟩
theorem divided_4 (a b q : Int) (w : World) (ha : 0 ≤ a) (hb : 1 ≤ b) (h0 : (b == 0) = false) (hq : IntKind.u64.wrap (a.tdiv b) = q) :
    Calls Tryd.prog 23 #[.int .i64 4, .int .u64 a, .int .u64 b] w fun e w' => e = .returned (.int .u64 q) ∧ w = w' := by
  go_enter Tryd.func23, Tryd.ntmps23
  go_wp2
  go_returns
  exact ⟨rfl, rfl⟩
theorem divided_6 (a b : Int) (w : World) (ha : 0 ≤ a) (hb : 1 ≤ b) (h0 : (b == 0) = false) :
    Calls Tryd.prog 23 #[.int .i64 6, .int .u64 a, .int .u64 b] w fun e w' => e = .returned (.int .u64 (a % b)) ∧ w = w' := by
  go_enter Tryd.func23, Tryd.ntmps23
  go_wp2
  go_returns
  exact ⟨rfl, rfl⟩
theorem divided_500 (a b q : Int) (w : World) (h0 : (b == 0) = false) (hb : decide (wrap64 b < 0) = false) (ha : decide (wrap64 a < 0) = false) (g0 : 0 ≤ a) (g1 : 1 ≤ b) (hq : IntKind.u64.wrap (a.tdiv b) = q) :
    Calls Tryd.prog 23 #[.int .i64 5, .int .u64 a, .int .u64 b] w fun e w' => e = .returned (.int .u64 q) ∧ w = w' := by
  go_enter Tryd.func23, Tryd.ntmps23
  go_wp2
  go_returns
  exact ⟨rfl, rfl⟩
theorem divided_501 (a b y q n : Int) (w : World) (h0 : (b == 0) = false) (hb : decide (wrap64 b < 0) = true) (ha : decide (wrap64 a < 0) = false) (hy : IntKind.u64.wrap (-b) = y) (g0 : 0 ≤ a) (g1 : 1 ≤ y) (hq : IntKind.u64.wrap (a.tdiv y) = q) (hn : IntKind.u64.wrap (-q) = n) :
    Calls Tryd.prog 23 #[.int .i64 5, .int .u64 a, .int .u64 b] w fun e w' => e = .returned (.int .u64 n) ∧ w = w' := by
  go_enter Tryd.func23, Tryd.ntmps23
  go_wp2
  go_returns
  exact ⟨rfl, rfl⟩
theorem divided_510 (a b x q n : Int) (w : World) (h0 : (b == 0) = false) (hb : decide (wrap64 b < 0) = false) (ha : decide (wrap64 a < 0) = true) (hx : IntKind.u64.wrap (-a) = x) (g0 : 0 ≤ x) (g1 : 1 ≤ b) (hq : IntKind.u64.wrap (x.tdiv b) = q) (hn : IntKind.u64.wrap (-q) = n) :
    Calls Tryd.prog 23 #[.int .i64 5, .int .u64 a, .int .u64 b] w fun e w' => e = .returned (.int .u64 n) ∧ w = w' := by
  go_enter Tryd.func23, Tryd.ntmps23
  go_wp2
  go_returns
  exact ⟨rfl, rfl⟩
theorem divided_511 (a b x y q : Int) (w : World) (h0 : (b == 0) = false) (hb : decide (wrap64 b < 0) = true) (ha : decide (wrap64 a < 0) = true) (hx : IntKind.u64.wrap (-a) = x) (hy : IntKind.u64.wrap (-b) = y) (g0 : 0 ≤ x) (g1 : 1 ≤ y) (hq : IntKind.u64.wrap (x.tdiv y) = q) :
    Calls Tryd.prog 23 #[.int .i64 5, .int .u64 a, .int .u64 b] w fun e w' => e = .returned (.int .u64 q) ∧ w = w' := by
  go_enter Tryd.func23, Tryd.ntmps23
  go_wp2
  go_returns
  exact ⟨rfl, rfl⟩
theorem divided_700 (a b : Int) (w : World) (h0 : (b == 0) = false) (hb : decide (wrap64 b < 0) = false) (ha : decide (wrap64 a < 0) = false) (g0 : 0 ≤ a) (g1 : 1 ≤ b) :
    Calls Tryd.prog 23 #[.int .i64 7, .int .u64 a, .int .u64 b] w fun e w' => e = .returned (.int .u64 (a % b)) ∧ w = w' := by
  go_enter Tryd.func23, Tryd.ntmps23
  go_wp2
  go_returns
  exact ⟨rfl, rfl⟩
theorem divided_701 (a b y : Int) (w : World) (h0 : (b == 0) = false) (hb : decide (wrap64 b < 0) = true) (ha : decide (wrap64 a < 0) = false) (hy : IntKind.u64.wrap (-b) = y) (g0 : 0 ≤ a) (g1 : 1 ≤ y) :
    Calls Tryd.prog 23 #[.int .i64 7, .int .u64 a, .int .u64 b] w fun e w' => e = .returned (.int .u64 (a % y)) ∧ w = w' := by
  go_enter Tryd.func23, Tryd.ntmps23
  go_wp2
  go_returns
  exact ⟨rfl, rfl⟩
theorem divided_710 (a b x r : Int) (w : World) (h0 : (b == 0) = false) (hb : decide (wrap64 b < 0) = false) (ha : decide (wrap64 a < 0) = true) (hx : IntKind.u64.wrap (-a) = x) (g0 : 0 ≤ x) (g1 : 1 ≤ b) (hr : IntKind.u64.wrap (-(x % b)) = r) :
    Calls Tryd.prog 23 #[.int .i64 7, .int .u64 a, .int .u64 b] w fun e w' => e = .returned (.int .u64 r) ∧ w = w' := by
  go_enter Tryd.func23, Tryd.ntmps23
  go_wp2
  go_returns
  exact ⟨rfl, rfl⟩
theorem divided_711 (a b x y r : Int) (w : World) (h0 : (b == 0) = false) (hb : decide (wrap64 b < 0) = true) (ha : decide (wrap64 a < 0) = true) (hx : IntKind.u64.wrap (-a) = x) (hy : IntKind.u64.wrap (-b) = y) (g0 : 0 ≤ x) (g1 : 1 ≤ y) (hr : IntKind.u64.wrap (-(x % y)) = r) :
    Calls Tryd.prog 23 #[.int .i64 7, .int .u64 a, .int .u64 b] w fun e w' => e = .returned (.int .u64 r) ∧ w = w' := by
  go_enter Tryd.func23, Tryd.ntmps23
  go_wp2
  go_returns
  exact ⟨rfl, rfl⟩

theorem shifted_11far (a b : Int) (w : World) (h7 : 7 ≤ a) :
    Calls Tryd.prog 26 #[.int .i64 11, .int .u64 a, .int .u64 b] w fun e w' => e = .returned (.int .u64 b) ∧ w = w' := by
  go_enter Tryd.func26, Tryd.ntmps26
  go_wp2
  go_returns
  exact ⟨rfl, rfl⟩
theorem shifted_11 (a b : Int) (w : World) (ha : 0 ≤ a) (h7 : a < 7) :
    Calls Tryd.prog 26 #[.int .i64 11, .int .u64 a, .int .u64 b] w fun e w' => e = .returned (.int .u64 (IntKind.u64.wrap (wrap64 (IntKind.u64.wrap (b * 2 ^ (56 - 8 * a).toNat)) / 2 ^ (56 - 8 * a).toNat))) ∧ w = w' := by
  go_enter Tryd.func26, Tryd.ntmps26
  go_wp2
  go_returns
  exact ⟨rfl, rfl⟩
theorem shifted_12far (a b : Int) (w : World) (h7 : 7 < a) :
    Calls Tryd.prog 26 #[.int .i64 12, .int .u64 a, .int .u64 b] w fun e w' => e = .returned (.int .u64 0) ∧ w = w' := by
  go_enter Tryd.func26, Tryd.ntmps26
  go_wp2
  go_returns
  exact ⟨rfl, rfl⟩
theorem shifted_12 (a b : Int) (w : World) (ha : 0 ≤ a) (h7 : a ≤ 7) :
    Calls Tryd.prog 26 #[.int .i64 12, .int .u64 a, .int .u64 b] w fun e w' => e = .returned (.int .u64 (bits .and .u64 (b / 2 ^ (56 - 8 * a).toNat) 255)) ∧ w = w' := by
  go_enter Tryd.func26, Tryd.ntmps26
  go_wp2
  go_returns
  exact ⟨rfl, rfl⟩
theorem shifted_13 (a b : Int) (w : World) (ha : 0 ≤ a) :
    Calls Tryd.prog 26 #[.int .i64 13, .int .u64 a, .int .u64 b] w fun e w' => e = .returned (.int .u64 (IntKind.u64.wrap (b * 2 ^ min a.toNat 64))) ∧ w = w' := by
  go_enter Tryd.func26, Tryd.ntmps26
  go_wp2
  go_returns
  exact ⟨rfl, rfl⟩
theorem shifted_14 (a b : Int) (w : World) (ha : 0 ≤ a) :
    Calls Tryd.prog 26 #[.int .i64 14, .int .u64 a, .int .u64 b] w fun e w' => e = .returned (.int .u64 (b / 2 ^ min a.toNat 64)) ∧ w = w' := by
  go_enter Tryd.func26, Tryd.ntmps26
  go_wp2
  go_returns
  exact ⟨rfl, rfl⟩
theorem shifted_15 (a b : Int) (w : World) (ha : 0 ≤ a) :
    Calls Tryd.prog 26 #[.int .i64 15, .int .u64 a, .int .u64 b] w fun e w' => e = .returned (.int .u64 (IntKind.u64.wrap (wrap64 b / 2 ^ min a.toNat 64))) ∧ w = w' := by
  go_enter Tryd.func26, Tryd.ntmps26
  go_wp2
  go_returns
  exact ⟨rfl, rfl⟩
theorem power_calls (A : BitVec 64) (N : Nat) (hN : N ≤ 18446744073709551615) (w : World) :
    Calls Tryd.prog 25 #[.int .u64 (val A), .int .u64 N] w fun e w' => e = .returned (.int .u64 (val (A ^ N))) ∧ w = w' := by
  go_enter Tryd.func25, Tryd.ntmps25
  go_wp2
  go_loop [0, 1, 5] (fun x n p => ∃ (P X : BitVec 64) (k : Nat), x = .int .u64 (val X) ∧ n = .int .u64 k ∧ p = .int .u64 (val P) ∧ (k : Int) ≤ 18446744073709551615 ∧ Hid (P * X ^ k = A ^ N)) (fun _ n _ => (intOf n).toNat)
  case atStart => exact ⟨1, A, N, rfl, rfl, rfl, by omega, by show (1 : BitVec 64) * A ^ N = A ^ N; simp⟩
  case round =>
    obtain ⟨P, X, k, rfl, rfl, rfl, hk, hP⟩ := hrel
    have hs : IntKind.u64.wrap (val X * val X) = val (X * X) := (val_mul X X).symm
    have hm : IntKind.u64.wrap (val P * val X) = val (P * X) := (val_mul P X).symm
    by_cases h0 : 0 < k
    · have ea := and_one_u64 (k : Int) (by omega) hk
      have h1 : (0 : Int) < k := by omega
      by_cases ho : k % 2 = 1
      · have hb1 : ((k : Int) % 2 == 1) = true := by simp; omega
        have HS : Hid ((P * X) * (X * X) ^ (k / 2) = A ^ N) := by show _ = _; rw [← pow_odd P X k ho]; exact hP.out
        clear ho h0
        go_wp2
        go_round
        case rel => exact ⟨P * X, X * X, k / 2, rfl, by go_num, rfl, by omega, HS⟩
        case measure => simp [intOf]; omega
      · have hb1 : ((k : Int) % 2 == 1) = false := by simp; omega
        have HS : Hid (P * (X * X) ^ (k / 2) = A ^ N) := by show _ = _; rw [← pow_even P X k (by omega)]; exact hP.out
        clear ho h0
        go_wp2
        go_round
        case rel => exact ⟨P, X * X, k / 2, rfl, by go_num, rfl, by omega, HS⟩
        case measure => simp [intOf]; omega
    · have h1 : (k : Int) = 0 := by omega
      have HS : Hid (P = A ^ N) := by
        have e : k = 0 := by omega
        subst e
        have := hP.out
        rw [BitVec.pow_zero, BitVec.mul_one] at this
        exact this
      clear h0 hP
      go_wp2
      go_returns
      exact ⟨by rw [← HS.out]; rfl, rfl⟩
end Go.Proofs.YtmjlifbnndmjoaaDoor
