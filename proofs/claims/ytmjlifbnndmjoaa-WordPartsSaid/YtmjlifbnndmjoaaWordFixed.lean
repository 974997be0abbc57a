/-
  mootlaw01's 'fixed' and 'at' by their contracts.
-/
import Derived.Test.YtmjlifbnndmjoaaWordAp
import Derived.Test.YtmjlifbnndmjoaaShelf
set_option linter.unusedVariables false
namespace Go.Proofs.Ytmjlifbnndmjoaa
open Go.RowKit

theorem wide_calls (x y : Nat) (hx : x < 18446744073709551616) (hy : y < 18446744073709551616) (w : World) :
    Calls Try.prog 14 #[.int .u64 x, .int .u64 y] w fun e w' => e = .returned (.tuple #[.int .u64 ((x * y / 18446744073709551616 : Nat) : Int), .int .u64 ((x * y % 18446744073709551616 : Nat) : Int)]) ∧ w = w' := by
  go_enter Try.func14, Try.ntmps14
  go_wp2_with (go_at_call 21; (with_reducible refine (Try.bits_Mul64 x y hx hy _).mono ?_); rintro e w' ⟨rfl, rfl⟩)
  go_returns
  exact ⟨rfl, rfl⟩
theorem wide_fixed (w : World) :
    Calls Try.prog 14 #[.int .u64 9223372036854775808, .int .u64 6] w fun e w' => e = .returned (.tuple #[.int .u64 3, .int .u64 0]) ∧ w = w' :=
  wide_calls 9223372036854775808 6 (by omega) (by omega) w
theorem apply_fixed (w : World) : Calls Try.prog 13 #[.int .i64 5, .int .u64 18446744073709551609, .int .u64 2, .int .u64 0] w (Answers 18446744073709551613 w) := by
  have h := apply_5 18446744073709551609 2 0 ⟨by decide, by decide⟩ ⟨by decide, by decide⟩ w
  rw [show apZ 5 18446744073709551609 2 0 = 18446744073709551613 by decide] at h
  exact h
theorem fixed01_calls (w : World) : Calls Try.prog 9 #[] w fun e w' => e = .returned (.bool true) ∧ w = w' := by
  go_enter Try.func9, Try.ntmps9
  go_wp2_with (first
    | (go_at_call 13; (with_reducible refine (apply_fixed _).mono ?_); rintro e w' ⟨rfl, rfl⟩)
    | (go_at_call 14; (with_reducible refine (wide_fixed _).mono ?_); rintro e w' ⟨rfl, rfl⟩)
    | (go_at_call 13; (with_reducible refine (apply_26 1 1 1 _).mono ?_); rintro e w' ⟨rfl, rfl⟩)
    | (go_at_call 15; refine (is_num _ _ _).mono ?_; rintro e w' ⟨rfl, rfl⟩))
  go_returns
  exact ⟨rfl, rfl⟩
theorem at_V (O : Int) (op : Nat) (hO : O = op) (h1 : 1 ≤ op) (h2 : op ≤ 25) (h8 : op ≠ 8) (h9 : op ≠ 9) (a b : Int) (ha : R64 a) (hb : R64 b) (w : World) :
    Calls Try.prog 10 #[.int .i64 O, .int .u64 a, .int .u64 b] w fun e w' => e = .returned (.int .u64 (apZ op a b 0)) ∧ w = w' := by
  have HO := Lib.hid hO
  clear hO
  go_enter Try.func10, Try.ntmps10
  go_wp2_with (go_at_call 13; (with_reducible refine (apply_V O op HO.out h1 h2 h8 h9 a b 0 ha hb _).mono ?_); rintro e w' ⟨rfl, rfl⟩)
  go_returns
  exact ⟨rfl, rfl⟩
theorem R64_wf {a : Int} (h : (Lit.int .u64 a).wf = true) : R64 a := ⟨(u64_wf h).1, (u64_wf h).2⟩
theorem beqT {x y : Int} (h : x = y) : (x == y) = true := by simpa using h
theorem R0 : R64 0 := ⟨by decide, by decide⟩
theorem R1 : R64 1 := ⟨by decide, by decide⟩
theorem R2 : R64 2 := ⟨by decide, by decide⟩
theorem Rmax : R64 18446744073709551615 := ⟨by decide, by decide⟩
end Go.Proofs.Ytmjlifbnndmjoaa
