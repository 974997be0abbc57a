/-
  mootlaw01's 'fixed' and 'at' by their contracts.
-/
import Derived.Test.YtmjlifbnndmjoaaDoorWordAp
import Derived.Test.YtmjlifbnndmjoaaDoorShelf
set_option linter.unusedVariables false
namespace Go.Proofs.YtmjlifbnndmjoaaDoor
open Go.RowKit

theorem wide_calls (x y : Nat) (hx : x < 18446744073709551616) (hy : y < 18446744073709551616) (w : World) :
    Calls Tryd.prog 6 #[.int .u64 x, .int .u64 y] w fun e w' => e = .returned (.tuple #[.int .u64 ((x * y / 18446744073709551616 : Nat) : Int), .int .u64 ((x * y % 18446744073709551616 : Nat) : Int)]) ∧ w = w' := by
  go_enter Tryd.func6, Tryd.ntmps6
  go_wp2_with (go_at_call 18; (with_reducible refine (Tryd.bits_Mul64 x y hx hy _).mono ?_); rintro e w' ⟨rfl, rfl⟩)
  go_returns
  exact ⟨rfl, rfl⟩
theorem wide_fixed (w : World) :
    Calls Tryd.prog 6 #[.int .u64 9223372036854775808, .int .u64 6] w fun e w' => e = .returned (.tuple #[.int .u64 3, .int .u64 0]) ∧ w = w' :=
  wide_calls 9223372036854775808 6 (by omega) (by omega) w
theorem apply_fixed (w : World) : Calls Tryd.prog 12 #[.int .i64 5, .int .u64 18446744073709551609, .int .u64 2, .int .u64 0] w (Answers 18446744073709551613 w) := by
  have h := apply_5 18446744073709551609 2 0 ⟨by decide, by decide⟩ ⟨by decide, by decide⟩ w
  rw [show apZ 5 18446744073709551609 2 0 = 18446744073709551613 by decide] at h
  exact h
theorem fixed01_calls (w : World) : Calls Tryd.prog 10 #[] w fun e w' => e = .returned (.bool true) ∧ w = w' := by
  go_enter Tryd.func10, Tryd.ntmps10
  go_wp2_with (first
    | (go_at_call 12; (with_reducible refine (apply_fixed _).mono ?_); rintro e w' ⟨rfl, rfl⟩)
    | (go_at_call 6; (with_reducible refine (wide_fixed _).mono ?_); rintro e w' ⟨rfl, rfl⟩)
    | (go_at_call 12; (with_reducible refine (apply_26 1 1 1 _).mono ?_); rintro e w' ⟨rfl, rfl⟩)
    | (go_at_call 21; refine (is_num _ _ _).mono ?_; rintro e w' ⟨rfl, rfl⟩))
  go_returns
  exact ⟨rfl, rfl⟩
theorem R64_wf {a : Int} (h : (Lit.int .u64 a).wf = true) : R64 a := ⟨(u64_wf h).1, (u64_wf h).2⟩
theorem beqT {x y : Int} (h : x = y) : (x == y) = true := by simpa using h
theorem R0 : R64 0 := ⟨by decide, by decide⟩
theorem R1 : R64 1 := ⟨by decide, by decide⟩
theorem R2 : R64 2 := ⟨by decide, by decide⟩
theorem Rmax : R64 18446744073709551615 := ⟨by decide, by decide⟩
end Go.Proofs.YtmjlifbnndmjoaaDoor
