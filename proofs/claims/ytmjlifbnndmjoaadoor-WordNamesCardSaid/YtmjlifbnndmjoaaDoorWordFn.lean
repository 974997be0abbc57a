/-
  The functions of package word by their contracts: Apply, the operations without a callee of their own.
-/
import Derived.Test.YtmjlifbnndmjoaaDoorWordVal
import Derived.Test.YtmjlifbnndmjoaaDoorErrs
import Derived.Test.YtmjlifbnndmjoaaDoorAid
import Derived.Outline
import Derived.WalkSmall
import Derived.Deep.Cut
set_option linter.unusedVariables false
namespace Go.Proofs.YtmjlifbnndmjoaaDoor
open Go.RowKit

theorem flag_calls (x : Bool) (w : World) : Calls Tryd.prog 27 #[.bool x] w fun e w' => e = .returned (.int .u64 (flagI x)) ∧ w = w' := by
  cases x
  · rw [flagI_false]
    go_enter Tryd.func27, Tryd.ntmps27
    go_wp2
    go_ret
    exact ⟨rfl, rfl⟩
  · rw [flagI_true]
    go_enter Tryd.func27, Tryd.ntmps27
    go_wp2
    go_ret
    exact ⟨rfl, rfl⟩

theorem apply_1 (a b c : Int) (w : World) :
    Calls Tryd.prog 12 #[.int .i64 1, .int .u64 a, .int .u64 b, .int .u64 c] w fun e w' => e = .returned (.tuple #[.int .u64 (IntKind.u64.wrap (a + b)), .nilIface]) ∧ w = w' := by
  go_enter Tryd.func12, Tryd.ntmps12
  go_upto_if 11 with (fail)
  refine wp_cond_true rfl ?_
  refine wp_exit ?_
  conv => whnf
  go_wp2
  go_returns
  exact ⟨rfl, rfl⟩

theorem apply_2 (a b c : Int) (w : World) :
    Calls Tryd.prog 12 #[.int .i64 2, .int .u64 a, .int .u64 b, .int .u64 c] w fun e w' => e = .returned (.tuple #[.int .u64 (IntKind.u64.wrap (a - b)), .nilIface]) ∧ w = w' := by
  go_enter Tryd.func12, Tryd.ntmps12
  go_upto_if 13 with (fail)
  refine wp_cond_true rfl ?_
  refine wp_exit ?_
  conv => whnf
  go_wp2
  go_returns
  exact ⟨rfl, rfl⟩

theorem apply_3 (a b c : Int) (w : World) :
    Calls Tryd.prog 12 #[.int .i64 3, .int .u64 a, .int .u64 b, .int .u64 c] w fun e w' => e = .returned (.tuple #[.int .u64 (IntKind.u64.wrap (a * b)), .nilIface]) ∧ w = w' := by
  go_enter Tryd.func12, Tryd.ntmps12
  go_upto_if 15 with (fail)
  refine wp_cond_true rfl ?_
  refine wp_exit ?_
  conv => whnf
  go_wp2
  go_returns
  exact ⟨rfl, rfl⟩

theorem apply_22 (a b c : Int) (w : World) :
    Calls Tryd.prog 12 #[.int .i64 22, .int .u64 a, .int .u64 b, .int .u64 c] w fun e w' => e = .returned (.tuple #[.int .u64 (bits .and .u64 a b), .nilIface]) ∧ w = w' := by
  go_enter Tryd.func12, Tryd.ntmps12
  go_upto_if 45 with (fail)
  refine wp_cond_true rfl ?_
  refine wp_exit ?_
  conv => whnf
  go_wp2
  go_returns
  exact ⟨rfl, rfl⟩

theorem apply_23 (a b c : Int) (w : World) :
    Calls Tryd.prog 12 #[.int .i64 23, .int .u64 a, .int .u64 b, .int .u64 c] w fun e w' => e = .returned (.tuple #[.int .u64 (bits .or .u64 a b), .nilIface]) ∧ w = w' := by
  go_enter Tryd.func12, Tryd.ntmps12
  go_upto_if 47 with (fail)
  refine wp_cond_true rfl ?_
  refine wp_exit ?_
  conv => whnf
  go_wp2
  go_returns
  exact ⟨rfl, rfl⟩

theorem apply_24 (a b c : Int) (w : World) :
    Calls Tryd.prog 12 #[.int .i64 24, .int .u64 a, .int .u64 b, .int .u64 c] w fun e w' => e = .returned (.tuple #[.int .u64 (bits .xor .u64 a b), .nilIface]) ∧ w = w' := by
  go_enter Tryd.func12, Tryd.ntmps12
  go_upto_if 51 with (fail)
  refine wp_cond_true rfl ?_
  refine wp_exit ?_
  conv => whnf
  go_wp2
  go_returns
  exact ⟨rfl, rfl⟩

theorem apply_25 (a b c : Int) (w : World) :
    Calls Tryd.prog 12 #[.int .i64 25, .int .u64 a, .int .u64 b, .int .u64 c] w fun e w' => e = .returned (.tuple #[.int .u64 (bits .xor .u64 a 18446744073709551615), .nilIface]) ∧ w = w' := by
  go_enter Tryd.func12, Tryd.ntmps12
  go_upto_if 49 with (fail)
  refine wp_cond_true rfl ?_
  refine wp_exit ?_
  conv => whnf
  go_wp2
  go_returns
  exact ⟨rfl, rfl⟩

theorem apply_16 (a b c : Int) (w : World) :
    Calls Tryd.prog 12 #[.int .i64 16, .int .u64 a, .int .u64 b, .int .u64 c] w fun e w' => e = .returned (.tuple #[.int .u64 (flagI (decide (a < b))), .nilIface]) ∧ w = w' := by
  go_enter Tryd.func12, Tryd.ntmps12
  go_upto_if 35 with (fail)
  refine wp_cond_true rfl ?_
  refine wp_exit ?_
  conv => whnf
  go_wp2_with (go_at_call 27; (with_reducible refine (flag_calls _ _).mono ?_); rintro e w' ⟨rfl, rfl⟩)
  go_returns
  exact ⟨rfl, rfl⟩

theorem apply_17 (a b c : Int) (w : World) :
    Calls Tryd.prog 12 #[.int .i64 17, .int .u64 a, .int .u64 b, .int .u64 c] w fun e w' => e = .returned (.tuple #[.int .u64 (flagI (decide (b < a))), .nilIface]) ∧ w = w' := by
  go_enter Tryd.func12, Tryd.ntmps12
  go_upto_if 33 with (fail)
  refine wp_cond_true rfl ?_
  refine wp_exit ?_
  conv => whnf
  go_wp2_with (go_at_call 27; (with_reducible refine (flag_calls _ _).mono ?_); rintro e w' ⟨rfl, rfl⟩)
  go_returns
  exact ⟨rfl, rfl⟩

theorem apply_18 (a b c : Int) (w : World) :
    Calls Tryd.prog 12 #[.int .i64 18, .int .u64 a, .int .u64 b, .int .u64 c] w fun e w' => e = .returned (.tuple #[.int .u64 (flagI (decide (wrap64 a < wrap64 b))), .nilIface]) ∧ w = w' := by
  go_enter Tryd.func12, Tryd.ntmps12
  go_upto_if 39 with (fail)
  refine wp_cond_true rfl ?_
  refine wp_exit ?_
  conv => whnf
  go_wp2_with (go_at_call 27; (with_reducible refine (flag_calls _ _).mono ?_); rintro e w' ⟨rfl, rfl⟩)
  go_returns
  exact ⟨rfl, rfl⟩

theorem apply_19 (a b c : Int) (w : World) :
    Calls Tryd.prog 12 #[.int .i64 19, .int .u64 a, .int .u64 b, .int .u64 c] w fun e w' => e = .returned (.tuple #[.int .u64 (flagI (decide (wrap64 b < wrap64 a))), .nilIface]) ∧ w = w' := by
  go_enter Tryd.func12, Tryd.ntmps12
  go_upto_if 37 with (fail)
  refine wp_cond_true rfl ?_
  refine wp_exit ?_
  conv => whnf
  go_wp2_with (go_at_call 27; (with_reducible refine (flag_calls _ _).mono ?_); rintro e w' ⟨rfl, rfl⟩)
  go_returns
  exact ⟨rfl, rfl⟩

theorem apply_20 (a b c : Int) (w : World) :
    Calls Tryd.prog 12 #[.int .i64 20, .int .u64 a, .int .u64 b, .int .u64 c] w fun e w' => e = .returned (.tuple #[.int .u64 (flagI (a == b)), .nilIface]) ∧ w = w' := by
  go_enter Tryd.func12, Tryd.ntmps12
  go_upto_if 43 with (fail)
  refine wp_cond_true rfl ?_
  refine wp_exit ?_
  conv => whnf
  go_wp2_with (go_at_call 27; (with_reducible refine (flag_calls _ _).mono ?_); rintro e w' ⟨rfl, rfl⟩)
  go_returns
  exact ⟨rfl, rfl⟩

theorem apply_21 (a b c : Int) (w : World) :
    Calls Tryd.prog 12 #[.int .i64 21, .int .u64 a, .int .u64 b, .int .u64 c] w fun e w' => e = .returned (.tuple #[.int .u64 (flagI (a == 0)), .nilIface]) ∧ w = w' := by
  go_enter Tryd.func12, Tryd.ntmps12
  go_upto_if 41 with (fail)
  refine wp_cond_true rfl ?_
  refine wp_exit ?_
  conv => whnf
  go_wp2_with (go_at_call 27; (with_reducible refine (flag_calls _ _).mono ?_); rintro e w' ⟨rfl, rfl⟩)
  go_returns
  exact ⟨rfl, rfl⟩

theorem apply_26 (a b c : Int) (w : World) :
    Calls Tryd.prog 12 #[.int .i64 26, .int .u64 a, .int .u64 b, .int .u64 c] w fun e w' => e = .returned (.tuple #[.int .u64 0, .iface 43 (.int .i64 10)]) ∧ w = w' := by
  go_enter Tryd.func12, Tryd.ntmps12
  go_upto_if 51 with (fail)
  refine wp_cond_false rfl ?_
  refine wp_skip ?_
  conv => whnf
  apply_assumption
  refine wp_exit ?_
  conv => whnf
  go_wp2
  go_returns
  exact ⟨rfl, rfl⟩
end Go.Proofs.YtmjlifbnndmjoaaDoor
