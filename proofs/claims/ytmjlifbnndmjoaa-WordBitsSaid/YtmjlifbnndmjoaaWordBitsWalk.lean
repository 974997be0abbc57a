/-
  The walk of WordBits: it returns true for every input.
-/
import Derived.Test.YtmjlifbnndmjoaaWordFixed
set_option linter.unusedVariables false
namespace Go.Proofs.Ytmjlifbnndmjoaa
open Go.RowKit

theorem wb1 (a b : Int) : apZ 25 (apZ 22 a b 0) 0 0 = apZ 23 (apZ 25 a 0 0) (apZ 25 b 0 0) 0 := by simp only [apZ, w64_val, Wrd.ap]; rw [Wrd.bits1]
theorem wb2 (a b : Int) : apZ 1 (apZ 22 a b 0) (apZ 23 a b 0) 0 = apZ 1 a b 0 := by simp only [apZ, w64_val, Wrd.ap]; rw [Wrd.and_add_or]
theorem wb3 (a b : Int) : apZ 24 a b 0 = apZ 2 (apZ 23 a b 0) (apZ 22 a b 0) 0 := by simp only [apZ, w64_val, Wrd.ap]; rw [Wrd.bits2]
theorem wb4 (a : Int) : apZ 25 a 0 0 = apZ 2 18446744073709551615 a 0 := by
  simp only [apZ, Wrd.ap]; rw [Wrd.bits3, show W64 18446744073709551615 = 18446744073709551615 by decide]
theorem wb5 {a : Int} (ha : R64 a) : apZ 25 (apZ 25 a 0 0) 0 0 = a := by
  have := congrArg val (Wrd.bits4 (W64 a))
  rw [val_w64 ha] at this
  simp only [apZ, w64_val, Wrd.ap]; exact this
theorem not_calls (x : Int) (hx : R64 x) (w : World) : Calls Try.prog 11 #[.int .u64 x] w fun e w' => e = .returned (.int .u64 (apZ 25 x 0 0)) ∧ w = w' := by
  have r0 := R0
  go_enter Try.func11, Try.ntmps11
  go_wp2_with (first
    | (go_at_call 9; (with_reducible refine (fixed01_calls _).mono ?_); rintro e w' ⟨rfl, rfl⟩)
    | (go_at_call 10; (with_reducible refine (at_V 25 25 rfl (by decide) (by decide) (by decide) (by decide) _ _ ?_ ?_ _).mono ?_); (any_goals (first | assumption | exact apZ_R _ _ _ _)); rintro e w' ⟨rfl, rfl⟩)
    | fail)
  go_returns
  exact ⟨rfl, rfl⟩
set_option maxRecDepth 100000 in
set_option maxHeartbeats 4000000 in
theorem wordBits_walk (w : World) (a0 : Int) (w0 : (Lit.int .u64 a0).wf = true) (a1 : Int) (w1 : (Lit.int .u64 a1).wf = true) :
    Calls Try.prog 4 #[.int .u64 a0, .int .u64 a1] w fun e w' => e = .returned (.bool true) ∧ Below w.heap.size w w' := by
  have ra := R64_wf w0
  have rb := R64_wf w1
  have rm := Rmax
  clear w0 w1
  have e1 := beqT (wb1 a0 a1)
  have e2 := beqT (wb2 a0 a1)
  have e3 := beqT (wb3 a0 a1)
  have e4 := beqT (wb4 a0)
  have e5 := beqT (wb5 ra)
  go_enter Try.func4, Try.ntmps4
  go_wp2_with (first
    | (go_at_call 9; (with_reducible refine (fixed01_calls _).mono ?_); rintro e w' ⟨rfl, rfl⟩)
    | (go_at_call 10; (with_reducible refine (at_V 22 22 rfl (by decide) (by decide) (by decide) (by decide) _ _ ?_ ?_ _).mono ?_); (any_goals (first | assumption | exact apZ_R _ _ _ _)); rintro e w' ⟨rfl, rfl⟩)
    | (go_at_call 10; (with_reducible refine (at_V 23 23 rfl (by decide) (by decide) (by decide) (by decide) _ _ ?_ ?_ _).mono ?_); (any_goals (first | assumption | exact apZ_R _ _ _ _)); rintro e w' ⟨rfl, rfl⟩)
    | (go_at_call 10; (with_reducible refine (at_V 24 24 rfl (by decide) (by decide) (by decide) (by decide) _ _ ?_ ?_ _).mono ?_); (any_goals (first | assumption | exact apZ_R _ _ _ _)); rintro e w' ⟨rfl, rfl⟩)
    | (go_at_call 10; (with_reducible refine (at_V 1 1 rfl (by decide) (by decide) (by decide) (by decide) _ _ ?_ ?_ _).mono ?_); (any_goals (first | assumption | exact apZ_R _ _ _ _)); rintro e w' ⟨rfl, rfl⟩)
    | (go_at_call 10; (with_reducible refine (at_V 2 2 rfl (by decide) (by decide) (by decide) (by decide) _ _ ?_ ?_ _).mono ?_); (any_goals (first | assumption | exact apZ_R _ _ _ _)); rintro e w' ⟨rfl, rfl⟩)
    | (go_at_call 11; (with_reducible refine (not_calls _ ?_ _).mono ?_); (any_goals (first | assumption | exact apZ_R _ _ _ _)); rintro e w' ⟨rfl, rfl⟩))
  go_returns
  exact ⟨rfl, by (repeat' (first | (with_reducible exact Below.refl _ _) | (with_reducible refine Below.alloc ?_ ?_ _) | (with_reducible refine Below.drew ?_) | (with_reducible refine Below.setCell ?_ ?_ _) | (with_reducible refine Below.thn (by assumption) ?_ ?_) | (with_reducible refine below_drewN ?_ _) | go_size))⟩
end Go.Proofs.Ytmjlifbnndmjoaa
