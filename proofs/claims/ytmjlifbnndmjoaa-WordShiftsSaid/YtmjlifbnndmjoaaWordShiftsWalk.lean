/-
  The walk of WordShifts: it returns true for every input.
-/
import Derived.Test.YtmjlifbnndmjoaaWordFixed
set_option linter.unusedVariables false
namespace Go.Proofs.Ytmjlifbnndmjoaa
open Go.RowKit

theorem w64_two : W64 2 = 2 := by decide
theorem ws0 (n : Int) : W64 (apZ 10 2 n 0) = (2 : BitVec 64) ^ (W64 n).toNat := by rw [w64_apZ, w64_two]; rfl
theorem ws1 (a n : Int) : apZ 13 n a 0 = apZ 3 a (apZ 10 2 n 0) 0 := by
  show val (W64 a <<< (W64 n).toNat) = val (W64 a * W64 (apZ 10 2 n 0)); rw [ws0, Wrd.shl_mul]
theorem ws2 (a n : Int) : apZ 15 n (apZ 25 a 0 0) 0 = apZ 25 (apZ 15 n a 0) 0 0 := by
  show val ((W64 (apZ 25 a 0 0)).sshiftRight (W64 n).toNat) = val (~~~ (W64 (apZ 15 n a 0)))
  rw [w64_apZ, w64_apZ]; exact congrArg val (Wrd.sar_not _ _)
theorem ws3 {a n : Int} (hn : R64 n) (h : n < 64) : apZ 14 n a 0 = apZ 4 a (apZ 10 2 n 0) 0 := by
  show val (W64 a >>> (W64 n).toNat) = val (W64 a / W64 (apZ 10 2 n 0)); rw [ws0, Wrd.shr_div _ _ (by rw [toNat_w64 hn]; have := hn.lo; omega)]
theorem half_R {a : Int} (ha : R64 a) : R64 (a / 2) := ⟨by have := ha.lo; omega, by have := ha.lo; have := ha.hi; omega⟩
theorem w64_half {a : Int} (ha : R64 a) : W64 (a / 2) = W64 a >>> 1 := by
  apply val_inj; rw [val_w64 (half_R ha), val_shr, val_w64 ha]; rfl
theorem ws4 {a : Int} (n : Int) (ha : R64 a) : apZ 15 n (a / 2) 0 = apZ 14 n (a / 2) 0 := by
  show val ((W64 (a / 2)).sshiftRight (W64 n).toNat) = val (W64 (a / 2) >>> (W64 n).toNat); rw [w64_half ha, Wrd.sar_pos]
theorem ws5 (a : Int) {n : Int} (hn : R64 n) (h : 64 ≤ n) : apZ 13 n a 0 = 0 := by
  show val (W64 a <<< (W64 n).toNat) = 0; rw [Wrd.shl_big _ _ (by rw [toNat_w64 hn]; omega)]; rfl
theorem ws6 (a : Int) {n : Int} (hn : R64 n) (h : 64 ≤ n) : apZ 14 n a 0 = 0 := by
  show val (W64 a >>> (W64 n).toNat) = 0; rw [Wrd.shr_big _ _ (by rw [toNat_w64 hn]; omega)]; rfl
set_option maxRecDepth 100000 in
set_option maxHeartbeats 4000000 in
theorem wordShifts_walk (w : World) (a0 : Int) (w0 : (Lit.int .u64 a0).wf = true) (a1 : Int) (w1 : (Lit.int .u64 a1).wf = true) :
    Calls Try.prog 5 #[.int .u64 a0, .int .u64 a1] w fun e w' => e = .returned (.bool true) ∧ Below w.heap.size w w' := by
  have ra := R64_wf w0
  have rn := R64_wf w1
  have r0 := R0
  have r2 := R2
  have rh := half_R ra
  have b0 := ra.lo
  clear w0 w1
  have e1 := beqT (ws1 a0 a1)
  have e2 := beqT (ws2 a0 a1)
  by_cases h : a1 < 64
  · have e3 := beqT (ws3 (a := a0) rn h)
    have e4 := beqT (ws4 a1 ra)
    go_enter Try.func5, Try.ntmps5
    go_wp2_with (first
    | (go_at_call 9; (with_reducible refine (fixed01_calls _).mono ?_); rintro e w' ⟨rfl, rfl⟩)
    | (go_at_call 10; (with_reducible refine (at_V 10 10 rfl (by decide) (by decide) (by decide) (by decide) _ _ ?_ ?_ _).mono ?_); (any_goals (first | assumption | exact apZ_R _ _ _ _)); rintro e w' ⟨rfl, rfl⟩)
    | (go_at_call 10; (with_reducible refine (at_V 13 13 rfl (by decide) (by decide) (by decide) (by decide) _ _ ?_ ?_ _).mono ?_); (any_goals (first | assumption | exact apZ_R _ _ _ _)); rintro e w' ⟨rfl, rfl⟩)
    | (go_at_call 10; (with_reducible refine (at_V 3 3 rfl (by decide) (by decide) (by decide) (by decide) _ _ ?_ ?_ _).mono ?_); (any_goals (first | assumption | exact apZ_R _ _ _ _)); rintro e w' ⟨rfl, rfl⟩)
    | (go_at_call 10; (with_reducible refine (at_V 15 15 rfl (by decide) (by decide) (by decide) (by decide) _ _ ?_ ?_ _).mono ?_); (any_goals (first | assumption | exact apZ_R _ _ _ _)); rintro e w' ⟨rfl, rfl⟩)
    | (go_at_call 10; (with_reducible refine (at_V 25 25 rfl (by decide) (by decide) (by decide) (by decide) _ _ ?_ ?_ _).mono ?_); (any_goals (first | assumption | exact apZ_R _ _ _ _)); rintro e w' ⟨rfl, rfl⟩)
    | (go_at_call 10; (with_reducible refine (at_V 14 14 rfl (by decide) (by decide) (by decide) (by decide) _ _ ?_ ?_ _).mono ?_); (any_goals (first | assumption | exact apZ_R _ _ _ _)); rintro e w' ⟨rfl, rfl⟩)
    | (go_at_call 10; (with_reducible refine (at_V 4 4 rfl (by decide) (by decide) (by decide) (by decide) _ _ ?_ ?_ _).mono ?_); (any_goals (first | assumption | exact apZ_R _ _ _ _)); rintro e w' ⟨rfl, rfl⟩)
      | fail)
    go_returns
    exact ⟨rfl, by (repeat' (first | (with_reducible exact Below.refl _ _) | (with_reducible refine Below.alloc ?_ ?_ _) | (with_reducible refine Below.drew ?_) | (with_reducible refine Below.setCell ?_ ?_ _) | (with_reducible refine Below.thn (by assumption) ?_ ?_) | (with_reducible refine below_drewN ?_ _) | go_size))⟩
  · have e3 := beqT (ws5 a0 rn (by omega))
    have e4 := beqT (ws6 a0 rn (by omega))
    have e5 := beqT ((ws4 a1 ra).trans (ws6 (a0 / 2) rn (by omega)))
    have h' : 64 ≤ a1 := by omega
    clear h
    go_enter Try.func5, Try.ntmps5
    go_wp2_with (first
    | (go_at_call 9; (with_reducible refine (fixed01_calls _).mono ?_); rintro e w' ⟨rfl, rfl⟩)
    | (go_at_call 10; (with_reducible refine (at_V 10 10 rfl (by decide) (by decide) (by decide) (by decide) _ _ ?_ ?_ _).mono ?_); (any_goals (first | assumption | exact apZ_R _ _ _ _)); rintro e w' ⟨rfl, rfl⟩)
    | (go_at_call 10; (with_reducible refine (at_V 13 13 rfl (by decide) (by decide) (by decide) (by decide) _ _ ?_ ?_ _).mono ?_); (any_goals (first | assumption | exact apZ_R _ _ _ _)); rintro e w' ⟨rfl, rfl⟩)
    | (go_at_call 10; (with_reducible refine (at_V 3 3 rfl (by decide) (by decide) (by decide) (by decide) _ _ ?_ ?_ _).mono ?_); (any_goals (first | assumption | exact apZ_R _ _ _ _)); rintro e w' ⟨rfl, rfl⟩)
    | (go_at_call 10; (with_reducible refine (at_V 15 15 rfl (by decide) (by decide) (by decide) (by decide) _ _ ?_ ?_ _).mono ?_); (any_goals (first | assumption | exact apZ_R _ _ _ _)); rintro e w' ⟨rfl, rfl⟩)
    | (go_at_call 10; (with_reducible refine (at_V 25 25 rfl (by decide) (by decide) (by decide) (by decide) _ _ ?_ ?_ _).mono ?_); (any_goals (first | assumption | exact apZ_R _ _ _ _)); rintro e w' ⟨rfl, rfl⟩)
    | (go_at_call 10; (with_reducible refine (at_V 14 14 rfl (by decide) (by decide) (by decide) (by decide) _ _ ?_ ?_ _).mono ?_); (any_goals (first | assumption | exact apZ_R _ _ _ _)); rintro e w' ⟨rfl, rfl⟩)
    | (go_at_call 10; (with_reducible refine (at_V 4 4 rfl (by decide) (by decide) (by decide) (by decide) _ _ ?_ ?_ _).mono ?_); (any_goals (first | assumption | exact apZ_R _ _ _ _)); rintro e w' ⟨rfl, rfl⟩)
      | fail)
    go_returns
    exact ⟨rfl, by (repeat' (first | (with_reducible exact Below.refl _ _) | (with_reducible refine Below.alloc ?_ ?_ _) | (with_reducible refine Below.drew ?_) | (with_reducible refine Below.setCell ?_ ?_ _) | (with_reducible refine Below.thn (by assumption) ?_ ?_) | (with_reducible refine below_drewN ?_ _) | go_size))⟩
end Go.Proofs.Ytmjlifbnndmjoaa
