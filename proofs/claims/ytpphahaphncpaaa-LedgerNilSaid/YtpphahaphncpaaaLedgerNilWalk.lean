/-
  The walk of LedgerNil: it returns true for every input.
-/
import Derived.Test.YtpphahaphncpaaaLedFixed
set_option linter.unusedVariables false
namespace Go.Proofs.Ytpphahaphncpaaa
open Go.RowKit
set_option maxRecDepth 100000 in
set_option maxHeartbeats 2000000 in
theorem ledgerNil_walk (w : World) (a0 : Int) (w0 : (Lit.int .i64 a0).wf = true) (a1 : Int) (w1 : (Lit.int .i64 a1).wf = true) (a2 : Int) (w2 : (Lit.int .u64 a2).wf = true) :
    Calls Try.prog 5 #[.int .i64 a0, .int .i64 a1, .int .u64 a2] w fun e w' => e = .returned (.bool true) ∧ Below w.heap.size w w' := by
  clear w0 w1 w2
  go_enter Try.func5, Try.ntmps5
  go_wp2_with (first
    | (go_at_call 8; (with_reducible refine (lock_nil _ _ _).mono ?_); rintro e w' ⟨rfl, rfl⟩)
    | (go_at_call 9; (with_reducible refine (balance_nil _ _).mono ?_); rintro e w' ⟨rfl, rfl⟩)
    | (go_at_call 7; (with_reducible refine (payIn_nil _ _ _).mono ?_); rintro e w' ⟨rfl, rfl⟩)
    | (go_at_call 12; (with_reducible refine (payOut_nil _ _ _).mono ?_); rintro e w' ⟨rfl, rfl⟩)
    | (go_at_call 11; (with_reducible refine (give_nil _ _ _).mono ?_); rintro e w' ⟨rfl, rfl⟩))
  refine wp_loop_rounds 6 ?_
  repeat any_goals (rw [rounds_succ]; go_wp2_with (first | (go_at_call 15; refine (is_num _ _ _).mono ?_; rintro e w' ⟨rfl, rfl⟩) | (go_at_call 13; (with_reducible refine (flows_nil _).mono ?_); rintro e w1 ⟨rfl, hb1⟩; have HB1 := Lib.hid hb1; have hz1 := hb1.size; (simp at hz1); clear hb1) | (go_at_call 14; (with_reducible refine (fixed18_calls _).mono ?_); rintro e w2 ⟨rfl, hb2⟩; have HB2 := Lib.hid hb2; have hz2 := hb2.size; clear hb2) | (go_at_call 10; (with_reducible refine (locked_nil _).mono ?_); rintro e w' ⟨rfl, rfl⟩)))
  go_returns
  exact ⟨rfl, ((Below.refl w.heap.size w).alloc (Nat.le_refl _) _).trans ((HB1.out.mono (by simp)).trans (HB2.out.mono (by omega)))⟩
end Go.Proofs.Ytpphahaphncpaaa
