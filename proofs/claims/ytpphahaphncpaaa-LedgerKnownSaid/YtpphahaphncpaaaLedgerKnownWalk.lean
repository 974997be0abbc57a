/-
  The walk of LedgerKnown: it returns true.
-/
import Derived.Test.YtpphahaphncpaaaLedFixed
set_option linter.unusedVariables false
namespace Go.Proofs.Ytpphahaphncpaaa
open Go.RowKit
def LS4 : LS := LS3.payOut 2 4
theorem LS4_ok : LS4.Ok := ⟨lt8 (by decide) (by decide) (by decide) (by decide) (by decide) (by decide) (by decide) (by decide), by decide, by decide, by decide, fun n => by cases n <;> simp [LS4, LS3, LS2, LS1, LS.payIn, LS.payOut, LS.lock, LS.give, LS.bond, LS.zero], by decide⟩
set_option maxRecDepth 100000 in
set_option maxHeartbeats 2000000 in
theorem ledgerKnown_walk (w : World) : Calls Try.prog 3 #[] w fun e w' => e = .returned (.bool true) ∧ Below w.heap.size w w' := by
  go_enter Try.func3, Try.ntmps3
  go_wp2_with (first
    | (go_at_call 6; (with_reducible refine (new_calls _).mono ?_); rintro e w1 ⟨rfl, hL1, hb1⟩; have HL1 := Lib.hid hL1; have HB1 := Lib.hid hb1; have hz1 : w.heap.size < w1.heap.size := (hL1.row.choose_spec.1.lt); clear hL1 hb1)
    | (go_at_call 7; (with_reducible refine (payIn_V w.heap.size (w.heap.size + 1) 1 1 10 LS.zero LS1 _ HL1.out rfl (by decide) (by decide) (by decide) rfl LS1_ok).mono ?_); rintro e w2 ⟨rfl, hL2, hk2⟩; have HL2 := Lib.hid hL2; have HK2 := Lib.hid hk2; have hz2 := hk2.below.size; clear hL2 hk2)
    | (go_at_call 8; (with_reducible refine (lock_V w.heap.size (w.heap.size + 1) 1 1 4 0 LS1 LS2 _ HL2.out rfl (by decide) (by decide) (by decide) (by omega) (by decide) rfl rfl LS2_ok).mono ?_); rintro e w3 ⟨rfl, hL3, hk3⟩; have HL3 := Lib.hid hL3; have HK3 := Lib.hid hk3; have hz3 := hk3.below.size; clear hL3 hk3)
    | (go_at_call 9; (with_reducible refine (balance_V w.heap.size (w.heap.size + 1) 1 1 6 LS2 _ HL3.out rfl (by decide) rfl).mono ?_); rintro e w' ⟨rfl, rfl⟩)
    | (go_at_call 10; (with_reducible refine (locked_V w.heap.size (w.heap.size + 1) 4 LS2 _ HL3.out rfl).mono ?_); rintro e w' ⟨rfl, rfl⟩)
    | (go_at_call 11; (with_reducible refine (give_V w.heap.size (w.heap.size + 1) 0 2 0 2 LS2 LS3 _ HL3.out rfl rfl (by decide) (by decide) rfl rfl LS3_ok).mono ?_); rintro e w4 ⟨rfl, hL4, hk4⟩; have HL4 := Lib.hid hL4; have HK4 := Lib.hid hk4; have hz4 := hk4.below.size; clear hL4 hk4)
    | (go_at_call 9; (with_reducible refine (balance_V w.heap.size (w.heap.size + 1) 2 2 4 LS3 _ HL4.out rfl (by decide) rfl).mono ?_); rintro e w' ⟨rfl, rfl⟩)
    | (go_at_call 11; (with_reducible refine (give_twiceV w.heap.size (w.heap.size + 1) 0 2 0 2 LS3 _ HL4.out rfl rfl (by decide) (by decide) rfl).mono ?_); rintro e w' ⟨rfl, rfl⟩)
    | (go_at_call 12; (with_reducible refine (payOut_fewV w.heap.size (w.heap.size + 1) 2 2 5 LS3 _ HL4.out rfl (by decide) (by decide)).mono ?_); rintro e w' ⟨rfl, rfl⟩)
    | (go_at_call 12; (with_reducible refine (payOut_V w.heap.size (w.heap.size + 1) 2 2 4 LS3 LS4 _ HL4.out rfl (by decide) (by decide) (by decide) rfl LS4_ok).mono ?_); rintro e w5 ⟨rfl, hL5, hk5⟩; have HL5 := Lib.hid hL5; have HK5 := Lib.hid hk5; have hz5 := hk5.below.size; clear hL5 hk5)
    | (go_at_call 13; (with_reducible refine (flows_V w.heap.size (w.heap.size + 1) 10 4 LS4 _ HL5.out rfl rfl).mono ?_); rintro e w6 ⟨rfl, hb6⟩; have HL6 := Lib.hid (HL5.out.kept hb6); have HB6 := Lib.hid hb6; have hz6 := hb6.size; clear hb6)
    | (go_at_call 9; (with_reducible refine (balance_bad w.heap.size 8 _ (by omega)).mono ?_); rintro e w' ⟨rfl, rfl⟩)
    | (go_at_call 14; (with_reducible refine (fixed18_calls _).mono ?_); rintro e w7 ⟨rfl, hb7⟩; have HL7 := Lib.hid (HL6.out.kept hb7); have HB7 := Lib.hid hb7; have hz7 := hb7.size; clear hb7)
    | (go_at_call 7; (with_reducible refine (payIn_bigV w.heap.size (w.heap.size + 1) 1 1 281474976710656 LS4 _ HL7.out rfl (by decide) (by decide) (by decide)).mono ?_); rintro e w' ⟨rfl, rfl⟩)
    | (go_at_call 15; refine (is_num _ _ _).mono ?_; rintro e w' ⟨rfl, rfl⟩))
  go_returns
  exact ⟨rfl, HB1.out.trans (HK2.out.below.trans (HK3.out.below.trans (HK4.out.below.trans (HK5.out.below.trans ((HB6.out.mono (by omega)).trans (HB7.out.mono (by omega)))))))⟩
end Go.Proofs.Ytpphahaphncpaaa
