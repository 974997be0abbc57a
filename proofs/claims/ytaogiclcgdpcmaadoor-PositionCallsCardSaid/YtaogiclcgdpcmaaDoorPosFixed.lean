/-
  The walk of 'fixed' of layer 16: it returns true.
-/
import Derived.Test.YtaogiclcgdpcmaaDoorPosHi
set_option linter.unusedVariables false
namespace Go.Proofs.YtaogiclcgdpcmaaDoor
open Go.RowKit
theorem fixed16_calls (w : World) : Calls Tryd.prog 8 #[] w fun e w' => e = .returned (.bool true) ∧ Below w.heap.size w w' := by
  go_enter Tryd.func8, Tryd.ntmps8
  go_wp2_with (first
    | (go_at_call 4; (with_reducible refine (make_okV 2 2 1 5 _ (by decide) (by decide) (by decide) (by decide) (by decide)).mono ?_); rintro e1 w1 ⟨rfl, hb1⟩; obtain ⟨hc1, hf1⟩ := bcell hb1; have hz1 := hb1.size; (try simp at hz1))
    | (go_at_call 12; (with_reducible refine (attack_ok 2 5 _ (by decide) (by decide) (by decide)).mono ?_); rintro e2 w2 ⟨rfl, hb2⟩; obtain ⟨hc2, hf2⟩ := bcell hb2; have hz2 := hb2.size; (try simp at hz2))
    | (go_at_call 14; (with_reducible refine (defend_last 2 7 _ (by decide) (by decide)).mono ?_); rintro e3 w3 ⟨rfl, hb3⟩; obtain ⟨hc3, hf3⟩ := bcell hb3; have hz3 := hb3.size; (try simp at hz3))
    | (go_at_call 19; refine (is_num _ _ _).mono ?_; rintro e w' ⟨rfl, rfl⟩))
  go_returns
  exact ⟨rfl, by (repeat' (first | (with_reducible exact Below.refl _ _) | (with_reducible refine Below.alloc ?_ ?_ _) | (with_reducible refine Below.drew ?_) | (with_reducible refine Below.setCell ?_ ?_ _) | (with_reducible refine Below.thn (by assumption) ?_ ?_) | (with_reducible refine below_drewN ?_ _) | go_size))⟩
end Go.Proofs.YtaogiclcgdpcmaaDoor
