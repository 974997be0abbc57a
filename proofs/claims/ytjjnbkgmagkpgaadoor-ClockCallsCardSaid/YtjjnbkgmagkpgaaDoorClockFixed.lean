/-
  The walk of 'fixed' of layer 17: it returns true.
-/
import Derived.Test.YtjjnbkgmagkpgaaDoorClock
set_option linter.unusedVariables false
namespace Go.Proofs.YtjjnbkgmagkpgaaDoor
open Go.RowKit
theorem fixed_calls (w : World) : Calls Tryd.prog 9 #[] w fun e w' => e = .returned (.bool true) ∧ Below w.heap.size w w' := by
  go_enter Tryd.func9, Tryd.ntmps9
  go_wp2_with (first
    | (go_at_call 6; (with_reducible refine (next_ok 10 3 2 100 1 107 7 _ (by decide) (by decide) (by decide) (by decide) (by decide) (by decide) (by decide) (by decide) (by decide) (by decide) (by decide) (by decide) (by decide)).mono ?_); rintro e1 w1 ⟨rfl, hb1⟩; obtain ⟨hc1, hf1⟩ := bcell hb1; have hz1 := hb1.size; (try simp at hz1); have hs1_w0 : w.heap.size < w1.heap.size := (by omega))
    | (go_at_call 6; (with_reducible refine (next_late 10 3 2 100 1 109 _ (by decide) (by decide) (by decide) (by decide) (by decide) (by decide) (by decide) (by decide) (by decide) (by decide) (by decide) (by decide)).mono ?_); rintro e2 w2 ⟨rfl, hb2⟩; obtain ⟨hc2, hf2⟩ := bcell hb2; have hz2 := hb2.size; (try simp at hz2); have hs2_w0 : w.heap.size < w2.heap.size := (by omega); have hs2_w10 : w1.heap.size < w2.heap.size := (by omega))
    | (go_at_call 13; refine (is_num _ _ _).mono ?_; rintro e w' ⟨rfl, rfl⟩))
  go_returns
  exact ⟨rfl, by (repeat' (first | (with_reducible exact Below.refl _ _) | (with_reducible refine Below.alloc ?_ ?_ _) | (with_reducible refine Below.drew ?_) | (with_reducible refine Below.setCell ?_ ?_ _) | (with_reducible refine Below.thn (by assumption) ?_ ?_) | go_size))⟩

end Go.Proofs.YtjjnbkgmagkpgaaDoor
