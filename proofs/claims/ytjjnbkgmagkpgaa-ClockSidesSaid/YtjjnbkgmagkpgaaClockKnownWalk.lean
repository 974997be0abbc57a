/-
  The walks of 'fixed' of layer 17 and of ClockKnown: both return true.
-/
import Derived.Test.YtjjnbkgmagkpgaaClock
set_option linter.unusedVariables false
namespace Go.Proofs.Ytjjnbkgmagkpgaa
open Go.RowKit
theorem fixed_calls (w : World) : Calls Try.prog 6 #[] w fun e w' => e = .returned (.bool true) ∧ Below w.heap.size w w' := by
  go_enter Try.func6, Try.ntmps6
  go_wp2_with (first
    | (go_at_call 7; (with_reducible refine (next_ok 10 3 2 100 1 107 7 _ (by decide) (by decide) (by decide) (by decide) (by decide) (by decide) (by decide) (by decide) (by decide) (by decide) (by decide) (by decide) (by decide)).mono ?_); rintro e1 w1 ⟨rfl, hb1⟩; obtain ⟨hc1, hf1⟩ := bcell hb1; have hz1 := hb1.size; (try simp at hz1); have hs1_w0 : w.heap.size < w1.heap.size := (by omega))
    | (go_at_call 7; (with_reducible refine (next_late 10 3 2 100 1 109 _ (by decide) (by decide) (by decide) (by decide) (by decide) (by decide) (by decide) (by decide) (by decide) (by decide) (by decide) (by decide)).mono ?_); rintro e2 w2 ⟨rfl, hb2⟩; obtain ⟨hc2, hf2⟩ := bcell hb2; have hz2 := hb2.size; (try simp at hz2); have hs2_w0 : w.heap.size < w2.heap.size := (by omega); have hs2_w10 : w1.heap.size < w2.heap.size := (by omega))
    | (go_at_call 8; refine (is_num _ _ _).mono ?_; rintro e w' ⟨rfl, rfl⟩))
  go_returns
  exact ⟨rfl, by (repeat' (first | (with_reducible exact Below.refl _ _) | (with_reducible refine Below.alloc ?_ ?_ _) | (with_reducible refine Below.drew ?_) | (with_reducible refine Below.setCell ?_ ?_ _) | (with_reducible refine Below.thn (by assumption) ?_ ?_) | go_size))⟩

set_option maxHeartbeats 1000000 in
theorem clockKnown_walk (w : World) : Calls Try.prog 4 #[] w fun e w' => e = .returned (.bool true) ∧ Below w.heap.size w w' := by
  go_enter Try.func4, Try.ntmps4
  go_wp2_with (first
    | (go_at_call 7; (with_reducible refine (next_ok 10 3 2 100 1 104 5 _ (by decide) (by decide) (by decide) (by decide) (by decide) (by decide) (by decide) (by decide) (by decide) (by decide) (by decide) (by decide) (by decide)).mono ?_); rintro e1 w1 ⟨rfl, hb1⟩; obtain ⟨hc1, hf1⟩ := bcell hb1; have hz1 := hb1.size; (try simp at hz1); have hs1_w0 : w.heap.size < w1.heap.size := (by omega); have hs1_w1 : w.heap.size + 1 < w1.heap.size := (by omega))
    | (go_at_call 7; (with_reducible refine (next_ok 10 3 2 100 1 107 7 _ (by decide) (by decide) (by decide) (by decide) (by decide) (by decide) (by decide) (by decide) (by decide) (by decide) (by decide) (by decide) (by decide)).mono ?_); rintro e2 w2 ⟨rfl, hb2⟩; obtain ⟨hc2, hf2⟩ := bcell hb2; have hz2 := hb2.size; (try simp at hz2); have hs2_w0 : w.heap.size < w2.heap.size := (by omega); have hs2_w1 : w.heap.size + 1 < w2.heap.size := (by omega); have hs2_w10 : w1.heap.size < w2.heap.size := (by omega))
    | (go_at_call 7; (with_reducible refine (next_late 10 3 2 100 1 109 _ (by decide) (by decide) (by decide) (by decide) (by decide) (by decide) (by decide) (by decide) (by decide) (by decide) (by decide) (by decide)).mono ?_); rintro e3 w3 ⟨rfl, hb3⟩; obtain ⟨hc3, hf3⟩ := bcell hb3; have hz3 := hb3.size; (try simp at hz3); have hs3_w0 : w.heap.size < w3.heap.size := (by omega); have hs3_w1 : w.heap.size + 1 < w3.heap.size := (by omega); have hs3_w10 : w1.heap.size < w3.heap.size := (by omega); have hs3_w20 : w2.heap.size < w3.heap.size := (by omega))
    | (go_at_call 9; (with_reducible refine (over_ok 10 3 2 100 1 109 _ (by decide) (by decide) (by decide) (by decide) (by decide) (by decide) (by decide) (by decide) (by decide) (by decide) (by decide)).mono ?_); rintro e4 w4 ⟨rfl, hb4⟩; obtain ⟨hc4, hf4⟩ := bcell hb4; have hz4 := hb4.size; (try simp at hz4); have hs4_w0 : w.heap.size < w4.heap.size := (by omega); have hs4_w1 : w.heap.size + 1 < w4.heap.size := (by omega); have hs4_w10 : w1.heap.size < w4.heap.size := (by omega); have hs4_w20 : w2.heap.size < w4.heap.size := (by omega); have hs4_w30 : w3.heap.size < w4.heap.size := (by omega))
    | (go_at_call 10; (with_reducible refine (spent_bad 2 100 1 99 _ (.inl (by decide))).mono ?_); rintro e5 w5 ⟨rfl, hb5⟩; obtain ⟨hc5, hf5⟩ := bcell hb5; have hz5 := hb5.size; (try simp at hz5); have hs5_w0 : w.heap.size < w5.heap.size := (by omega); have hs5_w1 : w.heap.size + 1 < w5.heap.size := (by omega); have hs5_w10 : w1.heap.size < w5.heap.size := (by omega); have hs5_w20 : w2.heap.size < w5.heap.size := (by omega); have hs5_w30 : w3.heap.size < w5.heap.size := (by omega))
    | (go_at_call 6; (with_reducible refine (fixed_calls _).mono ?_); rintro e6 w6 ⟨rfl, hb6⟩; obtain ⟨hc6, hf6⟩ := bcell hb6; have hz6 := hb6.size; (try simp at hz6); have hs6_w0 : w.heap.size < w6.heap.size := (by omega); have hs6_w1 : w.heap.size + 1 < w6.heap.size := (by omega); have hs6_w10 : w1.heap.size < w6.heap.size := (by omega); have hs6_w20 : w2.heap.size < w6.heap.size := (by omega); have hs6_w30 : w3.heap.size < w6.heap.size := (by omega))
    | (go_at_call 11; (with_reducible refine (check_bad 0 0 _ (by decide) (by decide) (.inl (by decide))).mono ?_); rintro e7 w7 ⟨rfl, hb7⟩; obtain ⟨hc7, hf7⟩ := bcell hb7; have hz7 := hb7.size; (try simp at hz7); have hs7_w0 : w.heap.size < w7.heap.size := (by omega); have hs7_w1 : w.heap.size + 1 < w7.heap.size := (by omega); have hs7_w10 : w1.heap.size < w7.heap.size := (by omega); have hs7_w20 : w2.heap.size < w7.heap.size := (by omega); have hs7_w30 : w3.heap.size < w7.heap.size := (by omega))
    | (go_at_call 11; (with_reducible refine (check_ok 1099511627776 1099511627776 _ (by decide) (by decide) (by decide) (by decide)).mono ?_); rintro e8 w8 ⟨rfl, hb8⟩; obtain ⟨hc8, hf8⟩ := bcell hb8; have hz8 := hb8.size; (try simp at hz8); have hs8_w0 : w.heap.size < w8.heap.size := (by omega); have hs8_w1 : w.heap.size + 1 < w8.heap.size := (by omega); have hs8_w10 : w1.heap.size < w8.heap.size := (by omega); have hs8_w20 : w2.heap.size < w8.heap.size := (by omega); have hs8_w30 : w3.heap.size < w8.heap.size := (by omega))
    | (go_at_call 8; refine (is_num _ _ _).mono ?_; rintro e w' ⟨rfl, rfl⟩))
  go_returns
  exact ⟨rfl, by (repeat' (first | (with_reducible exact Below.refl _ _) | (with_reducible refine Below.alloc ?_ ?_ _) | (with_reducible refine Below.drew ?_) | (with_reducible refine Below.setCell ?_ ?_ _) | (with_reducible refine Below.thn (by assumption) ?_ ?_) | go_size))⟩
end Go.Proofs.Ytjjnbkgmagkpgaa
