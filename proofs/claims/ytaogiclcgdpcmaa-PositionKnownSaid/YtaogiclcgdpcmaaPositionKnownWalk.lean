/-
  The walk of PositionKnown: it returns true.
-/
import Derived.Test.YtaogiclcgdpcmaaPosFixed
set_option linter.unusedVariables false
namespace Go.Proofs.Ytaogiclcgdpcmaa
open Go.RowKit
/-- Highest(5, 2) is 2. -/
theorem highest_five (w : World) : Calls Try.prog 13 #[.int .u64 5, .int .i64 2] w fun e w' => e = .returned (.tuple #[.int .u64 2, .nilIface]) ∧ Below w.heap.size w w' := by
  refine (highest_ok 2 2 5 w (by decide) (by decide) (by decide) (by decide)).mono fun e w' ⟨q, ⟨k, hk, a, b, c, f⟩, q0, q1, he, hb⟩ => ⟨?_, hb⟩
  have : q = 2 := by
    match k, hk with
    | 0, _ => simp at a b c; omega
    | 1, _ => simp at a b c; omega
    | 2, _ => simp at a b c; omega
  rw [he, this]
theorem trace_five (w : World) : Calls Try.prog 12 #[.int .u64 5, .int .i64 4] w fun e w' => e = .returned (.tuple #[.int .u64 7, .nilIface]) ∧ Below w.heap.size w w' := by
  simpa using trace_ok 2 4 5 w (by decide) (by decide) (by decide) (by decide)
set_option maxRecDepth 100000 in
set_option maxHeartbeats 1000000 in
theorem positionKnown_walk (w : World) : Calls Try.prog 4 #[] w fun e w' => e = .returned (.bool true) ∧ Below w.heap.size w w' := by
  go_enter Try.func4, Try.ntmps4
  go_wp2_with (first
    | (go_at_call 7; (with_reducible refine (make_okV 2 2 1 5 _ (by decide) (by decide) (by decide) (by decide) (by decide)).mono ?_); rintro e1 w1 ⟨rfl, hb1⟩; obtain ⟨hc1, hf1⟩ := bcell hb1; have hz1 := hb1.size; (try simp at hz1))
    | (go_at_call 8; (with_reducible refine (parts_ok 2 5 _ (by decide) (by decide) (by decide)).mono ?_); rintro e2 w2 ⟨rfl, hb2⟩; obtain ⟨hc2, hf2⟩ := bcell hb2; have hz2 := hb2.size; (try simp at hz2))
    | (go_at_call 12; (with_reducible refine (trace_five _).mono ?_); rintro e3 w3 ⟨rfl, hb3⟩; obtain ⟨hc3, hf3⟩ := bcell hb3; have hz3 := hb3.size; (try simp at hz3))
    | (go_at_call 9; (with_reducible refine (attack_ok 2 5 _ (by decide) (by decide) (by decide)).mono ?_); rintro e4 w4 ⟨rfl, hb4⟩; obtain ⟨hc4, hf4⟩ := bcell hb4; have hz4 := hb4.size; (try simp at hz4))
    | (go_at_call 11; (with_reducible refine (defend_ok 2 5 _ (by decide) (by decide) (by decide)).mono ?_); rintro e5 w5 ⟨rfl, hb5⟩; obtain ⟨hc5, hf5⟩ := bcell hb5; have hz5 := hb5.size; (try simp at hz5))
    | (go_at_call 13; (with_reducible refine (highest_five _).mono ?_); rintro e6 w6 ⟨rfl, hb6⟩; obtain ⟨hc6, hf6⟩ := bcell hb6; have hz6 := hb6.size; (try simp at hz6))
    | (go_at_call 12; (with_reducible refine (trace_badD 2 5 1 _ (by decide) (by decide) (by decide) (.inl (by decide))).mono ?_); rintro e7 w7 ⟨rfl, hb7⟩; obtain ⟨hc7, hf7⟩ := bcell hb7; have hz7 := hb7.size; (try simp at hz7))
    | (go_at_call 9; (with_reducible refine (attack_deep 16777216 _ (by decide) (by decide)).mono ?_); rintro e8 w8 ⟨rfl, hb8⟩; obtain ⟨hc8, hf8⟩ := bcell hb8; have hz8 := hb8.size; (try simp at hz8))
    | (go_at_call 8; (with_reducible refine (parts_bad 0 _ (by decide) (.inl rfl)).mono ?_); rintro e9 w9 ⟨rfl, hb9⟩; obtain ⟨hc9, hf9⟩ := bcell hb9; have hz9 := hb9.size; (try simp at hz9))
    | (go_at_call 10; (with_reducible refine (fixed16_calls _).mono ?_); rintro e10 w10 ⟨rfl, hb10⟩; obtain ⟨hc10, hf10⟩ := bcell hb10; have hz10 := hb10.size; (try simp at hz10))
    | (go_at_call 14; refine (is_num _ _ _).mono ?_; rintro e w' ⟨rfl, rfl⟩))
  go_returns
  exact ⟨rfl, by (repeat' (first | (with_reducible exact Below.refl _ _) | (with_reducible refine Below.alloc ?_ ?_ _) | (with_reducible refine Below.drew ?_) | (with_reducible refine Below.setCell ?_ ?_ _) | (with_reducible refine Below.thn (by assumption) ?_ ?_) | go_size))⟩
end Go.Proofs.Ytaogiclcgdpcmaa
