/-
  The walk of PositionTree: it returns true for every input.
-/
import Derived.Test.YtaogiclcgdpcmaaPosFixed
set_option linter.unusedVariables false
namespace Go.Proofs.Ytaogiclcgdpcmaa
open Go.RowKit
/-- uint(x) % 24, as the walk writes it. -/
theorem tmod_small (a0 : Int) (m : Int) (hm : 0 < m) : ∃ d : Nat, (IntKind.u64.wrap a0).tmod m = (d : Int) ∧ (d : Int) < m := by
  have h0 : 0 ≤ IntKind.u64.wrap a0 := by rw [IntKind.wrap_u64]; exact Int.emod_nonneg _ (by omega)
  rw [Int.tmod_eq_emod_of_nonneg h0]
  refine ⟨(IntKind.u64.wrap a0 % m).toNat, ?_, ?_⟩
  · have := Int.emod_nonneg (IntKind.u64.wrap a0) (show m ≠ 0 by omega); omega
  · have := Int.emod_lt_of_pos (IntKind.u64.wrap a0) hm; have := Int.emod_nonneg (IntKind.u64.wrap a0) (show m ≠ 0 by omega); omega

set_option maxRecDepth 100000 in
set_option maxHeartbeats 2000000 in
theorem positionTree_walk (w : World) (a0 : Int) (w0 : (Lit.int .i64 a0).wf = true) (a1 : Int) (w1 : (Lit.int .u64 a1).wf = true) :
    Calls Try.prog 3 #[.int .i64 a0, .int .u64 a1] w fun e w' => e = .returned (.bool true) ∧ Below w.heap.size w w' := by
  have b1 := (u64_wf w1).1
  clear w0 w1
  obtain ⟨d, hE, hd'⟩ := tmod_small a0 24 (by omega)
  have hd : d ≤ 23 := by omega
  have p0 := (pow_bounds d (by omega)).1
  have p1 := (pow_bounds d (by omega)).2
  have p2 := (pow_bounds (d + 1) (by omega)).2
  have e := pow_succ' d
  have e1 : (2 : Int) ^ (d + 1) ≤ 2 * 2 ^ d := by omega
  have e2 : 2 * (2 : Int) ^ d ≤ 2 ^ (d + 1) := by omega
  have i0 : 0 ≤ a1 % 2 ^ d := Int.emod_nonneg _ (by omega)
  have i1 : a1 % 2 ^ d < 2 ^ d := Int.emod_lt_of_pos _ (by omega)
  have E2 := pow_succ' (d + 1)
  have K1 : Hid ((2 : Int) ^ d + a1 % 2 ^ d < 2 ^ (d + 1)) := by show _ < _; omega
  have K2 : Hid (2 * ((2 : Int) ^ d + a1 % 2 ^ d) < 2 ^ (d + 1 + 1)) := by show _ < _; omega
  clear e E2
  by_cases hl : a1 % 2 ^ d + 1 = 2 ^ d
  · have hl1 : (a1 % 2 ^ d + 1 == 2 ^ d) = true := by simp; exact hl
    have K3 : Hid ((2 : Int) ^ d + a1 % 2 ^ d + 1 = 2 ^ (d + 1)) := by show _ = _; omega
    clear hl
    go_enter Try.func3, Try.ntmps3
    go_wp2_with (first
      | (go_at_call 7; (with_reducible refine (make_okV (d : Int) d (a1 % 2 ^ d) (2 ^ d + a1 % 2 ^ d) _ rfl (by omega) (by omega) (by omega) rfl).mono ?_); rintro e1 w1 ⟨rfl, hb1⟩; obtain ⟨hc1, hf1⟩ := bcell hb1; have hz1 := hb1.size; (try simp at hz1))
      | (go_at_call 8; (with_reducible refine (parts_ok d (2 ^ d + a1 % 2 ^ d) _ (by omega) (by omega) K1.out).mono ?_); rintro e2 w2 ⟨rfl, hb2⟩; obtain ⟨hc2, hf2⟩ := bcell hb2; have hz2 := hb2.size; (try simp at hz2))
      | (go_at_call 9; (with_reducible refine (attack_ok d (2 ^ d + a1 % 2 ^ d) _ (by omega) (by omega) K1.out).mono ?_); rintro e3 w3 ⟨rfl, hb3⟩; obtain ⟨hc3, hf3⟩ := bcell hb3; have hz3 := hb3.size; (try simp at hz3))
      | (go_at_call 8; (with_reducible refine (parts_ok (d + 1) (2 * (2 ^ d + a1 % 2 ^ d)) _ (by omega) (by omega) K2.out).mono ?_); rintro e4 w4 ⟨rfl, hb4⟩; obtain ⟨hc4, hf4⟩ := bcell hb4; have hz4 := hb4.size; (try simp at hz4))
      | (go_at_call 10; (with_reducible refine (fixed16_calls _).mono ?_); rintro e5 w5 ⟨rfl, hb5⟩; obtain ⟨hc5, hf5⟩ := bcell hb5; have hz5 := hb5.size; (try simp at hz5))
      | (go_at_call 11; (with_reducible refine (defend_last d (2 ^ d + a1 % 2 ^ d) _ (by omega) K3.out).mono ?_); rintro e6 w6 ⟨rfl, hb6⟩; obtain ⟨hc6, hf6⟩ := bcell hb6; have hz6 := hb6.size; (try simp at hz6)))
    go_returns
    exact ⟨rfl, by (repeat' (first | (with_reducible exact Below.refl _ _) | (with_reducible refine Below.alloc ?_ ?_ _) | (with_reducible refine Below.drew ?_) | (with_reducible refine Below.setCell ?_ ?_ _) | (with_reducible refine Below.thn (by assumption) ?_ ?_) | (with_reducible refine below_drewN ?_ _) | go_size))⟩
  · have hl1 : (a1 % 2 ^ d + 1 == 2 ^ d) = false := by simp; exact hl
    have i2 : a1 % 2 ^ d + 1 < 2 ^ d := by omega
    have K3 : Hid ((2 : Int) ^ d + a1 % 2 ^ d + 1 < 2 ^ (d + 1)) := by show _ < _; omega
    have K4 : Hid ((2 : Int) ^ d + (a1 % 2 ^ d + 1) < 2 ^ (d + 1)) := by show _ < _; omega
    clear hl
    go_enter Try.func3, Try.ntmps3
    go_wp2_with (first
      | (go_at_call 7; (with_reducible refine (make_okV (d : Int) d (a1 % 2 ^ d) (2 ^ d + a1 % 2 ^ d) _ rfl (by omega) (by omega) (by omega) rfl).mono ?_); rintro e1 w1 ⟨rfl, hb1⟩; obtain ⟨hc1, hf1⟩ := bcell hb1; have hz1 := hb1.size; (try simp at hz1))
      | (go_at_call 8; (with_reducible refine (parts_ok d (2 ^ d + a1 % 2 ^ d) _ (by omega) (by omega) K1.out).mono ?_); rintro e2 w2 ⟨rfl, hb2⟩; obtain ⟨hc2, hf2⟩ := bcell hb2; have hz2 := hb2.size; (try simp at hz2))
      | (go_at_call 9; (with_reducible refine (attack_ok d (2 ^ d + a1 % 2 ^ d) _ (by omega) (by omega) K1.out).mono ?_); rintro e3 w3 ⟨rfl, hb3⟩; obtain ⟨hc3, hf3⟩ := bcell hb3; have hz3 := hb3.size; (try simp at hz3))
      | (go_at_call 8; (with_reducible refine (parts_ok (d + 1) (2 * (2 ^ d + a1 % 2 ^ d)) _ (by omega) (by omega) K2.out).mono ?_); rintro e4 w4 ⟨rfl, hb4⟩; obtain ⟨hc4, hf4⟩ := bcell hb4; have hz4 := hb4.size; (try simp at hz4))
      | (go_at_call 10; (with_reducible refine (fixed16_calls _).mono ?_); rintro e5 w5 ⟨rfl, hb5⟩; obtain ⟨hc5, hf5⟩ := bcell hb5; have hz5 := hb5.size; (try simp at hz5))
      | (go_at_call 11; (with_reducible refine (defend_ok d (2 ^ d + a1 % 2 ^ d) _ (by omega) (by omega) K3.out).mono ?_); rintro e6 w6 ⟨rfl, hb6⟩; obtain ⟨hc6, hf6⟩ := bcell hb6; have hz6 := hb6.size; (try simp at hz6))
      | (go_at_call 7; (with_reducible refine (make_okV (d : Int) d (a1 % 2 ^ d + 1) (2 ^ d + (a1 % 2 ^ d + 1)) _ rfl (by omega) (by omega) (by omega) rfl).mono ?_); rintro e7 w7 ⟨rfl, hb7⟩; obtain ⟨hc7, hf7⟩ := bcell hb7; have hz7 := hb7.size; (try simp at hz7))
      | (go_at_call 9; (with_reducible refine (attack_ok d (2 ^ d + (a1 % 2 ^ d + 1)) _ (by omega) (by omega) K4.out).mono ?_); rintro e8 w8 ⟨rfl, hb8⟩; obtain ⟨hc8, hf8⟩ := bcell hb8; have hz8 := hb8.size; (try simp at hz8)))
    go_returns
    refine ⟨?_, by (repeat' (first | (with_reducible exact Below.refl _ _) | (with_reducible refine Below.alloc ?_ ?_ _) | (with_reducible refine Below.drew ?_) | (with_reducible refine Below.setCell ?_ ?_ _) | (with_reducible refine Below.thn (by assumption) ?_ ?_) | (with_reducible refine below_drewN ?_ _) | go_size))⟩
    first | rfl | (simp; omega)
end Go.Proofs.Ytaogiclcgdpcmaa
