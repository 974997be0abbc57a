/-
  The document's positions (mootref16) by their contracts, and the answers that a call and the document have alike.
-/
import Derived.Test.YtaogiclcgdpcmaaDoorPosFixed
import Derived.Test.YtaogiclcgdpcmaaDoorWhy
set_option linter.unusedVariables false
namespace Go.Proofs.YtaogiclcgdpcmaaDoor
open Go.RowKit

theorem pow_le' {m n : Nat} (h : m ≤ n) : (2 : Int) ^ m ≤ 2 ^ n := by
  have := Nat.pow_le_pow_right (n := 2) (by omega) h
  exact_mod_cast this
theorem pow_zero' : (1 : Int) = 2 ^ 0 := rfl
theorem u64_eq {a b : Int} (h : a = b) : Value.int .u64 a = .int .u64 b := by rw [h]

theorem refMake_ok (D : Int) (d : Nat) (i v : Int) (w : World) (hD : D = d) (hd : d ≤ 24) (h0 : 0 ≤ i) (h1 : i < 2 ^ d) (hv : v = 2 ^ d + i) :
    Calls Tryd.prog 5 #[.int .i64 D, .int .u64 i] w fun e w' => e = .returned (.tuple #[.int .u64 v, .int .i64 0]) ∧ Below w.heap.size w w' := by
  subst hD; subst hv
  have hp := (pow_bounds d (by omega)).1
  have hq := (pow_bounds d (by omega)).2
  go_enter Tryd.func5, Tryd.ntmps5
  go_wp2
  go_loop [6, 7] (fun p k => ∃ n : Nat, n ≤ d ∧ k = .int .i64 n ∧ p = .int .u64 (2 ^ n)) (fun _ k => 25 - (intOf k).toNat)
  case atStart => exact ⟨0, by omega, rfl, rfl⟩
  case round =>
    obtain ⟨n, hn, rfl, rfl⟩ := hrel
    have a1 := (pow_bounds n (by omega)).1
    have a2 := (pow_bounds n (by omega)).2
    by_cases c : n < d
    · go_wp2
      go_round
      case rel => exact ⟨n + 1, by omega, by go_num, u64_eq (by rw [pow_succ']; omega)⟩
      case measure => simp [intOf]; omega
    · obtain rfl : n = d := by omega
      go_wp2
      go_returns
      exact ⟨rfl, by (repeat' (first | (with_reducible exact Below.refl _ _) | (with_reducible refine Below.alloc ?_ ?_ _) | (with_reducible refine Below.drew ?_) | (with_reducible refine Below.setCell ?_ ?_ _) | (with_reducible refine Below.thn (by assumption) ?_ ?_) | (with_reducible refine below_drewN ?_ _) | go_size))⟩
theorem refMake_badD (d i : Int) (w : World) (h : d < 0 ∨ 24 < d) :
    Calls Tryd.prog 5 #[.int .i64 d, .int .u64 i] w fun e w' => e = .returned (.tuple #[.int .u64 0, .int .i64 2]) ∧ Below w.heap.size w w' := by
  by_cases h1 : d < 0
  · clear h
    go_enter Tryd.func5, Tryd.ntmps5
    go_wp2
    go_returns
    exact ⟨rfl, by (repeat' (first | (with_reducible exact Below.refl _ _) | (with_reducible refine Below.alloc ?_ ?_ _) | (with_reducible refine Below.drew ?_) | (with_reducible refine Below.setCell ?_ ?_ _) | (with_reducible refine Below.thn (by assumption) ?_ ?_) | (with_reducible refine below_drewN ?_ _) | go_size))⟩
  · have h2 : 24 < d := by omega
    clear h
    go_enter Tryd.func5, Tryd.ntmps5
    go_wp2
    go_returns
    exact ⟨rfl, by (repeat' (first | (with_reducible exact Below.refl _ _) | (with_reducible refine Below.alloc ?_ ?_ _) | (with_reducible refine Below.drew ?_) | (with_reducible refine Below.setCell ?_ ?_ _) | (with_reducible refine Below.thn (by assumption) ?_ ?_) | (with_reducible refine below_drewN ?_ _) | go_size))⟩
theorem refMake_badI (D : Int) (d : Nat) (i : Int) (w : World) (hD : D = d) (hd : d ≤ 24) (h1 : 2 ^ d ≤ i) :
    Calls Tryd.prog 5 #[.int .i64 D, .int .u64 i] w fun e w' => e = .returned (.tuple #[.int .u64 0, .int .i64 2]) ∧ Below w.heap.size w w' := by
  subst hD
  have hp := (pow_bounds d (by omega)).1
  have hq := (pow_bounds d (by omega)).2
  go_enter Tryd.func5, Tryd.ntmps5
  go_wp2
  go_loop [6, 7] (fun p k => ∃ n : Nat, n ≤ d ∧ k = .int .i64 n ∧ p = .int .u64 (2 ^ n)) (fun _ k => 25 - (intOf k).toNat)
  case atStart => exact ⟨0, by omega, rfl, rfl⟩
  case round =>
    obtain ⟨n, hn, rfl, rfl⟩ := hrel
    have a1 := (pow_bounds n (by omega)).1
    have a2 := (pow_bounds n (by omega)).2
    by_cases c : n < d
    · go_wp2
      go_round
      case rel => exact ⟨n + 1, by omega, by go_num, u64_eq (by rw [pow_succ']; omega)⟩
      case measure => simp [intOf]; omega
    · obtain rfl : n = d := by omega
      go_wp2
      go_returns
      exact ⟨rfl, by (repeat' (first | (with_reducible exact Below.refl _ _) | (with_reducible refine Below.alloc ?_ ?_ _) | (with_reducible refine Below.drew ?_) | (with_reducible refine Below.setCell ?_ ?_ _) | (with_reducible refine Below.thn (by assumption) ?_ ?_) | (with_reducible refine below_drewN ?_ _) | go_size))⟩
theorem refParts_ok (d : Nat) (p : Int) (w : World) (hd : d ≤ 24) (h1 : 2 ^ d ≤ p) (h2 : p < 2 ^ (d + 1)) :
    Calls Tryd.prog 7 #[.int .u64 p] w fun e w' => e = .returned (.tuple #[.int .i64 d, .int .u64 (p - 2 ^ d), .int .i64 0]) ∧ Below w.heap.size w w' := by
  have hp := (pow_bounds d (by omega)).1
  have hq := (pow_bounds d (by omega)).2
  have h3 : p < 2 * 2 ^ d := by have := pow_succ' d; omega
  clear h2
  go_enter Tryd.func7, Tryd.ntmps7
  go_wp2
  go_loop [5, 6] (fun f k => ∃ n : Nat, n ≤ d ∧ k = .int .i64 n ∧ f = .int .u64 (2 ^ n)) (fun _ k => 25 - (intOf k).toNat)
  case atStart => exact ⟨0, by omega, rfl, rfl⟩
  case round =>
    obtain ⟨n, hn, rfl, rfl⟩ := hrel
    have a1 := (pow_bounds n (by omega)).1
    have a2 := (pow_bounds n (by omega)).2
    by_cases c : n < d
    · have a3 : (2 : Int) * 2 ^ n ≤ 2 ^ d := by have := pow_le' (show n + 1 ≤ d from c); have := pow_succ' n; omega
      go_wp2
      go_round
      case rel => exact ⟨n + 1, by omega, by go_num, u64_eq (by rw [pow_succ']; omega)⟩
      case measure => simp [intOf]; omega
    · obtain rfl : n = d := by omega
      go_wp2
      go_returns
      exact ⟨rfl, by (repeat' (first | (with_reducible exact Below.refl _ _) | (with_reducible refine Below.alloc ?_ ?_ _) | (with_reducible refine Below.drew ?_) | (with_reducible refine Below.setCell ?_ ?_ _) | (with_reducible refine Below.thn (by assumption) ?_ ?_) | (with_reducible refine below_drewN ?_ _) | go_size))⟩
theorem refParts_bad (p : Int) (w : World) (h0 : 0 ≤ p) (h : p = 0 ∨ 33554432 ≤ p) :
    Calls Tryd.prog 7 #[.int .u64 p] w fun e w' => e = .returned (.tuple #[.int .i64 0, .int .u64 0, .int .i64 2]) ∧ Below w.heap.size w w' := by
  have H := Lib.hid h
  clear h
  go_enter Tryd.func7, Tryd.ntmps7
  go_wp2
  go_loop [5, 6] (fun f k => ∃ n : Nat, n ≤ 25 ∧ k = .int .i64 n ∧ f = .int .u64 (2 ^ n)) (fun _ k => 25 - (intOf k).toNat)
  case atStart => exact ⟨0, by omega, rfl, rfl⟩
  case round =>
    obtain ⟨n, hn, rfl, rfl⟩ := hrel
    have a1 := (pow_bounds n (by omega)).1
    have a2 := (pow_bounds n (by omega)).2
    by_cases c : n < 25
    · have a3 : (2 : Int) * 2 ^ n ≤ 33554432 := by have := (pow_bounds (n + 1) (by omega)).2; have := pow_succ' n; omega
      by_cases c0 : p < 2 ^ n
      · go_wp2
        go_round
        case rel => exact ⟨n + 1, by omega, by go_num, u64_eq (by rw [pow_succ']; omega)⟩
        case measure => simp [intOf]; omega
      · have c1 : 2 * 2 ^ n ≤ p := by have := H.out; omega
        go_wp2
        go_round
        case rel => exact ⟨n + 1, by omega, by go_num, u64_eq (by rw [pow_succ']; omega)⟩
        case measure => simp [intOf]; omega
    · obtain rfl : n = 25 := by omega
      go_wp2
      go_returns
      exact ⟨rfl, by (repeat' (first | (with_reducible exact Below.refl _ _) | (with_reducible refine Below.alloc ?_ ?_ _) | (with_reducible refine Below.drew ?_) | (with_reducible refine Below.setCell ?_ ?_ _) | (with_reducible refine Below.thn (by assumption) ?_ ?_) | (with_reducible refine below_drewN ?_ _) | go_size))⟩
theorem refTrace_ok (d dep : Nat) (p : Int) (w : World) (hd : d ≤ dep) (hp : dep ≤ 24) (h1 : 2 ^ d ≤ p) (h2 : p < 2 ^ (d + 1)) :
    Calls Tryd.prog 11 #[.int .u64 p, .int .i64 dep] w fun e w' => e = .returned (.tuple #[.int .u64 ((p - 2 ^ d + 1) * 2 ^ (dep - d) - 1), .int .i64 0]) ∧ Below w.heap.size w w' := by
  have H1 := Lib.hid h1
  have H2 := Lib.hid h2
  clear h1 h2
  go_enter Tryd.func11, Tryd.ntmps11
  go_wp2_with (go_at_call 7; refine (refParts_ok d p _ (by omega) H1.out H2.out).mono ?_; rintro e1 w1 ⟨rfl, hb1⟩; obtain ⟨hc1, hf1⟩ := bcell hb1; have hz1 := hb1.size; (try simp at hz1))
  go_loop [7, 9] (fun i k => ∃ n : Nat, d ≤ n ∧ n ≤ dep ∧ k = .int .i64 n ∧ i = .int .u64 ((p - 2 ^ d + 1) * 2 ^ (n - d) - 1)) (fun _ k => 25 - (intOf k).toNat)
  case atStart => exact ⟨d, by omega, by omega, rfl, u64_eq (by simp)⟩
  case round =>
    obtain ⟨n, hn, hn2, rfl, rfl⟩ := hrel
    have q0 := (shift_bounds d n p hn (by omega) H1.out H2.out).1
    have q1 := (shift_bounds d n p hn (by omega) H1.out H2.out).2
    by_cases c : n < dep
    · go_wp2
      go_round
      case rel =>
        refine ⟨n + 1, by omega, by omega, by go_num, u64_eq ?_⟩
        rw [show n + 1 - d = (n - d) + 1 by omega, pow_succ', Int.mul_left_comm]; omega
      case measure => simp [intOf]; omega
    · obtain rfl : n = dep := by omega
      go_wp2
      go_returns
      exact ⟨rfl, by (repeat' (first | (with_reducible exact Below.refl _ _) | (with_reducible refine Below.alloc ?_ ?_ _) | (with_reducible refine Below.drew ?_) | (with_reducible refine Below.setCell ?_ ?_ _) | (with_reducible refine Below.thn (by assumption) ?_ ?_) | (with_reducible refine below_drewN ?_ _) | go_size))⟩
theorem refTrace_badP (p dep : Int) (w : World) (h0 : 0 ≤ p) (h : p = 0 ∨ 33554432 ≤ p) :
    Calls Tryd.prog 11 #[.int .u64 p, .int .i64 dep] w fun e w' => e = .returned (.tuple #[.int .u64 0, .int .i64 2]) ∧ Below w.heap.size w w' := by
  have H := Lib.hid h
  clear h
  go_enter Tryd.func11, Tryd.ntmps11
  go_wp2_with (go_at_call 7; refine (refParts_bad p _ h0 H.out).mono ?_; rintro e1 w1 ⟨rfl, hb1⟩; obtain ⟨hc1, hf1⟩ := bcell hb1; have hz1 := hb1.size; (try simp at hz1))
  go_returns
  exact ⟨rfl, by (repeat' (first | (with_reducible exact Below.refl _ _) | (with_reducible refine Below.alloc ?_ ?_ _) | (with_reducible refine Below.drew ?_) | (with_reducible refine Below.setCell ?_ ?_ _) | (with_reducible refine Below.thn (by assumption) ?_ ?_) | (with_reducible refine below_drewN ?_ _) | go_size))⟩
theorem refTrace_badD (d : Nat) (p dep : Int) (w : World) (hd : d ≤ 24) (h1 : 2 ^ d ≤ p) (h2 : p < 2 ^ (d + 1)) (h : dep < d ∨ 24 < dep) :
    Calls Tryd.prog 11 #[.int .u64 p, .int .i64 dep] w fun e w' => e = .returned (.tuple #[.int .u64 0, .int .i64 2]) ∧ Below w.heap.size w w' := by
  have H1 := Lib.hid h1
  have H2 := Lib.hid h2
  clear h1 h2
  by_cases c : dep < d
  · clear h
    go_enter Tryd.func11, Tryd.ntmps11
    go_wp2_with (go_at_call 7; refine (refParts_ok d p _ (by omega) H1.out H2.out).mono ?_; rintro e1 w1 ⟨rfl, hb1⟩; obtain ⟨hc1, hf1⟩ := bcell hb1; have hz1 := hb1.size; (try simp at hz1))
    go_returns
    exact ⟨rfl, by (repeat' (first | (with_reducible exact Below.refl _ _) | (with_reducible refine Below.alloc ?_ ?_ _) | (with_reducible refine Below.drew ?_) | (with_reducible refine Below.setCell ?_ ?_ _) | (with_reducible refine Below.thn (by assumption) ?_ ?_) | (with_reducible refine below_drewN ?_ _) | go_size))⟩
  · have h3 : 24 < dep := by omega
    clear h
    go_enter Tryd.func11, Tryd.ntmps11
    go_wp2_with (go_at_call 7; refine (refParts_ok d p _ (by omega) H1.out H2.out).mono ?_; rintro e1 w1 ⟨rfl, hb1⟩; obtain ⟨hc1, hf1⟩ := bcell hb1; have hz1 := hb1.size; (try simp at hz1))
    go_returns
    exact ⟨rfl, by (repeat' (first | (with_reducible exact Below.refl _ _) | (with_reducible refine Below.alloc ?_ ?_ _) | (with_reducible refine Below.drew ?_) | (with_reducible refine Below.setCell ?_ ?_ _) | (with_reducible refine Below.thn (by assumption) ?_ ?_) | (with_reducible refine below_drewN ?_ _) | go_size))⟩
theorem refAttack_ok (d : Nat) (p : Int) (w : World) (hd : d ≤ 23) (h1 : 2 ^ d ≤ p) (h2 : p < 2 ^ (d + 1)) :
    Calls Tryd.prog 13 #[.int .u64 p] w fun e w' => e = .returned (.tuple #[.int .u64 (2 * p), .int .i64 0]) ∧ Below w.heap.size w w' := by
  have e := pow_succ' d
  have hq := (pow_bounds d (by omega)).2
  have i0 : 0 ≤ p - 2 ^ d := by omega
  have i1 : p - 2 ^ d ≤ 33554432 := by omega
  have K1 : Hid (2 * (p - 2 ^ d) < 2 ^ (d + 1)) := by show _ < _; omega
  have K2 : Hid (2 * p = 2 ^ (d + 1) + 2 * (p - 2 ^ d)) := by show _ = _; omega
  have H1 := Lib.hid h1
  have H2 := Lib.hid h2
  clear e h1 h2
  go_enter Tryd.func13, Tryd.ntmps13
  go_wp2_with (first
    | (go_at_call 7; refine (refParts_ok d p _ (by omega) H1.out H2.out).mono ?_; rintro e1 w1 ⟨rfl, hb1⟩; obtain ⟨hc1, hf1⟩ := bcell hb1; have hz1 := hb1.size; (try simp at hz1))
    | (go_at_call 5; refine (refMake_ok _ (d + 1) _ (2 * p) _ (by omega) (by omega) (by omega) K1.out K2.out).mono ?_; rintro e2 w2 ⟨rfl, hb2⟩; obtain ⟨hc2, hf2⟩ := bcell hb2; have hz2 := hb2.size; (try simp at hz2)))
  go_returns
  exact ⟨rfl, by (repeat' (first | (with_reducible exact Below.refl _ _) | (with_reducible refine Below.alloc ?_ ?_ _) | (with_reducible refine Below.drew ?_) | (with_reducible refine Below.setCell ?_ ?_ _) | (with_reducible refine Below.thn (by assumption) ?_ ?_) | (with_reducible refine below_drewN ?_ _) | go_size))⟩
theorem refAttack_deep (p : Int) (w : World) (h1 : 16777216 ≤ p) (h2 : p < 33554432) :
    Calls Tryd.prog 13 #[.int .u64 p] w fun e w' => e = .returned (.tuple #[.int .u64 0, .int .i64 2]) ∧ Below w.heap.size w w' := by
  go_enter Tryd.func13, Tryd.ntmps13
  go_wp2_with (first
    | (go_at_call 7; refine (refParts_ok 24 p _ (by omega) (by simpa using h1) (by simpa using h2)).mono ?_; rintro e1 w1 ⟨rfl, hb1⟩; obtain ⟨hc1, hf1⟩ := bcell hb1; have hz1 := hb1.size; (try simp at hz1))
    | (go_at_call 5; refine (refMake_badD _ _ _ (by omega)).mono ?_; rintro e2 w2 ⟨rfl, hb2⟩; obtain ⟨hc2, hf2⟩ := bcell hb2; have hz2 := hb2.size; (try simp at hz2)))
  go_returns
  exact ⟨rfl, by (repeat' (first | (with_reducible exact Below.refl _ _) | (with_reducible refine Below.alloc ?_ ?_ _) | (with_reducible refine Below.drew ?_) | (with_reducible refine Below.setCell ?_ ?_ _) | (with_reducible refine Below.thn (by assumption) ?_ ?_) | (with_reducible refine below_drewN ?_ _) | go_size))⟩
theorem refAttack_bad (p : Int) (w : World) (h0 : 0 ≤ p) (h : p = 0 ∨ 33554432 ≤ p) :
    Calls Tryd.prog 13 #[.int .u64 p] w fun e w' => e = .returned (.tuple #[.int .u64 0, .int .i64 2]) ∧ Below w.heap.size w w' := by
  have H := Lib.hid h
  clear h
  go_enter Tryd.func13, Tryd.ntmps13
  go_wp2_with (go_at_call 7; refine (refParts_bad p _ h0 H.out).mono ?_; rintro e1 w1 ⟨rfl, hb1⟩; obtain ⟨hc1, hf1⟩ := bcell hb1; have hz1 := hb1.size; (try simp at hz1))
  go_returns
  exact ⟨rfl, by (repeat' (first | (with_reducible exact Below.refl _ _) | (with_reducible refine Below.alloc ?_ ?_ _) | (with_reducible refine Below.drew ?_) | (with_reducible refine Below.setCell ?_ ?_ _) | (with_reducible refine Below.thn (by assumption) ?_ ?_) | (with_reducible refine below_drewN ?_ _) | go_size))⟩
theorem refDefend_ok (d : Nat) (p : Int) (w : World) (hd : d ≤ 23) (h1 : 2 ^ d ≤ p) (h2 : p + 1 < 2 ^ (d + 1)) :
    Calls Tryd.prog 15 #[.int .u64 p] w fun e w' => e = .returned (.tuple #[.int .u64 (2 * p + 2), .int .i64 0]) ∧ Below w.heap.size w w' := by
  have e := pow_succ' d
  have hq := (pow_bounds d (by omega)).2
  have hp := (pow_bounds d (by omega)).1
  have i0 : 0 ≤ p - 2 ^ d := by omega
  have i1 : p - 2 ^ d ≤ 33554432 := by omega
  have i3 : ((d : Int) == 24) = false := by simp; omega
  have K1 : Hid (2 * (p - 2 ^ d) + 2 < 2 ^ (d + 1)) := by show _ < _; omega
  have K2 : Hid (2 * p + 2 = 2 ^ (d + 1) + (2 * (p - 2 ^ d) + 2)) := by show _ = _; omega
  have H1 := Lib.hid h1
  have H2 : Hid (p < 2 ^ (d + 1)) := by show _ < _; omega
  clear e h1 h2
  go_enter Tryd.func15, Tryd.ntmps15
  go_wp2_with (first
    | (go_at_call 7; refine (refParts_ok d p _ (by omega) H1.out H2.out).mono ?_; rintro e1 w1 ⟨rfl, hb1⟩; obtain ⟨hc1, hf1⟩ := bcell hb1; have hz1 := hb1.size; (try simp at hz1))
    | (go_at_call 5; refine (refMake_ok _ (d + 1) _ (2 * p + 2) _ (by omega) (by omega) (by omega) K1.out K2.out).mono ?_; rintro e2 w2 ⟨rfl, hb2⟩; obtain ⟨hc2, hf2⟩ := bcell hb2; have hz2 := hb2.size; (try simp at hz2)))
  go_returns
  exact ⟨rfl, by (repeat' (first | (with_reducible exact Below.refl _ _) | (with_reducible refine Below.alloc ?_ ?_ _) | (with_reducible refine Below.drew ?_) | (with_reducible refine Below.setCell ?_ ?_ _) | (with_reducible refine Below.thn (by assumption) ?_ ?_) | (with_reducible refine below_drewN ?_ _) | go_size))⟩
theorem refDefend_last (d : Nat) (p : Int) (w : World) (hd : d ≤ 23) (h1 : p + 1 = 2 ^ (d + 1)) :
    Calls Tryd.prog 15 #[.int .u64 p] w fun e w' => e = .returned (.tuple #[.int .u64 0, .int .i64 45]) ∧ Below w.heap.size w w' := by
  have e := pow_succ' d
  have hq := (pow_bounds d (by omega)).2
  have hp := (pow_bounds d (by omega)).1
  have H1 : Hid ((2 : Int) ^ d ≤ p) := by show _ ≤ _; omega
  have H2 : Hid (p < 2 ^ (d + 1)) := by show _ < _; omega
  have i3 : ((d : Int) == 24) = false := by simp; omega
  have K1 : Hid (2 ^ (d + 1) ≤ 2 * (p - 2 ^ d) + 2) := by show _ ≤ _; omega
  have i1 : p - 2 ^ d ≤ 33554432 := by omega
  have i0 : 0 ≤ p - 2 ^ d := by omega
  clear e h1
  go_enter Tryd.func15, Tryd.ntmps15
  go_wp2_with (first
    | (go_at_call 7; refine (refParts_ok d p _ (by omega) H1.out H2.out).mono ?_; rintro e1 w1 ⟨rfl, hb1⟩; obtain ⟨hc1, hf1⟩ := bcell hb1; have hz1 := hb1.size; (try simp at hz1))
    | (go_at_call 5; refine (refMake_badI _ (d + 1) _ _ (by omega) (by omega) K1.out).mono ?_; rintro e2 w2 ⟨rfl, hb2⟩; obtain ⟨hc2, hf2⟩ := bcell hb2; have hz2 := hb2.size; (try simp at hz2)))
  go_returns
  exact ⟨rfl, by (repeat' (first | (with_reducible exact Below.refl _ _) | (with_reducible refine Below.alloc ?_ ?_ _) | (with_reducible refine Below.drew ?_) | (with_reducible refine Below.setCell ?_ ?_ _) | (with_reducible refine Below.thn (by assumption) ?_ ?_) | (with_reducible refine below_drewN ?_ _) | go_size))⟩
theorem refDefend_deep (p : Int) (w : World) (h1 : 16777216 ≤ p) (h2 : p < 33554432) :
    Calls Tryd.prog 15 #[.int .u64 p] w fun e w' => e = .returned (.tuple #[.int .u64 0, .int .i64 2]) ∧ Below w.heap.size w w' := by
  go_enter Tryd.func15, Tryd.ntmps15
  go_wp2_with (go_at_call 7; refine (refParts_ok 24 p _ (by omega) (by simpa using h1) (by simpa using h2)).mono ?_; rintro e1 w1 ⟨rfl, hb1⟩; obtain ⟨hc1, hf1⟩ := bcell hb1; have hz1 := hb1.size; (try simp at hz1))
  go_returns
  exact ⟨rfl, by (repeat' (first | (with_reducible exact Below.refl _ _) | (with_reducible refine Below.alloc ?_ ?_ _) | (with_reducible refine Below.drew ?_) | (with_reducible refine Below.setCell ?_ ?_ _) | (with_reducible refine Below.thn (by assumption) ?_ ?_) | (with_reducible refine below_drewN ?_ _) | go_size))⟩
theorem refDefend_bad (p : Int) (w : World) (h0 : 0 ≤ p) (h : p = 0 ∨ 33554432 ≤ p) :
    Calls Tryd.prog 15 #[.int .u64 p] w fun e w' => e = .returned (.tuple #[.int .u64 0, .int .i64 2]) ∧ Below w.heap.size w w' := by
  have H := Lib.hid h
  clear h
  go_enter Tryd.func15, Tryd.ntmps15
  go_wp2_with (go_at_call 7; refine (refParts_bad p _ h0 H.out).mono ?_; rintro e1 w1 ⟨rfl, hb1⟩; obtain ⟨hc1, hf1⟩ := bcell hb1; have hz1 := hb1.size; (try simp at hz1))
  go_returns
  exact ⟨rfl, by (repeat' (first | (with_reducible exact Below.refl _ _) | (with_reducible refine Below.alloc ?_ ?_ _) | (with_reducible refine Below.drew ?_) | (with_reducible refine Below.setCell ?_ ?_ _) | (with_reducible refine Below.thn (by assumption) ?_ ?_) | (with_reducible refine below_drewN ?_ _) | go_size))⟩
/-- The places above the highest one don't divide; the highest one does. -/
theorem top_not {dep e n : Nat} {q V : Int} (hed : e ≤ dep) (h1 : 2 ^ e ≤ q) (hq : q = 1 ∨ q % 2 = 0) (hV : (q - 2 ^ e + 1) * 2 ^ (dep - e) = V) (hn : n < e) : (V % 2 ^ (dep - n) == 0) = false := by
  have hs : ∃ m, dep - n = (dep - e) + 1 + m := ⟨e - n - 1, by omega⟩
  obtain ⟨m, hm⟩ := hs
  have e1 := pow_succ' (e - 1)
  rw [show e - 1 + 1 = e by omega] at e1
  have p1 := (pow_bounds 0 (by omega)).1
  have h2 : (1 : Int) ≤ 2 ^ (e - 1) := by have : (0 : Int) < 2 ^ (e - 1) := Int.pow_pos (by omega); omega
  have hS : (0 : Int) < 2 ^ (dep - e) := Int.pow_pos (by omega)
  rw [beq_eq_false_iff_ne]
  intro h0
  have hd : (2 : Int) ^ (dep - n) ∣ V := Int.dvd_of_emod_eq_zero h0
  have hd2 : (2 : Int) ^ (dep - e) * 2 ∣ V := by
    refine Int.dvd_trans ?_ hd
    rw [hm, Int.pow_add, Int.pow_succ]
    exact Int.dvd_mul_right _ _
  rw [← hV, Int.mul_comm (q - 2 ^ e + 1)] at hd2
  have hd3 : (2 : Int) ∣ (q - 2 ^ e + 1) := Int.dvd_of_mul_dvd_mul_left (by omega) hd2
  have := Int.emod_eq_zero_of_dvd hd3
  omega
theorem top_is {dep e : Nat} {q V : Int} (hV : (q - 2 ^ e + 1) * 2 ^ (dep - e) = V) : (V % 2 ^ (dep - e) == 0) = true ∧ V / 2 ^ (dep - e) - 1 = q - 2 ^ e := by
  have hS : (0 : Int) < 2 ^ (dep - e) := Int.pow_pos (by omega)
  refine ⟨?_, ?_⟩
  · rw [← hV]; simp
  · rw [← hV, Int.mul_ediv_cancel _ (by omega)]; omega

set_option maxHeartbeats 1000000 in
theorem refHighest_ok (d dep : Nat) (p q : Int) (w : World) (hd : d ≤ dep) (hp : dep ≤ 24) (h1 : 2 ^ d ≤ p) (h2 : p < 2 ^ (d + 1)) (ht : Top d dep p q) (hq : q = 1 ∨ q % 2 = 0) :
    Calls Tryd.prog 17 #[.int .u64 p, .int .i64 dep] w fun e w' => e = .returned (.tuple #[.int .u64 q, .int .i64 0]) ∧ Below w.heap.size w w' := by
  obtain ⟨e, he, g1, g2, g3, g4⟩ := ht
  have s1 := (shift_bounds d dep p hd hp h1 h2).1
  have s2 := (shift_bounds d dep p hd hp h1 h2).2
  have hlast : e = d → q = p := by
    rintro rfl
    have := Int.eq_of_mul_eq_mul_right (a := 2 ^ (dep - e)) (by have : (0 : Int) < 2 ^ (dep - e) := Int.pow_pos (by omega); omega) g3
    omega
  have HL := Lib.hid hlast
  obtain ⟨V, hV⟩ : ∃ V, V = (p - 2 ^ d + 1) * 2 ^ (dep - d) := ⟨_, rfl⟩
  rw [← hV] at s1 s2 g3
  have HV := Lib.hid hV
  have H1 := Lib.hid h1
  have H2 := Lib.hid h2
  have G3 := Lib.hid g3
  have G1 := Lib.hid g1
  have G2 := Lib.hid g2
  have HQ := Lib.hid hq
  have b1 := (pow_bounds e (by omega)).2
  clear hlast hV h1 h2 g1 g2 g3 g4 hq
  go_enter Tryd.func17, Tryd.ntmps17
  go_wp2_with (first
    | (go_at_call 11; refine (refTrace_ok d dep p _ hd hp H1.out H2.out).mono ?_; rw [← HV.out]; rintro e1 w1 ⟨rfl, hb1⟩; obtain ⟨hc1, hf1⟩ := bcell hb1; have hz1 := hb1.size; (try simp at hz1))
    | (go_at_call 7; refine (refParts_ok d p _ (by omega) H1.out H2.out).mono ?_; rintro e2 w2 ⟨rfl, hb2⟩; obtain ⟨hc2, hf2⟩ := bcell hb2; have hz2 := hb2.size; (try simp at hz2)))
  go_loopw [11] (fun k wr => ∃ n : Nat, n ≤ e ∧ k = .int .i64 n ∧ Below w2.heap.size w2 wr) (fun k _ => 25 - (intOf k).toNat)
  case atStart => exact ⟨0, by omega, rfl, Below.refl _ _⟩
  case round =>
    obtain ⟨n, hn, rfl, hbr⟩ := hrel
    have hzr := hbr.size
    have a1 := (pow_bounds (dep - n) (by omega)).1
    have a2 := (pow_bounds (dep - n) (by omega)).2
    by_cases c : n < e
    · have hB := top_not (dep := dep) (by omega) G1.out HQ.out G3.out c
      go_wp2_with fail
      go_roundw
      case rel => exact ⟨n + 1, by omega, by go_num, by (repeat' (first | (with_reducible exact Below.refl _ _) | (with_reducible refine Below.alloc ?_ ?_ _) | (with_reducible refine Below.drew ?_) | (with_reducible refine Below.setCell ?_ ?_ _) | (with_reducible refine Below.thn (by assumption) ?_ ?_) | (with_reducible refine below_drewN ?_ _) | go_size))⟩
      case measure => simp [intOf]; omega
    · obtain rfl : n = e := by omega
      by_cases c2 : n < d
      · have hB := (top_is (dep := dep) G3.out).1
        have hC := Lib.hid (top_is (dep := dep) G3.out).2
        have hW : IntKind.u64.wrap (V / 2 ^ (dep - n) - 1) = q - 2 ^ n := by
          rw [hC.out, IntKind.wrap_u64]; have := G1.out; have := G2.out; have := pow_succ' n; omega
        go_wp2_with (go_at_call 5; refine (refMake_ok _ n _ q _ (by omega) (by omega) (by have := G1.out; omega) (by have := G2.out; have := pow_succ' n; omega) (by omega)).mono ?_; rintro e3 w3 ⟨rfl, hb3⟩; obtain ⟨hc3, hf3⟩ := bcell hb3; have hz3 := hb3.size; (try simp at hz3))
        go_returns
        exact ⟨rfl, by (repeat' (first | (with_reducible exact Below.refl _ _) | (with_reducible refine Below.alloc ?_ ?_ _) | (with_reducible refine Below.drew ?_) | (with_reducible refine Below.setCell ?_ ?_ _) | (with_reducible refine Below.thn (by assumption) ?_ ?_) | (with_reducible refine below_drewN ?_ _) | go_size))⟩
      · obtain rfl : n = d := by omega
        have hqp := HL.out rfl
        subst hqp
        go_wp2_with fail
        go_returns
        exact ⟨rfl, by (repeat' (first | (with_reducible exact Below.refl _ _) | (with_reducible refine Below.alloc ?_ ?_ _) | (with_reducible refine Below.drew ?_) | (with_reducible refine Below.setCell ?_ ?_ _) | (with_reducible refine Below.thn (by assumption) ?_ ?_) | (with_reducible refine below_drewN ?_ _) | go_size))⟩
theorem refHighest_badP (p dep : Int) (w : World) (h0 : 0 ≤ p) (h : p = 0 ∨ 33554432 ≤ p) :
    Calls Tryd.prog 17 #[.int .u64 p, .int .i64 dep] w fun e w' => e = .returned (.tuple #[.int .u64 0, .int .i64 2]) ∧ Below w.heap.size w w' := by
  have H := Lib.hid h
  clear h
  go_enter Tryd.func17, Tryd.ntmps17
  go_wp2_with (go_at_call 11; refine (refTrace_badP p dep _ h0 H.out).mono ?_; rintro e1 w1 ⟨rfl, hb1⟩; obtain ⟨hc1, hf1⟩ := bcell hb1; have hz1 := hb1.size; (try simp at hz1))
  go_returns
  exact ⟨rfl, by (repeat' (first | (with_reducible exact Below.refl _ _) | (with_reducible refine Below.alloc ?_ ?_ _) | (with_reducible refine Below.drew ?_) | (with_reducible refine Below.setCell ?_ ?_ _) | (with_reducible refine Below.thn (by assumption) ?_ ?_) | (with_reducible refine below_drewN ?_ _) | go_size))⟩
theorem refHighest_badD (d : Nat) (p dep : Int) (w : World) (hd : d ≤ 24) (h1 : 2 ^ d ≤ p) (h2 : p < 2 ^ (d + 1)) (h : dep < d ∨ 24 < dep) :
    Calls Tryd.prog 17 #[.int .u64 p, .int .i64 dep] w fun e w' => e = .returned (.tuple #[.int .u64 0, .int .i64 2]) ∧ Below w.heap.size w w' := by
  have H := Lib.hid h
  have H1 := Lib.hid h1
  have H2 := Lib.hid h2
  clear h h1 h2
  go_enter Tryd.func17, Tryd.ntmps17
  go_wp2_with (go_at_call 11; refine (refTrace_badD d p dep _ hd H1.out H2.out H.out).mono ?_; rintro e1 w1 ⟨rfl, hb1⟩; obtain ⟨hc1, hf1⟩ := bcell hb1; have hz1 := hb1.size; (try simp at hz1))
  go_returns
  exact ⟨rfl, by (repeat' (first | (with_reducible exact Below.refl _ _) | (with_reducible refine Below.alloc ?_ ?_ _) | (with_reducible refine Below.drew ?_) | (with_reducible refine Below.setCell ?_ ?_ _) | (with_reducible refine Below.thn (by assumption) ?_ ?_) | (with_reducible refine below_drewN ?_ _) | go_size))⟩

/-- An error of the program: none at 0, else its number. -/
def errV (n : Int) : Value := if n = 0 then .nilIface else .iface 40 (.int .i64 n)
theorem errV_nil : errV 0 = .nilIface := rfl
theorem errV_num {n : Int} (h : n ≠ 0) : errV n = .iface 40 (.int .i64 n) := by unfold errV; rw [if_neg h]

theorem same_ok (v n : Int) (w : World) (h : Hid (ErrType w)) :
    Calls Tryd.prog 9 #[.int .u64 v, errV n, .int .u64 v, .int .i64 n] w fun e w' => e = .returned (.bool true) ∧ Below w.heap.size w w' := by
  by_cases hn : n = 0
  · subst hn
    rw [errV_nil]
    go_enter Tryd.func9, Tryd.ntmps9
    go_wp2_with (go_at_call 20; refine (why_nil _).mono ?_; rintro e1 w1 ⟨rfl, hb1⟩; obtain ⟨hc1, hf1⟩ := bcell hb1; have hz1 := hb1.size; (try simp at hz1))
    go_returns
    exact ⟨by simp, by (repeat' (first | (with_reducible exact Below.refl _ _) | (with_reducible refine Below.alloc ?_ ?_ _) | (with_reducible refine Below.drew ?_) | (with_reducible refine Below.setCell ?_ ?_ _) | (with_reducible refine Below.thn (by assumption) ?_ ?_) | (with_reducible refine below_drewN ?_ _) | go_size))⟩
  · rw [errV_num hn]
    clear hn
    go_enter Tryd.func9, Tryd.ntmps9
    go_wp2_with (go_at_call 20; refine (why_num n _ h).mono ?_; rintro e1 w1 ⟨rfl, hb1⟩; obtain ⟨hc1, hf1⟩ := bcell hb1; have hz1 := hb1.size; (try simp at hz1))
    go_returns
    exact ⟨by simp, by (repeat' (first | (with_reducible exact Below.refl _ _) | (with_reducible refine Below.alloc ?_ ?_ _) | (with_reducible refine Below.drew ?_) | (with_reducible refine Below.setCell ?_ ?_ _) | (with_reducible refine Below.thn (by assumption) ?_ ?_) | (with_reducible refine below_drewN ?_ _) | go_size))⟩

/-- What a call and the document answer alike. -/
def Pair (f g : FuncId) (args : Array Value) (v n : Int) : Prop :=
  (∀ w, Calls Tryd.prog f args w fun e w' => e = .returned (.tuple #[.int .u64 v, errV n]) ∧ Below w.heap.size w w') ∧
  (∀ w, Calls Tryd.prog g args w fun e w' => e = .returned (.tuple #[.int .u64 v, .int .i64 n]) ∧ Below w.heap.size w w')
/-- Of every number: a position, or none. -/
theorem pos_cases {p : Int} (h0 : 0 ≤ p) : (∃ d : Nat, d ≤ 24 ∧ 2 ^ d ≤ p ∧ p < 2 ^ (d + 1)) ∨ (p = 0 ∨ 33554432 ≤ p) := by
  by_cases h : p = 0 ∨ 33554432 ≤ p
  · exact .inr h
  · left
    obtain ⟨n, rfl⟩ := Int.eq_ofNat_of_zero_le h0
    have hn : n ≠ 0 := by omega
    refine ⟨Nat.log2 n, ?_, ?_, ?_⟩
    · have : n < 2 ^ 25 := by omega
      have := (Nat.log2_lt hn).2 this
      omega
    · have := Nat.log2_self_le hn
      exact_mod_cast this
    · have := (Nat.log2_lt hn).1 (Nat.lt_succ_self _)
      exact_mod_cast this
theorem make_pair (D i : Int) (h0 : 0 ≤ i) : ∃ v n, Pair 4 5 #[.int .i64 D, .int .u64 i] v n := by
  by_cases h : D < 0 ∨ 24 < D
  · exact ⟨0, 2, fun w => make_badD D i w h, fun w => refMake_badD D i w h⟩
  · obtain ⟨d, rfl⟩ := Int.eq_ofNat_of_zero_le (show 0 ≤ D by omega)
    by_cases h1 : 2 ^ d ≤ i
    · exact ⟨0, 2, fun w => make_badI d i w (by omega) h1, fun w => refMake_badI _ d i w rfl (by omega) h1⟩
    · exact ⟨2 ^ d + i, 0, fun w => make_ok d i w (by omega) h0 (by omega), fun w => refMake_ok _ d i _ w rfl (by omega) h0 (by omega) rfl⟩
theorem parts_pair (p : Int) (h0 : 0 ≤ p) : ∃ D i n, (∀ w, Calls Tryd.prog 6 #[.int .u64 p] w fun e w' => e = .returned (.tuple #[.int .i64 D, .int .u64 i, errV n]) ∧ Below w.heap.size w w') ∧
    (∀ w, Calls Tryd.prog 7 #[.int .u64 p] w fun e w' => e = .returned (.tuple #[.int .i64 D, .int .u64 i, .int .i64 n]) ∧ Below w.heap.size w w') := by
  rcases pos_cases h0 with ⟨d, hd, h1, h2⟩ | h
  · exact ⟨d, p - 2 ^ d, 0, fun w => parts_ok d p w hd h1 h2, fun w => refParts_ok d p w hd h1 h2⟩
  · exact ⟨0, 0, 2, fun w => parts_bad p w h0 h, fun w => refParts_bad p w h0 h⟩
theorem trace_pair (p dep : Int) (h0 : 0 ≤ p) : ∃ v n, Pair 10 11 #[.int .u64 p, .int .i64 dep] v n := by
  rcases pos_cases h0 with ⟨d, hd, h1, h2⟩ | h
  · by_cases hb : dep < d ∨ 24 < dep
    · exact ⟨0, 2, fun w => trace_badD d p dep w hd h1 h2 hb, fun w => refTrace_badD d p dep w hd h1 h2 hb⟩
    · obtain ⟨k, rfl⟩ := Int.eq_ofNat_of_zero_le (show 0 ≤ dep by omega)
      exact ⟨_, 0, fun w => trace_ok d k p w (by omega) (by omega) h1 h2, fun w => refTrace_ok d k p w (by omega) (by omega) h1 h2⟩
  · exact ⟨0, 2, fun w => trace_badP p dep w h0 h, fun w => refTrace_badP p dep w h0 h⟩
theorem attack_pair (p : Int) (h0 : 0 ≤ p) : ∃ v n, Pair 12 13 #[.int .u64 p] v n := by
  rcases pos_cases h0 with ⟨d, hd, h1, h2⟩ | h
  · by_cases hb : d ≤ 23
    · exact ⟨_, 0, fun w => attack_ok d p w hb h1 h2, fun w => refAttack_ok d p w hb h1 h2⟩
    · obtain rfl : d = 24 := by omega
      have h1' : 16777216 ≤ p := by simpa using h1
      have h2' : p < 33554432 := by simpa using h2
      exact ⟨0, 2, fun w => attack_deep p w h1' h2', fun w => refAttack_deep p w h1' h2'⟩
  · exact ⟨0, 2, fun w => attack_bad p w h0 h, fun w => refAttack_bad p w h0 h⟩
theorem defend_pair (p : Int) (h0 : 0 ≤ p) : ∃ v n, Pair 14 15 #[.int .u64 p] v n := by
  rcases pos_cases h0 with ⟨d, hd, h1, h2⟩ | h
  · by_cases hb : d ≤ 23
    · by_cases hl : p + 1 = 2 ^ (d + 1)
      · exact ⟨0, 45, fun w => defend_last d p w hb hl, fun w => refDefend_last d p w hb hl⟩
      · exact ⟨_, 0, fun w => defend_ok d p w hb h1 (by omega), fun w => refDefend_ok d p w hb h1 (by omega)⟩
    · obtain rfl : d = 24 := by omega
      have h1' : 16777216 ≤ p := by simpa using h1
      have h2' : p < 33554432 := by simpa using h2
      exact ⟨0, 2, fun w => defend_deep p w h1' h2', fun w => refDefend_deep p w h1' h2'⟩
  · exact ⟨0, 2, fun w => defend_bad p w h0 h, fun w => refDefend_bad p w h0 h⟩
/-- Highest: the document answers what the call answered. -/
def HiPost (p dep : Int) (w : World) (e : Ending) (w' : World) : Prop := ∃ v n, e = .returned (.tuple #[.int .u64 v, errV n]) ∧ Below w.heap.size w w' ∧
  ∀ W, Calls Tryd.prog 17 #[.int .u64 p, .int .i64 dep] W fun e W' => e = .returned (.tuple #[.int .u64 v, .int .i64 n]) ∧ Below W.heap.size W W'
theorem highest_pair (p dep : Int) (w : World) (h0 : 0 ≤ p) : Calls Tryd.prog 16 #[.int .u64 p, .int .i64 dep] w (HiPost p dep w) := by
  rcases pos_cases h0 with ⟨d, hd, h1, h2⟩ | h
  · by_cases hb : dep < d ∨ 24 < dep
    · exact (highest_badD d p dep w hd h1 h2 hb).mono fun e w' h => ⟨0, 2, h.1, h.2, fun W => refHighest_badD d p dep W hd h1 h2 hb⟩
    · obtain ⟨k, rfl⟩ := Int.eq_ofNat_of_zero_le (show 0 ≤ dep by omega)
      refine (highest_ok d k p w (by omega) (by omega) h1 h2).mono fun e w' h => ?_
      obtain ⟨q, ht, q0, hq, he, hb⟩ := h
      exact ⟨q, 0, he, hb, fun W => refHighest_ok d k p q W (by omega) (by omega) h1 h2 ht hq⟩
  · exact (highest_badP p dep w h0 h).mono fun e w' hh => ⟨0, 2, hh.1, hh.2, fun W => refHighest_badP p dep W h0 h⟩
end Go.Proofs.YtaogiclcgdpcmaaDoor
