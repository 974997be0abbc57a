/-
  The positions' functions by their contracts: Make, Parts, Trace, Attack, Defend.
-/
import Derived.Test.YtaogiclcgdpcmaaDoorErrs
import Derived.Test.YtaogiclcgdpcmaaDoorHeld
import Derived.Test.YtaogiclcgdpcmaaDoorShelf
import Derived.Outline
import Derived.WalkSmall
set_option linter.unusedVariables false
namespace Go.Proofs.YtaogiclcgdpcmaaDoor
open Go.RowKit

theorem pow_bounds (d : Nat) (hd : d ≤ 25) : (1 : Int) ≤ 2 ^ d ∧ (2 : Int) ^ d ≤ 33554432 := by
  have h1 : 2 ^ d ≤ 2 ^ 25 := Nat.pow_le_pow_right (by omega) hd
  have h2 : 1 ≤ 2 ^ d := Nat.one_le_two_pow
  have e : ((2 : Int) ^ d) = ((2 ^ d : Nat) : Int) := by simp
  rw [e]; omega
theorem make_ok (d : Nat) (i : Int) (w : World) (hd : d ≤ 24) (h0 : 0 ≤ i) (h1 : i < 2 ^ d) :
    Calls Tryd.prog 4 #[.int .i64 d, .int .u64 i] w fun e w' => e = .returned (.tuple #[.int .u64 (2 ^ d + i), .nilIface]) ∧ Below w.heap.size w w' := by
  have hp := (pow_bounds d (by omega)).1
  have hq := (pow_bounds d (by omega)).2
  go_enter Tryd.func4, Tryd.ntmps4
  go_wp2
  go_returns
  exact ⟨rfl, by (repeat' (first | (with_reducible exact Below.refl _ _) | (with_reducible refine Below.alloc ?_ ?_ _) | (with_reducible refine Below.drew ?_) | (with_reducible refine Below.setCell ?_ ?_ _) | (with_reducible refine Below.thn (by assumption) ?_ ?_) | (with_reducible refine below_drewN ?_ _) | go_size))⟩
theorem make_badD (d i : Int) (w : World) (h : d < 0 ∨ 24 < d) :
    Calls Tryd.prog 4 #[.int .i64 d, .int .u64 i] w fun e w' => e = .returned (.tuple #[.int .u64 0, .iface 40 (.int .i64 2)]) ∧ Below w.heap.size w w' := by
  by_cases h1 : d < 0
  · clear h
    go_enter Tryd.func4, Tryd.ntmps4
    go_wp2
    go_returns
    exact ⟨rfl, by (repeat' (first | (with_reducible exact Below.refl _ _) | (with_reducible refine Below.alloc ?_ ?_ _) | (with_reducible refine Below.drew ?_) | (with_reducible refine Below.setCell ?_ ?_ _) | (with_reducible refine Below.thn (by assumption) ?_ ?_) | (with_reducible refine below_drewN ?_ _) | go_size))⟩
  · have h2 : 24 < d := by omega
    clear h
    go_enter Tryd.func4, Tryd.ntmps4
    go_wp2
    go_returns
    exact ⟨rfl, by (repeat' (first | (with_reducible exact Below.refl _ _) | (with_reducible refine Below.alloc ?_ ?_ _) | (with_reducible refine Below.drew ?_) | (with_reducible refine Below.setCell ?_ ?_ _) | (with_reducible refine Below.thn (by assumption) ?_ ?_) | (with_reducible refine below_drewN ?_ _) | go_size))⟩
theorem make_badI (d : Nat) (i : Int) (w : World) (hd : d ≤ 24) (h1 : 2 ^ d ≤ i) :
    Calls Tryd.prog 4 #[.int .i64 d, .int .u64 i] w fun e w' => e = .returned (.tuple #[.int .u64 0, .iface 40 (.int .i64 2)]) ∧ Below w.heap.size w w' := by
  have hp := (pow_bounds d (by omega)).1
  have hq := (pow_bounds d (by omega)).2
  go_enter Tryd.func4, Tryd.ntmps4
  go_wp2
  go_returns
  exact ⟨rfl, by (repeat' (first | (with_reducible exact Below.refl _ _) | (with_reducible refine Below.alloc ?_ ?_ _) | (with_reducible refine Below.drew ?_) | (with_reducible refine Below.setCell ?_ ?_ _) | (with_reducible refine Below.thn (by assumption) ?_ ?_) | (with_reducible refine below_drewN ?_ _) | go_size))⟩
theorem bitLen_pow (d p : Nat) (hd : d ≤ 62) (h1 : 2 ^ d ≤ p) (h2 : p < 2 ^ (d + 1)) : Lib.bitLen p = d + 1 := by
  have hp : p < 2 ^ 64 := Nat.lt_of_lt_of_le h2 (Nat.pow_le_pow_right (by omega) (by omega))
  rw [Lib.bitLen_shift d p h1 hp]
  have e : p / 2 ^ d = 1 := by
    have h0 : 0 < 2 ^ d := Nat.two_pow_pos d
    apply Nat.div_eq_of_lt_le
    · omega
    · rw [Nat.pow_succ] at h2; omega
  rw [e]; rfl
theorem len64_ok (d : Nat) (p : Int) (w : World) (hd : d ≤ 62) (h1 : 2 ^ d ≤ p) (h2 : p < 2 ^ (d + 1)) (h3 : p ≤ 18446744073709551615) :
    Calls Tryd.prog 18 #[.int .u64 p] w fun e w' => e = .returned (.int .i64 (d + 1)) ∧ Below w.heap.size w w' := by
  have h0 : (0 : Int) ≤ p := Int.le_trans (Int.le_of_lt (Int.pow_pos (by omega))) h1
  obtain ⟨n, rfl⟩ := Int.eq_ofNat_of_zero_le h0
  refine (Tryd.bits_Len64 n w h0 h3).mono fun e w' ⟨he, hw⟩ => ⟨?_, by rw [hw]; exact Below.refl _ _⟩
  rw [he, Int.toNat_natCast, bitLen_pow d n hd (by exact_mod_cast h1) (by exact_mod_cast h2)]
  simp
theorem parts_ok (d : Nat) (p : Int) (w : World) (hd : d ≤ 24) (h1 : 2 ^ d ≤ p) (h2 : p < 2 ^ (d + 1)) :
    Calls Tryd.prog 6 #[.int .u64 p] w fun e w' => e = .returned (.tuple #[.int .i64 d, .int .u64 (p - 2 ^ d), .nilIface]) ∧ Below w.heap.size w w' := by
  have hp := (pow_bounds d (by omega)).1
  have hq := (pow_bounds d (by omega)).2
  have hr := (pow_bounds (d + 1) (by omega)).2
  have h3 : p < 33554432 := by omega
  have h4 : 0 < p := by omega
  have h5 : (p == 0) = false := by simp; omega
  have H2 := Lib.hid h2
  clear h2 hr
  go_enter Tryd.func6, Tryd.ntmps6
  go_wp2_with (go_at_call 18; refine (len64_ok d p _ (by omega) h1 H2.out (by omega)).mono ?_; rintro e1 w1 ⟨rfl, hb1⟩; obtain ⟨hc1, hf1⟩ := bcell hb1; have hz1 := hb1.size; (try simp at hz1))
  go_quiet (fail)
  go_wp2
  go_returns
  exact ⟨rfl, below_drewN (by (repeat' (first | (with_reducible exact Below.refl _ _) | (with_reducible refine Below.alloc ?_ ?_ _) | (with_reducible refine Below.drew ?_) | (with_reducible refine Below.setCell ?_ ?_ _) | (with_reducible refine Below.thn (by assumption) ?_ ?_) | (with_reducible refine below_drewN ?_ _) | go_size))) _⟩
theorem parts_bad (p : Int) (w : World) (h0 : 0 ≤ p) (h : p = 0 ∨ 33554432 ≤ p) :
    Calls Tryd.prog 6 #[.int .u64 p] w fun e w' => e = .returned (.tuple #[.int .i64 0, .int .u64 0, .iface 40 (.int .i64 2)]) ∧ Below w.heap.size w w' := by
  by_cases h1 : p = 0
  · subst h1
    go_enter Tryd.func6, Tryd.ntmps6
    go_wp2
    go_returns
    exact ⟨rfl, by (repeat' (first | (with_reducible exact Below.refl _ _) | (with_reducible refine Below.alloc ?_ ?_ _) | (with_reducible refine Below.drew ?_) | (with_reducible refine Below.setCell ?_ ?_ _) | (with_reducible refine Below.thn (by assumption) ?_ ?_) | (with_reducible refine below_drewN ?_ _) | go_size))⟩
  · have h2 : 33554432 ≤ p := by omega
    have h5 : (p == 0) = false := by simp; omega
    clear h h1
    go_enter Tryd.func6, Tryd.ntmps6
    go_wp2
    go_returns
    exact ⟨rfl, by (repeat' (first | (with_reducible exact Below.refl _ _) | (with_reducible refine Below.alloc ?_ ?_ _) | (with_reducible refine Below.drew ?_) | (with_reducible refine Below.setCell ?_ ?_ _) | (with_reducible refine Below.thn (by assumption) ?_ ?_) | (with_reducible refine below_drewN ?_ _) | go_size))⟩

/-- Make, with its depth and its answer spelled as the caller has them. -/
theorem make_okV (D : Int) (d : Nat) (i v : Int) (w : World) (hD : D = d) (hd : d ≤ 24) (h0 : 0 ≤ i) (h1 : i < 2 ^ d) (hv : v = 2 ^ d + i) :
    Calls Tryd.prog 4 #[.int .i64 D, .int .u64 i] w fun e w' => e = .returned (.tuple #[.int .u64 v, .nilIface]) ∧ Below w.heap.size w w' := by
  subst hD; subst hv; exact make_ok d i w hd h0 h1
theorem pow_succ' (d : Nat) : (2 : Int) ^ (d + 1) = 2 * 2 ^ d := by rw [Int.pow_succ]; omega
theorem shift_bounds (d dep : Nat) (p : Int) (hd : d ≤ dep) (hp : dep ≤ 24) (h1 : 2 ^ d ≤ p) (h2 : p < 2 ^ (d + 1)) : 1 ≤ (p - 2 ^ d + 1) * 2 ^ (dep - d) ∧ (p - 2 ^ d + 1) * 2 ^ (dep - d) ≤ 16777216 := by
  have e := pow_succ' d
  have a1 := (pow_bounds (dep - d) (by omega)).1
  have m : (2 : Int) ^ d * 2 ^ (dep - d) = 2 ^ dep := by rw [← Int.pow_add]; congr 1; omega
  have b : (2 : Int) ^ dep ≤ 2 ^ 24 := by
    have := Nat.pow_le_pow_right (n := 2) (by omega) hp
    exact_mod_cast this
  have c : (p - 2 ^ d + 1) * 2 ^ (dep - d) ≤ 2 ^ d * 2 ^ (dep - d) := Int.mul_le_mul_of_nonneg_right (by omega) (by omega)
  have f : 1 * 2 ^ (dep - d) ≤ (p - 2 ^ d + 1) * 2 ^ (dep - d) := Int.mul_le_mul_of_nonneg_right (by omega) (by omega)
  exact ⟨by omega, by omega⟩
theorem trace_ok (d dep : Nat) (p : Int) (w : World) (hd : d ≤ dep) (hp : dep ≤ 24) (h1 : 2 ^ d ≤ p) (h2 : p < 2 ^ (d + 1)) :
    Calls Tryd.prog 10 #[.int .u64 p, .int .i64 dep] w fun e w' => e = .returned (.tuple #[.int .u64 ((p - 2 ^ d + 1) * 2 ^ (dep - d) - 1), .nilIface]) ∧ Below w.heap.size w w' := by
  have q0 := (shift_bounds d dep p hd hp h1 h2).1
  have q1 := (shift_bounds d dep p hd hp h1 h2).2
  have e := pow_succ' d
  have hq := (pow_bounds d (by omega)).2
  have i0 : 0 ≤ p - 2 ^ d := by omega
  have i1 : p - 2 ^ d + 1 ≤ 33554432 := by omega
  have H1 := Lib.hid h1
  have H2 := Lib.hid h2
  clear e h1 h2
  go_enter Tryd.func10, Tryd.ntmps10
  go_wp2_with (go_at_call 6; refine (parts_ok d p _ (by omega) H1.out H2.out).mono ?_; rintro e1 w1 ⟨rfl, hb1⟩; obtain ⟨hc1, hf1⟩ := bcell hb1; have hz1 := hb1.size; (try simp at hz1))
  go_returns
  exact ⟨rfl, by (repeat' (first | (with_reducible exact Below.refl _ _) | (with_reducible refine Below.alloc ?_ ?_ _) | (with_reducible refine Below.drew ?_) | (with_reducible refine Below.setCell ?_ ?_ _) | (with_reducible refine Below.thn (by assumption) ?_ ?_) | (with_reducible refine below_drewN ?_ _) | go_size))⟩
theorem trace_badP (p dep : Int) (w : World) (h0 : 0 ≤ p) (h : p = 0 ∨ 33554432 ≤ p) :
    Calls Tryd.prog 10 #[.int .u64 p, .int .i64 dep] w fun e w' => e = .returned (.tuple #[.int .u64 0, .iface 40 (.int .i64 2)]) ∧ Below w.heap.size w w' := by
  have H := Lib.hid h
  clear h
  go_enter Tryd.func10, Tryd.ntmps10
  go_wp2_with (go_at_call 6; refine (parts_bad p _ h0 H.out).mono ?_; rintro e1 w1 ⟨rfl, hb1⟩; obtain ⟨hc1, hf1⟩ := bcell hb1; have hz1 := hb1.size; (try simp at hz1))
  go_returns
  exact ⟨rfl, by (repeat' (first | (with_reducible exact Below.refl _ _) | (with_reducible refine Below.alloc ?_ ?_ _) | (with_reducible refine Below.drew ?_) | (with_reducible refine Below.setCell ?_ ?_ _) | (with_reducible refine Below.thn (by assumption) ?_ ?_) | (with_reducible refine below_drewN ?_ _) | go_size))⟩
theorem trace_badD (d : Nat) (p dep : Int) (w : World) (hd : d ≤ 24) (h1 : 2 ^ d ≤ p) (h2 : p < 2 ^ (d + 1)) (h : dep < d ∨ 24 < dep) :
    Calls Tryd.prog 10 #[.int .u64 p, .int .i64 dep] w fun e w' => e = .returned (.tuple #[.int .u64 0, .iface 40 (.int .i64 2)]) ∧ Below w.heap.size w w' := by
  have H1 := Lib.hid h1
  have H2 := Lib.hid h2
  clear h1 h2
  by_cases c : dep < d
  · clear h
    go_enter Tryd.func10, Tryd.ntmps10
    go_wp2_with (go_at_call 6; refine (parts_ok d p _ (by omega) H1.out H2.out).mono ?_; rintro e1 w1 ⟨rfl, hb1⟩; obtain ⟨hc1, hf1⟩ := bcell hb1; have hz1 := hb1.size; (try simp at hz1))
    go_returns
    exact ⟨rfl, by (repeat' (first | (with_reducible exact Below.refl _ _) | (with_reducible refine Below.alloc ?_ ?_ _) | (with_reducible refine Below.drew ?_) | (with_reducible refine Below.setCell ?_ ?_ _) | (with_reducible refine Below.thn (by assumption) ?_ ?_) | (with_reducible refine below_drewN ?_ _) | go_size))⟩
  · have h3 : 24 < dep := by omega
    clear h
    go_enter Tryd.func10, Tryd.ntmps10
    go_wp2_with (go_at_call 6; refine (parts_ok d p _ (by omega) H1.out H2.out).mono ?_; rintro e1 w1 ⟨rfl, hb1⟩; obtain ⟨hc1, hf1⟩ := bcell hb1; have hz1 := hb1.size; (try simp at hz1))
    go_returns
    exact ⟨rfl, by (repeat' (first | (with_reducible exact Below.refl _ _) | (with_reducible refine Below.alloc ?_ ?_ _) | (with_reducible refine Below.drew ?_) | (with_reducible refine Below.setCell ?_ ?_ _) | (with_reducible refine Below.thn (by assumption) ?_ ?_) | (with_reducible refine below_drewN ?_ _) | go_size))⟩
theorem attack_ok (d : Nat) (p : Int) (w : World) (hd : d ≤ 23) (h1 : 2 ^ d ≤ p) (h2 : p < 2 ^ (d + 1)) :
    Calls Tryd.prog 12 #[.int .u64 p] w fun e w' => e = .returned (.tuple #[.int .u64 (2 * p), .nilIface]) ∧ Below w.heap.size w w' := by
  have e := pow_succ' d
  have hq := (pow_bounds d (by omega)).2
  have i0 : 0 ≤ p - 2 ^ d := by omega
  have i1 : p - 2 ^ d ≤ 33554432 := by omega
  have K1 : Hid (2 * (p - 2 ^ d) < 2 ^ (d + 1)) := by show _ < _; omega
  have K2 : Hid (2 * p = 2 ^ (d + 1) + 2 * (p - 2 ^ d)) := by show _ = _; omega
  have H1 := Lib.hid h1
  have H2 := Lib.hid h2
  clear e h1 h2
  go_enter Tryd.func12, Tryd.ntmps12
  go_wp2_with (first
    | (go_at_call 6; refine (parts_ok d p _ (by omega) H1.out H2.out).mono ?_; rintro e1 w1 ⟨rfl, hb1⟩; obtain ⟨hc1, hf1⟩ := bcell hb1; have hz1 := hb1.size; (try simp at hz1))
    | (go_at_call 4; refine (make_okV _ (d + 1) _ (2 * p) _ (by omega) (by omega) (by omega) K1.out K2.out).mono ?_; rintro e2 w2 ⟨rfl, hb2⟩; obtain ⟨hc2, hf2⟩ := bcell hb2; have hz2 := hb2.size; (try simp at hz2)))
  go_returns
  exact ⟨rfl, by (repeat' (first | (with_reducible exact Below.refl _ _) | (with_reducible refine Below.alloc ?_ ?_ _) | (with_reducible refine Below.drew ?_) | (with_reducible refine Below.setCell ?_ ?_ _) | (with_reducible refine Below.thn (by assumption) ?_ ?_) | (with_reducible refine below_drewN ?_ _) | go_size))⟩
theorem attack_deep (p : Int) (w : World) (h1 : 16777216 ≤ p) (h2 : p < 33554432) :
    Calls Tryd.prog 12 #[.int .u64 p] w fun e w' => e = .returned (.tuple #[.int .u64 0, .iface 40 (.int .i64 2)]) ∧ Below w.heap.size w w' := by
  go_enter Tryd.func12, Tryd.ntmps12
  go_wp2_with (first
    | (go_at_call 6; refine (parts_ok 24 p _ (by omega) (by simpa using h1) (by simpa using h2)).mono ?_; rintro e1 w1 ⟨rfl, hb1⟩; obtain ⟨hc1, hf1⟩ := bcell hb1; have hz1 := hb1.size; (try simp at hz1))
    | (go_at_call 4; refine (make_badD _ _ _ (by omega)).mono ?_; rintro e2 w2 ⟨rfl, hb2⟩; obtain ⟨hc2, hf2⟩ := bcell hb2; have hz2 := hb2.size; (try simp at hz2)))
  go_returns
  exact ⟨rfl, by (repeat' (first | (with_reducible exact Below.refl _ _) | (with_reducible refine Below.alloc ?_ ?_ _) | (with_reducible refine Below.drew ?_) | (with_reducible refine Below.setCell ?_ ?_ _) | (with_reducible refine Below.thn (by assumption) ?_ ?_) | (with_reducible refine below_drewN ?_ _) | go_size))⟩
theorem attack_bad (p : Int) (w : World) (h0 : 0 ≤ p) (h : p = 0 ∨ 33554432 ≤ p) :
    Calls Tryd.prog 12 #[.int .u64 p] w fun e w' => e = .returned (.tuple #[.int .u64 0, .iface 40 (.int .i64 2)]) ∧ Below w.heap.size w w' := by
  have H := Lib.hid h
  clear h
  go_enter Tryd.func12, Tryd.ntmps12
  go_wp2_with (go_at_call 6; refine (parts_bad p _ h0 H.out).mono ?_; rintro e1 w1 ⟨rfl, hb1⟩; obtain ⟨hc1, hf1⟩ := bcell hb1; have hz1 := hb1.size; (try simp at hz1))
  go_returns
  exact ⟨rfl, by (repeat' (first | (with_reducible exact Below.refl _ _) | (with_reducible refine Below.alloc ?_ ?_ _) | (with_reducible refine Below.drew ?_) | (with_reducible refine Below.setCell ?_ ?_ _) | (with_reducible refine Below.thn (by assumption) ?_ ?_) | (with_reducible refine below_drewN ?_ _) | go_size))⟩

theorem defend_ok (d : Nat) (p : Int) (w : World) (hd : d ≤ 23) (h1 : 2 ^ d ≤ p) (h2 : p + 1 < 2 ^ (d + 1)) :
    Calls Tryd.prog 14 #[.int .u64 p] w fun e w' => e = .returned (.tuple #[.int .u64 (2 * p + 2), .nilIface]) ∧ Below w.heap.size w w' := by
  have e := pow_succ' d
  have hq := (pow_bounds d (by omega)).2
  have hp := (pow_bounds d (by omega)).1
  have i0 : 0 ≤ p - 2 ^ d := by omega
  have i1 : p - 2 ^ d ≤ 33554432 := by omega
  have i2 : p - 2 ^ d < 2 ^ d - 1 := by omega
  have i3 : ((d : Int) == 24) = false := by simp; omega
  have K1 : Hid (2 * (p - 2 ^ d) + 2 < 2 ^ (d + 1)) := by show _ < _; omega
  have K2 : Hid (2 * p + 2 = 2 ^ (d + 1) + (2 * (p - 2 ^ d) + 2)) := by show _ = _; omega
  have H1 := Lib.hid h1
  have H2 : Hid (p < 2 ^ (d + 1)) := by show _ < _; omega
  clear e h1 h2
  go_enter Tryd.func14, Tryd.ntmps14
  go_wp2_with (first
    | (go_at_call 6; refine (parts_ok d p _ (by omega) H1.out H2.out).mono ?_; rintro e1 w1 ⟨rfl, hb1⟩; obtain ⟨hc1, hf1⟩ := bcell hb1; have hz1 := hb1.size; (try simp at hz1))
    | (go_at_call 4; refine (make_okV _ (d + 1) _ (2 * p + 2) _ (by omega) (by omega) (by omega) K1.out K2.out).mono ?_; rintro e2 w2 ⟨rfl, hb2⟩; obtain ⟨hc2, hf2⟩ := bcell hb2; have hz2 := hb2.size; (try simp at hz2)))
  go_returns
  exact ⟨rfl, by (repeat' (first | (with_reducible exact Below.refl _ _) | (with_reducible refine Below.alloc ?_ ?_ _) | (with_reducible refine Below.drew ?_) | (with_reducible refine Below.setCell ?_ ?_ _) | (with_reducible refine Below.thn (by assumption) ?_ ?_) | (with_reducible refine below_drewN ?_ _) | go_size))⟩
theorem defend_last (d : Nat) (p : Int) (w : World) (hd : d ≤ 23) (h1 : p + 1 = 2 ^ (d + 1)) :
    Calls Tryd.prog 14 #[.int .u64 p] w fun e w' => e = .returned (.tuple #[.int .u64 0, .iface 40 (.int .i64 45)]) ∧ Below w.heap.size w w' := by
  have e := pow_succ' d
  have hq := (pow_bounds d (by omega)).2
  have hp := (pow_bounds d (by omega)).1
  have H1 : Hid ((2 : Int) ^ d ≤ p) := by show _ ≤ _; omega
  have H2 : Hid (p < 2 ^ (d + 1)) := by show _ < _; omega
  have i3 : ((d : Int) == 24) = false := by simp; omega
  have i4 : (p - 2 ^ d == 2 ^ d - 1) = true := by simp; omega
  have i1 : p - 2 ^ d ≤ 33554432 := by omega
  have i0 : 0 ≤ p - 2 ^ d := by omega
  clear e h1
  go_enter Tryd.func14, Tryd.ntmps14
  go_wp2_with (go_at_call 6; refine (parts_ok d p _ (by omega) H1.out H2.out).mono ?_; rintro e1 w1 ⟨rfl, hb1⟩; obtain ⟨hc1, hf1⟩ := bcell hb1; have hz1 := hb1.size; (try simp at hz1))
  go_returns
  exact ⟨rfl, by (repeat' (first | (with_reducible exact Below.refl _ _) | (with_reducible refine Below.alloc ?_ ?_ _) | (with_reducible refine Below.drew ?_) | (with_reducible refine Below.setCell ?_ ?_ _) | (with_reducible refine Below.thn (by assumption) ?_ ?_) | (with_reducible refine below_drewN ?_ _) | go_size))⟩
theorem defend_deep (p : Int) (w : World) (h1 : 16777216 ≤ p) (h2 : p < 33554432) :
    Calls Tryd.prog 14 #[.int .u64 p] w fun e w' => e = .returned (.tuple #[.int .u64 0, .iface 40 (.int .i64 2)]) ∧ Below w.heap.size w w' := by
  go_enter Tryd.func14, Tryd.ntmps14
  go_wp2_with (go_at_call 6; refine (parts_ok 24 p _ (by omega) (by simpa using h1) (by simpa using h2)).mono ?_; rintro e1 w1 ⟨rfl, hb1⟩; obtain ⟨hc1, hf1⟩ := bcell hb1; have hz1 := hb1.size; (try simp at hz1))
  go_returns
  exact ⟨rfl, by (repeat' (first | (with_reducible exact Below.refl _ _) | (with_reducible refine Below.alloc ?_ ?_ _) | (with_reducible refine Below.drew ?_) | (with_reducible refine Below.setCell ?_ ?_ _) | (with_reducible refine Below.thn (by assumption) ?_ ?_) | (with_reducible refine below_drewN ?_ _) | go_size))⟩
theorem defend_bad (p : Int) (w : World) (h0 : 0 ≤ p) (h : p = 0 ∨ 33554432 ≤ p) :
    Calls Tryd.prog 14 #[.int .u64 p] w fun e w' => e = .returned (.tuple #[.int .u64 0, .iface 40 (.int .i64 2)]) ∧ Below w.heap.size w w' := by
  have H := Lib.hid h
  clear h
  go_enter Tryd.func14, Tryd.ntmps14
  go_wp2_with (go_at_call 6; refine (parts_bad p _ h0 H.out).mono ?_; rintro e1 w1 ⟨rfl, hb1⟩; obtain ⟨hc1, hf1⟩ := bcell hb1; have hz1 := hb1.size; (try simp at hz1))
  go_returns
  exact ⟨rfl, by (repeat' (first | (with_reducible exact Below.refl _ _) | (with_reducible refine Below.alloc ?_ ?_ _) | (with_reducible refine Below.drew ?_) | (with_reducible refine Below.setCell ?_ ?_ _) | (with_reducible refine Below.thn (by assumption) ?_ ?_) | (with_reducible refine below_drewN ?_ _) | go_size))⟩
end Go.Proofs.YtaogiclcgdpcmaaDoor
