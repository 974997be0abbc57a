/-
  The walk of PositionOrder: it returns true for every input.
-/
import Derived.Test.YtaogiclcgdpcmaaPositionTreeWalk
set_option linter.unusedVariables false
namespace Go.Proofs.Ytaogiclcgdpcmaa
open Go.RowKit
theorem trace_okV (D : Int) (d dep : Nat) (p v : Int) (w : World) (hD : D = dep) (hd : d ≤ dep) (hp : dep ≤ 24) (h1 : 2 ^ d ≤ p) (h2 : p < 2 ^ (d + 1)) (hv : (p - 2 ^ d + 1) * 2 ^ (dep - d) - 1 = v) :
    Calls Try.prog 12 #[.int .u64 p, .int .i64 D] w fun e w' => e = .returned (.tuple #[.int .u64 v, .nilIface]) ∧ Below w.heap.size w w' := by
  subst hD; subst hv; exact trace_ok d dep p w hd hp h1 h2
theorem highest_okD (D : Int) (d dep : Nat) (p : Int) (w : World) (hD : D = dep) (hd : d ≤ dep) (hp : dep ≤ 24) (h1 : 2 ^ d ≤ p) (h2 : p < 2 ^ (d + 1)) :
    Calls Try.prog 13 #[.int .u64 p, .int .i64 D] w (HighPost d dep p w) := by
  subst hD; exact highest_ok d dep p w hd hp h1 h2
theorem mul_order {S x y : Int} (hS : 1 ≤ S) : ((x + 1) * S - 1 < (y + 1) * S - 1) ↔ x < y := by
  constructor
  · intro h
    by_cases c : y ≤ x
    · have := Int.mul_le_mul_of_nonneg_right (show y + 1 ≤ x + 1 by omega) (show 0 ≤ S by omega); omega
    · omega
  · intro h
    have := Int.mul_lt_mul_of_pos_right (show x + 1 < y + 1 by omega) (show 0 < S by omega); omega
theorem half_other {e dep : Nat} {q A : Int} (he : e ≤ dep) (h1 : 2 ^ e ≤ q) (hq : q % 2 = 0) (h : (q - 2 ^ e + 1) * 2 ^ (dep - e) - 1 = A) (h0 : 1 ≤ e) :
    (q / 2 - 2 ^ (e - 1) + 1) * 2 ^ (dep - (e - 1)) - 1 = A + 2 ^ (dep - e) := by
  obtain ⟨f, rfl⟩ : ∃ f, e = f + 1 := ⟨e - 1, by omega⟩
  have e1 := pow_succ' f
  have e2 : (2 : Int) ^ (dep - f) = 2 * 2 ^ (dep - (f + 1)) := by rw [show dep - f = (dep - (f + 1)) + 1 by omega]; exact pow_succ' _
  rw [show f + 1 - 1 = f by omega, e2, ← h, ← Int.mul_assoc]
  have : (q / 2 - 2 ^ f + 1) * 2 = (q - 2 ^ (f + 1) + 1) + 1 := by omega
  rw [this, Int.add_mul]
  omega

theorem top_half {e dep : Nat} {q A : Int} (he : e ≤ dep) (hdp : dep ≤ 24) (h1 : 2 ^ e ≤ q) (h2 : q < 2 ^ (e + 1)) (hq : q = 1 ∨ q % 2 = 0) (h : (q - 2 ^ e + 1) * 2 ^ (dep - e) - 1 = A) (hn : q ≠ 1) :
    2 ^ (e - 1) ≤ q / 2 ∧ q / 2 < 2 ^ (e - 1 + 1) ∧ (q / 2 - 2 ^ (e - 1) + 1) * 2 ^ (dep - (e - 1)) - 1 = A + 2 ^ (dep - e) ∧ (1 : Int) ≤ 2 ^ (dep - e) := by
  have h0 : 1 ≤ e := by
    rcases Nat.eq_zero_or_pos e with h0 | h0
    · subst h0; simp at h1 h2; omega
    · exact h0
  refine ⟨?_, ?_, half_other he h1 (by omega) h h0, (pow_bounds _ (by omega)).1⟩
  · have := pow_succ' (e - 1); rw [show e - 1 + 1 = e by omega] at this; omega
  · rw [show e - 1 + 1 = e by omega]; have := pow_succ' e; omega

set_option maxRecDepth 100000 in
set_option maxHeartbeats 2000000 in
theorem positionOrder_walk (w : World) (a0 : Int) (w0 : (Lit.int .i64 a0).wf = true) (a1 : Int) (w1 : (Lit.int .u64 a1).wf = true) (a2 : Int) (w2 : (Lit.int .u64 a2).wf = true) (a3 : Int) (w3 : (Lit.int .i64 a3).wf = true) :
    Calls Try.prog 5 #[.int .i64 a0, .int .u64 a1, .int .u64 a2, .int .i64 a3] w fun e w' => e = .returned (.bool true) ∧ Below w.heap.size w w' := by
  have b1 := (u64_wf w1).1
  have b2 := (u64_wf w2).1
  clear w0 w1 w2 w3
  obtain ⟨d, hE, hd'⟩ := tmod_small a0 20 (by omega)
  have hd : d ≤ 19 := by omega
  obtain ⟨m, hE2, hm'⟩ := tmod_small a3 (25 - d) (by omega)
  have hm : d + m ≤ 24 := by omega
  have p0 := (pow_bounds d (by omega)).1
  have p1 := (pow_bounds d (by omega)).2
  have e := pow_succ' d
  have i0 : 0 ≤ a1 % 2 ^ d := Int.emod_nonneg _ (by omega)
  have i1 : a1 % 2 ^ d < 2 ^ d := Int.emod_lt_of_pos _ (by omega)
  have k0 : 0 ≤ a2 % 2 ^ d := Int.emod_nonneg _ (by omega)
  have k1 : a2 % 2 ^ d < 2 ^ d := Int.emod_lt_of_pos _ (by omega)
  have K1 : Hid ((2 : Int) ^ d + a1 % 2 ^ d < 2 ^ (d + 1)) := by show _ < _; omega
  have K2 : Hid ((2 : Int) ^ d + a2 % 2 ^ d < 2 ^ (d + 1)) := by show _ < _; omega
  have hS := (pow_bounds m (by omega)).1
  obtain ⟨A, hA⟩ : ∃ A, A = (a1 % 2 ^ d + 1) * 2 ^ m - 1 := ⟨_, rfl⟩
  obtain ⟨B, hB⟩ : ∃ B, B = (a2 % 2 ^ d + 1) * 2 ^ m - 1 := ⟨_, rfl⟩
  have o1 : decide (A < B) = decide (a1 % 2 ^ d < a2 % 2 ^ d) := by rw [hA, hB, decide_eq_decide]; exact mul_order hS
  have o2 : (A == B) = (a1 % 2 ^ d == a2 % 2 ^ d) := by
    have u1 : A < B ↔ a1 % 2 ^ d < a2 % 2 ^ d := by rw [hA, hB]; exact mul_order hS
    have u2 : B < A ↔ a2 % 2 ^ d < a1 % 2 ^ d := by rw [hA, hB]; exact mul_order hS
    rw [Bool.eq_iff_iff]; simp; omega
  have KA : Hid ((2 ^ d + a1 % 2 ^ d - 2 ^ d + 1) * 2 ^ (d + m - d) - 1 = A) := by
    show _ = _; rw [hA, show d + m - d = m by omega, show (2 : Int) ^ d + a1 % 2 ^ d - 2 ^ d + 1 = a1 % 2 ^ d + 1 by omega]
  have KB : Hid ((2 ^ d + a2 % 2 ^ d - 2 ^ d + 1) * 2 ^ (d + m - d) - 1 = B) := by
    show _ = _; rw [hB, show d + m - d = m by omega, show (2 : Int) ^ d + a2 % 2 ^ d - 2 ^ d + 1 = a2 % 2 ^ d + 1 by omega]
  clear e hA hB hS
  go_enter Try.func5, Try.ntmps5
  go_wp2_with fail
  go_quiet (fail)
  go_wp2_with (first
    | (go_at_call 7; (with_reducible refine (make_okV (d : Int) d (a1 % 2 ^ d) (2 ^ d + a1 % 2 ^ d) _ rfl (by omega) (by omega) (by omega) rfl).mono ?_); rintro e1 w1 ⟨rfl, hb1⟩; obtain ⟨hc1, hf1⟩ := bcell hb1; have hz1 := hb1.size; (try simp at hz1))
    | (go_at_call 7; (with_reducible refine (make_okV (d : Int) d (a2 % 2 ^ d) (2 ^ d + a2 % 2 ^ d) _ rfl (by omega) (by omega) (by omega) rfl).mono ?_); rintro e2 w2 ⟨rfl, hb2⟩; obtain ⟨hc2, hf2⟩ := bcell hb2; have hz2 := hb2.size; (try simp at hz2))
    | (go_at_call 12; (with_reducible refine (trace_okV _ d (d + m) (2 ^ d + a1 % 2 ^ d) A _ (by omega) (by omega) (by omega) (by omega) K1.out KA.out).mono ?_); rintro e3 w3 ⟨rfl, hb3⟩; obtain ⟨hc3, hf3⟩ := bcell hb3; have hz3 := hb3.size; (try simp at hz3))
    | (go_at_call 12; (with_reducible refine (trace_okV _ d (d + m) (2 ^ d + a2 % 2 ^ d) B _ (by omega) (by omega) (by omega) (by omega) K2.out KB.out).mono ?_); rintro e4 w4 ⟨rfl, hb4⟩; obtain ⟨hc4, hf4⟩ := bcell hb4; have hz4 := hb4.size; (try simp at hz4))
    | (go_at_call 10; (with_reducible refine (fixed16_calls _).mono ?_); rintro e5 w5 ⟨rfl, hb5⟩; obtain ⟨hc5, hf5⟩ := bcell hb5; have hz5 := hb5.size; (try simp at hz5))
    | (go_at_call 13; (with_reducible refine (highest_okD _ d (d + m) (2 ^ d + a1 % 2 ^ d) _ (by omega) (by omega) (by omega) (by omega) K1.out).mono ?_); rintro e6 w6 ⟨q, ⟨ee, he1, he2, he3, he4, he5⟩, q0, q1, rfl, hb6⟩; have hz6 := hb6.size; have KT : Hid ((q - 2 ^ ee + 1) * 2 ^ (d + m - ee) - 1 = A) := (by show _ = _; rw [he4]; exact KA.out); have HX := Lib.hid (top_half (e := ee) (dep := d + m) (q := q) (A := A) (by omega) (by omega) he2 he3 q1 KT.out); have He2 := Lib.hid he2; have He3 := Lib.hid he3; have hq3 : q ≤ 67108864 := (by omega); clear he2 he3 he4 q1)
    | (go_at_call 12; (with_reducible refine (trace_okV _ ee (d + m) q A _ (by omega) (by omega) (by omega) He2.out He3.out KT.out).mono ?_); rintro e7 w7 ⟨rfl, hb7⟩; obtain ⟨hc7, hf7⟩ := bcell hb7; have hz7 := hb7.size; (try simp at hz7)))
  · go_returns
    exact ⟨rfl, by (repeat' (first | (with_reducible exact Below.refl _ _) | (with_reducible refine Below.alloc ?_ ?_ _) | (with_reducible refine Below.drew ?_) | (with_reducible refine Below.setCell ?_ ?_ _) | (with_reducible refine Below.thn (by assumption) ?_ ?_) | (with_reducible refine below_drewN ?_ _) | go_size))⟩
  · have hne : q ≠ 1 := by
      first | assumption | (intro h; simp_all)
    obtain ⟨hx1, hx2, hx3, hx4⟩ := HX.out hne
    have Hx3 := Lib.hid hx3
    clear hx3
    refine (trace_okV _ (ee - 1) (d + m) (q / 2) (A + 2 ^ (d + m - ee)) _ (by omega) (by omega) (by omega) hx1 hx2 Hx3.out).mono ?_
    rintro e8 w8 ⟨rfl, hb8⟩; obtain ⟨hc8, hf8⟩ := bcell hb8; have hz8 := hb8.size; (try simp at hz8)
    clear hx1 hx2
    go_wp2
    go_returns
    refine ⟨by simp; omega, by (repeat' (first | (with_reducible exact Below.refl _ _) | (with_reducible refine Below.alloc ?_ ?_ _) | (with_reducible refine Below.drew ?_) | (with_reducible refine Below.setCell ?_ ?_ _) | (with_reducible refine Below.thn (by assumption) ?_ ?_) | (with_reducible refine below_drewN ?_ _) | go_size))⟩
end Go.Proofs.Ytaogiclcgdpcmaa
