/-
  The walk of ClockLater: it returns true for every input.
-/
import Derived.Test.YtjjnbkgmagkpgaaClockKnownWalk
set_option linter.unusedVariables false
namespace Go.Proofs.Ytjjnbkgmagkpgaa
open Go.RowKit
set_option maxRecDepth 100000 in
set_option maxHeartbeats 2000000 in
theorem clockLater_walk (w : World) (a0 : Int) (w0 : (Lit.int .u64 a0).wf = true) (a1 : Int) (w1 : (Lit.int .u64 a1).wf = true) (a2 : Int) (w2 : (Lit.int .u64 a2).wf = true) (a3 : Int) (w3 : (Lit.int .u64 a3).wf = true) (a4 : Int) (w4 : (Lit.int .u64 a4).wf = true) (a5 : Int) (w5 : (Lit.int .u64 a5).wf = true) (a6 : Int) (w6 : (Lit.int .u64 a6).wf = true) :
    Calls Try.prog 5 #[.int .u64 a0, .int .u64 a1, .int .u64 a2, .int .u64 a3, .int .u64 a4, .int .u64 a5, .int .u64 a6] w fun e w' => e = .returned (.bool true) ∧ Below w.heap.size w w' := by
  have ⟨b0, b0'⟩ := u64_wf w0
  have ⟨b1, b1'⟩ := u64_wf w1
  have ⟨b2, b2'⟩ := u64_wf w2
  have ⟨b3, b3'⟩ := u64_wf w3
  have ⟨b4, b4'⟩ := u64_wf w4
  have ⟨b5, b5'⟩ := u64_wf w5
  have ⟨b6, b6'⟩ := u64_wf w6
  clear w0 w1 w2 w3 w4 w5 w6 b0' b1' b2' b3' b4' b5' b6'
  have g0 : 0 ≤ a1 % (1 + a0 % 1048576 + 1) := Int.emod_nonneg _ (by omega)
  have g1 : a1 % (1 + a0 % 1048576 + 1) < 1 + a0 % 1048576 + 1 := Int.emod_lt_of_pos _ (by omega)
  by_cases hx : 1 + a0 % 1048576 ≤ a4 % 2097152 + a5 % 2097152
  · go_enter Try.func5, Try.ntmps5
    go_wp2_with (first
        | (go_at_call 10; (with_reducible refine (spent_ok (a2 % 1048576) (a3 % 1048576) (a4 % 2097152) (a3 % 1048576 + a5 % 2097152) _ (by omega) (by omega) (by omega) (by omega) (by omega) (by omega) (by omega)).mono ?_); rintro e1 w1 ⟨rfl, hb1⟩; obtain ⟨hc1, hf1⟩ := bcell hb1; have hz1 := hb1.size; (try simp at hz1); have hs1_w0 : w.heap.size < w1.heap.size := (by omega); have hs1_w1 : w.heap.size + 1 < w1.heap.size := (by omega))
        | (go_at_call 10; (with_reducible refine (spent_ok (a2 % 1048576) (a3 % 1048576) (a4 % 2097152) (a3 % 1048576 + a5 % 2097152 + a6 % 1048576) _ (by omega) (by omega) (by omega) (by omega) (by omega) (by omega) (by omega)).mono ?_); rintro e2 w2 ⟨rfl, hb2⟩; obtain ⟨hc2, hf2⟩ := bcell hb2; have hz2 := hb2.size; (try simp at hz2); have hs2_w0 : w.heap.size < w2.heap.size := (by omega); have hs2_w1 : w.heap.size + 1 < w2.heap.size := (by omega))
        | (go_at_call 9; (with_reducible refine (over_ok (1 + a0 % 1048576) (a1 % (1 + a0 % 1048576 + 1)) (a2 % 1048576) (a3 % 1048576) (a4 % 2097152) (a3 % 1048576 + a5 % 2097152) _ (by omega) (by omega) (by omega) (by omega) (by omega) (by omega) (by omega) (by omega) (by omega) (by omega) (by omega)).mono ?_); rintro e3 w3 ⟨rfl, hb3⟩; obtain ⟨hc3, hf3⟩ := bcell hb3; have hz3 := hb3.size; (try simp at hz3); have hs3_w0 : w.heap.size < w3.heap.size := (by omega); have hs3_w1 : w.heap.size + 1 < w3.heap.size := (by omega))
        | (go_at_call 9; (with_reducible refine (over_ok (1 + a0 % 1048576) (a1 % (1 + a0 % 1048576 + 1)) (a2 % 1048576) (a3 % 1048576) (a4 % 2097152) (a3 % 1048576 + a5 % 2097152 + a6 % 1048576) _ (by omega) (by omega) (by omega) (by omega) (by omega) (by omega) (by omega) (by omega) (by omega) (by omega) (by omega)).mono ?_); rintro e4 w4 ⟨rfl, hb4⟩; obtain ⟨hc4, hf4⟩ := bcell hb4; have hz4 := hb4.size; (try simp at hz4); have hs4_w0 : w.heap.size < w4.heap.size := (by omega); have hs4_w1 : w.heap.size + 1 < w4.heap.size := (by omega))
        | (go_at_call 7; (with_reducible refine (next_late (1 + a0 % 1048576) (a1 % (1 + a0 % 1048576 + 1)) (a2 % 1048576) (a3 % 1048576) (a4 % 2097152) (a3 % 1048576 + a5 % 2097152) _ (by omega) (by omega) (by omega) (by omega) (by omega) (by omega) (by omega) (by omega) (by omega) (by omega) (by omega) (by omega)).mono ?_); rintro e5 w5 ⟨rfl, hb5⟩; obtain ⟨hc5, hf5⟩ := bcell hb5; have hz5 := hb5.size; (try simp at hz5); have hs5_w0 : w.heap.size < w5.heap.size := (by omega); have hs5_w1 : w.heap.size + 1 < w5.heap.size := (by omega))
        | (go_at_call 6; (with_reducible refine (fixed_calls _).mono ?_); rintro e6 w6 ⟨rfl, hb6⟩; obtain ⟨hc6, hf6⟩ := bcell hb6; have hz6 := hb6.size; (try simp at hz6); have hs6_w0 : w.heap.size < w6.heap.size := (by omega); have hs6_w1 : w.heap.size + 1 < w6.heap.size := (by omega); have hs6_w50 : w5.heap.size < w6.heap.size := (by omega)))
    go_returns
    refine ⟨?_, by (repeat' (first | (with_reducible exact Below.refl _ _) | (with_reducible refine Below.alloc ?_ ?_ _) | (with_reducible refine Below.drew ?_) | (with_reducible refine Below.setCell ?_ ?_ _) | (with_reducible refine Below.thn (by assumption) ?_ ?_) | go_size))⟩
    first | rfl | (simp; omega)
  · obtain ⟨m, hm⟩ : ∃ m, m = min ((a4 % 2097152) + (a3 % 1048576 + a5 % 2097152) - (a3 % 1048576)) ((1 + a0 % 1048576) - (a1 % (1 + a0 % 1048576 + 1))) := ⟨_, rfl⟩
    have m1 : m ≤ a4 % 2097152 + a5 % 2097152 := by omega
    have m2 : m ≤ (1 + a0 % 1048576) - (a1 % (1 + a0 % 1048576 + 1)) := by omega
    have m0 : 0 ≤ m := by omega
    have H := Lib.hid hm
    by_cases m3 : m = a4 % 2097152 + a5 % 2097152
    · go_enter Try.func5, Try.ntmps5
      clear hm
      go_wp2_with (first
        | (go_at_call 10; (with_reducible refine (spent_ok (a2 % 1048576) (a3 % 1048576) (a4 % 2097152) (a3 % 1048576 + a5 % 2097152) _ (by omega) (by omega) (by omega) (by omega) (by omega) (by omega) (by omega)).mono ?_); rintro e1 w1 ⟨rfl, hb1⟩; obtain ⟨hc1, hf1⟩ := bcell hb1; have hz1 := hb1.size; (try simp at hz1); have hs1_w0 : w.heap.size < w1.heap.size := (by omega); have hs1_w1 : w.heap.size + 1 < w1.heap.size := (by omega))
        | (go_at_call 10; (with_reducible refine (spent_ok (a2 % 1048576) (a3 % 1048576) (a4 % 2097152) (a3 % 1048576 + a5 % 2097152 + a6 % 1048576) _ (by omega) (by omega) (by omega) (by omega) (by omega) (by omega) (by omega)).mono ?_); rintro e2 w2 ⟨rfl, hb2⟩; obtain ⟨hc2, hf2⟩ := bcell hb2; have hz2 := hb2.size; (try simp at hz2); have hs2_w0 : w.heap.size < w2.heap.size := (by omega); have hs2_w1 : w.heap.size + 1 < w2.heap.size := (by omega))
        | (go_at_call 9; (with_reducible refine (over_ok (1 + a0 % 1048576) (a1 % (1 + a0 % 1048576 + 1)) (a2 % 1048576) (a3 % 1048576) (a4 % 2097152) (a3 % 1048576 + a5 % 2097152) _ (by omega) (by omega) (by omega) (by omega) (by omega) (by omega) (by omega) (by omega) (by omega) (by omega) (by omega)).mono ?_); rintro e3 w3 ⟨rfl, hb3⟩; obtain ⟨hc3, hf3⟩ := bcell hb3; have hz3 := hb3.size; (try simp at hz3); have hs3_w0 : w.heap.size < w3.heap.size := (by omega); have hs3_w1 : w.heap.size + 1 < w3.heap.size := (by omega))
        | (go_at_call 9; (with_reducible refine (over_ok (1 + a0 % 1048576) (a1 % (1 + a0 % 1048576 + 1)) (a2 % 1048576) (a3 % 1048576) (a4 % 2097152) (a3 % 1048576 + a5 % 2097152 + a6 % 1048576) _ (by omega) (by omega) (by omega) (by omega) (by omega) (by omega) (by omega) (by omega) (by omega) (by omega) (by omega)).mono ?_); rintro e4 w4 ⟨rfl, hb4⟩; obtain ⟨hc4, hf4⟩ := bcell hb4; have hz4 := hb4.size; (try simp at hz4); have hs4_w0 : w.heap.size < w4.heap.size := (by omega); have hs4_w1 : w.heap.size + 1 < w4.heap.size := (by omega))
        | (go_at_call 7; (with_reducible refine (next_ok (1 + a0 % 1048576) (a1 % (1 + a0 % 1048576 + 1)) (a2 % 1048576) (a3 % 1048576) (a4 % 2097152) (a3 % 1048576 + a5 % 2097152) m _ (by omega) (by omega) (by omega) (by omega) (by omega) (by omega) (by omega) (by omega) (by omega) (by omega) (by omega) (by omega) H.out).mono ?_); rintro e5 w5 ⟨rfl, hb5⟩; obtain ⟨hc5, hf5⟩ := bcell hb5; have hz5 := hb5.size; (try simp at hz5); have hs5_w0 : w.heap.size < w5.heap.size := (by omega); have hs5_w1 : w.heap.size + 1 < w5.heap.size := (by omega))
        | (go_at_call 6; (with_reducible refine (fixed_calls _).mono ?_); rintro e6 w6 ⟨rfl, hb6⟩; obtain ⟨hc6, hf6⟩ := bcell hb6; have hz6 := hb6.size; (try simp at hz6); have hs6_w0 : w.heap.size < w6.heap.size := (by omega); have hs6_w1 : w.heap.size + 1 < w6.heap.size := (by omega); have hs6_w50 : w5.heap.size < w6.heap.size := (by omega)))
      go_returns
      refine ⟨?_, by (repeat' (first | (with_reducible exact Below.refl _ _) | (with_reducible refine Below.alloc ?_ ?_ _) | (with_reducible refine Below.drew ?_) | (with_reducible refine Below.setCell ?_ ?_ _) | (with_reducible refine Below.thn (by assumption) ?_ ?_) | go_size))⟩
      first | rfl | (simp; omega)
    · have m4 : m = 1 + a0 % 1048576 - a1 % (1 + a0 % 1048576 + 1) := by omega
      go_enter Try.func5, Try.ntmps5
      clear hm
      go_wp2_with (first
        | (go_at_call 10; (with_reducible refine (spent_ok (a2 % 1048576) (a3 % 1048576) (a4 % 2097152) (a3 % 1048576 + a5 % 2097152) _ (by omega) (by omega) (by omega) (by omega) (by omega) (by omega) (by omega)).mono ?_); rintro e1 w1 ⟨rfl, hb1⟩; obtain ⟨hc1, hf1⟩ := bcell hb1; have hz1 := hb1.size; (try simp at hz1); have hs1_w0 : w.heap.size < w1.heap.size := (by omega); have hs1_w1 : w.heap.size + 1 < w1.heap.size := (by omega))
        | (go_at_call 10; (with_reducible refine (spent_ok (a2 % 1048576) (a3 % 1048576) (a4 % 2097152) (a3 % 1048576 + a5 % 2097152 + a6 % 1048576) _ (by omega) (by omega) (by omega) (by omega) (by omega) (by omega) (by omega)).mono ?_); rintro e2 w2 ⟨rfl, hb2⟩; obtain ⟨hc2, hf2⟩ := bcell hb2; have hz2 := hb2.size; (try simp at hz2); have hs2_w0 : w.heap.size < w2.heap.size := (by omega); have hs2_w1 : w.heap.size + 1 < w2.heap.size := (by omega))
        | (go_at_call 9; (with_reducible refine (over_ok (1 + a0 % 1048576) (a1 % (1 + a0 % 1048576 + 1)) (a2 % 1048576) (a3 % 1048576) (a4 % 2097152) (a3 % 1048576 + a5 % 2097152) _ (by omega) (by omega) (by omega) (by omega) (by omega) (by omega) (by omega) (by omega) (by omega) (by omega) (by omega)).mono ?_); rintro e3 w3 ⟨rfl, hb3⟩; obtain ⟨hc3, hf3⟩ := bcell hb3; have hz3 := hb3.size; (try simp at hz3); have hs3_w0 : w.heap.size < w3.heap.size := (by omega); have hs3_w1 : w.heap.size + 1 < w3.heap.size := (by omega))
        | (go_at_call 9; (with_reducible refine (over_ok (1 + a0 % 1048576) (a1 % (1 + a0 % 1048576 + 1)) (a2 % 1048576) (a3 % 1048576) (a4 % 2097152) (a3 % 1048576 + a5 % 2097152 + a6 % 1048576) _ (by omega) (by omega) (by omega) (by omega) (by omega) (by omega) (by omega) (by omega) (by omega) (by omega) (by omega)).mono ?_); rintro e4 w4 ⟨rfl, hb4⟩; obtain ⟨hc4, hf4⟩ := bcell hb4; have hz4 := hb4.size; (try simp at hz4); have hs4_w0 : w.heap.size < w4.heap.size := (by omega); have hs4_w1 : w.heap.size + 1 < w4.heap.size := (by omega))
        | (go_at_call 7; (with_reducible refine (next_ok (1 + a0 % 1048576) (a1 % (1 + a0 % 1048576 + 1)) (a2 % 1048576) (a3 % 1048576) (a4 % 2097152) (a3 % 1048576 + a5 % 2097152) m _ (by omega) (by omega) (by omega) (by omega) (by omega) (by omega) (by omega) (by omega) (by omega) (by omega) (by omega) (by omega) H.out).mono ?_); rintro e5 w5 ⟨rfl, hb5⟩; obtain ⟨hc5, hf5⟩ := bcell hb5; have hz5 := hb5.size; (try simp at hz5); have hs5_w0 : w.heap.size < w5.heap.size := (by omega); have hs5_w1 : w.heap.size + 1 < w5.heap.size := (by omega))
        | (go_at_call 6; (with_reducible refine (fixed_calls _).mono ?_); rintro e6 w6 ⟨rfl, hb6⟩; obtain ⟨hc6, hf6⟩ := bcell hb6; have hz6 := hb6.size; (try simp at hz6); have hs6_w0 : w.heap.size < w6.heap.size := (by omega); have hs6_w1 : w.heap.size + 1 < w6.heap.size := (by omega); have hs6_w50 : w5.heap.size < w6.heap.size := (by omega)))
      go_returns
      refine ⟨?_, by (repeat' (first | (with_reducible exact Below.refl _ _) | (with_reducible refine Below.alloc ?_ ?_ _) | (with_reducible refine Below.drew ?_) | (with_reducible refine Below.setCell ?_ ?_ _) | (with_reducible refine Below.thn (by assumption) ?_ ?_) | go_size))⟩
      first | rfl | (simp; omega)
end Go.Proofs.Ytjjnbkgmagkpgaa
