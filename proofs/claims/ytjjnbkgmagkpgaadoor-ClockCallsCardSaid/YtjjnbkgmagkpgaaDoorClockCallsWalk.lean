/-
  The walk of ClockCalls: it returns true for every input.
-/
import Derived.Test.YtjjnbkgmagkpgaaDoorClockRef
import Derived.Test.YtjjnbkgmagkpgaaDoorHeld
set_option linter.unusedVariables false
namespace Go.Proofs.YtjjnbkgmagkpgaaDoor
open Go.RowKit

/-- What the row's list gives: package errors' variable. -/
theorem errType_of_laid {w : World} (h : laidMetH Tryd.prog [("errors.errorType", Rows.laid_errors_errorType)] w) : ErrType w := by
  have h' : laidMet Tryd.prog [] w ∧ handlesMet Tryd.prog [("errors.errorType", Rows.laid_errors_errorType)] w := h
  obtain ⟨name, u, ty, e1, e2, e3, e4, e5⟩ := h'.2 _ (List.mem_singleton.2 rfl)
  have en : name = [101, 114, 114, 111, 114] := (Option.some.inj e1).symm
  subst en
  have rt : (Tryd.prog.cutTypes.find? (·.1 == "internal/reflectlite.rtype")).map (·.2) = some 59 := by kernel_rfl
  obtain rfl := Option.some.inj (rt.symm.trans e2)
  have sz : Tryd.prog.types.size = 114 := by kernel_rfl
  have one : ((List.range 114).filter fun t => Tryd.prog.rowNamed t [101, 114, 114, 111, 114]) = [28] := by kernel_rfl
  have hm : ty ∈ (List.range 114).filter fun t => Tryd.prog.rowNamed t [101, 114, 114, 111, 114] := List.mem_filter.2 ⟨List.mem_range.2 (by rw [← sz]; exact e3), e4⟩
  rw [one] at hm
  obtain rfl := List.mem_singleton.1 hm
  have hh : typeHandle Tryd.prog 28 = .pointer (some ⟨1, 28, none⟩) := by kernel_rfl
  rw [hh] at e5
  have et : Tryd.prog.globalNamed "errors.errorType" = some 0 := by kernel_rfl
  simpa [ErrType] using World.var?_cell et e5 0

/-- What else is kept from world to world. -/
def CCRest (w w3 w' : World) : Prop := w.heap.size < w'.heap.size ∧ w3.heap.size < w'.heap.size ∧ Below w.heap.size w w' ∧ ErrType w'
/-- The worlds of ClockCalls' tests: r and n lie where they were laid. -/
def CCS (w w3 : World) (a0 a1 u0 u1 : Int) (W : World) : Prop := (W.cell? ⟨w.heap.size, 0, none⟩ = some (.int .u64 a0) ∧ W.cell? ⟨w.heap.size, 1, none⟩ = some (.int .u64 a1) ∧ W.cell? ⟨w3.heap.size, 0, none⟩ = some (.int .u64 u0) ∧ W.cell? ⟨w3.heap.size, 1, none⟩ = some (.int .u64 u1)) ∧ CCRest w w3 W
theorem ccKeep {w w3 : World} {a0 a1 u0 u1 : Int} : ∀ W W', CCS w w3 a0 a1 u0 u1 W → Below W.heap.size W W' → CCS w w3 a0 a1 u0 u1 W' := by
  rintro W W' ⟨⟨h0, h1, h2, h3⟩, r1, r2, r3, r4⟩ hb
  have hs := hb.size
  refine ⟨⟨?_, ?_, ?_, ?_⟩, by omega, by omega, r3.trans (hb.mono (by have := r3.size; omega)), r4.below hb⟩
  · rw [hb.cell (p := ⟨w.heap.size, 0, none⟩) r1]; exact h0
  · rw [hb.cell (p := ⟨w.heap.size, 1, none⟩) r1]; exact h1
  · rw [hb.cell (p := ⟨w3.heap.size, 0, none⟩) r2]; exact h2
  · rw [hb.cell (p := ⟨w3.heap.size, 1, none⟩) r2]; exact h3

theorem cc_err {w w3 : World} {a0 a1 u0 u1 : Int} (t : Held (CCS w w3 a0 a1 u0 u1)) : Hid (ErrType t.w) := t.ok.2.2.2.2

set_option maxRecDepth 100000 in
set_option maxHeartbeats 4000000 in
theorem cc_ok (w : World) (HE : Hid (ErrType w)) (a0 a1 a2 a3 a4 a5 : Int) (b0 : 0 ≤ a0) (b1 : 0 ≤ a1) (b2 : 0 ≤ a2) (b3 : 0 ≤ a3) (b4 : 0 ≤ a4) (b5 : 0 ≤ a5) (k1 : 1 ≤ a0) (k2 : a0 ≤ 1099511627776) (k4 : a1 ≤ a0) (h2 : a2 ≤ 1099511627776) (h4 : a4 ≤ 1099511627776) (h6 : a3 ≤ a5) (h7 : a5 ≤ 1099511627776) (h8 : a4 + a5 - a3 < a0) :
    Calls Tryd.prog 3 #[.int .u64 a0, .int .u64 a1, .int .u64 a2, .int .u64 a3, .int .u64 a4, .int .u64 a5] w fun e w' => e = .returned (.bool true) ∧ Below w.heap.size w w' := by
  obtain ⟨m, hm0⟩ : ∃ m, m = min (a4 + a5 - a3) (a0 - a1) := ⟨_, rfl⟩
  have hm := Lib.hid hm0
  clear hm0
  have hd : decide (a0 ≤ a4 + a5 - a3) = false := decide_eq_false (by omega)
  go_enter Tryd.func3, Tryd.ntmps3
  go_wp2_with (first
    | (go_at_call 4; (with_reducible refine (spent_ok a2 a3 a4 a5 _ (by omega) (by omega) (by omega) (by omega) (by omega) (by omega) (by omega)).mono ?_); rintro e1 w1 ⟨rfl, hb1⟩; obtain ⟨hc1, hf1⟩ := bcell hb1; have hz1 := hb1.size; (try simp at hz1); have hs1_w0 : w.heap.size < w1.heap.size := (by omega); have hs1_w1 : w.heap.size + 1 < w1.heap.size := (by omega))
    | (go_at_call 5; (with_reducible refine (refSpent_ok a2 a3 a4 a5 _ (by omega) (by omega) (by omega) (by omega) (by omega) (by omega) (by omega)).mono ?_); rintro e2 w2 ⟨rfl, hb2⟩; obtain ⟨hc2, hf2⟩ := bcell hb2; have hz2 := hb2.size; (try simp at hz2); have hs2_w0 : w.heap.size < w2.heap.size := (by omega); have hs2_w1 : w.heap.size + 1 < w2.heap.size := (by omega))
    | (go_at_call 6; (with_reducible refine (next_ok a0 a1 a2 a3 a4 a5 m _ (by omega) (by omega) (by omega) (by omega) (by omega) (by omega) (by omega) (by omega) (by omega) (by omega) (by omega) (by omega) hm.out).mono ?_); rintro e3 w3 ⟨rfl, hb3⟩; obtain ⟨hc3, hf3⟩ := bcell hb3; have hz3 := hb3.size; (try simp at hz3); have hs3_w0 : w.heap.size < w3.heap.size := (by omega); have hs3_w1 : w.heap.size + 1 < w3.heap.size := (by omega))
    | (go_at_call 7; (with_reducible refine (refNext_ok a0 a1 a2 a3 a4 a5 m _ (by omega) (by omega) (by omega) (by omega) (by omega) (by omega) (by omega) (by omega) (by omega) (by omega) (by omega) (by omega) hm.out).mono ?_); rintro e4 w4 ⟨rfl, hb4⟩; obtain ⟨hc4, hf4⟩ := bcell hb4; have hz4 := hb4.size; (try simp at hz4); have hs4_w0 : w.heap.size < w4.heap.size := (by omega); have hs4_w1 : w.heap.size + 1 < w4.heap.size := (by omega); have hs4_w30 : w3.heap.size < w4.heap.size := (by omega))
    | (go_at_call 8; (with_reducible refine (over_ok a0 a1 a2 a3 a4 a5 _ (by omega) (by omega) (by omega) (by omega) (by omega) (by omega) (by omega) (by omega) (by omega) (by omega) (by omega)).mono ?_); rintro e5 w5 ⟨rfl, hb5⟩; obtain ⟨hc5, hf5⟩ := bcell hb5; have hz5 := hb5.size; (try simp at hz5); have hs5_w0 : w.heap.size < w5.heap.size := (by omega); have hs5_w1 : w.heap.size + 1 < w5.heap.size := (by omega); have hs5_w30 : w3.heap.size < w5.heap.size := (by omega)))
  have s0 : w5.cell? ⟨w.heap.size, 0, none⟩ = some (.int .u64 a0) := by go_simp
  have s1 : w5.cell? ⟨w.heap.size, 1, none⟩ = some (.int .u64 a1) := by go_simp
  have s2 : w5.cell? ⟨w3.heap.size, 0, none⟩ = some (.int .u64 m) := by go_simp
  have s3 : w5.cell? ⟨w3.heap.size, 1, none⟩ = some (.int .u64 a5) := by go_simp
  have s4 : CCRest w w3 w5 := ⟨by omega, by omega, by (repeat' (first | (with_reducible exact Below.refl _ _) | (with_reducible refine Below.alloc ?_ ?_ _) | (with_reducible refine Below.drew ?_) | (with_reducible refine Below.setCell ?_ ?_ _) | (with_reducible refine Below.thn (by assumption) ?_ ?_) | go_size)), HE.out.below (by (repeat' (first | (with_reducible exact Below.refl _ _) | (with_reducible refine Below.alloc ?_ ?_ _) | (with_reducible refine Below.drew ?_) | (with_reducible refine Below.setCell ?_ ?_ _) | (with_reducible refine Below.thn (by assumption) ?_ ?_) | go_size)))⟩
  have hS : CCS w w3 a0 a1 m a5 w5 := ⟨⟨s0, s1, s2, s3⟩, s4⟩
  have hne : Nonempty (Held (CCS w w3 a0 a1 m a5)) := ⟨⟨_, hS⟩⟩
  have i0 : ∀ t : Held (CCS w w3 a0 a1 m a5), t.w.cell? ⟨w.heap.size, 0, none⟩ = some (.int .u64 a0) := fun t => t.ok.1.1
  have i1 : ∀ t : Held (CCS w w3 a0 a1 m a5), t.w.cell? ⟨w.heap.size, 1, none⟩ = some (.int .u64 a1) := fun t => t.ok.1.2.1
  have i2 : ∀ t : Held (CCS w w3 a0 a1 m a5), t.w.cell? ⟨w3.heap.size, 0, none⟩ = some (.int .u64 m) := fun t => t.ok.1.2.2.1
  have i3 : ∀ t : Held (CCS w w3 a0 a1 m a5), t.w.cell? ⟨w3.heap.size, 1, none⟩ = some (.int .u64 a5) := fun t => t.ok.1.2.2.2
  clear hc1 hc2 hc3 hc4 hc5 hf1 hf2 hf3 hf4 hf5 hb1 hb2 hb3 hb4 hb5 hz1 hz2 hz3 hz4 hz5 hs1_w0 hs1_w1 hs2_w0 hs2_w1 hs3_w0 hs3_w1 hs4_w0 hs4_w1 hs4_w30 hs5_w0 hs5_w1 hs5_w30 s0 s1 s2 s3 s4
  refine wp_region_held (S := CCS w w3 a0 a1 m a5) (by kernel_rfl) (by kernel_rfl) (ccKeep _ _ hS (Below.refl _ _).drew) ?_
  repeat (go_big_quiet_step (first
      | (go_at_call 9; with_reducible exact held_call (fixed_calls _) ccKeep)
      | (go_at_call 10; with_reducible exact held_call (check_ok a0 a1 _ (by omega) (by omega) (by omega) (by omega)) ccKeep)
      | (go_at_call 11; with_reducible exact held_call (rules_ok a0 a1 _ (by omega) (by omega) (by omega)) ccKeep)
      | (go_at_call 12; with_reducible exact held_call (number_nil _) ccKeep)
      | (go_at_call 12; with_reducible exact held_call (number_num _ _ (cc_err _)) ccKeep)))
  refine wpQuiet_nil ?_
  intro _ hw'
  obtain ⟨s6, hw''⟩ := hw'
  subst hw''
  go_wp2_with (go_at_call 13; refine (is_num _ _ _).mono ?_; rintro e w' ⟨rfl, rfl⟩)
  go_returns
  exact ⟨by simp, s6.ok.2.2.2.1⟩

set_option maxRecDepth 100000 in
set_option maxHeartbeats 4000000 in
theorem cc_late (w : World) (HE : Hid (ErrType w)) (a0 a1 a2 a3 a4 a5 : Int) (b0 : 0 ≤ a0) (b1 : 0 ≤ a1) (b2 : 0 ≤ a2) (b3 : 0 ≤ a3) (b4 : 0 ≤ a4) (b5 : 0 ≤ a5) (k1 : 1 ≤ a0) (k2 : a0 ≤ 1099511627776) (k4 : a1 ≤ a0) (h2 : a2 ≤ 1099511627776) (h4 : a4 ≤ 1099511627776) (h6 : a3 ≤ a5) (h7 : a5 ≤ 1099511627776) (h8 : a0 ≤ a4 + a5 - a3) :
    Calls Tryd.prog 3 #[.int .u64 a0, .int .u64 a1, .int .u64 a2, .int .u64 a3, .int .u64 a4, .int .u64 a5] w fun e w' => e = .returned (.bool true) ∧ Below w.heap.size w w' := by
  have hd : decide (a0 ≤ a4 + a5 - a3) = true := decide_eq_true h8
  go_enter Tryd.func3, Tryd.ntmps3
  go_wp2_with (first
    | (go_at_call 4; (with_reducible refine (spent_ok a2 a3 a4 a5 _ (by omega) (by omega) (by omega) (by omega) (by omega) (by omega) (by omega)).mono ?_); rintro e1 w1 ⟨rfl, hb1⟩; obtain ⟨hc1, hf1⟩ := bcell hb1; have hz1 := hb1.size; (try simp at hz1); have hs1_w0 : w.heap.size < w1.heap.size := (by omega); have hs1_w1 : w.heap.size + 1 < w1.heap.size := (by omega))
    | (go_at_call 5; (with_reducible refine (refSpent_ok a2 a3 a4 a5 _ (by omega) (by omega) (by omega) (by omega) (by omega) (by omega) (by omega)).mono ?_); rintro e2 w2 ⟨rfl, hb2⟩; obtain ⟨hc2, hf2⟩ := bcell hb2; have hz2 := hb2.size; (try simp at hz2); have hs2_w0 : w.heap.size < w2.heap.size := (by omega); have hs2_w1 : w.heap.size + 1 < w2.heap.size := (by omega))
    | (go_at_call 6; (with_reducible refine (next_late a0 a1 a2 a3 a4 a5 _ (by omega) (by omega) (by omega) (by omega) (by omega) (by omega) (by omega) (by omega) (by omega) (by omega) (by omega) (by omega)).mono ?_); rintro e3 w3 ⟨rfl, hb3⟩; obtain ⟨hc3, hf3⟩ := bcell hb3; have hz3 := hb3.size; (try simp at hz3); have hs3_w0 : w.heap.size < w3.heap.size := (by omega); have hs3_w1 : w.heap.size + 1 < w3.heap.size := (by omega))
    | (go_at_call 7; (with_reducible refine (refNext_late a0 a1 a2 a3 a4 a5 _ (by omega) (by omega) (by omega) (by omega) (by omega) (by omega) (by omega) (by omega) (by omega) (by omega) (by omega) (by omega)).mono ?_); rintro e4 w4 ⟨rfl, hb4⟩; obtain ⟨hc4, hf4⟩ := bcell hb4; have hz4 := hb4.size; (try simp at hz4); have hs4_w0 : w.heap.size < w4.heap.size := (by omega); have hs4_w1 : w.heap.size + 1 < w4.heap.size := (by omega); have hs4_w30 : w3.heap.size < w4.heap.size := (by omega))
    | (go_at_call 8; (with_reducible refine (over_ok a0 a1 a2 a3 a4 a5 _ (by omega) (by omega) (by omega) (by omega) (by omega) (by omega) (by omega) (by omega) (by omega) (by omega) (by omega)).mono ?_); rintro e5 w5 ⟨rfl, hb5⟩; obtain ⟨hc5, hf5⟩ := bcell hb5; have hz5 := hb5.size; (try simp at hz5); have hs5_w0 : w.heap.size < w5.heap.size := (by omega); have hs5_w1 : w.heap.size + 1 < w5.heap.size := (by omega); have hs5_w30 : w3.heap.size < w5.heap.size := (by omega)))
  have s0 : w5.cell? ⟨w.heap.size, 0, none⟩ = some (.int .u64 a0) := by go_simp
  have s1 : w5.cell? ⟨w.heap.size, 1, none⟩ = some (.int .u64 a1) := by go_simp
  have s2 : w5.cell? ⟨w3.heap.size, 0, none⟩ = some (.int .u64 0) := by go_simp
  have s3 : w5.cell? ⟨w3.heap.size, 1, none⟩ = some (.int .u64 0) := by go_simp
  have s4 : CCRest w w3 w5 := ⟨by omega, by omega, by (repeat' (first | (with_reducible exact Below.refl _ _) | (with_reducible refine Below.alloc ?_ ?_ _) | (with_reducible refine Below.drew ?_) | (with_reducible refine Below.setCell ?_ ?_ _) | (with_reducible refine Below.thn (by assumption) ?_ ?_) | go_size)), HE.out.below (by (repeat' (first | (with_reducible exact Below.refl _ _) | (with_reducible refine Below.alloc ?_ ?_ _) | (with_reducible refine Below.drew ?_) | (with_reducible refine Below.setCell ?_ ?_ _) | (with_reducible refine Below.thn (by assumption) ?_ ?_) | go_size)))⟩
  have hS : CCS w w3 a0 a1 0 0 w5 := ⟨⟨s0, s1, s2, s3⟩, s4⟩
  have hne : Nonempty (Held (CCS w w3 a0 a1 0 0)) := ⟨⟨_, hS⟩⟩
  have i0 : ∀ t : Held (CCS w w3 a0 a1 0 0), t.w.cell? ⟨w.heap.size, 0, none⟩ = some (.int .u64 a0) := fun t => t.ok.1.1
  have i1 : ∀ t : Held (CCS w w3 a0 a1 0 0), t.w.cell? ⟨w.heap.size, 1, none⟩ = some (.int .u64 a1) := fun t => t.ok.1.2.1
  have i2 : ∀ t : Held (CCS w w3 a0 a1 0 0), t.w.cell? ⟨w3.heap.size, 0, none⟩ = some (.int .u64 0) := fun t => t.ok.1.2.2.1
  have i3 : ∀ t : Held (CCS w w3 a0 a1 0 0), t.w.cell? ⟨w3.heap.size, 1, none⟩ = some (.int .u64 0) := fun t => t.ok.1.2.2.2
  clear hc1 hc2 hc3 hc4 hc5 hf1 hf2 hf3 hf4 hf5 hb1 hb2 hb3 hb4 hb5 hz1 hz2 hz3 hz4 hz5 hs1_w0 hs1_w1 hs2_w0 hs2_w1 hs3_w0 hs3_w1 hs4_w0 hs4_w1 hs4_w30 hs5_w0 hs5_w1 hs5_w30 s0 s1 s2 s3 s4
  refine wp_region_held (S := CCS w w3 a0 a1 0 0) (by kernel_rfl) (by kernel_rfl) (ccKeep _ _ hS (Below.refl _ _).drew) ?_
  repeat (go_big_quiet_step (first
      | (go_at_call 9; with_reducible exact held_call (fixed_calls _) ccKeep)
      | (go_at_call 10; with_reducible exact held_call (check_ok a0 a1 _ (by omega) (by omega) (by omega) (by omega)) ccKeep)
      | (go_at_call 11; with_reducible exact held_call (rules_ok a0 a1 _ (by omega) (by omega) (by omega)) ccKeep)
      | (go_at_call 12; with_reducible exact held_call (number_nil _) ccKeep)
      | (go_at_call 12; with_reducible exact held_call (number_num _ _ (cc_err _)) ccKeep)))
  refine wpQuiet_nil ?_
  intro _ hw'
  obtain ⟨s6, hw''⟩ := hw'
  subst hw''
  go_wp2_with (go_at_call 13; refine (is_num _ _ _).mono ?_; rintro e w' ⟨rfl, rfl⟩)
  go_returns
  exact ⟨by simp, s6.ok.2.2.2.1⟩

set_option maxRecDepth 100000 in
set_option maxHeartbeats 4000000 in
theorem cc_bad (w : World) (HE : Hid (ErrType w)) (a0 a1 a2 a3 a4 a5 : Int) (b0 : 0 ≤ a0) (b1 : 0 ≤ a1) (b2 : 0 ≤ a2) (b3 : 0 ≤ a3) (b4 : 0 ≤ a4) (b5 : 0 ≤ a5) (k1 : 1 ≤ a0) (k2 : a0 ≤ 1099511627776) (k4 : a1 ≤ a0) (hsp : Hid (a5 < a3 ∨ 1099511627776 < max4 a2 a3 a4 a5)) :
    Calls Tryd.prog 3 #[.int .u64 a0, .int .u64 a1, .int .u64 a2, .int .u64 a3, .int .u64 a4, .int .u64 a5] w fun e w' => e = .returned (.bool true) ∧ Below w.heap.size w w' := by
  go_enter Tryd.func3, Tryd.ntmps3
  go_wp2_with (first
    | (go_at_call 4; (with_reducible refine (spent_bad a2 a3 a4 a5 _ hsp.out).mono ?_); rintro e1 w1 ⟨rfl, hb1⟩; obtain ⟨hc1, hf1⟩ := bcell hb1; have hz1 := hb1.size; (try simp at hz1); have hs1_w0 : w.heap.size < w1.heap.size := (by omega); have hs1_w1 : w.heap.size + 1 < w1.heap.size := (by omega))
    | (go_at_call 5; (with_reducible refine (refSpent_bad a2 a3 a4 a5 _ hsp.out).mono ?_); rintro e2 w2 ⟨rfl, hb2⟩; obtain ⟨hc2, hf2⟩ := bcell hb2; have hz2 := hb2.size; (try simp at hz2); have hs2_w0 : w.heap.size < w2.heap.size := (by omega); have hs2_w1 : w.heap.size + 1 < w2.heap.size := (by omega))
    | (go_at_call 6; (with_reducible refine (next_bad a0 a1 a2 a3 a4 a5 _ (by omega) (by omega) (by omega) (by omega) hsp.out).mono ?_); rintro e3 w3 ⟨rfl, hb3⟩; obtain ⟨hc3, hf3⟩ := bcell hb3; have hz3 := hb3.size; (try simp at hz3); have hs3_w0 : w.heap.size < w3.heap.size := (by omega); have hs3_w1 : w.heap.size + 1 < w3.heap.size := (by omega))
    | (go_at_call 7; (with_reducible refine (refNext_bad a0 a1 a2 a3 a4 a5 _ (by omega) (by omega) (by omega) (by omega) hsp.out).mono ?_); rintro e4 w4 ⟨rfl, hb4⟩; obtain ⟨hc4, hf4⟩ := bcell hb4; have hz4 := hb4.size; (try simp at hz4); have hs4_w0 : w.heap.size < w4.heap.size := (by omega); have hs4_w1 : w.heap.size + 1 < w4.heap.size := (by omega); have hs4_w30 : w3.heap.size < w4.heap.size := (by omega))
    | (go_at_call 8; (with_reducible refine (over_bad a0 a1 a2 a3 a4 a5 _ (by omega) (by omega) (by omega) (by omega) hsp.out).mono ?_); rintro e5 w5 ⟨rfl, hb5⟩; obtain ⟨hc5, hf5⟩ := bcell hb5; have hz5 := hb5.size; (try simp at hz5); have hs5_w0 : w.heap.size < w5.heap.size := (by omega); have hs5_w1 : w.heap.size + 1 < w5.heap.size := (by omega); have hs5_w30 : w3.heap.size < w5.heap.size := (by omega)))
  have s0 : w5.cell? ⟨w.heap.size, 0, none⟩ = some (.int .u64 a0) := by go_simp
  have s1 : w5.cell? ⟨w.heap.size, 1, none⟩ = some (.int .u64 a1) := by go_simp
  have s2 : w5.cell? ⟨w3.heap.size, 0, none⟩ = some (.int .u64 0) := by go_simp
  have s3 : w5.cell? ⟨w3.heap.size, 1, none⟩ = some (.int .u64 0) := by go_simp
  have s4 : CCRest w w3 w5 := ⟨by omega, by omega, by (repeat' (first | (with_reducible exact Below.refl _ _) | (with_reducible refine Below.alloc ?_ ?_ _) | (with_reducible refine Below.drew ?_) | (with_reducible refine Below.setCell ?_ ?_ _) | (with_reducible refine Below.thn (by assumption) ?_ ?_) | go_size)), HE.out.below (by (repeat' (first | (with_reducible exact Below.refl _ _) | (with_reducible refine Below.alloc ?_ ?_ _) | (with_reducible refine Below.drew ?_) | (with_reducible refine Below.setCell ?_ ?_ _) | (with_reducible refine Below.thn (by assumption) ?_ ?_) | go_size)))⟩
  have hS : CCS w w3 a0 a1 0 0 w5 := ⟨⟨s0, s1, s2, s3⟩, s4⟩
  have hne : Nonempty (Held (CCS w w3 a0 a1 0 0)) := ⟨⟨_, hS⟩⟩
  have i0 : ∀ t : Held (CCS w w3 a0 a1 0 0), t.w.cell? ⟨w.heap.size, 0, none⟩ = some (.int .u64 a0) := fun t => t.ok.1.1
  have i1 : ∀ t : Held (CCS w w3 a0 a1 0 0), t.w.cell? ⟨w.heap.size, 1, none⟩ = some (.int .u64 a1) := fun t => t.ok.1.2.1
  have i2 : ∀ t : Held (CCS w w3 a0 a1 0 0), t.w.cell? ⟨w3.heap.size, 0, none⟩ = some (.int .u64 0) := fun t => t.ok.1.2.2.1
  have i3 : ∀ t : Held (CCS w w3 a0 a1 0 0), t.w.cell? ⟨w3.heap.size, 1, none⟩ = some (.int .u64 0) := fun t => t.ok.1.2.2.2
  clear hc1 hc2 hc3 hc4 hc5 hf1 hf2 hf3 hf4 hf5 hb1 hb2 hb3 hb4 hb5 hz1 hz2 hz3 hz4 hz5 hs1_w0 hs1_w1 hs2_w0 hs2_w1 hs3_w0 hs3_w1 hs4_w0 hs4_w1 hs4_w30 hs5_w0 hs5_w1 hs5_w30 s0 s1 s2 s3 s4
  refine wp_region_held (S := CCS w w3 a0 a1 0 0) (by kernel_rfl) (by kernel_rfl) (ccKeep _ _ hS (Below.refl _ _).drew) ?_
  repeat (go_big_quiet_step (first
      | (go_at_call 9; with_reducible exact held_call (fixed_calls _) ccKeep)
      | (go_at_call 10; with_reducible exact held_call (check_ok a0 a1 _ (by omega) (by omega) (by omega) (by omega)) ccKeep)
      | (go_at_call 11; with_reducible exact held_call (rules_ok a0 a1 _ (by omega) (by omega) (by omega)) ccKeep)
      | (go_at_call 12; with_reducible exact held_call (number_nil _) ccKeep)
      | (go_at_call 12; with_reducible exact held_call (number_num _ _ (cc_err _)) ccKeep)))
  refine wpQuiet_nil ?_
  intro _ hw'
  obtain ⟨s6, hw''⟩ := hw'
  subst hw''
  go_wp2_with (go_at_call 13; refine (is_num _ _ _).mono ?_; rintro e w' ⟨rfl, rfl⟩)
  go_returns
  exact ⟨by simp, s6.ok.2.2.2.1⟩

set_option maxRecDepth 100000 in
set_option maxHeartbeats 4000000 in
theorem cc_badRulesS (w : World) (HE : Hid (ErrType w)) (a0 a1 a2 a3 a4 a5 : Int) (b0 : 0 ≤ a0) (b1 : 0 ≤ a1) (b2 : 0 ≤ a2) (b3 : 0 ≤ a3) (b4 : 0 ≤ a4) (b5 : 0 ≤ a5) (hru : Hid (a0 < 1 ∨ 1099511627776 < a0 ∨ a0 < a1)) (h2 : a2 ≤ 1099511627776) (h4 : a4 ≤ 1099511627776) (h6 : a3 ≤ a5) (h7 : a5 ≤ 1099511627776) :
    Calls Tryd.prog 3 #[.int .u64 a0, .int .u64 a1, .int .u64 a2, .int .u64 a3, .int .u64 a4, .int .u64 a5] w fun e w' => e = .returned (.bool true) ∧ Below w.heap.size w w' := by
  go_enter Tryd.func3, Tryd.ntmps3
  go_wp2_with (first
    | (go_at_call 4; (with_reducible refine (spent_ok a2 a3 a4 a5 _ (by omega) (by omega) (by omega) (by omega) (by omega) (by omega) (by omega)).mono ?_); rintro e1 w1 ⟨rfl, hb1⟩; obtain ⟨hc1, hf1⟩ := bcell hb1; have hz1 := hb1.size; (try simp at hz1); have hs1_w0 : w.heap.size < w1.heap.size := (by omega); have hs1_w1 : w.heap.size + 1 < w1.heap.size := (by omega))
    | (go_at_call 5; (with_reducible refine (refSpent_ok a2 a3 a4 a5 _ (by omega) (by omega) (by omega) (by omega) (by omega) (by omega) (by omega)).mono ?_); rintro e2 w2 ⟨rfl, hb2⟩; obtain ⟨hc2, hf2⟩ := bcell hb2; have hz2 := hb2.size; (try simp at hz2); have hs2_w0 : w.heap.size < w2.heap.size := (by omega); have hs2_w1 : w.heap.size + 1 < w2.heap.size := (by omega))
    | (go_at_call 6; (with_reducible refine (next_badRules a0 a1 a2 a3 a4 a5 _ b0 b1 hru.out).mono ?_); rintro e3 w3 ⟨rfl, hb3⟩; obtain ⟨hc3, hf3⟩ := bcell hb3; have hz3 := hb3.size; (try simp at hz3); have hs3_w0 : w.heap.size < w3.heap.size := (by omega); have hs3_w1 : w.heap.size + 1 < w3.heap.size := (by omega))
    | (go_at_call 7; (with_reducible refine (refNext_badRules a0 a1 a2 a3 a4 a5 _ b0 b1 hru.out).mono ?_); rintro e4 w4 ⟨rfl, hb4⟩; obtain ⟨hc4, hf4⟩ := bcell hb4; have hz4 := hb4.size; (try simp at hz4); have hs4_w0 : w.heap.size < w4.heap.size := (by omega); have hs4_w1 : w.heap.size + 1 < w4.heap.size := (by omega); have hs4_w30 : w3.heap.size < w4.heap.size := (by omega))
    | (go_at_call 8; (with_reducible refine (over_badRules a0 a1 a2 a3 a4 a5 _ b0 b1 hru.out).mono ?_); rintro e5 w5 ⟨rfl, hb5⟩; obtain ⟨hc5, hf5⟩ := bcell hb5; have hz5 := hb5.size; (try simp at hz5); have hs5_w0 : w.heap.size < w5.heap.size := (by omega); have hs5_w1 : w.heap.size + 1 < w5.heap.size := (by omega); have hs5_w30 : w3.heap.size < w5.heap.size := (by omega)))
  have s0 : w5.cell? ⟨w.heap.size, 0, none⟩ = some (.int .u64 a0) := by go_simp
  have s1 : w5.cell? ⟨w.heap.size, 1, none⟩ = some (.int .u64 a1) := by go_simp
  have s2 : w5.cell? ⟨w3.heap.size, 0, none⟩ = some (.int .u64 0) := by go_simp
  have s3 : w5.cell? ⟨w3.heap.size, 1, none⟩ = some (.int .u64 0) := by go_simp
  have s4 : CCRest w w3 w5 := ⟨by omega, by omega, by (repeat' (first | (with_reducible exact Below.refl _ _) | (with_reducible refine Below.alloc ?_ ?_ _) | (with_reducible refine Below.drew ?_) | (with_reducible refine Below.setCell ?_ ?_ _) | (with_reducible refine Below.thn (by assumption) ?_ ?_) | go_size)), HE.out.below (by (repeat' (first | (with_reducible exact Below.refl _ _) | (with_reducible refine Below.alloc ?_ ?_ _) | (with_reducible refine Below.drew ?_) | (with_reducible refine Below.setCell ?_ ?_ _) | (with_reducible refine Below.thn (by assumption) ?_ ?_) | go_size)))⟩
  have hS : CCS w w3 a0 a1 0 0 w5 := ⟨⟨s0, s1, s2, s3⟩, s4⟩
  have hne : Nonempty (Held (CCS w w3 a0 a1 0 0)) := ⟨⟨_, hS⟩⟩
  have i0 : ∀ t : Held (CCS w w3 a0 a1 0 0), t.w.cell? ⟨w.heap.size, 0, none⟩ = some (.int .u64 a0) := fun t => t.ok.1.1
  have i1 : ∀ t : Held (CCS w w3 a0 a1 0 0), t.w.cell? ⟨w.heap.size, 1, none⟩ = some (.int .u64 a1) := fun t => t.ok.1.2.1
  have i2 : ∀ t : Held (CCS w w3 a0 a1 0 0), t.w.cell? ⟨w3.heap.size, 0, none⟩ = some (.int .u64 0) := fun t => t.ok.1.2.2.1
  have i3 : ∀ t : Held (CCS w w3 a0 a1 0 0), t.w.cell? ⟨w3.heap.size, 1, none⟩ = some (.int .u64 0) := fun t => t.ok.1.2.2.2
  clear hc1 hc2 hc3 hc4 hc5 hf1 hf2 hf3 hf4 hf5 hb1 hb2 hb3 hb4 hb5 hz1 hz2 hz3 hz4 hz5 hs1_w0 hs1_w1 hs2_w0 hs2_w1 hs3_w0 hs3_w1 hs4_w0 hs4_w1 hs4_w30 hs5_w0 hs5_w1 hs5_w30 s0 s1 s2 s3 s4
  refine wp_region_held (S := CCS w w3 a0 a1 0 0) (by kernel_rfl) (by kernel_rfl) (ccKeep _ _ hS (Below.refl _ _).drew) ?_
  repeat (go_big_quiet_step (first
      | (go_at_call 9; with_reducible exact held_call (fixed_calls _) ccKeep)
      | (go_at_call 10; with_reducible exact held_call (check_bad a0 a1 _ b0 b1 hru.out) ccKeep)
      | (go_at_call 11; with_reducible exact held_call (rules_bad a0 a1 _ hru.out) ccKeep)
      | (go_at_call 12; with_reducible exact held_call (number_nil _) ccKeep)
      | (go_at_call 12; with_reducible exact held_call (number_num _ _ (cc_err _)) ccKeep)))
  refine wpQuiet_nil ?_
  intro _ hw'
  obtain ⟨s6, hw''⟩ := hw'
  subst hw''
  go_wp2_with (go_at_call 13; refine (is_num _ _ _).mono ?_; rintro e w' ⟨rfl, rfl⟩)
  go_returns
  exact ⟨by simp, s6.ok.2.2.2.1⟩

set_option maxRecDepth 100000 in
set_option maxHeartbeats 4000000 in
theorem cc_badRules (w : World) (HE : Hid (ErrType w)) (a0 a1 a2 a3 a4 a5 : Int) (b0 : 0 ≤ a0) (b1 : 0 ≤ a1) (b2 : 0 ≤ a2) (b3 : 0 ≤ a3) (b4 : 0 ≤ a4) (b5 : 0 ≤ a5) (hru : Hid (a0 < 1 ∨ 1099511627776 < a0 ∨ a0 < a1)) (hsp : Hid (a5 < a3 ∨ 1099511627776 < max4 a2 a3 a4 a5)) :
    Calls Tryd.prog 3 #[.int .u64 a0, .int .u64 a1, .int .u64 a2, .int .u64 a3, .int .u64 a4, .int .u64 a5] w fun e w' => e = .returned (.bool true) ∧ Below w.heap.size w w' := by
  go_enter Tryd.func3, Tryd.ntmps3
  go_wp2_with (first
    | (go_at_call 4; (with_reducible refine (spent_bad a2 a3 a4 a5 _ hsp.out).mono ?_); rintro e1 w1 ⟨rfl, hb1⟩; obtain ⟨hc1, hf1⟩ := bcell hb1; have hz1 := hb1.size; (try simp at hz1); have hs1_w0 : w.heap.size < w1.heap.size := (by omega); have hs1_w1 : w.heap.size + 1 < w1.heap.size := (by omega))
    | (go_at_call 5; (with_reducible refine (refSpent_bad a2 a3 a4 a5 _ hsp.out).mono ?_); rintro e2 w2 ⟨rfl, hb2⟩; obtain ⟨hc2, hf2⟩ := bcell hb2; have hz2 := hb2.size; (try simp at hz2); have hs2_w0 : w.heap.size < w2.heap.size := (by omega); have hs2_w1 : w.heap.size + 1 < w2.heap.size := (by omega))
    | (go_at_call 6; (with_reducible refine (next_badRules a0 a1 a2 a3 a4 a5 _ b0 b1 hru.out).mono ?_); rintro e3 w3 ⟨rfl, hb3⟩; obtain ⟨hc3, hf3⟩ := bcell hb3; have hz3 := hb3.size; (try simp at hz3); have hs3_w0 : w.heap.size < w3.heap.size := (by omega); have hs3_w1 : w.heap.size + 1 < w3.heap.size := (by omega))
    | (go_at_call 7; (with_reducible refine (refNext_badRules a0 a1 a2 a3 a4 a5 _ b0 b1 hru.out).mono ?_); rintro e4 w4 ⟨rfl, hb4⟩; obtain ⟨hc4, hf4⟩ := bcell hb4; have hz4 := hb4.size; (try simp at hz4); have hs4_w0 : w.heap.size < w4.heap.size := (by omega); have hs4_w1 : w.heap.size + 1 < w4.heap.size := (by omega); have hs4_w30 : w3.heap.size < w4.heap.size := (by omega))
    | (go_at_call 8; (with_reducible refine (over_badRules a0 a1 a2 a3 a4 a5 _ b0 b1 hru.out).mono ?_); rintro e5 w5 ⟨rfl, hb5⟩; obtain ⟨hc5, hf5⟩ := bcell hb5; have hz5 := hb5.size; (try simp at hz5); have hs5_w0 : w.heap.size < w5.heap.size := (by omega); have hs5_w1 : w.heap.size + 1 < w5.heap.size := (by omega); have hs5_w30 : w3.heap.size < w5.heap.size := (by omega)))
  have s0 : w5.cell? ⟨w.heap.size, 0, none⟩ = some (.int .u64 a0) := by go_simp
  have s1 : w5.cell? ⟨w.heap.size, 1, none⟩ = some (.int .u64 a1) := by go_simp
  have s2 : w5.cell? ⟨w3.heap.size, 0, none⟩ = some (.int .u64 0) := by go_simp
  have s3 : w5.cell? ⟨w3.heap.size, 1, none⟩ = some (.int .u64 0) := by go_simp
  have s4 : CCRest w w3 w5 := ⟨by omega, by omega, by (repeat' (first | (with_reducible exact Below.refl _ _) | (with_reducible refine Below.alloc ?_ ?_ _) | (with_reducible refine Below.drew ?_) | (with_reducible refine Below.setCell ?_ ?_ _) | (with_reducible refine Below.thn (by assumption) ?_ ?_) | go_size)), HE.out.below (by (repeat' (first | (with_reducible exact Below.refl _ _) | (with_reducible refine Below.alloc ?_ ?_ _) | (with_reducible refine Below.drew ?_) | (with_reducible refine Below.setCell ?_ ?_ _) | (with_reducible refine Below.thn (by assumption) ?_ ?_) | go_size)))⟩
  have hS : CCS w w3 a0 a1 0 0 w5 := ⟨⟨s0, s1, s2, s3⟩, s4⟩
  have hne : Nonempty (Held (CCS w w3 a0 a1 0 0)) := ⟨⟨_, hS⟩⟩
  have i0 : ∀ t : Held (CCS w w3 a0 a1 0 0), t.w.cell? ⟨w.heap.size, 0, none⟩ = some (.int .u64 a0) := fun t => t.ok.1.1
  have i1 : ∀ t : Held (CCS w w3 a0 a1 0 0), t.w.cell? ⟨w.heap.size, 1, none⟩ = some (.int .u64 a1) := fun t => t.ok.1.2.1
  have i2 : ∀ t : Held (CCS w w3 a0 a1 0 0), t.w.cell? ⟨w3.heap.size, 0, none⟩ = some (.int .u64 0) := fun t => t.ok.1.2.2.1
  have i3 : ∀ t : Held (CCS w w3 a0 a1 0 0), t.w.cell? ⟨w3.heap.size, 1, none⟩ = some (.int .u64 0) := fun t => t.ok.1.2.2.2
  clear hc1 hc2 hc3 hc4 hc5 hf1 hf2 hf3 hf4 hf5 hb1 hb2 hb3 hb4 hb5 hz1 hz2 hz3 hz4 hz5 hs1_w0 hs1_w1 hs2_w0 hs2_w1 hs3_w0 hs3_w1 hs4_w0 hs4_w1 hs4_w30 hs5_w0 hs5_w1 hs5_w30 s0 s1 s2 s3 s4
  refine wp_region_held (S := CCS w w3 a0 a1 0 0) (by kernel_rfl) (by kernel_rfl) (ccKeep _ _ hS (Below.refl _ _).drew) ?_
  repeat (go_big_quiet_step (first
      | (go_at_call 9; with_reducible exact held_call (fixed_calls _) ccKeep)
      | (go_at_call 10; with_reducible exact held_call (check_bad a0 a1 _ b0 b1 hru.out) ccKeep)
      | (go_at_call 11; with_reducible exact held_call (rules_bad a0 a1 _ hru.out) ccKeep)
      | (go_at_call 12; with_reducible exact held_call (number_nil _) ccKeep)
      | (go_at_call 12; with_reducible exact held_call (number_num _ _ (cc_err _)) ccKeep)))
  refine wpQuiet_nil ?_
  intro _ hw'
  obtain ⟨s6, hw''⟩ := hw'
  subst hw''
  go_wp2_with (go_at_call 13; refine (is_num _ _ _).mono ?_; rintro e w' ⟨rfl, rfl⟩)
  go_returns
  exact ⟨by simp, s6.ok.2.2.2.1⟩

theorem clockCalls_walk (w : World) (a0 : Int) (w0 : (Lit.int .u64 a0).wf = true) (a1 : Int) (w1 : (Lit.int .u64 a1).wf = true) (a2 : Int) (w2 : (Lit.int .u64 a2).wf = true) (a3 : Int) (w3 : (Lit.int .u64 a3).wf = true) (a4 : Int) (w4 : (Lit.int .u64 a4).wf = true) (a5 : Int) (w5 : (Lit.int .u64 a5).wf = true) (laid : laidMetH Tryd.prog Rows.clockCallsRow.laid w) :
    Calls Tryd.prog 3 #[.int .u64 a0, .int .u64 a1, .int .u64 a2, .int .u64 a3, .int .u64 a4, .int .u64 a5] w fun e w' => e = .returned (.bool true) ∧ Below w.heap.size w w' := by
  have HE : Hid (ErrType w) := errType_of_laid laid
  have b0 := (u64_wf w0).1
  have b1 := (u64_wf w1).1
  have b2 := (u64_wf w2).1
  have b3 := (u64_wf w3).1
  have b4 := (u64_wf w4).1
  have b5 := (u64_wf w5).1
  by_cases r : 1 ≤ a0 ∧ a0 ≤ 1099511627776 ∧ a1 ≤ a0
  · by_cases q : a3 ≤ a5 ∧ a2 ≤ 1099511627776 ∧ a3 ≤ 1099511627776 ∧ a4 ≤ 1099511627776 ∧ a5 ≤ 1099511627776
    · by_cases l : a4 + a5 - a3 < a0
      · exact cc_ok w HE a0 a1 a2 a3 a4 a5 b0 b1 b2 b3 b4 b5 r.1 r.2.1 r.2.2 q.2.1 q.2.2.2.1 q.1 q.2.2.2.2 l
      · exact cc_late w HE a0 a1 a2 a3 a4 a5 b0 b1 b2 b3 b4 b5 r.1 r.2.1 r.2.2 q.2.1 q.2.2.2.1 q.1 q.2.2.2.2 (by omega)
    · have hsp : a5 < a3 ∨ 1099511627776 < max4 a2 a3 a4 a5 := by unfold max4; omega
      exact cc_bad w HE a0 a1 a2 a3 a4 a5 b0 b1 b2 b3 b4 b5 r.1 r.2.1 r.2.2 hsp
  · have hru : a0 < 1 ∨ 1099511627776 < a0 ∨ a0 < a1 := by omega
    by_cases q : a3 ≤ a5 ∧ a2 ≤ 1099511627776 ∧ a3 ≤ 1099511627776 ∧ a4 ≤ 1099511627776 ∧ a5 ≤ 1099511627776
    · exact cc_badRulesS w HE a0 a1 a2 a3 a4 a5 b0 b1 b2 b3 b4 b5 hru q.2.1 q.2.2.2.1 q.1 q.2.2.2.2
    · have hsp : a5 < a3 ∨ 1099511627776 < max4 a2 a3 a4 a5 := by unfold max4; omega
      exact cc_badRules w HE a0 a1 a2 a3 a4 a5 b0 b1 b2 b3 b4 b5 hru hsp
end Go.Proofs.YtjjnbkgmagkpgaaDoor
