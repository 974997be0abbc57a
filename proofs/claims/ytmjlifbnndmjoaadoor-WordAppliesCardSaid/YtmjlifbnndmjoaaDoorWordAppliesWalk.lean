/-
  The walk of WordApplies: it returns true for every input.
-/
import Derived.Test.YtmjlifbnndmjoaaDoorApAll
import Derived.Test.YtmjlifbnndmjoaaDoorNum
import Derived.Test.YtmjlifbnndmjoaaDoorLaidE
set_option linter.unusedVariables false
set_option linter.unusedSimpArgs false
namespace Go.Proofs.YtmjlifbnndmjoaaDoor
open Go.RowKit

theorem natOf {a : Int} (h : R64 a) : ∃ n : Nat, a = (n : Int) ∧ n < 18446744073709551616 := ⟨a.toNat, by have := h.lo; omega, by have := h.lo; have := h.hi; omega⟩
/-- Every operation, in Go's text. -/
theorem apply_all (op : Nat) (h1 : 1 ≤ op) (h2 : op ≤ 25) (a b c : Int) (ha : R64 a) (hb : R64 b) (hc : R64 c) (w : World) :
    Calls Tryd.prog 12 #[.int .i64 (op : Int), .int .u64 a, .int .u64 b, .int .u64 c] w fun e w' => e = .returned (.tuple #[.int .u64 (apZ op a b c), .nilIface]) ∧ Below w.heap.size w w' := by
  by_cases h8 : op = 8
  · subst h8
    obtain ⟨A, rfl, hA⟩ := natOf ha
    obtain ⟨B, rfl, hB⟩ := natOf hb
    obtain ⟨C, rfl, hC⟩ := natOf hc
    rcases Nat.eq_zero_or_pos C with rfl | h0
    · rw [show apZ 8 A B ((0 : Nat) : Int) = 0 from ap_80 A B]
      exact apply_8 A B 0 0 (fun w => (modulo_zero 8 A B w).mono fun e w' ⟨he, hw⟩ => ⟨he, by subst hw; exact Below.refl _ _⟩) w
    · rw [ap_8 A B C hA hB hC h0]
      exact apply_8 A B C _ (fun w => modulo_8 A B C ⟨hA, hB, h0, hC⟩ w) w
  by_cases h9 : op = 9
  · subst h9
    obtain ⟨A, rfl, hA⟩ := natOf ha
    obtain ⟨B, rfl, hB⟩ := natOf hb
    obtain ⟨C, rfl, hC⟩ := natOf hc
    rcases Nat.eq_zero_or_pos C with rfl | h0
    · rw [show apZ 9 A B ((0 : Nat) : Int) = 0 from ap_90 A B]
      exact apply_9 A B 0 0 (fun w => (modulo_zero 9 A B w).mono fun e w' ⟨he, hw⟩ => ⟨he, by subst hw; exact Below.refl _ _⟩) w
    · rw [ap_9 A B C hA hB hC h0]
      exact apply_9 A B C _ (fun w => modulo_9 A B C ⟨hA, hB, h0, hC⟩ w) w
  exact (apply_Z op h1 h2 h8 h9 a b c ha hb w).mono fun e w' ⟨he, hw⟩ => ⟨he, by subst hw; exact Below.refl _ _⟩
/-- .. and in the reference's. -/
theorem rapply_all (op : Nat) (h1 : 1 ≤ op) (h2 : op ≤ 25) (a b c : Int) (ha : R64 a) (hb : R64 b) (hc : R64 c) (w : World) :
    Calls Tryd.prog 13 #[.int .i64 (op : Int), .int .u64 a, .int .u64 b, .int .u64 c] w (AnswersR (apZ op a b c) w) := by
  match op, h1, h2 with
  | 1, _, _ => rw [← ap_1 c ha hb]; exact rapply_1 a b c w
  | 2, _, _ => rw [← ap_2 c ha hb]; exact rapply_2 a b c w
  | 3, _, _ =>
    obtain ⟨A, rfl, hA⟩ := natOf ha
    obtain ⟨B, rfl, hB⟩ := natOf hb
    obtain ⟨C, rfl, hC⟩ := natOf hc
    rw [← ap_3 C ha hb, wrap_mulN]; exact rapply_3 A B C ⟨hA, hB⟩ w
  | 4, _, _ => exact rapply_4 a b c ha hb w
  | 5, _, _ => exact rapply_5 a b c ha hb w
  | 6, _, _ => exact rapply_6 a b c ha hb w
  | 7, _, _ => exact rapply_7 a b c ha hb w
  | 8, _, _ =>
    obtain ⟨A, rfl, hA⟩ := natOf ha
    obtain ⟨B, rfl, hB⟩ := natOf hb
    obtain ⟨C, rfl, hC⟩ := natOf hc
    rcases Nat.eq_zero_or_pos C with rfl | h0
    · rw [show apZ 8 A B ((0 : Nat) : Int) = 0 from ap_80 A B]; exact rapply_80 8 (.inl rfl) A B w
    · rw [ap_8 A B C hA hB hC h0]; exact rapply_8 A B C ⟨hA, hB⟩ ⟨h0, hC⟩ w
  | 9, _, _ =>
    obtain ⟨A, rfl, hA⟩ := natOf ha
    obtain ⟨B, rfl, hB⟩ := natOf hb
    obtain ⟨C, rfl, hC⟩ := natOf hc
    rcases Nat.eq_zero_or_pos C with rfl | h0
    · rw [show apZ 9 A B ((0 : Nat) : Int) = 0 from ap_90 A B]; exact rapply_80 9 (.inr rfl) A B w
    · rw [ap_9 A B C hA hB hC h0]; exact rapply_9 A B C ⟨hA, hB⟩ ⟨h0, hC⟩ w
  | 10, _, _ =>
    obtain ⟨B, rfl, hB⟩ := natOf hb
    have h := rapply_10 (W64 a) B hB c w
    rw [val_w64 ha] at h
    rw [← ap_10 c ha hb]; exact h
  | 11, _, _ => exact rapply_11 a b c ha hb w
  | 12, _, _ => exact rapply_12 a b c ha hb w
  | 13, _, _ => exact rapply_13 a b c ha hb w
  | 14, _, _ => exact rapply_14 a b c ha hb w
  | 15, _, _ => exact rapply_15 a b c ha hb w
  | 16, _, _ => rw [← ap_16 c ha hb]; exact rapply_16 a b c w
  | 17, _, _ => rw [← ap_17 c ha hb]; exact rapply_17 a b c w
  | 18, _, _ => rw [← rap_18 c ha hb]; exact rapply_18 a b c w
  | 19, _, _ => rw [← rap_19 c ha hb]; exact rapply_19 a b c w
  | 20, _, _ => rw [← ap_20 c ha hb]; exact rapply_20 a b c w
  | 21, _, _ => rw [← ap_21 c ha hb]; exact rapply_21 a b c w
  | 22, _, _ => rw [← ap_22 c ha hb]; exact rapply_22 a b c w
  | 23, _, _ => rw [← ap_23 c ha hb]; exact rapply_23 a b c w
  | 24, _, _ => rw [← ap_24 c ha hb]; exact rapply_24 a b c w
  | 25, _, _ => rw [← ap_25 c ha hb]; exact rapply_25 a b c w
  | n + 26, _, h => omega
theorem rapply_bad (op : Int) (hop : op < 1 ∨ 25 < op) (a b c : Int) (w : World) :
    Calls Tryd.prog 13 #[.int .i64 op, .int .u64 a, .int .u64 b, .int .u64 c] w fun e w' => e = .returned (.tuple #[.int .u64 0, .int .i64 10]) ∧ w = w' := by
  have n1 : (op == 1) = false := by simp; omega
  have n2 : (op == 2) = false := by simp; omega
  have n3 : (op == 3) = false := by simp; omega
  have n4 : (op == 4) = false := by simp; omega
  have n5 : (op == 5) = false := by simp; omega
  have n6 : (op == 6) = false := by simp; omega
  have n7 : (op == 7) = false := by simp; omega
  have n8 : (op == 8) = false := by simp; omega
  have n9 : (op == 9) = false := by simp; omega
  have n10 : (op == 10) = false := by simp; omega
  have n11 : (op == 11) = false := by simp; omega
  have n12 : (op == 12) = false := by simp; omega
  have n13 : (op == 13) = false := by simp; omega
  have n14 : (op == 14) = false := by simp; omega
  have n15 : (op == 15) = false := by simp; omega
  have n16 : (op == 16) = false := by simp; omega
  have n17 : (op == 17) = false := by simp; omega
  have n18 : (op == 18) = false := by simp; omega
  have n19 : (op == 19) = false := by simp; omega
  have n20 : (op == 20) = false := by simp; omega
  have n21 : (op == 21) = false := by simp; omega
  have n22 : (op == 22) = false := by simp; omega
  have n23 : (op == 23) = false := by simp; omega
  have n24 : (op == 24) = false := by simp; omega
  have n25 : (op == 25) = false := by simp; omega
  clear hop
  go_enter Tryd.func13, Tryd.ntmps13
  go_wp2
  go_returns
  exact ⟨rfl, rfl⟩
set_option maxRecDepth 100000 in
theorem apply_bad (op : Int) (hop : op < 1 ∨ 25 < op) (a b c : Int) (w : World) :
    Calls Tryd.prog 12 #[.int .i64 op, .int .u64 a, .int .u64 b, .int .u64 c] w fun e w' => e = .returned (.tuple #[.int .u64 0, .iface 43 (.int .i64 10)]) ∧ w = w' := by
  have n1 : (op == 1) = false := by simp; omega
  have n2 : (op == 2) = false := by simp; omega
  have n3 : (op == 3) = false := by simp; omega
  have n4 : (op == 4) = false := by simp; omega
  have n5 : (op == 5) = false := by simp; omega
  have n6 : (op == 6) = false := by simp; omega
  have n7 : (op == 7) = false := by simp; omega
  have n8 : (op == 8) = false := by simp; omega
  have n9 : (op == 9) = false := by simp; omega
  have n10 : (op == 10) = false := by simp; omega
  have n11 : (op == 11) = false := by simp; omega
  have n12 : (op == 12) = false := by simp; omega
  have n13 : (op == 13) = false := by simp; omega
  have n14 : (op == 14) = false := by simp; omega
  have n15 : (op == 15) = false := by simp; omega
  have n16 : (op == 16) = false := by simp; omega
  have n17 : (op == 17) = false := by simp; omega
  have n18 : (op == 18) = false := by simp; omega
  have n19 : (op == 19) = false := by simp; omega
  have n20 : (op == 20) = false := by simp; omega
  have n21 : (op == 21) = false := by simp; omega
  have n22 : (op == 22) = false := by simp; omega
  have n23 : (op == 23) = false := by simp; omega
  have n24 : (op == 24) = false := by simp; omega
  have n25 : (op == 25) = false := by simp; omega
  clear hop
  go_enter Tryd.func12, Tryd.ntmps12
  go_upto_if 51 with (fail)
  refine wp_cond_false rfl ?_
  refine wp_skip ?_
  conv => whnf
  apply_assumption
  refine wp_exit ?_
  conv => whnf
  go_wp2
  go_returns
  exact ⟨rfl, rfl⟩
/-- How many operands. -/
def argN (op : Int) : Int := if op = 8 ∨ op = 9 then 3 else if op = 21 ∨ op = 25 then 1 else 2
theorem args_in (op : Int) (h1 : 1 ≤ op) (h2 : op ≤ 25) (w : World) :
    (Calls Tryd.prog 14 #[.int .i64 op] w fun e w' => e = .returned (.tuple #[.int .i64 (argN op), .nilIface]) ∧ w = w') ∧
    (Calls Tryd.prog 15 #[.int .i64 op] w fun e w' => e = .returned (.tuple #[.int .i64 (argN op), .int .i64 0]) ∧ w = w') := by
  by_cases h8 : op = 8
  · subst h8
    rw [show argN 8 = 3 from rfl]
    constructor
    · go_enter Tryd.func14, Tryd.ntmps14
      go_wp2
      go_returns
      exact ⟨rfl, rfl⟩
    · go_enter Tryd.func15, Tryd.ntmps15
      go_wp2
      go_returns
      exact ⟨rfl, rfl⟩
  by_cases h9 : op = 9
  · subst h9
    rw [show argN 9 = 3 from rfl]
    constructor
    · go_enter Tryd.func14, Tryd.ntmps14
      go_wp2
      go_returns
      exact ⟨rfl, rfl⟩
    · go_enter Tryd.func15, Tryd.ntmps15
      go_wp2
      go_returns
      exact ⟨rfl, rfl⟩
  by_cases h21 : op = 21
  · subst h21
    rw [show argN 21 = 1 from rfl]
    constructor
    · go_enter Tryd.func14, Tryd.ntmps14
      go_wp2
      go_returns
      exact ⟨rfl, rfl⟩
    · go_enter Tryd.func15, Tryd.ntmps15
      go_wp2
      go_returns
      exact ⟨rfl, rfl⟩
  by_cases h25 : op = 25
  · subst h25
    rw [show argN 25 = 1 from rfl]
    constructor
    · go_enter Tryd.func14, Tryd.ntmps14
      go_wp2
      go_returns
      exact ⟨rfl, rfl⟩
    · go_enter Tryd.func15, Tryd.ntmps15
      go_wp2
      go_returns
      exact ⟨rfl, rfl⟩
  have e : argN op = 2 := by unfold argN; rw [if_neg (by omega), if_neg (by omega)]
  rw [e]
  have n8 : (op == 8) = false := by simpa using h8
  have n9 : (op == 9) = false := by simpa using h9
  have n21 : (op == 21) = false := by simpa using h21
  have n25 : (op == 25) = false := by simpa using h25
  clear h8 h9 h21 h25 e
  constructor
  · go_enter Tryd.func14, Tryd.ntmps14
    go_wp2
    go_returns
    exact ⟨rfl, rfl⟩
  · go_enter Tryd.func15, Tryd.ntmps15
    go_wp2
    go_returns
    exact ⟨rfl, rfl⟩
theorem args_bad (op : Int) (hop : op < 1 ∨ 25 < op) (w : World) :
    Calls Tryd.prog 14 #[.int .i64 op] w fun e w' => e = .returned (.tuple #[.int .i64 0, .iface 43 (.int .i64 10)]) ∧ w = w' := by
  by_cases h : op < 1
  · clear hop
    go_enter Tryd.func14, Tryd.ntmps14
    go_wp2
    go_returns
    exact ⟨rfl, rfl⟩
  · have h2 : 25 < op := by omega
    clear hop
    go_enter Tryd.func14, Tryd.ntmps14
    go_wp2
    go_returns
    exact ⟨rfl, rfl⟩
theorem rargs_bad (op : Int) (hop : op < 1 ∨ 25 < op) (w : World) :
    Calls Tryd.prog 15 #[.int .i64 op] w fun e w' => e = .returned (.tuple #[.int .i64 0, .int .i64 10]) ∧ w = w' := by
  by_cases h : op < 1
  · clear hop
    go_enter Tryd.func15, Tryd.ntmps15
    go_wp2
    go_returns
    exact ⟨rfl, rfl⟩
  · have h2 : 25 < op := by omega
    clear hop
    go_enter Tryd.func15, Tryd.ntmps15
    go_wp2
    go_returns
    exact ⟨rfl, rfl⟩
theorem wordApplies_walk (w : World) (a0 : Int) (w0 : (Lit.int .i64 a0).wf = true) (a1 : Int) (w1 : (Lit.int .u64 a1).wf = true) (a2 : Int) (w2 : (Lit.int .u64 a2).wf = true) (a3 : Int) (w3 : (Lit.int .u64 a3).wf = true) (laid : laidMetH Tryd.prog Rows.wordAppliesRow.laid w) :
    Calls Tryd.prog 4 #[.int .i64 a0, .int .u64 a1, .int .u64 a2, .int .u64 a3] w fun e w' => e = .returned (.bool true) ∧ Below w.heap.size w w' := by
  have HE : Hid (ErrType w) := errType_of_laid laid
  have ra := R64_wf w1
  have rb := R64_wf w2
  have rc := R64_wf w3
  clear w0 w1 w2 w3 laid
  by_cases hop : a0 < 1 ∨ 25 < a0
  · have HOP := Lib.hid hop
    clear hop
    go_enter Tryd.func4, Tryd.ntmps4
    go_wp2_with (first
      | (go_at_call 12; (with_reducible refine (apply_bad a0 HOP.out a1 a2 a3 _).mono ?_); rintro e w' ⟨rfl, rfl⟩)
      | (go_at_call 13; (with_reducible refine (rapply_bad a0 HOP.out a1 a2 a3 _).mono ?_); rintro e w' ⟨rfl, rfl⟩)
      | (go_at_call 14; (with_reducible refine (args_bad a0 HOP.out _).mono ?_); rintro e w' ⟨rfl, rfl⟩)
      | (go_at_call 15; (with_reducible refine (rargs_bad a0 HOP.out _).mono ?_); rintro e w' ⟨rfl, rfl⟩)
      | (go_at_call 10; (with_reducible refine (fixed01_calls _).mono ?_); rintro e w' ⟨rfl, rfl⟩)
      | (go_at_call 11; (with_reducible refine (number_num 10 w HE).mono ?_); rintro e1 w1 ⟨rfl, hb1⟩; obtain ⟨hc1, hf1⟩ := bcell hb1; have hz1 := hb1.size; (try simp at hz1); have HE1 : Hid (ErrType w1) := HE.out.below hb1)
      | (go_at_call 11; (with_reducible refine (number_num 10 w1 HE1).mono ?_); rintro e2 w2 ⟨rfl, hb2⟩; obtain ⟨hc2, hf2⟩ := bcell hb2; have hz2 := hb2.size; (try simp at hz2)))
    go_returns
    exact ⟨rfl, by (repeat' (first | (with_reducible exact Below.refl _ _) | (with_reducible refine Below.alloc ?_ ?_ _) | (with_reducible refine Below.drew ?_) | (with_reducible refine Below.setCell ?_ ?_ _) | (with_reducible refine Below.thn (by assumption) ?_ ?_) | (with_reducible refine below_drewN ?_ _) | go_size))⟩
  · obtain ⟨op, rfl⟩ := Int.eq_ofNat_of_zero_le (show 0 ≤ a0 by omega)
    have o1 : 1 ≤ op := by omega
    have o2 : op ≤ 25 := by omega
    have HO : Hid (1 ≤ op ∧ op ≤ 25) := ⟨o1, o2⟩
    clear hop o1 o2
    have HI : Hid ((1 : Int) ≤ (op : Int) ∧ (op : Int) ≤ 25) := ⟨by have := HO.out; omega, by have := HO.out; omega⟩
    go_enter Tryd.func4, Tryd.ntmps4
    go_wp2_with (first
      | (go_at_call 12; (with_reducible refine (apply_all op HO.out.1 HO.out.2 a1 a2 a3 ra rb rc _).mono ?_); rintro e1 w1 ⟨rfl, hb1⟩; obtain ⟨hc1, hf1⟩ := bcell hb1; have hz1 := hb1.size; (try simp at hz1))
      | (go_at_call 13; (with_reducible refine (rapply_all op HO.out.1 HO.out.2 a1 a2 a3 ra rb rc _).mono ?_); rintro e w' ⟨rfl, rfl⟩)
      | (go_at_call 14; (with_reducible refine ((args_in (op : Int) HI.out.1 HI.out.2 _).1).mono ?_); rintro e w' ⟨rfl, rfl⟩)
      | (go_at_call 15; (with_reducible refine ((args_in (op : Int) HI.out.1 HI.out.2 _).2).mono ?_); rintro e w' ⟨rfl, rfl⟩)
      | (go_at_call 10; (with_reducible refine (fixed01_calls _).mono ?_); rintro e w' ⟨rfl, rfl⟩)
      | (go_at_call 11; (with_reducible refine (number_nil w1).mono ?_); rintro e2 w2 ⟨rfl, hb2⟩; obtain ⟨hc2, hf2⟩ := bcell hb2; have hz2 := hb2.size; (try simp at hz2))
      | (go_at_call 11; (with_reducible refine (number_nil w2).mono ?_); rintro e3 w3 ⟨rfl, hb3⟩; obtain ⟨hc3, hf3⟩ := bcell hb3; have hz3 := hb3.size; (try simp at hz3)))
    go_returns
    exact ⟨rfl, by (repeat' (first | (with_reducible exact Below.refl _ _) | (with_reducible refine Below.alloc ?_ ?_ _) | (with_reducible refine Below.drew ?_) | (with_reducible refine Below.setCell ?_ ?_ _) | (with_reducible refine Below.thn (by assumption) ?_ ?_) | (with_reducible refine below_drewN ?_ _) | go_size))⟩
end Go.Proofs.YtmjlifbnndmjoaaDoor
