/-
  The clock's functions by their contracts: Check, Spent, spent, Next, Over, at every input whose numbers fit their kinds.
-/
import Derived.Test.YtjjnbkgmagkpgaaDoorErrs
import Derived.Test.YtjjnbkgmagkpgaaDoorAid
import Derived.Outline
set_option linter.unusedVariables false
namespace Go.Proofs.YtjjnbkgmagkpgaaDoor
open Go.RowKit
theorem check_ok (l g : Int) (w : World) (h1 : 1 ≤ l) (h2 : l ≤ 1099511627776) (h3 : 0 ≤ g) (h4 : g ≤ l) :
    Calls Tryd.prog 10 #[.agg #[.int .u64 l, .int .u64 g]] w fun e w' => e = .returned .nilIface ∧ Below w.heap.size w w' := by
  go_enter Tryd.func10, Tryd.ntmps10
  go_wp2
  go_returns
  exact ⟨rfl, by go_grown⟩
theorem check_bad (l g : Int) (w : World) (h0 : 0 ≤ l) (h3 : 0 ≤ g) (h : l < 1 ∨ 1099511627776 < l ∨ l < g) :
    Calls Tryd.prog 10 #[.agg #[.int .u64 l, .int .u64 g]] w fun e w' => e = .returned (.iface 43 (.int .i64 2)) ∧ Below w.heap.size w w' := by
  go_enter Tryd.func10, Tryd.ntmps10
  go_wp2
  all_goals (go_returns; exact ⟨rfl, by go_grown⟩)
theorem spent_ok (u a b n : Int) (w : World) (h1 : 0 ≤ u) (h2 : u ≤ 1099511627776) (h3 : 0 ≤ b) (h4 : b ≤ 1099511627776) (h5 : 0 ≤ a) (h6 : a ≤ n) (h7 : n ≤ 1099511627776) :
    Calls Tryd.prog 4 #[.agg #[.int .u64 u, .int .u64 a], .int .u64 b, .int .u64 n] w fun e w' => e = .returned (.tuple #[.int .u64 (b + n - a), .nilIface]) ∧ Below w.heap.size w w' := by
  have hm := max4_le h2 (Int.le_trans h6 h7) h4 h7
  go_enter Tryd.func4, Tryd.ntmps4
  go_wp2
  go_returns
  exact ⟨rfl, by go_grown⟩
theorem spent_bad (u a b n : Int) (w : World) (h : n < a ∨ 1099511627776 < max4 u a b n) :
    Calls Tryd.prog 4 #[.agg #[.int .u64 u, .int .u64 a], .int .u64 b, .int .u64 n] w fun e w' => e = .returned (.tuple #[.int .u64 0, .iface 43 (.int .i64 2)]) ∧ Below w.heap.size w w' := by
  go_enter Tryd.func4, Tryd.ntmps4
  go_wp2
  all_goals (go_returns; exact ⟨rfl, by go_grown⟩)


theorem spentr_ok (l g u a b n : Int) (w : World) (k1 : 1 ≤ l) (k2 : l ≤ 1099511627776) (k3 : 0 ≤ g) (k4 : g ≤ l) (h1 : 0 ≤ u) (h2 : u ≤ 1099511627776) (h3 : 0 ≤ b) (h4 : b ≤ 1099511627776) (h5 : 0 ≤ a) (h6 : a ≤ n) (h7 : n ≤ 1099511627776) :
    Calls Tryd.prog 14 #[.agg #[.int .u64 l, .int .u64 g], .agg #[.int .u64 u, .int .u64 a], .int .u64 b, .int .u64 n] w fun e w' => e = .returned (.tuple #[.int .u64 (b + n - a), .nilIface]) ∧ Below w.heap.size w w' := by
  go_enter Tryd.func14, Tryd.ntmps14
  go_wp2_with (first
    | (go_at_call 10; refine (check_ok _ _ _ k1 k2 k3 k4).mono ?_; rintro e1 w1 ⟨rfl, hb1⟩; obtain ⟨hc1, hf1⟩ := bcell hb1; have hz1 := hb1.size; (try simp at hz1))
    | (go_at_call 4; refine (spent_ok _ _ _ _ _ h1 h2 h3 h4 h5 h6 h7).mono ?_; rintro e2 w2 ⟨rfl, hb2⟩; obtain ⟨hc2, hf2⟩ := bcell hb2; have hz2 := hb2.size; (try simp at hz2)))
  go_returns
  exact ⟨rfl, by (repeat' (first | (with_reducible exact Below.refl _ _) | (with_reducible refine Below.alloc ?_ ?_ _) | (with_reducible refine Below.drew ?_) | (with_reducible refine Below.setCell ?_ ?_ _) | (with_reducible refine Below.thn (by assumption) ?_ ?_) | go_size))⟩
theorem spentr_badRules (l g u a b n : Int) (w : World) (h0 : 0 ≤ l) (h3 : 0 ≤ g) (h : l < 1 ∨ 1099511627776 < l ∨ l < g) :
    Calls Tryd.prog 14 #[.agg #[.int .u64 l, .int .u64 g], .agg #[.int .u64 u, .int .u64 a], .int .u64 b, .int .u64 n] w fun e w' => e = .returned (.tuple #[.int .u64 0, .iface 43 (.int .i64 2)]) ∧ Below w.heap.size w w' := by
  go_enter Tryd.func14, Tryd.ntmps14
  go_wp2_with (go_at_call 10; refine (check_bad _ _ _ h0 h3 h).mono ?_; rintro e1 w1 ⟨rfl, hb1⟩; obtain ⟨hc1, hf1⟩ := bcell hb1; have hz1 := hb1.size; (try simp at hz1))
  go_returns
  exact ⟨rfl, by (repeat' (first | (with_reducible exact Below.refl _ _) | (with_reducible refine Below.alloc ?_ ?_ _) | (with_reducible refine Below.drew ?_) | (with_reducible refine Below.setCell ?_ ?_ _) | (with_reducible refine Below.thn (by assumption) ?_ ?_) | go_size))⟩
theorem spentr_bad (l g u a b n : Int) (w : World) (k1 : 1 ≤ l) (k2 : l ≤ 1099511627776) (k3 : 0 ≤ g) (k4 : g ≤ l) (h : n < a ∨ 1099511627776 < max4 u a b n) :
    Calls Tryd.prog 14 #[.agg #[.int .u64 l, .int .u64 g], .agg #[.int .u64 u, .int .u64 a], .int .u64 b, .int .u64 n] w fun e w' => e = .returned (.tuple #[.int .u64 0, .iface 43 (.int .i64 2)]) ∧ Below w.heap.size w w' := by
  have H := Lib.hid h
  clear h
  go_enter Tryd.func14, Tryd.ntmps14
  go_wp2_with (first
    | (go_at_call 10; refine (check_ok _ _ _ k1 k2 k3 k4).mono ?_; rintro e1 w1 ⟨rfl, hb1⟩; obtain ⟨hc1, hf1⟩ := bcell hb1; have hz1 := hb1.size; (try simp at hz1))
    | (go_at_call 4; refine (spent_bad _ _ _ _ _ H.out).mono ?_; rintro e2 w2 ⟨rfl, hb2⟩; obtain ⟨hc2, hf2⟩ := bcell hb2; have hz2 := hb2.size; (try simp at hz2)))
  go_returns
  exact ⟨rfl, by (repeat' (first | (with_reducible exact Below.refl _ _) | (with_reducible refine Below.alloc ?_ ?_ _) | (with_reducible refine Below.drew ?_) | (with_reducible refine Below.setCell ?_ ?_ _) | (with_reducible refine Below.thn (by assumption) ?_ ?_) | go_size))⟩

/-- Next, an answer in time. -/
theorem next_ok (l g u a b n m : Int) (w : World) (k1 : 1 ≤ l) (k2 : l ≤ 1099511627776) (k3 : 0 ≤ g) (k4 : g ≤ l) (h1 : 0 ≤ u) (h2 : u ≤ 1099511627776) (h3 : 0 ≤ b) (h4 : b ≤ 1099511627776) (h5 : 0 ≤ a) (h6 : a ≤ n) (h7 : n ≤ 1099511627776) (h8 : b + n - a < l) (hm : m = min (b + n - a) (l - g)) :
    Calls Tryd.prog 6 #[.agg #[.int .u64 l, .int .u64 g], .agg #[.int .u64 u, .int .u64 a], .int .u64 b, .int .u64 n] w fun e w' => e = .returned (.tuple #[.agg #[.int .u64 m, .int .u64 n], .nilIface]) ∧ Below w.heap.size w w' := by
  by_cases hlt : l - g < b + n - a
  · obtain rfl : m = l - g := by omega
    clear hm
    go_enter Tryd.func6, Tryd.ntmps6
    go_wp2_with (go_at_call 14; refine (spentr_ok _ _ _ _ _ _ _ k1 k2 k3 k4 h1 h2 h3 h4 h5 h6 h7).mono ?_; rintro e1 w1 ⟨rfl, hb1⟩; obtain ⟨hc1, hf1⟩ := bcell hb1; have hz1 := hb1.size; (try simp at hz1); have q1_0 : w1.cell? ⟨w.heap.size + 1 + 1, 0, none⟩ = some (.int .u64 0) := (by rw [hc1 _ _ (by simp)]; go_cell); have q1_1 : w1.cell? ⟨w.heap.size + 1 + 1, 1, none⟩ = some (.int .u64 0) := (by rw [hc1 _ _ (by simp)]; go_cell))
    refine bodyPost_ret (by simp [results, Tryd.results6, go_sem, q1_0, q1_1]; try rfl) rfl ?_
    exact ⟨rfl, by (repeat' (first | (with_reducible exact Below.refl _ _) | (with_reducible refine Below.alloc ?_ ?_ _) | (with_reducible refine Below.drew ?_) | (with_reducible refine Below.setCell ?_ ?_ _) | (with_reducible refine Below.thn (by assumption) ?_ ?_) | go_size))⟩
  · obtain rfl : m = b + n - a := by omega
    clear hm
    go_enter Tryd.func6, Tryd.ntmps6
    go_wp2_with (go_at_call 14; refine (spentr_ok _ _ _ _ _ _ _ k1 k2 k3 k4 h1 h2 h3 h4 h5 h6 h7).mono ?_; rintro e1 w1 ⟨rfl, hb1⟩; obtain ⟨hc1, hf1⟩ := bcell hb1; have hz1 := hb1.size; (try simp at hz1); have q1_0 : w1.cell? ⟨w.heap.size + 1 + 1, 0, none⟩ = some (.int .u64 0) := (by rw [hc1 _ _ (by simp)]; go_cell); have q1_1 : w1.cell? ⟨w.heap.size + 1 + 1, 1, none⟩ = some (.int .u64 0) := (by rw [hc1 _ _ (by simp)]; go_cell))
    refine bodyPost_ret (by simp [results, Tryd.results6, go_sem, q1_0, q1_1]; try rfl) rfl ?_
    exact ⟨rfl, by (repeat' (first | (with_reducible exact Below.refl _ _) | (with_reducible refine Below.alloc ?_ ?_ _) | (with_reducible refine Below.drew ?_) | (with_reducible refine Below.setCell ?_ ?_ _) | (with_reducible refine Below.thn (by assumption) ?_ ?_) | go_size))⟩
/-- Next, an answer that comes too late. -/
theorem next_late (l g u a b n : Int) (w : World) (k1 : 1 ≤ l) (k2 : l ≤ 1099511627776) (k3 : 0 ≤ g) (k4 : g ≤ l) (h1 : 0 ≤ u) (h2 : u ≤ 1099511627776) (h3 : 0 ≤ b) (h4 : b ≤ 1099511627776) (h5 : 0 ≤ a) (h6 : a ≤ n) (h7 : n ≤ 1099511627776) (h8 : l ≤ b + n - a) :
    Calls Tryd.prog 6 #[.agg #[.int .u64 l, .int .u64 g], .agg #[.int .u64 u, .int .u64 a], .int .u64 b, .int .u64 n] w fun e w' => e = .returned (.tuple #[.agg #[.int .u64 0, .int .u64 0], .iface 43 (.int .i64 42)]) ∧ Below w.heap.size w w' := by
  go_enter Tryd.func6, Tryd.ntmps6
  go_wp2_with (go_at_call 14; refine (spentr_ok _ _ _ _ _ _ _ k1 k2 k3 k4 h1 h2 h3 h4 h5 h6 h7).mono ?_; rintro e1 w1 ⟨rfl, hb1⟩; obtain ⟨hc1, hf1⟩ := bcell hb1; have hz1 := hb1.size; (try simp at hz1); have q1_0 : w1.cell? ⟨w.heap.size + 1 + 1, 0, none⟩ = some (.int .u64 0) := (by rw [hc1 _ _ (by simp)]; go_cell); have q1_1 : w1.cell? ⟨w.heap.size + 1 + 1, 1, none⟩ = some (.int .u64 0) := (by rw [hc1 _ _ (by simp)]; go_cell))
  refine bodyPost_ret (by simp [results, Tryd.results6, go_sem, q1_0, q1_1]; try rfl) rfl ?_
  exact ⟨rfl, by (repeat' (first | (with_reducible exact Below.refl _ _) | (with_reducible refine Below.alloc ?_ ?_ _) | (with_reducible refine Below.drew ?_) | (with_reducible refine Below.setCell ?_ ?_ _) | (with_reducible refine Below.thn (by assumption) ?_ ?_) | go_size))⟩
theorem next_badRules (l g u a b n : Int) (w : World) (h0 : 0 ≤ l) (h3 : 0 ≤ g) (h : l < 1 ∨ 1099511627776 < l ∨ l < g) :
    Calls Tryd.prog 6 #[.agg #[.int .u64 l, .int .u64 g], .agg #[.int .u64 u, .int .u64 a], .int .u64 b, .int .u64 n] w fun e w' => e = .returned (.tuple #[.agg #[.int .u64 0, .int .u64 0], .iface 43 (.int .i64 2)]) ∧ Below w.heap.size w w' := by
  have H := Lib.hid h
  clear h
  go_enter Tryd.func6, Tryd.ntmps6
  go_wp2_with (go_at_call 14; refine (spentr_badRules _ _ _ _ _ _ _ h0 h3 H.out).mono ?_; rintro e1 w1 ⟨rfl, hb1⟩; obtain ⟨hc1, hf1⟩ := bcell hb1; have hz1 := hb1.size; (try simp at hz1); have q1_0 : w1.cell? ⟨w.heap.size + 1 + 1, 0, none⟩ = some (.int .u64 0) := (by rw [hc1 _ _ (by simp)]; go_cell); have q1_1 : w1.cell? ⟨w.heap.size + 1 + 1, 1, none⟩ = some (.int .u64 0) := (by rw [hc1 _ _ (by simp)]; go_cell))
  refine bodyPost_ret (by simp [results, Tryd.results6, go_sem, q1_0, q1_1]; try rfl) rfl ?_
  exact ⟨rfl, by (repeat' (first | (with_reducible exact Below.refl _ _) | (with_reducible refine Below.alloc ?_ ?_ _) | (with_reducible refine Below.drew ?_) | (with_reducible refine Below.setCell ?_ ?_ _) | (with_reducible refine Below.thn (by assumption) ?_ ?_) | go_size))⟩
theorem next_bad (l g u a b n : Int) (w : World) (k1 : 1 ≤ l) (k2 : l ≤ 1099511627776) (k3 : 0 ≤ g) (k4 : g ≤ l) (h : n < a ∨ 1099511627776 < max4 u a b n) :
    Calls Tryd.prog 6 #[.agg #[.int .u64 l, .int .u64 g], .agg #[.int .u64 u, .int .u64 a], .int .u64 b, .int .u64 n] w fun e w' => e = .returned (.tuple #[.agg #[.int .u64 0, .int .u64 0], .iface 43 (.int .i64 2)]) ∧ Below w.heap.size w w' := by
  have H := Lib.hid h
  clear h
  go_enter Tryd.func6, Tryd.ntmps6
  go_wp2_with (go_at_call 14; refine (spentr_bad _ _ _ _ _ _ _ k1 k2 k3 k4 H.out).mono ?_; rintro e1 w1 ⟨rfl, hb1⟩; obtain ⟨hc1, hf1⟩ := bcell hb1; have hz1 := hb1.size; (try simp at hz1); have q1_0 : w1.cell? ⟨w.heap.size + 1 + 1, 0, none⟩ = some (.int .u64 0) := (by rw [hc1 _ _ (by simp)]; go_cell); have q1_1 : w1.cell? ⟨w.heap.size + 1 + 1, 1, none⟩ = some (.int .u64 0) := (by rw [hc1 _ _ (by simp)]; go_cell))
  refine bodyPost_ret (by simp [results, Tryd.results6, go_sem, q1_0, q1_1]; try rfl) rfl ?_
  exact ⟨rfl, by (repeat' (first | (with_reducible exact Below.refl _ _) | (with_reducible refine Below.alloc ?_ ?_ _) | (with_reducible refine Below.drew ?_) | (with_reducible refine Below.setCell ?_ ?_ _) | (with_reducible refine Below.thn (by assumption) ?_ ?_) | go_size))⟩
theorem over_ok (l g u a b n : Int) (w : World) (k1 : 1 ≤ l) (k2 : l ≤ 1099511627776) (k3 : 0 ≤ g) (k4 : g ≤ l) (h1 : 0 ≤ u) (h2 : u ≤ 1099511627776) (h3 : 0 ≤ b) (h4 : b ≤ 1099511627776) (h5 : 0 ≤ a) (h6 : a ≤ n) (h7 : n ≤ 1099511627776) :
    Calls Tryd.prog 8 #[.agg #[.int .u64 l, .int .u64 g], .agg #[.int .u64 u, .int .u64 a], .int .u64 b, .int .u64 n] w fun e w' => e = .returned (.tuple #[.bool (decide (l ≤ b + n - a)), .nilIface]) ∧ Below w.heap.size w w' := by
  go_enter Tryd.func8, Tryd.ntmps8
  go_wp2_with (go_at_call 14; refine (spentr_ok _ _ _ _ _ _ _ k1 k2 k3 k4 h1 h2 h3 h4 h5 h6 h7).mono ?_; rintro e1 w1 ⟨rfl, hb1⟩; obtain ⟨hc1, hf1⟩ := bcell hb1; have hz1 := hb1.size; (try simp at hz1))
  go_returns
  exact ⟨rfl, by (repeat' (first | (with_reducible exact Below.refl _ _) | (with_reducible refine Below.alloc ?_ ?_ _) | (with_reducible refine Below.drew ?_) | (with_reducible refine Below.setCell ?_ ?_ _) | (with_reducible refine Below.thn (by assumption) ?_ ?_) | go_size))⟩
theorem over_badRules (l g u a b n : Int) (w : World) (h0 : 0 ≤ l) (h3 : 0 ≤ g) (h : l < 1 ∨ 1099511627776 < l ∨ l < g) :
    Calls Tryd.prog 8 #[.agg #[.int .u64 l, .int .u64 g], .agg #[.int .u64 u, .int .u64 a], .int .u64 b, .int .u64 n] w fun e w' => e = .returned (.tuple #[.bool false, .iface 43 (.int .i64 2)]) ∧ Below w.heap.size w w' := by
  have H := Lib.hid h
  clear h
  go_enter Tryd.func8, Tryd.ntmps8
  go_wp2_with (go_at_call 14; refine (spentr_badRules _ _ _ _ _ _ _ h0 h3 H.out).mono ?_; rintro e1 w1 ⟨rfl, hb1⟩; obtain ⟨hc1, hf1⟩ := bcell hb1; have hz1 := hb1.size; (try simp at hz1))
  go_returns
  exact ⟨rfl, by (repeat' (first | (with_reducible exact Below.refl _ _) | (with_reducible refine Below.alloc ?_ ?_ _) | (with_reducible refine Below.drew ?_) | (with_reducible refine Below.setCell ?_ ?_ _) | (with_reducible refine Below.thn (by assumption) ?_ ?_) | go_size))⟩
theorem over_bad (l g u a b n : Int) (w : World) (k1 : 1 ≤ l) (k2 : l ≤ 1099511627776) (k3 : 0 ≤ g) (k4 : g ≤ l) (h : n < a ∨ 1099511627776 < max4 u a b n) :
    Calls Tryd.prog 8 #[.agg #[.int .u64 l, .int .u64 g], .agg #[.int .u64 u, .int .u64 a], .int .u64 b, .int .u64 n] w fun e w' => e = .returned (.tuple #[.bool false, .iface 43 (.int .i64 2)]) ∧ Below w.heap.size w w' := by
  have H := Lib.hid h
  clear h
  go_enter Tryd.func8, Tryd.ntmps8
  go_wp2_with (go_at_call 14; refine (spentr_bad _ _ _ _ _ _ _ k1 k2 k3 k4 H.out).mono ?_; rintro e1 w1 ⟨rfl, hb1⟩; obtain ⟨hc1, hf1⟩ := bcell hb1; have hz1 := hb1.size; (try simp at hz1))
  go_returns
  exact ⟨rfl, by (repeat' (first | (with_reducible exact Below.refl _ _) | (with_reducible refine Below.alloc ?_ ?_ _) | (with_reducible refine Below.drew ?_) | (with_reducible refine Below.setCell ?_ ?_ _) | (with_reducible refine Below.thn (by assumption) ?_ ?_) | go_size))⟩
end Go.Proofs.YtjjnbkgmagkpgaaDoor
