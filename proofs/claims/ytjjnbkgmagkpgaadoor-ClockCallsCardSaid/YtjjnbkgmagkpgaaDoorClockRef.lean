/-
  The document's clock (mootref17) by its contracts, mootlaw17.number, and the walk of ClockCalls.
-/
import Derived.Test.YtjjnbkgmagkpgaaDoorClockFixed
import Derived.Test.YtjjnbkgmagkpgaaDoorWhy
import Derived.Test.YtjjnbkgmagkpgaaDoorRows
set_option linter.unusedVariables false
namespace Go.Proofs.YtjjnbkgmagkpgaaDoor
open Go.RowKit

theorem refSpent_ok (u a b n : Int) (w : World) (h1 : 0 ≤ u) (h2 : u ≤ 1099511627776) (h3 : 0 ≤ b) (h4 : b ≤ 1099511627776) (h5 : 0 ≤ a) (h6 : a ≤ n) (h7 : n ≤ 1099511627776) :
    Calls Tryd.prog 5 #[.int .u64 u, .int .u64 a, .int .u64 b, .int .u64 n] w fun e w' => e = .returned (.tuple #[.int .u64 (b + n - a), .int .i64 0]) ∧ Below w.heap.size w w' := by
  rw [show b + n - a = b + (n - a) by omega]
  go_enter Tryd.func5, Tryd.ntmps5
  go_wp2
  go_returns
  exact ⟨rfl, by (repeat' (first | (with_reducible exact Below.refl _ _) | (with_reducible refine Below.alloc ?_ ?_ _) | (with_reducible refine Below.drew ?_) | (with_reducible refine Below.setCell ?_ ?_ _) | (with_reducible refine Below.thn (by assumption) ?_ ?_) | go_size))⟩
theorem refSpent_bad (u a b n : Int) (w : World) (h : n < a ∨ 1099511627776 < max4 u a b n) :
    Calls Tryd.prog 5 #[.int .u64 u, .int .u64 a, .int .u64 b, .int .u64 n] w fun e w' => e = .returned (.tuple #[.int .u64 0, .int .i64 2]) ∧ Below w.heap.size w w' := by
  have h' : n < a ∨ 1099511627776 < u ∨ 1099511627776 < a ∨ 1099511627776 < b ∨ 1099511627776 < n := by unfold max4 at h; omega
  clear h
  go_enter Tryd.func5, Tryd.ntmps5
  go_wp2
  all_goals (go_returns; exact ⟨rfl, by (repeat' (first | (with_reducible exact Below.refl _ _) | (with_reducible refine Below.alloc ?_ ?_ _) | (with_reducible refine Below.drew ?_) | (with_reducible refine Below.setCell ?_ ?_ _) | (with_reducible refine Below.thn (by assumption) ?_ ?_) | go_size))⟩)
theorem refNext_ok (l g u a b n m : Int) (w : World) (k1 : 1 ≤ l) (k2 : l ≤ 1099511627776) (k3 : 0 ≤ g) (k4 : g ≤ l) (h1 : 0 ≤ u) (h2 : u ≤ 1099511627776) (h3 : 0 ≤ b) (h4 : b ≤ 1099511627776) (h5 : 0 ≤ a) (h6 : a ≤ n) (h7 : n ≤ 1099511627776) (h8 : b + n - a < l) (hm : m = min (b + n - a) (l - g)) :
    Calls Tryd.prog 7 #[.int .u64 l, .int .u64 g, .int .u64 u, .int .u64 a, .int .u64 b, .int .u64 n] w fun e w' => e = .returned (.tuple #[.int .u64 m, .int .i64 0]) ∧ Below w.heap.size w w' := by
  by_cases hlt : l - g < b + n - a
  · obtain rfl : m = l - g := by omega
    clear hm
    go_enter Tryd.func7, Tryd.ntmps7
    go_wp2_with (first | (go_at_call 5; refine (refSpent_ok _ _ _ _ _ h1 h2 h3 h4 h5 h6 h7).mono ?_; rintro e1 w1 ⟨rfl, hb1⟩; obtain ⟨hc1, hf1⟩ := bcell hb1; have hz1 := hb1.size; (try simp at hz1)) | go_in)
    go_returns
    exact ⟨rfl, by (repeat' (first | (with_reducible exact Below.refl _ _) | (with_reducible refine Below.alloc ?_ ?_ _) | (with_reducible refine Below.drew ?_) | (with_reducible refine Below.setCell ?_ ?_ _) | (with_reducible refine Below.thn (by assumption) ?_ ?_) | go_size))⟩
  · obtain rfl : m = b + n - a := by omega
    clear hm
    go_enter Tryd.func7, Tryd.ntmps7
    go_wp2_with (first | (go_at_call 5; refine (refSpent_ok _ _ _ _ _ h1 h2 h3 h4 h5 h6 h7).mono ?_; rintro e1 w1 ⟨rfl, hb1⟩; obtain ⟨hc1, hf1⟩ := bcell hb1; have hz1 := hb1.size; (try simp at hz1)) | go_in)
    go_returns
    exact ⟨rfl, by (repeat' (first | (with_reducible exact Below.refl _ _) | (with_reducible refine Below.alloc ?_ ?_ _) | (with_reducible refine Below.drew ?_) | (with_reducible refine Below.setCell ?_ ?_ _) | (with_reducible refine Below.thn (by assumption) ?_ ?_) | go_size))⟩
theorem refNext_late (l g u a b n : Int) (w : World) (k1 : 1 ≤ l) (k2 : l ≤ 1099511627776) (k3 : 0 ≤ g) (k4 : g ≤ l) (h1 : 0 ≤ u) (h2 : u ≤ 1099511627776) (h3 : 0 ≤ b) (h4 : b ≤ 1099511627776) (h5 : 0 ≤ a) (h6 : a ≤ n) (h7 : n ≤ 1099511627776) (h8 : l ≤ b + n - a) :
    Calls Tryd.prog 7 #[.int .u64 l, .int .u64 g, .int .u64 u, .int .u64 a, .int .u64 b, .int .u64 n] w fun e w' => e = .returned (.tuple #[.int .u64 0, .int .i64 42]) ∧ Below w.heap.size w w' := by
  go_enter Tryd.func7, Tryd.ntmps7
  go_wp2_with (first | (go_at_call 5; refine (refSpent_ok _ _ _ _ _ h1 h2 h3 h4 h5 h6 h7).mono ?_; rintro e1 w1 ⟨rfl, hb1⟩; obtain ⟨hc1, hf1⟩ := bcell hb1; have hz1 := hb1.size; (try simp at hz1)) | go_in)
  go_returns
  exact ⟨rfl, by (repeat' (first | (with_reducible exact Below.refl _ _) | (with_reducible refine Below.alloc ?_ ?_ _) | (with_reducible refine Below.drew ?_) | (with_reducible refine Below.setCell ?_ ?_ _) | (with_reducible refine Below.thn (by assumption) ?_ ?_) | go_size))⟩
theorem refNext_badRules (l g u a b n : Int) (w : World) (h0 : 0 ≤ l) (h3 : 0 ≤ g) (h : l < 1 ∨ 1099511627776 < l ∨ l < g) :
    Calls Tryd.prog 7 #[.int .u64 l, .int .u64 g, .int .u64 u, .int .u64 a, .int .u64 b, .int .u64 n] w fun e w' => e = .returned (.tuple #[.int .u64 0, .int .i64 2]) ∧ Below w.heap.size w w' := by
  by_cases c1 : l < 1
  · clear h
    go_enter Tryd.func7, Tryd.ntmps7
    go_wp2_with go_in
    go_returns
    exact ⟨rfl, by (repeat' (first | (with_reducible exact Below.refl _ _) | (with_reducible refine Below.alloc ?_ ?_ _) | (with_reducible refine Below.drew ?_) | (with_reducible refine Below.setCell ?_ ?_ _) | (with_reducible refine Below.thn (by assumption) ?_ ?_) | go_size))⟩
  · by_cases c2 : 1099511627776 < l
    · clear h
      go_enter Tryd.func7, Tryd.ntmps7
      go_wp2_with go_in
      go_returns
      exact ⟨rfl, by (repeat' (first | (with_reducible exact Below.refl _ _) | (with_reducible refine Below.alloc ?_ ?_ _) | (with_reducible refine Below.drew ?_) | (with_reducible refine Below.setCell ?_ ?_ _) | (with_reducible refine Below.thn (by assumption) ?_ ?_) | go_size))⟩
    · have c3 : l < g := by omega
      have c4 : decide (g ≤ l) = false := decide_eq_false (by omega)
      clear h
      go_enter Tryd.func7, Tryd.ntmps7
      go_wp2_with go_in
      go_returns
      exact ⟨rfl, by (repeat' (first | (with_reducible exact Below.refl _ _) | (with_reducible refine Below.alloc ?_ ?_ _) | (with_reducible refine Below.drew ?_) | (with_reducible refine Below.setCell ?_ ?_ _) | (with_reducible refine Below.thn (by assumption) ?_ ?_) | go_size))⟩
theorem refNext_bad (l g u a b n : Int) (w : World) (k1 : 1 ≤ l) (k2 : l ≤ 1099511627776) (k3 : 0 ≤ g) (k4 : g ≤ l) (h : n < a ∨ 1099511627776 < max4 u a b n) :
    Calls Tryd.prog 7 #[.int .u64 l, .int .u64 g, .int .u64 u, .int .u64 a, .int .u64 b, .int .u64 n] w fun e w' => e = .returned (.tuple #[.int .u64 0, .int .i64 2]) ∧ Below w.heap.size w w' := by
  have H := Lib.hid h
  clear h
  go_enter Tryd.func7, Tryd.ntmps7
  go_wp2_with (first | (go_at_call 5; refine (refSpent_bad _ _ _ _ _ H.out).mono ?_; rintro e1 w1 ⟨rfl, hb1⟩; obtain ⟨hc1, hf1⟩ := bcell hb1; have hz1 := hb1.size; (try simp at hz1)) | go_in)
  go_returns
  exact ⟨rfl, by (repeat' (first | (with_reducible exact Below.refl _ _) | (with_reducible refine Below.alloc ?_ ?_ _) | (with_reducible refine Below.drew ?_) | (with_reducible refine Below.setCell ?_ ?_ _) | (with_reducible refine Below.thn (by assumption) ?_ ?_) | go_size))⟩
theorem rules_ok (l g : Int) (w : World) (k1 : 1 ≤ l) (k2 : l ≤ 1099511627776) (k4 : g ≤ l) :
    Calls Tryd.prog 11 #[.int .u64 l, .int .u64 g] w fun e w' => e = .returned (.bool true) ∧ Below w.heap.size w w' := by
  go_enter Tryd.func11, Tryd.ntmps11
  go_wp2
  go_returns
  exact ⟨by simp, by (repeat' (first | (with_reducible exact Below.refl _ _) | (with_reducible refine Below.alloc ?_ ?_ _) | (with_reducible refine Below.drew ?_) | (with_reducible refine Below.setCell ?_ ?_ _) | (with_reducible refine Below.thn (by assumption) ?_ ?_) | go_size))⟩
theorem rules_bad (l g : Int) (w : World) (h : l < 1 ∨ 1099511627776 < l ∨ l < g) :
    Calls Tryd.prog 11 #[.int .u64 l, .int .u64 g] w fun e w' => e = .returned (.bool false) ∧ Below w.heap.size w w' := by
  by_cases c1 : l < 1
  · clear h
    go_enter Tryd.func11, Tryd.ntmps11
    go_wp2
    go_returns
    exact ⟨rfl, by (repeat' (first | (with_reducible exact Below.refl _ _) | (with_reducible refine Below.alloc ?_ ?_ _) | (with_reducible refine Below.drew ?_) | (with_reducible refine Below.setCell ?_ ?_ _) | (with_reducible refine Below.thn (by assumption) ?_ ?_) | go_size))⟩
  · by_cases c2 : 1099511627776 < l
    · clear h
      go_enter Tryd.func11, Tryd.ntmps11
      go_wp2
      go_returns
      exact ⟨rfl, by (repeat' (first | (with_reducible exact Below.refl _ _) | (with_reducible refine Below.alloc ?_ ?_ _) | (with_reducible refine Below.drew ?_) | (with_reducible refine Below.setCell ?_ ?_ _) | (with_reducible refine Below.thn (by assumption) ?_ ?_) | go_size))⟩
    · have c4 : decide (g ≤ l) = false := decide_eq_false (by omega)
      clear h
      go_enter Tryd.func11, Tryd.ntmps11
      go_wp2
      go_returns
      exact ⟨by simp, by (repeat' (first | (with_reducible exact Below.refl _ _) | (with_reducible refine Below.alloc ?_ ?_ _) | (with_reducible refine Below.drew ?_) | (with_reducible refine Below.setCell ?_ ?_ _) | (with_reducible refine Below.thn (by assumption) ?_ ?_) | go_size))⟩
theorem number_nil (w : World) : Calls Tryd.prog 12 #[.nilIface] w fun e w' => e = .returned (.int .i64 0) ∧ Below w.heap.size w w' := by
  go_enter Tryd.func12, Tryd.ntmps12
  go_wp2_with (go_at_call 15; refine (why_nil _).mono ?_; rintro e1 w1 ⟨rfl, hb1⟩; obtain ⟨hc1, hf1⟩ := bcell hb1; have hz1 := hb1.size; (try simp at hz1))
  go_returns
  exact ⟨rfl, by (repeat' (first | (with_reducible exact Below.refl _ _) | (with_reducible refine Below.alloc ?_ ?_ _) | (with_reducible refine Below.drew ?_) | (with_reducible refine Below.setCell ?_ ?_ _) | (with_reducible refine Below.thn (by assumption) ?_ ?_) | go_size))⟩
theorem number_num (a : Int) (w : World) (h : Hid (ErrType w)) : Calls Tryd.prog 12 #[.iface 43 (.int .i64 a)] w fun e w' => e = .returned (.int .i64 a) ∧ Below w.heap.size w w' := by
  go_enter Tryd.func12, Tryd.ntmps12
  go_wp2_with (go_at_call 15; refine (why_num a _ h).mono ?_; rintro e1 w1 ⟨rfl, hb1⟩; obtain ⟨hc1, hf1⟩ := bcell hb1; have hz1 := hb1.size; (try simp at hz1))
  go_returns
  exact ⟨rfl, by (repeat' (first | (with_reducible exact Below.refl _ _) | (with_reducible refine Below.alloc ?_ ?_ _) | (with_reducible refine Below.drew ?_) | (with_reducible refine Below.setCell ?_ ?_ _) | (with_reducible refine Below.thn (by assumption) ?_ ?_) | go_size))⟩
end Go.Proofs.YtjjnbkgmagkpgaaDoor
