/-
  The walk of WordNames: it returns true.
-/
import Derived.Test.YtmjlifbnndmjoaaDoorWordFixed
import Derived.Test.YtmjlifbnndmjoaaDoorRows
import Derived.Deep.OwnRows
import Derived.Deep.QuietTactic
import Derived.BigQuiet
import Derived.BigRegion
import Derived.Laws.Concat
set_option linter.unusedVariables false
set_option linter.unusedSimpArgs false
namespace Go.Proofs.YtmjlifbnndmjoaaDoor
open Go.RowKit

def digN (n : Nat) : ByteArray := ⟨(Lib.decDigits n).toArray⟩
theorem itoa_V (n : Nat) (hn : n < 100) (w : World) : Calls Tryd.prog 17 #[.int .i64 n] w fun e w' => e = .returned (.string (digN n)) ∧ w = w' :=
  (Tryd.strconv_Itoa_small n hn w).mono fun e w' ⟨he, hw⟩ => ⟨he, hw.symm⟩
theorem digN_size (n : Nat) (hn : n < 100) : (digN n).size ≤ 2 := by
  show (Lib.decDigits n).toArray.size ≤ 2
  rw [List.size_toArray]
  rcases Nat.lt_or_ge n 10 with h | h
  · rw [Lib.decDigits_one h]; simp
  · rw [Lib.decDigits_two (by omega) hn]; simp
def eStr (n : Nat) : ByteArray := ByteArray.mk #[69] ++ digN n
theorem e_add (n : Nat) (hn : n < 100) (w : World) : (Op.stringOp .add (ByteArray.mk #[69]) (digN n)).run Tryd.prog w = .ok (.string (eStr n)) w :=
  run_string_add_sum _ _ _ (by have := digN_size n hn; have e : (ByteArray.mk #[69]).size = 1 := rfl; omega)
theorem itoa_Q (N : Int) (n : Nat) (hN : N = n) (hn : n < 100) (w : World) : Calls Tryd.prog 17 #[.int .i64 N] w fun e w' => e = .returned (.string (digN n)) ∧ w' = w := by
  subst hN; exact Tryd.strconv_Itoa_small n hn w
theorem errno_V (n : Nat) (hn : n < 100) (w : World) : Calls Tryd.prog 16 #[.int .i64 n] w fun e w' => e = .returned (.string (eStr n)) ∧ w = w' := by
  have HN := Lib.hid hn
  have ha := e_add n hn
  clear hn
  go_enter Tryd.func16, Tryd.ntmps16
  go_wp2_with (go_at_call 17; (with_reducible refine (itoa_V n HN.out _).mono ?_); rintro e w' ⟨rfl, rfl⟩)
  go_ret
  exact ⟨rfl, rfl⟩
theorem errno_Q (N : Int) (n : Nat) (hN : N = n) (hn : n < 100) (w : World) : Calls Tryd.prog 16 #[.int .i64 N] w fun e w' => e = .returned (.string (eStr n)) ∧ w' = w := by
  subst hN; exact (errno_V n hn w).mono fun e w' ⟨he, hw⟩ => ⟨he, hw.symm⟩
def nums : List Nat := [1, 2, 3, 4, 5, 10, 11, 12, 13, 14, 20, 21, 22, 23, 24, 25, 30, 31, 32, 40, 41, 42, 43, 44, 45, 46, 50, 51]
theorem nums_lt (k : Nat) : nums.getD k 0 < 100 := by
  rcases Nat.lt_or_ge k 28 with h | h
  · have : ∀ i, i < 28 → nums.getD i 0 < 100 := by decide
    exact this k h
  · rw [List.getD_eq_getElem?_getD, List.getElem?_eq_none (by simpa [nums] using h)]; decide
theorem nums_row (T : TypeId) (w : World) : (w.alloc (.cells #[.int .i64 1, .int .i64 2, .int .i64 3, .int .i64 4, .int .i64 5, .int .i64 10, .int .i64 11, .int .i64 12, .int .i64 13, .int .i64 14, .int .i64 20, .int .i64 21, .int .i64 22, .int .i64 23, .int .i64 24, .int .i64 25, .int .i64 30, .int .i64 31, .int .i64 32, .int .i64 40, .int .i64 41, .int .i64 42, .int .i64 43, .int .i64 44, .int .i64 45, .int .i64 46, .int .i64 50, .int .i64 51] T)).rowIs w.heap.size T 28 (fun i => .int .i64 ((nums.getD i 0 : Nat) : Int)) := by
  refine World.rowIs_alloc _ _ _ _ ?_
  intro i hi
  have hi : i < 28 := hi
  rcases (by omega : i = 0 ∨ i = 1 ∨ i = 2 ∨ i = 3 ∨ i = 4 ∨ i = 5 ∨ i = 6 ∨ i = 7 ∨ i = 8 ∨ i = 9 ∨ i = 10 ∨ i = 11 ∨ i = 12 ∨ i = 13 ∨ i = 14 ∨ i = 15 ∨ i = 16 ∨ i = 17 ∨ i = 18 ∨ i = 19 ∨ i = 20 ∨ i = 21 ∨ i = 22 ∨ i = 23 ∨ i = 24 ∨ i = 25 ∨ i = 26 ∨ i = 27) with rfl | rfl | rfl | rfl | rfl | rfl | rfl | rfl | rfl | rfl | rfl | rfl | rfl | rfl | rfl | rfl | rfl | rfl | rfl | rfl | rfl | rfl | rfl | rfl | rfl | rfl | rfl | rfl <;> rfl
theorem rowIs_below {w w' : World} {b n : Nat} {t : TypeId} {f : Nat → Value} (h : w.rowIs b t n f) (hb : Below w.heap.size w w') : w'.rowIs b t n f := h.of_block (hb.block b h.lt)
set_option maxRecDepth 100000 in
set_option maxHeartbeats 2000000 in
theorem wordNames_walk (w : World) (laid : laidMetH Tryd.prog Rows.wordNamesRow.laid w) :
    Calls Tryd.prog 5 #[] w fun e w' => e = .returned (.bool true) ∧ Below w.heap.size w w' := by
  clear laid
  go_enter Tryd.func5, Tryd.ntmps5
  go_wp2
  go_loopw [9] (fun i wr => ∃ k : Nat, k ≤ 28 ∧ i = .int .i64 k ∧ Below w.heap.size w wr ∧ w.heap.size + 1 < wr.heap.size ∧ Hid (wr.rowIs w.heap.size 43 28 (fun i => .int .i64 ((nums.getD i 0 : Nat) : Int))) ∧ Hid (wr.rowIs (w.heap.size + 1) 3 28 (fun i => .int .i64 ((nums.getD i 0 : Nat) : Int)))) (fun i _ => 28 - (intOf i).toNat)
  case atStart =>
    refine ⟨0, by omega, rfl, by (repeat' (first | (with_reducible exact Below.refl _ _) | (with_reducible refine Below.alloc ?_ ?_ _) | (with_reducible refine Below.drew ?_) | (with_reducible refine Below.setCell ?_ ?_ _) | (with_reducible refine Below.thn (by assumption) ?_ ?_) | (with_reducible refine below_drewN ?_ _) | go_size)), by simp, ?_, ?_⟩
    · exact rowIs_below (nums_row _ _) ((Below.refl _ _).alloc (Nat.le_refl _) _)
    · have := nums_row 3 (w.alloc (.cells #[.int .i64 1, .int .i64 2, .int .i64 3, .int .i64 4, .int .i64 5, .int .i64 10, .int .i64 11, .int .i64 12, .int .i64 13, .int .i64 14, .int .i64 20, .int .i64 21, .int .i64 22, .int .i64 23, .int .i64 24, .int .i64 25, .int .i64 30, .int .i64 31, .int .i64 32, .int .i64 40, .int .i64 41, .int .i64 42, .int .i64 43, .int .i64 44, .int .i64 45, .int .i64 46, .int .i64 50, .int .i64 51] 43))
      rw [World.size_alloc] at this; exact this
  case round =>
    obtain ⟨k, hk, rfl, hbr, hsr, HA, HB⟩ := hrel
    by_cases hlt : k < 28
    · have q0 := HA.out.cell hlt
      have q1 := HB.out.cell hlt
      have hnl := nums_lt k
      obtain ⟨n, hn⟩ : ∃ n, n = nums.getD k 0 := ⟨_, rfl⟩
      obtain ⟨N, hN⟩ : ∃ N : Int, N = (n : Int) := ⟨_, rfl⟩
      simp only [← hn, ← hN] at q0 q1
      rw [← hn] at hnl
      have HN := Lib.hid hN
      have HL := Lib.hid hnl
      have ha := e_add n hnl
      clear hN hnl hn
      go_wp2
      go_quiet (first | ((go_at_call 16; with_reducible exact Calls.quiet_of_same (errno_Q _ _ HN.out HL.out _))) | ((go_at_call 17; with_reducible exact Calls.quiet_of_same (itoa_Q _ _ HN.out HL.out _))))
      go_wp2
      go_roundw
      case rel => exact ⟨k + 1, by omega, by go_num, hbr.trans (by (repeat' (first | (with_reducible exact Below.refl _ _) | (with_reducible refine Below.alloc ?_ ?_ _) | (with_reducible refine Below.drew ?_) | (with_reducible refine Below.setCell ?_ ?_ _) | (with_reducible refine Below.thn (by assumption) ?_ ?_) | (with_reducible refine below_drewN ?_ _) | go_size))), by simp; omega, rowIs_below HA.out (by (repeat' (first | (with_reducible exact Below.refl _ _) | (with_reducible refine Below.alloc ?_ ?_ _) | (with_reducible refine Below.drew ?_) | (with_reducible refine Below.setCell ?_ ?_ _) | (with_reducible refine Below.thn (by assumption) ?_ ?_) | (with_reducible refine below_drewN ?_ _) | go_size))), rowIs_below HB.out (by (repeat' (first | (with_reducible exact Below.refl _ _) | (with_reducible refine Below.alloc ?_ ?_ _) | (with_reducible refine Below.drew ?_) | (with_reducible refine Below.setCell ?_ ?_ _) | (with_reducible refine Below.thn (by assumption) ?_ ?_) | (with_reducible refine below_drewN ?_ _) | go_size)))⟩
      case measure => simp [intOf]; omega
    · go_wp2_with (go_at_call 10; (with_reducible refine (fixed01_calls _).mono ?_); rintro e w' ⟨rfl, rfl⟩)
      go_returns
      exact ⟨rfl, hbr⟩
end Go.Proofs.YtmjlifbnndmjoaaDoor
