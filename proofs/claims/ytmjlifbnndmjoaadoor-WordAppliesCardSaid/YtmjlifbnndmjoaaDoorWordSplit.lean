/-
  word.Split and mootref01.Split by their contracts.
-/
import Derived.Test.YtmjlifbnndmjoaaDoorWordRest
import Derived.Test.YtmjlifbnndmjoaaDoorWordFixed
set_option linter.unusedVariables false
set_option linter.unusedSimpArgs false
namespace Go.Proofs.YtmjlifbnndmjoaaDoor
open Go.RowKit

theorem div64_calls (hi lo y : Nat) (hy : hi < y) (hy64 : y < 18446744073709551616) (hlo : lo < 18446744073709551616) (w : World) :
    Calls Tryd.prog 19 #[.int .u64 hi, .int .u64 lo, .int .u64 y] w fun e w' => e = .returned (.tuple #[.int .u64 (((hi * 18446744073709551616 + lo) / y : Nat) : Int), .int .u64 (((hi * 18446744073709551616 + lo) % y : Nat) : Int)]) ∧ Below w.heap.size w w' := by
  rcases Nat.eq_zero_or_pos hi with h | h
  · subst h
    rw [Nat.zero_mul, Nat.zero_add]
    exact div64_small lo y hy hy64 hlo w
  · exact (div64_big hi lo y h hy hy64 hlo w).mono fun e w' ⟨he, hw⟩ => ⟨he, by subst hw; exact Below.refl _ _⟩
theorem div64_V (hi lo y q r : Nat) (h : hi < y ∧ y < 18446744073709551616 ∧ lo < 18446744073709551616) (hq : (hi * 18446744073709551616 + lo) / y = q) (hr : (hi * 18446744073709551616 + lo) % y = r) (w : World) :
    Calls Tryd.prog 19 #[.int .u64 hi, .int .u64 lo, .int .u64 y] w fun e w' => e = .returned (.tuple #[.int .u64 (q : Int), .int .u64 (r : Int)]) ∧ Below w.heap.size w w' := by
  subst hq; subst hr; exact div64_calls hi lo y h.1 h.2.1 h.2.2 w
theorem split_V (hi lo y q r : Nat) (h : hi < y ∧ y < 18446744073709551616 ∧ lo < 18446744073709551616) (hq : (hi * 18446744073709551616 + lo) / y = q) (hr : (hi * 18446744073709551616 + lo) % y = r) (w : World) :
    Calls Tryd.prog 8 #[.int .u64 hi, .int .u64 lo, .int .u64 y] w fun e w' => e = .returned (.tuple #[.int .u64 (q : Int), .int .u64 (r : Int), .nilIface]) ∧ Below w.heap.size w w' := by
  have H := Lib.hid h
  have h1 := h.1
  have Hq := Lib.hid hq
  have Hr := Lib.hid hr
  clear h hq hr
  go_enter Tryd.func8, Tryd.ntmps8
  go_wp2_with (go_at_call 19; (with_reducible refine (div64_V hi lo y q r H.out Hq.out Hr.out _).mono ?_); rintro e1 w1 ⟨rfl, hb1⟩; obtain ⟨hc1, hf1⟩ := bcell hb1; have hz1 := hb1.size; (try simp at hz1))
  go_returns
  exact ⟨rfl, hb1⟩
theorem split_bad (hi lo y : Nat) (h : y ≤ hi) (w : World) :
    Calls Tryd.prog 8 #[.int .u64 hi, .int .u64 lo, .int .u64 y] w fun e w' => e = .returned (.tuple #[.int .u64 0, .int .u64 0, .iface 43 (.int .i64 2)]) ∧ w = w' := by
  go_enter Tryd.func8, Tryd.ntmps8
  go_wp2
  go_returns
  exact ⟨rfl, rfl⟩
theorem rest_V (high low n q r : Nat) (h : high < 18446744073709551616 ∧ low < 18446744073709551616 ∧ 0 < n ∧ n < 18446744073709551616) (hq : (high * 18446744073709551616 + low) / n % 18446744073709551616 = q) (hr : (high * 18446744073709551616 + low) % n = r) (w : World) :
    Calls Tryd.prog 20 #[.int .u64 high, .int .u64 low, .int .u64 n] w fun e w' => e = .returned (.tuple #[.int .u64 (q : Int), .int .u64 (r : Int)]) ∧ w = w' := by
  subst hq; subst hr; exact rest_calls high low n h.1 h.2.1 h.2.2.1 h.2.2.2 w
theorem split_lt (hi lo y : Nat) (h : hi < y) (hlo : lo < 18446744073709551616) : (hi * 18446744073709551616 + lo) / y < 18446744073709551616 := by
  rw [Nat.div_lt_iff_lt_mul (by omega)]
  have : (hi + 1) * 18446744073709551616 ≤ y * 18446744073709551616 := Nat.mul_le_mul_right _ h
  rw [Nat.mul_comm y] at this; omega
theorem rsplit_V (hi lo y q r : Nat) (h : hi < y ∧ y < 18446744073709551616 ∧ lo < 18446744073709551616) (hq : (hi * 18446744073709551616 + lo) / y = q) (hr : (hi * 18446744073709551616 + lo) % y = r) (w : World) :
    Calls Tryd.prog 9 #[.int .u64 hi, .int .u64 lo, .int .u64 y] w fun e w' => e = .returned (.tuple #[.int .u64 (q : Int), .int .u64 (r : Int), .int .i64 0]) ∧ w = w' := by
  have H := Lib.hid h
  have h1 := h.1
  have Hq : Hid ((hi * 18446744073709551616 + lo) / y % 18446744073709551616 = q) := by show _ = _; rw [Nat.mod_eq_of_lt (split_lt hi lo y h.1 h.2.2)]; exact hq
  have Hr := Lib.hid hr
  clear h hq hr
  go_enter Tryd.func9, Tryd.ntmps9
  go_wp2_with (go_at_call 20; (with_reducible refine (rest_V hi lo y q r ⟨Nat.lt_trans H.out.1 H.out.2.1, H.out.2.2, Nat.lt_of_le_of_lt (Nat.zero_le _) H.out.1, H.out.2.1⟩ Hq.out Hr.out _).mono ?_); rintro e w' ⟨rfl, rfl⟩)
  go_returns
  exact ⟨rfl, rfl⟩
theorem rsplit_bad (hi lo y : Nat) (h : y ≤ hi) (w : World) :
    Calls Tryd.prog 9 #[.int .u64 hi, .int .u64 lo, .int .u64 y] w fun e w' => e = .returned (.tuple #[.int .u64 0, .int .u64 0, .int .i64 2]) ∧ w = w' := by
  go_enter Tryd.func9, Tryd.ntmps9
  go_wp2
  go_returns
  exact ⟨rfl, rfl⟩
theorem wide_V (a b h l : Nat) (hab : a < 18446744073709551616 ∧ b < 18446744073709551616) (hh : a * b / 18446744073709551616 = h) (hl : a * b % 18446744073709551616 = l) (w : World) :
    Calls Tryd.prog 6 #[.int .u64 a, .int .u64 b] w fun e w' => e = .returned (.tuple #[.int .u64 (h : Int), .int .u64 (l : Int)]) ∧ w = w' := by
  subst hh; subst hl; exact wide_calls a b hab.1 hab.2 w
theorem rwide_V (a b h l : Nat) (hab : a < 18446744073709551616 ∧ b < 18446744073709551616) (hh : a * b / 18446744073709551616 = h) (hl : a * b % 18446744073709551616 = l) (w : World) :
    Calls Tryd.prog 7 #[.int .u64 a, .int .u64 b] w fun e w' => e = .returned (.tuple #[.int .u64 (h : Int), .int .u64 (l : Int)]) ∧ w = w' := by
  subst hh; subst hl; exact rwide_calls a b hab.1 hab.2 w
end Go.Proofs.YtmjlifbnndmjoaaDoor
