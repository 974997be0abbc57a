/-
  The walk of WordWide: it returns true for every input.
-/
import Derived.Test.YtmjlifbnndmjoaaDoorWordSplit
import Derived.Test.YtmjlifbnndmjoaaDoorNum
import Derived.Test.YtmjlifbnndmjoaaDoorLaidE
set_option linter.unusedVariables false
namespace Go.Proofs.YtmjlifbnndmjoaaDoor
open Go.RowKit

theorem u64_nat {a : Int} (h : (Lit.int .u64 a).wf = true) : ∃ n : Nat, a = (n : Int) ∧ n < 18446744073709551616 := by
  obtain ⟨h0, h1⟩ := u64_wf h
  exact ⟨a.toNat, by omega, by omega⟩
theorem wide_0 (b : Nat) (hb : b < 18446744073709551616) (w : World) : Calls Tryd.prog 6 #[.int .u64 0, .int .u64 b] w fun e w' => e = .returned (.tuple #[.int .u64 0, .int .u64 0]) ∧ w = w' :=
  wide_V 0 b 0 0 ⟨by decide, hb⟩ (by simp) (by simp) w
theorem rwide_0 (b : Nat) (hb : b < 18446744073709551616) (w : World) : Calls Tryd.prog 7 #[.int .u64 0, .int .u64 b] w fun e w' => e = .returned (.tuple #[.int .u64 0, .int .u64 0]) ∧ w = w' :=
  rwide_V 0 b 0 0 ⟨by decide, hb⟩ (by simp) (by simp) w
theorem split_0 (lo y q r : Nat) (h : 0 < y ∧ y < 18446744073709551616 ∧ lo < 18446744073709551616) (hq : lo / y = q) (hr : lo % y = r) (w : World) :
    Calls Tryd.prog 8 #[.int .u64 0, .int .u64 lo, .int .u64 y] w fun e w' => e = .returned (.tuple #[.int .u64 (q : Int), .int .u64 (r : Int), .nilIface]) ∧ Below w.heap.size w w' :=
  split_V 0 lo y q r h (by rw [Nat.zero_mul, Nat.zero_add]; exact hq) (by rw [Nat.zero_mul, Nat.zero_add]; exact hr) w
theorem rsplit_0 (lo y q r : Nat) (h : 0 < y ∧ y < 18446744073709551616 ∧ lo < 18446744073709551616) (hq : lo / y = q) (hr : lo % y = r) (w : World) :
    Calls Tryd.prog 9 #[.int .u64 0, .int .u64 lo, .int .u64 y] w fun e w' => e = .returned (.tuple #[.int .u64 (q : Int), .int .u64 (r : Int), .int .i64 0]) ∧ w = w' :=
  rsplit_V 0 lo y q r h (by rw [Nat.zero_mul, Nat.zero_add]; exact hq) (by rw [Nat.zero_mul, Nat.zero_add]; exact hr) w
theorem split_00 (lo : Nat) (w : World) :
    Calls Tryd.prog 8 #[.int .u64 0, .int .u64 lo, .int .u64 0] w fun e w' => e = .returned (.tuple #[.int .u64 0, .int .u64 0, .iface 43 (.int .i64 2)]) ∧ w = w' := split_bad 0 lo 0 (Nat.le_refl _) w
theorem rsplit_00 (lo : Nat) (w : World) :
    Calls Tryd.prog 9 #[.int .u64 0, .int .u64 lo, .int .u64 0] w fun e w' => e = .returned (.tuple #[.int .u64 0, .int .u64 0, .int .i64 2]) ∧ w = w' := rsplit_bad 0 lo 0 (Nat.le_refl _) w
set_option maxRecDepth 100000 in
set_option maxHeartbeats 4000000 in
theorem wordWide_walk (w : World) (a0 : Int) (w0 : (Lit.int .u64 a0).wf = true) (a1 : Int) (w1 : (Lit.int .u64 a1).wf = true) (a2 : Int) (w2 : (Lit.int .u64 a2).wf = true) (laid : laidMetH Tryd.prog Rows.wordWideRow.laid w) :
    Calls Tryd.prog 3 #[.int .u64 a0, .int .u64 a1, .int .u64 a2] w fun e w' => e = .returned (.bool true) ∧ Below w.heap.size w w' := by
  have HE : Hid (ErrType w) := errType_of_laid laid
  obtain ⟨a, rfl, ha⟩ := u64_nat w0
  obtain ⟨b, rfl, hb⟩ := u64_nat w1
  obtain ⟨n, rfl, hn⟩ := u64_nat w2
  clear w0 w1 w2 laid
  obtain ⟨h, hh⟩ : ∃ h, a * b / 18446744073709551616 = h := ⟨_, rfl⟩
  obtain ⟨l, hl⟩ : ∃ l, a * b % 18446744073709551616 = l := ⟨_, rfl⟩
  have HAB : Hid (a < 18446744073709551616 ∧ b < 18446744073709551616) := ⟨ha, hb⟩
  have HN := Lib.hid hn
  have HH := Lib.hid hh
  have HL := Lib.hid hl
  have hlt : 0 < a → h < a := by
    intro h0
    rw [← hh, Nat.div_lt_iff_lt_mul (by decide)]
    exact Nat.mul_lt_mul_of_pos_left hb h0
  have hback : h * 18446744073709551616 + l = a * b := by rw [← hh, ← hl]; omega
  have hl64 : l < 18446744073709551616 := by rw [← hl]; exact Nat.mod_lt _ (by decide)
  by_cases h0 : a = 0
  · subst h0
    have eh : h = 0 := by rw [← hh]; simp
    have el : l = 0 := by rw [← hl]; simp
    subst eh
    subst el
    clear hlt hback hl64 hh hl ha hb hn
    by_cases hc : n = 0
    · subst hc
      go_enter Tryd.func3, Tryd.ntmps3
      go_wp2_with (first
        | (go_at_call 6; (with_reducible refine (wide_0 b HAB.out.2 _).mono ?_); rintro e w' ⟨rfl, rfl⟩)
        | (go_at_call 7; (with_reducible refine (rwide_0 b HAB.out.2 _).mono ?_); rintro e w' ⟨rfl, rfl⟩)
        | (go_at_call 8; (with_reducible refine (split_00 b _).mono ?_); rintro e w' ⟨rfl, rfl⟩)
        | (go_at_call 9; (with_reducible refine (rsplit_00 b _).mono ?_); rintro e w' ⟨rfl, rfl⟩)
        | (go_at_call 10; (with_reducible refine (fixed01_calls _).mono ?_); rintro e w' ⟨rfl, rfl⟩)
        | (go_at_call 11; (with_reducible refine (number_num 2 _ HE).mono ?_); rintro e2 w2 ⟨rfl, hb2⟩; obtain ⟨hc2, hf2⟩ := bcell hb2; have hz2 := hb2.size; (try simp at hz2)))
      go_returns
      exact ⟨rfl, by (repeat' (first | (with_reducible exact Below.refl _ _) | (with_reducible refine Below.alloc ?_ ?_ _) | (with_reducible refine Below.drew ?_) | (with_reducible refine Below.setCell ?_ ?_ _) | (with_reducible refine Below.thn (by assumption) ?_ ?_) | (with_reducible refine below_drewN ?_ _) | go_size))⟩
    · have H1 : Hid (0 < n ∧ n < 18446744073709551616 ∧ b < 18446744073709551616) := ⟨by omega, HN.out, HAB.out.2⟩
      obtain ⟨q, hq⟩ : ∃ q, b / n = q := ⟨_, rfl⟩
      obtain ⟨r, hr⟩ : ∃ r, b % n = r := ⟨_, rfl⟩
      have Hq := Lib.hid hq
      have Hr := Lib.hid hr
      clear hq hr hc
      go_enter Tryd.func3, Tryd.ntmps3
      go_wp2_with (first
        | (go_at_call 6; (with_reducible refine (wide_0 b HAB.out.2 _).mono ?_); rintro e w' ⟨rfl, rfl⟩)
        | (go_at_call 7; (with_reducible refine (rwide_0 b HAB.out.2 _).mono ?_); rintro e w' ⟨rfl, rfl⟩)
        | (go_at_call 8; (with_reducible refine (split_0 b n q r H1.out Hq.out Hr.out _).mono ?_); rintro e1 w1 ⟨rfl, hb1⟩; obtain ⟨hc1, hf1⟩ := bcell hb1; have hz1 := hb1.size; (try simp at hz1))
        | (go_at_call 9; (with_reducible refine (rsplit_0 b n q r H1.out Hq.out Hr.out _).mono ?_); rintro e w' ⟨rfl, rfl⟩)
        | (go_at_call 10; (with_reducible refine (fixed01_calls _).mono ?_); rintro e w' ⟨rfl, rfl⟩)
        | (go_at_call 11; (with_reducible refine (number_nil _).mono ?_); rintro e2 w2 ⟨rfl, hb2⟩; obtain ⟨hc2, hf2⟩ := bcell hb2; have hz2 := hb2.size; (try simp at hz2)))
      go_returns
      exact ⟨rfl, by (repeat' (first | (with_reducible exact Below.refl _ _) | (with_reducible refine Below.alloc ?_ ?_ _) | (with_reducible refine Below.drew ?_) | (with_reducible refine Below.setCell ?_ ?_ _) | (with_reducible refine Below.thn (by assumption) ?_ ?_) | (with_reducible refine below_drewN ?_ _) | go_size))⟩
  · have H2 : Hid (h < a ∧ a < 18446744073709551616 ∧ l < 18446744073709551616) := ⟨hlt (by omega), ha, hl64⟩
    have Hq2 : Hid ((h * 18446744073709551616 + l) / a = b) := by show _ = _; rw [hback, Nat.mul_div_cancel_left _ (by omega)]
    have Hr2 : Hid ((h * 18446744073709551616 + l) % a = 0) := by show _ = _; rw [hback, Nat.mul_mod_right]
    have e0 : ((a : Int) == 0) = false := by simp; omega
    have hha : h < a := H2.out.1
    clear hlt hback hl64 hh hl ha hb hn h0
    by_cases hc : n ≤ a
    · go_enter Tryd.func3, Tryd.ntmps3
      go_wp2_with (first
        | (go_at_call 6; (with_reducible refine (wide_V a b h l HAB.out HH.out HL.out _).mono ?_); rintro e w' ⟨rfl, rfl⟩)
        | (go_at_call 7; (with_reducible refine (rwide_V a b h l HAB.out HH.out HL.out _).mono ?_); rintro e w' ⟨rfl, rfl⟩)
        | (go_at_call 8; (with_reducible refine (split_bad a b n hc _).mono ?_); rintro e w' ⟨rfl, rfl⟩)
        | (go_at_call 9; (with_reducible refine (rsplit_bad a b n hc _).mono ?_); rintro e w' ⟨rfl, rfl⟩)
        | (go_at_call 10; (with_reducible refine (fixed01_calls _).mono ?_); rintro e w' ⟨rfl, rfl⟩)
        | (go_at_call 11; (with_reducible refine (number_num 2 _ HE).mono ?_); rintro e2 w2 ⟨rfl, hb2⟩; obtain ⟨hc2, hf2⟩ := bcell hb2; have hz2 := hb2.size; (try simp at hz2))
        | (go_at_call 8; (with_reducible refine (split_V h l a b 0 H2.out Hq2.out Hr2.out _).mono ?_); rintro e3 w3 ⟨rfl, hb3⟩; obtain ⟨hc3, hf3⟩ := bcell hb3; have hz3 := hb3.size; (try simp at hz3)))
      go_returns
      exact ⟨rfl, by (repeat' (first | (with_reducible exact Below.refl _ _) | (with_reducible refine Below.alloc ?_ ?_ _) | (with_reducible refine Below.drew ?_) | (with_reducible refine Below.setCell ?_ ?_ _) | (with_reducible refine Below.thn (by assumption) ?_ ?_) | (with_reducible refine below_drewN ?_ _) | go_size))⟩
    · have H1 : Hid (a < n ∧ n < 18446744073709551616 ∧ b < 18446744073709551616) := ⟨by omega, HN.out, HAB.out.2⟩
      obtain ⟨q, hq⟩ : ∃ q, (a * 18446744073709551616 + b) / n = q := ⟨_, rfl⟩
      obtain ⟨r, hr⟩ : ∃ r, (a * 18446744073709551616 + b) % n = r := ⟨_, rfl⟩
      have Hq := Lib.hid hq
      have Hr := Lib.hid hr
      clear hq hr hc
      go_enter Tryd.func3, Tryd.ntmps3
      go_wp2_with (first
        | (go_at_call 6; (with_reducible refine (wide_V a b h l HAB.out HH.out HL.out _).mono ?_); rintro e w' ⟨rfl, rfl⟩)
        | (go_at_call 7; (with_reducible refine (rwide_V a b h l HAB.out HH.out HL.out _).mono ?_); rintro e w' ⟨rfl, rfl⟩)
        | (go_at_call 8; (with_reducible refine (split_V a b n q r H1.out Hq.out Hr.out _).mono ?_); rintro e1 w1 ⟨rfl, hb1⟩; obtain ⟨hc1, hf1⟩ := bcell hb1; have hz1 := hb1.size; (try simp at hz1))
        | (go_at_call 9; (with_reducible refine (rsplit_V a b n q r H1.out Hq.out Hr.out _).mono ?_); rintro e w' ⟨rfl, rfl⟩)
        | (go_at_call 10; (with_reducible refine (fixed01_calls _).mono ?_); rintro e w' ⟨rfl, rfl⟩)
        | (go_at_call 11; (with_reducible refine (number_nil _).mono ?_); rintro e2 w2 ⟨rfl, hb2⟩; obtain ⟨hc2, hf2⟩ := bcell hb2; have hz2 := hb2.size; (try simp at hz2))
        | (go_at_call 8; (with_reducible refine (split_V h l a b 0 H2.out Hq2.out Hr2.out _).mono ?_); rintro e3 w3 ⟨rfl, hb3⟩; obtain ⟨hc3, hf3⟩ := bcell hb3; have hz3 := hb3.size; (try simp at hz3)))
      go_returns
      exact ⟨rfl, by (repeat' (first | (with_reducible exact Below.refl _ _) | (with_reducible refine Below.alloc ?_ ?_ _) | (with_reducible refine Below.drew ?_) | (with_reducible refine Below.setCell ?_ ?_ _) | (with_reducible refine Below.thn (by assumption) ?_ ?_) | (with_reducible refine below_drewN ?_ _) | go_size))⟩
end Go.Proofs.YtmjlifbnndmjoaaDoor
