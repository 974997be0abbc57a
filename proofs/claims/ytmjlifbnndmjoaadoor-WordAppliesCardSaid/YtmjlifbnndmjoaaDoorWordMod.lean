/-
  word.modulo by its contracts: Addmod, Mulmod.
-/
import Derived.Test.YtmjlifbnndmjoaaDoorWordSplit
import Derived.Laws.Externs
set_option linter.unusedVariables false
set_option linter.unusedSimpArgs false
namespace Go.Proofs.YtmjlifbnndmjoaaDoor
open Go.RowKit

theorem add64_run (X Y : Int) (x y s k : Nat) (hX : X = x) (hY : Y = y) (hs : (x + y) % 18446744073709551616 = s) (hk : (x + y) / 18446744073709551616 = k) (w : World) :
    (callFunc 39 #[.int .u64 X, .int .u64 Y, .int .u64 0]).run Tryd.prog w = .ok (.value (.tuple #[.int .u64 (s : Int), .int .u64 (k : Int)])) w := by
  subst hX; subst hY
  rw [run_callFunc_extern Tryd.func39 (by kernel_rfl) (by kernel_rfl) (by kernel_rfl) (e := add64Entry) (by kernel_rfl), run_add64 (x : Int) (y : Int) 0 (Int.natCast_nonneg _) (Int.natCast_nonneg _) (by decide) (by decide)]
  simp only [Result.andThen]
  rw [show ((x : Int) + (y : Int) + 0) % 18446744073709551616 = (s : Int) by omega, show ((x : Int) + (y : Int) + 0) / 18446744073709551616 = (k : Int) by omega]
theorem mul64_V (X Y : Int) (x y h l : Nat) (hX : X = x) (hY : Y = y) (hxy : x < 18446744073709551616 ∧ y < 18446744073709551616) (hh : x * y / 18446744073709551616 = h) (hl : x * y % 18446744073709551616 = l) (w : World) :
    Calls Tryd.prog 18 #[.int .u64 X, .int .u64 Y] w fun e w' => e = .returned (.tuple #[.int .u64 (h : Int), .int .u64 (l : Int)]) ∧ w = w' := by
  subst hX; subst hY; subst hh; subst hl
  exact (Tryd.bits_Mul64 x y hxy.1 hxy.2 w).mono fun e w' ⟨he, hw⟩ => ⟨he, hw.symm⟩
theorem modulo_zero (op a b : Int) (w : World) :
    Calls Tryd.prog 24 #[.int .i64 op, .int .u64 a, .int .u64 b, .int .u64 0] w fun e w' => e = .returned (.int .u64 0) ∧ w = w' := by
  go_enter Tryd.func24, Tryd.ntmps24
  go_wp2
  go_ret
  exact ⟨rfl, rfl⟩
theorem sum_mod (a b c : Nat) : (a % c + b % c) % c = (a + b) % c := (Nat.add_mod a b c).symm
theorem mul_mod' (a b c : Nat) : (a % c * (b % c)) % c = (a * b) % c := (Nat.mul_mod a b c).symm
theorem mod_hi (x y c : Nat) (hx : x < c) (hy : y < c) (hc : c < 18446744073709551616) : x * y / 18446744073709551616 < c := by
  rw [Nat.div_lt_iff_lt_mul (by decide)]
  exact Nat.lt_of_le_of_lt (Nat.mul_le_mul (Nat.le_of_lt hx) (Nat.le_of_lt hy)) (Nat.mul_lt_mul_of_pos_left hc (by omega))
theorem modulo_9 (a b c : Nat) (hb : a < 18446744073709551616 ∧ b < 18446744073709551616 ∧ 0 < c ∧ c < 18446744073709551616) (w : World) :
    Calls Tryd.prog 24 #[.int .i64 9, .int .u64 a, .int .u64 b, .int .u64 c] w fun e w' => e = .returned (.int .u64 ((a * b % c : Nat) : Int)) ∧ Below w.heap.size w w' := by
  obtain ⟨x, hx⟩ : ∃ x, a % c = x := ⟨_, rfl⟩
  obtain ⟨y, hy⟩ : ∃ y, b % c = y := ⟨_, rfl⟩
  have hxc : x < c := by rw [← hx]; exact Nat.mod_lt _ hb.2.2.1
  have hyc : y < c := by rw [← hy]; exact Nat.mod_lt _ hb.2.2.1
  have hX : Hid ((a : Int) % (c : Int) = (x : Int)) := by show _ = _; rw [← Int.natCast_emod, hx]
  have hY : Hid ((b : Int) % (c : Int) = (y : Int)) := by show _ = _; rw [← Int.natCast_emod, hy]
  obtain ⟨h, hh⟩ : ∃ h, x * y / 18446744073709551616 = h := ⟨_, rfl⟩
  obtain ⟨l, hl⟩ : ∃ l, x * y % 18446744073709551616 = l := ⟨_, rfl⟩
  obtain ⟨q, hq⟩ : ∃ q, (h * 18446744073709551616 + l) / c = q := ⟨_, rfl⟩
  obtain ⟨r, hr⟩ : ∃ r, a * b % c = r := ⟨_, rfl⟩
  have hr2 : (h * 18446744073709551616 + l) % c = r := by
    rw [show h * 18446744073709551616 + l = x * y by omega, ← hx, ← hy, mul_mod', hr]
  rw [hr]
  have H1 : Hid (x < 18446744073709551616 ∧ y < 18446744073709551616) := ⟨by omega, by omega⟩
  have H2 : Hid (h < c ∧ c < 18446744073709551616 ∧ l < 18446744073709551616) := ⟨by rw [← hh]; exact mod_hi x y c hxc hyc hb.2.2.2, hb.2.2.2, by rw [← hl]; exact Nat.mod_lt _ (by decide)⟩
  have Hh := Lib.hid hh
  have Hl := Lib.hid hl
  have Hq := Lib.hid hq
  have Hr := Lib.hid hr2
  have c0 : ((c : Int) == 0) = false := by simp; omega
  have c1 : 1 ≤ (c : Int) := by omega
  clear hx hy hxc hyc hh hl hq hr hr2 hb
  go_enter Tryd.func24, Tryd.ntmps24
  go_wp2
  go_quiet (fail)
  go_wp2_with (first
    | (go_at_call 18; (with_reducible refine (mul64_V _ _ x y h l hX.out hY.out H1.out Hh.out Hl.out _).mono ?_); rintro e w' ⟨rfl, rfl⟩)
    | (go_at_call 19; (with_reducible refine (div64_V h l c q r H2.out Hq.out Hr.out _).mono ?_); rintro e1 w1 ⟨rfl, hb1⟩; obtain ⟨hc1, hf1⟩ := bcell hb1; have hz1 := hb1.size; (try simp at hz1)))
  go_returns
  exact ⟨rfl, by (repeat' (first | (with_reducible exact Below.refl _ _) | (with_reducible refine Below.alloc ?_ ?_ _) | (with_reducible refine Below.drew ?_) | (with_reducible refine Below.setCell ?_ ?_ _) | (with_reducible refine Below.thn (by assumption) ?_ ?_) | (with_reducible refine below_drewN ?_ _) | go_size))⟩
theorem modulo_8 (a b c : Nat) (hb : a < 18446744073709551616 ∧ b < 18446744073709551616 ∧ 0 < c ∧ c < 18446744073709551616) (w : World) :
    Calls Tryd.prog 24 #[.int .i64 8, .int .u64 a, .int .u64 b, .int .u64 c] w fun e w' => e = .returned (.int .u64 (((a + b) % c : Nat) : Int)) ∧ Below w.heap.size w w' := by
  obtain ⟨x, hx⟩ : ∃ x, a % c = x := ⟨_, rfl⟩
  obtain ⟨y, hy⟩ : ∃ y, b % c = y := ⟨_, rfl⟩
  have hxc : x < c := by rw [← hx]; exact Nat.mod_lt _ hb.2.2.1
  have hyc : y < c := by rw [← hy]; exact Nat.mod_lt _ hb.2.2.1
  have hX : Hid ((a : Int) % (c : Int) = (x : Int)) := by show _ = _; rw [← Int.natCast_emod, hx]
  have hY : Hid ((b : Int) % (c : Int) = (y : Int)) := by show _ = _; rw [← Int.natCast_emod, hy]
  obtain ⟨h, hh⟩ : ∃ h, x * y / 18446744073709551616 = h := ⟨_, rfl⟩
  obtain ⟨l, hl⟩ : ∃ l, x * y % 18446744073709551616 = l := ⟨_, rfl⟩
  obtain ⟨k, hk⟩ : ∃ k, (x + y) / 18446744073709551616 = k := ⟨_, rfl⟩
  obtain ⟨s, hs⟩ : ∃ s, (x + y) % 18446744073709551616 = s := ⟨_, rfl⟩
  obtain ⟨q, hq⟩ : ∃ q, (k * 18446744073709551616 + s) / c = q := ⟨_, rfl⟩
  obtain ⟨r, hr⟩ : ∃ r, (a + b) % c = r := ⟨_, rfl⟩
  have hr2 : (k * 18446744073709551616 + s) % c = r := by
    rw [show k * 18446744073709551616 + s = x + y by omega, ← hx, ← hy, sum_mod, hr]
  rw [hr]
  have H1 : Hid (x < 18446744073709551616 ∧ y < 18446744073709551616) := ⟨by omega, by omega⟩
  have H2 : Hid (k < c ∧ c < 18446744073709551616 ∧ s < 18446744073709551616) := ⟨by omega, hb.2.2.2, by omega⟩
  have Hh := Lib.hid hh
  have Hl := Lib.hid hl
  have Hq := Lib.hid hq
  have Hr := Lib.hid hr2
  have A := fun w => add64_run ((a : Int) % (c : Int)) ((b : Int) % (c : Int)) x y s k hX.out hY.out hs hk w
  have c0 : ((c : Int) == 0) = false := by simp; omega
  have c1 : 1 ≤ (c : Int) := by omega
  clear hx hy hxc hyc hh hl hq hr hr2 hb hs hk
  go_enter Tryd.func24, Tryd.ntmps24
  go_wp2
  go_quiet (fail)
  go_wp2_with (first
    | (go_at_call 18; (with_reducible refine (mul64_V _ _ x y h l hX.out hY.out H1.out Hh.out Hl.out _).mono ?_); rintro e w' ⟨rfl, rfl⟩)
    | (go_at_call 19; (with_reducible refine (div64_V k s c q r H2.out Hq.out Hr.out _).mono ?_); rintro e1 w1 ⟨rfl, hb1⟩; obtain ⟨hc1, hf1⟩ := bcell hb1; have hz1 := hb1.size; (try simp at hz1))
    | simp only [A])
  go_returns
  exact ⟨rfl, by (repeat' (first | (with_reducible exact Below.refl _ _) | (with_reducible refine Below.alloc ?_ ?_ _) | (with_reducible refine Below.drew ?_) | (with_reducible refine Below.setCell ?_ ?_ _) | (with_reducible refine Below.thn (by assumption) ?_ ?_) | (with_reducible refine below_drewN ?_ _) | go_size))⟩
end Go.Proofs.YtmjlifbnndmjoaaDoor
