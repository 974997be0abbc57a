/-
  mootref01.Apply by its contracts; word.Apply, Addmod and Mulmod; both Args.
-/
import Derived.Test.YtmjlifbnndmjoaaDoorTurned
set_option linter.unusedVariables false
set_option linter.unusedSimpArgs false
namespace Go.Proofs.YtmjlifbnndmjoaaDoor
open Go.RowKit

theorem neg_val (A : BitVec 64) : Wrd.neg A = decide (9223372036854775808 ≤ val A) := by
  show A.msb = _
  rw [val_msb, decide_eq_decide, IntKind.wrap_i64]
  have := (val_R A).lo; have := (val_R A).hi
  omega
theorem one_calls (x : Bool) (w : World) : Calls Tryd.prog 29 #[.bool x] w fun e w' => e = .returned (.int .u64 (flagI x)) ∧ w = w' := by
  cases x
  · rw [flagI_false]
    go_enter Tryd.func29, Tryd.ntmps29
    go_wp2
    go_ret
    exact ⟨rfl, rfl⟩
  · rw [flagI_true]
    go_enter Tryd.func29, Tryd.ntmps29
    go_wp2
    go_ret
    exact ⟨rfl, rfl⟩
theorem negative_calls (A : BitVec 64) (x : Bool) (hx : Wrd.neg A = x) (w : World) : Calls Tryd.prog 41 #[.int .u64 (val A)] w fun e w' => e = .returned (.bool x) ∧ w = w' := by
  rw [neg_val] at hx
  go_enter Tryd.func41, Tryd.ntmps41
  go_wp2
  go_ret
  exact ⟨rfl, rfl⟩
theorem size_calls (A : BitVec 64) (w : World) : Calls Tryd.prog 40 #[.int .u64 (val A)] w fun e w' => e = .returned (.int .u64 (val (Wrd.absd A))) ∧ w = w' := by
  unfold Wrd.absd
  cases hn : Wrd.neg A
  · have HN := Lib.hid hn
    clear hn
    go_enter Tryd.func40, Tryd.ntmps40
    go_wp2_with (go_at_call 41; (with_reducible refine (negative_calls A false HN.out _).mono ?_); rintro e w' ⟨rfl, rfl⟩)
    go_ret
    exact ⟨rfl, rfl⟩
  · have HN := Lib.hid hn
    clear hn
    have E : IntKind.u64.wrap (-(val A)) = val (-A) := (val_neg A).symm
    go_enter Tryd.func40, Tryd.ntmps40
    go_wp2_with (go_at_call 41; (with_reducible refine (negative_calls A true HN.out _).mono ?_); rintro e w' ⟨rfl, rfl⟩)
    go_ret
    exact ⟨rfl, rfl⟩
theorem rest_W (A B : BitVec 64) (hB : B ≠ 0) (w : World) :
    Calls Tryd.prog 20 #[.int .u64 0, .int .u64 (val A), .int .u64 (val B)] w fun e w' => e = .returned (.tuple #[.int .u64 (val (A / B)), .int .u64 (val (A % B))]) ∧ w = w' := by
  have h := rest_V 0 A.toNat B.toNat (A / B).toNat (A % B).toNat ⟨by decide, A.isLt, Wrd.ne_zero_toNat hB, B.isLt⟩
    (by rw [Nat.zero_mul, Nat.zero_add, BitVec.toNat_udiv, Nat.mod_eq_of_lt (Nat.lt_of_le_of_lt (Nat.div_le_self _ _) A.isLt)]) (by rw [Nat.zero_mul, Nat.zero_add, BitVec.toNat_umod]) w
  exact h
theorem val_ne {B : BitVec 64} (h : B ≠ 0) : (val B == 0) = false := by
  have : val B ≠ 0 := fun e => h (val_zero.2 e)
  simpa using this
theorem rdiv_0 (op : Int) (A : BitVec 64) (w : World) : Calls Tryd.prog 28 #[.int .i64 op, .int .u64 (val A), .int .u64 0] w fun e w' => e = .returned (.int .u64 0) ∧ w = w' := by
  go_enter Tryd.func28, Tryd.ntmps28
  go_wp2
  go_ret
  exact ⟨rfl, rfl⟩
theorem rdiv_4 (A B : BitVec 64) (hB : B ≠ 0) (w : World) : Calls Tryd.prog 28 #[.int .i64 4, .int .u64 (val A), .int .u64 (val B)] w fun e w' => e = .returned (.int .u64 (val (A / B))) ∧ w = w' := by
  have h0 := val_ne hB
  have HB := Lib.hid hB
  clear hB
  go_enter Tryd.func28, Tryd.ntmps28
  go_wp2_with (go_at_call 20; (with_reducible refine (rest_W A B HB.out _).mono ?_); rintro e w' ⟨rfl, rfl⟩)
  go_ret
  exact ⟨rfl, rfl⟩
theorem rdiv_6 (A B : BitVec 64) (hB : B ≠ 0) (w : World) : Calls Tryd.prog 28 #[.int .i64 6, .int .u64 (val A), .int .u64 (val B)] w fun e w' => e = .returned (.int .u64 (val (A % B))) ∧ w = w' := by
  have h0 := val_ne hB
  have HB := Lib.hid hB
  clear hB
  go_enter Tryd.func28, Tryd.ntmps28
  go_wp2_with (go_at_call 20; (with_reducible refine (rest_W A B HB.out _).mono ?_); rintro e w' ⟨rfl, rfl⟩)
  go_ret
  exact ⟨rfl, rfl⟩
theorem rdiv_5 (A B : BitVec 64) (hB : B ≠ 0) (w : World) : Calls Tryd.prog 28 #[.int .i64 5, .int .u64 (val A), .int .u64 (val B)] w fun e w' => e = .returned (.int .u64 (val (Wrd.sdiv A B))) ∧ w = w' := by
  have h0 := val_ne hB
  have HB : Hid (Wrd.absd B ≠ 0) := Wrd.absd_ne hB
  unfold Wrd.sdiv
  rw [if_neg hB]
  clear hB
  have E : IntKind.u64.wrap (-(val (Wrd.absd A / Wrd.absd B))) = val (-(Wrd.absd A / Wrd.absd B)) := (val_neg _).symm
  cases ha : Wrd.neg A <;> cases hb : Wrd.neg B
  all_goals
    have HA := Lib.hid ha
    have HBn := Lib.hid hb
    clear ha hb
    go_enter Tryd.func28, Tryd.ntmps28
    go_wp2_with (first
      | (go_at_call 40; (with_reducible refine (size_calls A _).mono ?_); rintro e w' ⟨rfl, rfl⟩)
      | (go_at_call 40; (with_reducible refine (size_calls B _).mono ?_); rintro e w' ⟨rfl, rfl⟩)
      | (go_at_call 20; (with_reducible refine (rest_W (Wrd.absd A) (Wrd.absd B) HB.out _).mono ?_); rintro e w' ⟨rfl, rfl⟩)
      | (go_at_call 41; (with_reducible refine (negative_calls A _ HA.out _).mono ?_); rintro e w' ⟨rfl, rfl⟩)
      | (go_at_call 41; (with_reducible refine (negative_calls B _ HBn.out _).mono ?_); rintro e w' ⟨rfl, rfl⟩))
    go_ret
    exact ⟨rfl, rfl⟩
theorem rdiv_7 (A B : BitVec 64) (hB : B ≠ 0) (w : World) : Calls Tryd.prog 28 #[.int .i64 7, .int .u64 (val A), .int .u64 (val B)] w fun e w' => e = .returned (.int .u64 (val (Wrd.smod A B))) ∧ w = w' := by
  have h0 := val_ne hB
  have HB : Hid (Wrd.absd B ≠ 0) := Wrd.absd_ne hB
  unfold Wrd.smod
  rw [if_neg hB]
  clear hB
  have E : IntKind.u64.wrap (-(val (Wrd.absd A % Wrd.absd B))) = val (-(Wrd.absd A % Wrd.absd B)) := (val_neg _).symm
  cases ha : Wrd.neg A
  all_goals
    have HA := Lib.hid ha
    clear ha
    go_enter Tryd.func28, Tryd.ntmps28
    go_wp2_with (first
      | (go_at_call 40; (with_reducible refine (size_calls A _).mono ?_); rintro e w' ⟨rfl, rfl⟩)
      | (go_at_call 40; (with_reducible refine (size_calls B _).mono ?_); rintro e w' ⟨rfl, rfl⟩)
      | (go_at_call 20; (with_reducible refine (rest_W (Wrd.absd A) (Wrd.absd B) HB.out _).mono ?_); rintro e w' ⟨rfl, rfl⟩)
      | (go_at_call 41; (with_reducible refine (negative_calls A _ HA.out _).mono ?_); rintro e w' ⟨rfl, rfl⟩))
    go_ret
    exact ⟨rfl, rfl⟩
/-- 4 to 7. -/
theorem rdiv_Z (op : Nat) (h1 : 4 ≤ op) (h2 : op ≤ 7) (a b c : Int) (ha : R64 a) (hb : R64 b) (w : World) :
    Calls Tryd.prog 28 #[.int .i64 (op : Int), .int .u64 a, .int .u64 b] w (Gives (apZ op a b c) w) := by
  by_cases h : b = 0
  · subst h
    have e : apZ op a 0 c = 0 := by
      rcases (by omega : op = 4 ∨ op = 5 ∨ op = 6 ∨ op = 7) with rfl | rfl | rfl | rfl
      · show val (W64 a / W64 0) = 0; rw [w64_zero]; simp [val]
      · show val (Wrd.sdiv (W64 a) (W64 0)) = 0; unfold Wrd.sdiv; rw [if_pos w64_zero]; rfl
      · show val (Wrd.umod (W64 a) (W64 0)) = 0; unfold Wrd.umod; rw [if_pos w64_zero]; rfl
      · show val (Wrd.smod (W64 a) (W64 0)) = 0; unfold Wrd.smod; rw [if_pos w64_zero]; rfl
    rw [e]
    have := rdiv_0 op (W64 a) w
    rw [val_w64 ha] at this; exact this
  · have hz : W64 b ≠ 0 := fun h0 => h ((zero_iff hb).1 h0)
    rcases (by omega : op = 4 ∨ op = 5 ∨ op = 6 ∨ op = 7) with rfl | rfl | rfl | rfl
    · have := rdiv_4 (W64 a) (W64 b) hz w
      rw [val_w64 ha, val_w64 hb] at this; exact this
    · have := rdiv_5 (W64 a) (W64 b) hz w
      rw [val_w64 ha, val_w64 hb] at this; exact this
    · have := rdiv_6 (W64 a) (W64 b) hz w
      rw [val_w64 ha, val_w64 hb] at this
      have e : apZ 6 a b c = val (W64 a % W64 b) := by show val (Wrd.umod (W64 a) (W64 b)) = _; unfold Wrd.umod; rw [if_neg hz]
      rw [e]; exact this
    · have := rdiv_7 (W64 a) (W64 b) hz w
      rw [val_w64 ha, val_w64 hb] at this; exact this
/-- 11 to 15. -/
theorem turned_Z (op : Nat) (h1 : 11 ≤ op) (h2 : op ≤ 15) (a b c : Int) (ha : R64 a) (hb : R64 b) (w : World) :
    Calls Tryd.prog 30 #[.int .i64 (op : Int), .int .u64 a, .int .u64 b] w (Gives (apZ op a b c) w) := by
  obtain ⟨A, rfl⟩ := Int.eq_ofNat_of_zero_le ha.lo
  have hA : A < 18446744073709551616 := by have := ha.hi; omega
  rcases (by omega : op = 11 ∨ op = 12 ∨ op = 13 ∨ op = 14 ∨ op = 15) with rfl | rfl | rfl | rfl | rfl
  · have := turned_11 A hA (W64 b) w; rw [val_w64 hb] at this; exact this
  · have := turned_12 A hA (W64 b) w; rw [val_w64 hb] at this; exact this
  · have := turned_13 A hA (W64 b) w; rw [val_w64 hb] at this; exact this
  · have := turned_14 A hA (W64 b) w; rw [val_w64 hb] at this; exact this
  · have := turned_15 A hA (W64 b) w; rw [val_w64 hb] at this; exact this
/-- What a call of the reference's Apply answers. -/
def AnswersR (r : Int) (w : World) (e : Ending) (w' : World) : Prop := e = .returned (.tuple #[.int .u64 r, .int .i64 0]) ∧ w = w'
theorem rtop_R {a : Int} (ha : R64 a) : R64 (bits .xor .u64 a 9223372036854775808) := by
  have := val_xor (W64 a) 9223372036854775808
  rw [val_w64 ha] at this
  have e : val (9223372036854775808 : BitVec 64) = 9223372036854775808 := by decide
  rw [e] at this; rw [← this]; exact val_R _
theorem rtop_w {a : Int} (ha : R64 a) : W64 (bits .xor .u64 a 9223372036854775808) = W64 a ^^^ 9223372036854775808 := by
  apply val_inj
  rw [val_w64 (rtop_R ha), val_xor, val_w64 ha]; rfl
theorem rap_18 {a b : Int} (c : Int) (ha : R64 a) (hb : R64 b) : flagI (decide (bits .xor .u64 a 9223372036854775808 < bits .xor .u64 b 9223372036854775808)) = apZ 18 a b c := by
  show _ = flagI ((W64 a).slt (W64 b))
  rw [Wrd.lt_top, ← rtop_w ha, ← rtop_w hb, val_ult, val_w64 (rtop_R ha), val_w64 (rtop_R hb)]
theorem rap_19 {a b : Int} (c : Int) (ha : R64 a) (hb : R64 b) : flagI (decide (bits .xor .u64 b 9223372036854775808 < bits .xor .u64 a 9223372036854775808)) = apZ 19 a b c := rap_18 c hb ha

set_option maxRecDepth 100000 in
theorem rapply_1 (a b c : Int) (w : World) : Calls Tryd.prog 13 #[.int .i64 1, .int .u64 a, .int .u64 b, .int .u64 c] w (AnswersR (IntKind.u64.wrap (a + b)) w) := by
  go_enter Tryd.func13, Tryd.ntmps13
  go_wp2
  go_returns
  exact ⟨rfl, rfl⟩

set_option maxRecDepth 100000 in
theorem rapply_2 (a b c : Int) (w : World) : Calls Tryd.prog 13 #[.int .i64 2, .int .u64 a, .int .u64 b, .int .u64 c] w (AnswersR (IntKind.u64.wrap (a - b)) w) := by
  go_enter Tryd.func13, Tryd.ntmps13
  go_wp2
  go_returns
  exact ⟨rfl, rfl⟩

theorem rdiv_Z4 (a b c : Int) (ha : R64 a) (hb : R64 b) (w : World) : Calls Tryd.prog 28 #[.int .i64 4, .int .u64 a, .int .u64 b] w (Gives (apZ 4 a b c) w) := rdiv_Z 4 (by decide) (by decide) a b c ha hb w
set_option maxRecDepth 100000 in
theorem rapply_4 (a b c : Int) (ha : R64 a) (hb : R64 b) (w : World) : Calls Tryd.prog 13 #[.int .i64 4, .int .u64 a, .int .u64 b, .int .u64 c] w (AnswersR (apZ 4 a b c) w) := by
  go_enter Tryd.func13, Tryd.ntmps13
  go_wp2_with ((go_at_call 28; (with_reducible refine (rdiv_Z4 a b c ha hb _).mono ?_); rintro e w' ⟨rfl, rfl⟩))
  go_returns
  exact ⟨rfl, rfl⟩

theorem rdiv_Z5 (a b c : Int) (ha : R64 a) (hb : R64 b) (w : World) : Calls Tryd.prog 28 #[.int .i64 5, .int .u64 a, .int .u64 b] w (Gives (apZ 5 a b c) w) := rdiv_Z 5 (by decide) (by decide) a b c ha hb w
set_option maxRecDepth 100000 in
theorem rapply_5 (a b c : Int) (ha : R64 a) (hb : R64 b) (w : World) : Calls Tryd.prog 13 #[.int .i64 5, .int .u64 a, .int .u64 b, .int .u64 c] w (AnswersR (apZ 5 a b c) w) := by
  go_enter Tryd.func13, Tryd.ntmps13
  go_wp2_with ((go_at_call 28; (with_reducible refine (rdiv_Z5 a b c ha hb _).mono ?_); rintro e w' ⟨rfl, rfl⟩))
  go_returns
  exact ⟨rfl, rfl⟩

theorem rdiv_Z6 (a b c : Int) (ha : R64 a) (hb : R64 b) (w : World) : Calls Tryd.prog 28 #[.int .i64 6, .int .u64 a, .int .u64 b] w (Gives (apZ 6 a b c) w) := rdiv_Z 6 (by decide) (by decide) a b c ha hb w
set_option maxRecDepth 100000 in
theorem rapply_6 (a b c : Int) (ha : R64 a) (hb : R64 b) (w : World) : Calls Tryd.prog 13 #[.int .i64 6, .int .u64 a, .int .u64 b, .int .u64 c] w (AnswersR (apZ 6 a b c) w) := by
  go_enter Tryd.func13, Tryd.ntmps13
  go_wp2_with ((go_at_call 28; (with_reducible refine (rdiv_Z6 a b c ha hb _).mono ?_); rintro e w' ⟨rfl, rfl⟩))
  go_returns
  exact ⟨rfl, rfl⟩

theorem rdiv_Z7 (a b c : Int) (ha : R64 a) (hb : R64 b) (w : World) : Calls Tryd.prog 28 #[.int .i64 7, .int .u64 a, .int .u64 b] w (Gives (apZ 7 a b c) w) := rdiv_Z 7 (by decide) (by decide) a b c ha hb w
set_option maxRecDepth 100000 in
theorem rapply_7 (a b c : Int) (ha : R64 a) (hb : R64 b) (w : World) : Calls Tryd.prog 13 #[.int .i64 7, .int .u64 a, .int .u64 b, .int .u64 c] w (AnswersR (apZ 7 a b c) w) := by
  go_enter Tryd.func13, Tryd.ntmps13
  go_wp2_with ((go_at_call 28; (with_reducible refine (rdiv_Z7 a b c ha hb _).mono ?_); rintro e w' ⟨rfl, rfl⟩))
  go_returns
  exact ⟨rfl, rfl⟩

theorem turned_Z11 (a b c : Int) (ha : R64 a) (hb : R64 b) (w : World) : Calls Tryd.prog 30 #[.int .i64 11, .int .u64 a, .int .u64 b] w (Gives (apZ 11 a b c) w) := turned_Z 11 (by decide) (by decide) a b c ha hb w
set_option maxRecDepth 100000 in
theorem rapply_11 (a b c : Int) (ha : R64 a) (hb : R64 b) (w : World) : Calls Tryd.prog 13 #[.int .i64 11, .int .u64 a, .int .u64 b, .int .u64 c] w (AnswersR (apZ 11 a b c) w) := by
  go_enter Tryd.func13, Tryd.ntmps13
  go_wp2_with ((go_at_call 30; (with_reducible refine (turned_Z11 a b c ha hb _).mono ?_); rintro e w' ⟨rfl, rfl⟩))
  go_returns
  exact ⟨rfl, rfl⟩

theorem turned_Z12 (a b c : Int) (ha : R64 a) (hb : R64 b) (w : World) : Calls Tryd.prog 30 #[.int .i64 12, .int .u64 a, .int .u64 b] w (Gives (apZ 12 a b c) w) := turned_Z 12 (by decide) (by decide) a b c ha hb w
set_option maxRecDepth 100000 in
theorem rapply_12 (a b c : Int) (ha : R64 a) (hb : R64 b) (w : World) : Calls Tryd.prog 13 #[.int .i64 12, .int .u64 a, .int .u64 b, .int .u64 c] w (AnswersR (apZ 12 a b c) w) := by
  go_enter Tryd.func13, Tryd.ntmps13
  go_wp2_with ((go_at_call 30; (with_reducible refine (turned_Z12 a b c ha hb _).mono ?_); rintro e w' ⟨rfl, rfl⟩))
  go_returns
  exact ⟨rfl, rfl⟩

theorem turned_Z13 (a b c : Int) (ha : R64 a) (hb : R64 b) (w : World) : Calls Tryd.prog 30 #[.int .i64 13, .int .u64 a, .int .u64 b] w (Gives (apZ 13 a b c) w) := turned_Z 13 (by decide) (by decide) a b c ha hb w
set_option maxRecDepth 100000 in
theorem rapply_13 (a b c : Int) (ha : R64 a) (hb : R64 b) (w : World) : Calls Tryd.prog 13 #[.int .i64 13, .int .u64 a, .int .u64 b, .int .u64 c] w (AnswersR (apZ 13 a b c) w) := by
  go_enter Tryd.func13, Tryd.ntmps13
  go_wp2_with ((go_at_call 30; (with_reducible refine (turned_Z13 a b c ha hb _).mono ?_); rintro e w' ⟨rfl, rfl⟩))
  go_returns
  exact ⟨rfl, rfl⟩

theorem turned_Z14 (a b c : Int) (ha : R64 a) (hb : R64 b) (w : World) : Calls Tryd.prog 30 #[.int .i64 14, .int .u64 a, .int .u64 b] w (Gives (apZ 14 a b c) w) := turned_Z 14 (by decide) (by decide) a b c ha hb w
set_option maxRecDepth 100000 in
theorem rapply_14 (a b c : Int) (ha : R64 a) (hb : R64 b) (w : World) : Calls Tryd.prog 13 #[.int .i64 14, .int .u64 a, .int .u64 b, .int .u64 c] w (AnswersR (apZ 14 a b c) w) := by
  go_enter Tryd.func13, Tryd.ntmps13
  go_wp2_with ((go_at_call 30; (with_reducible refine (turned_Z14 a b c ha hb _).mono ?_); rintro e w' ⟨rfl, rfl⟩))
  go_returns
  exact ⟨rfl, rfl⟩

theorem turned_Z15 (a b c : Int) (ha : R64 a) (hb : R64 b) (w : World) : Calls Tryd.prog 30 #[.int .i64 15, .int .u64 a, .int .u64 b] w (Gives (apZ 15 a b c) w) := turned_Z 15 (by decide) (by decide) a b c ha hb w
set_option maxRecDepth 100000 in
theorem rapply_15 (a b c : Int) (ha : R64 a) (hb : R64 b) (w : World) : Calls Tryd.prog 13 #[.int .i64 15, .int .u64 a, .int .u64 b, .int .u64 c] w (AnswersR (apZ 15 a b c) w) := by
  go_enter Tryd.func13, Tryd.ntmps13
  go_wp2_with ((go_at_call 30; (with_reducible refine (turned_Z15 a b c ha hb _).mono ?_); rintro e w' ⟨rfl, rfl⟩))
  go_returns
  exact ⟨rfl, rfl⟩

set_option maxRecDepth 100000 in
theorem rapply_16 (a b c : Int) (w : World) : Calls Tryd.prog 13 #[.int .i64 16, .int .u64 a, .int .u64 b, .int .u64 c] w (AnswersR (flagI (decide (a < b))) w) := by
  go_enter Tryd.func13, Tryd.ntmps13
  go_wp2_with ((go_at_call 29; (with_reducible refine (one_calls _ _).mono ?_); rintro e w' ⟨rfl, rfl⟩))
  go_returns
  exact ⟨rfl, rfl⟩

set_option maxRecDepth 100000 in
theorem rapply_17 (a b c : Int) (w : World) : Calls Tryd.prog 13 #[.int .i64 17, .int .u64 a, .int .u64 b, .int .u64 c] w (AnswersR (flagI (decide (b < a))) w) := by
  go_enter Tryd.func13, Tryd.ntmps13
  go_wp2_with ((go_at_call 29; (with_reducible refine (one_calls _ _).mono ?_); rintro e w' ⟨rfl, rfl⟩))
  go_returns
  exact ⟨rfl, rfl⟩

set_option maxRecDepth 100000 in
theorem rapply_18 (a b c : Int) (w : World) : Calls Tryd.prog 13 #[.int .i64 18, .int .u64 a, .int .u64 b, .int .u64 c] w (AnswersR (flagI (decide (bits .xor .u64 a 9223372036854775808 < bits .xor .u64 b 9223372036854775808))) w) := by
  go_enter Tryd.func13, Tryd.ntmps13
  go_wp2_with ((go_at_call 29; (with_reducible refine (one_calls _ _).mono ?_); rintro e w' ⟨rfl, rfl⟩))
  go_returns
  exact ⟨rfl, rfl⟩

set_option maxRecDepth 100000 in
theorem rapply_19 (a b c : Int) (w : World) : Calls Tryd.prog 13 #[.int .i64 19, .int .u64 a, .int .u64 b, .int .u64 c] w (AnswersR (flagI (decide (bits .xor .u64 b 9223372036854775808 < bits .xor .u64 a 9223372036854775808))) w) := by
  go_enter Tryd.func13, Tryd.ntmps13
  go_wp2_with ((go_at_call 29; (with_reducible refine (one_calls _ _).mono ?_); rintro e w' ⟨rfl, rfl⟩))
  go_returns
  exact ⟨rfl, rfl⟩

set_option maxRecDepth 100000 in
theorem rapply_20 (a b c : Int) (w : World) : Calls Tryd.prog 13 #[.int .i64 20, .int .u64 a, .int .u64 b, .int .u64 c] w (AnswersR (flagI (a == b)) w) := by
  go_enter Tryd.func13, Tryd.ntmps13
  go_wp2_with ((go_at_call 29; (with_reducible refine (one_calls _ _).mono ?_); rintro e w' ⟨rfl, rfl⟩))
  go_returns
  exact ⟨rfl, rfl⟩

set_option maxRecDepth 100000 in
theorem rapply_21 (a b c : Int) (w : World) : Calls Tryd.prog 13 #[.int .i64 21, .int .u64 a, .int .u64 b, .int .u64 c] w (AnswersR (flagI (a == 0)) w) := by
  go_enter Tryd.func13, Tryd.ntmps13
  go_wp2_with ((go_at_call 29; (with_reducible refine (one_calls _ _).mono ?_); rintro e w' ⟨rfl, rfl⟩))
  go_returns
  exact ⟨rfl, rfl⟩

set_option maxRecDepth 100000 in
theorem rapply_22 (a b c : Int) (w : World) : Calls Tryd.prog 13 #[.int .i64 22, .int .u64 a, .int .u64 b, .int .u64 c] w (AnswersR (bits .and .u64 a b) w) := by
  go_enter Tryd.func13, Tryd.ntmps13
  go_wp2
  go_returns
  exact ⟨rfl, rfl⟩

set_option maxRecDepth 100000 in
theorem rapply_23 (a b c : Int) (w : World) : Calls Tryd.prog 13 #[.int .i64 23, .int .u64 a, .int .u64 b, .int .u64 c] w (AnswersR (bits .or .u64 a b) w) := by
  go_enter Tryd.func13, Tryd.ntmps13
  go_wp2
  go_returns
  exact ⟨rfl, rfl⟩

set_option maxRecDepth 100000 in
theorem rapply_24 (a b c : Int) (w : World) : Calls Tryd.prog 13 #[.int .i64 24, .int .u64 a, .int .u64 b, .int .u64 c] w (AnswersR (bits .xor .u64 a b) w) := by
  go_enter Tryd.func13, Tryd.ntmps13
  go_wp2
  go_returns
  exact ⟨rfl, rfl⟩

set_option maxRecDepth 100000 in
theorem rapply_25 (a b c : Int) (w : World) : Calls Tryd.prog 13 #[.int .i64 25, .int .u64 a, .int .u64 b, .int .u64 c] w (AnswersR (bits .xor .u64 a 18446744073709551615) w) := by
  go_enter Tryd.func13, Tryd.ntmps13
  go_wp2
  go_returns
  exact ⟨rfl, rfl⟩

end Go.Proofs.YtmjlifbnndmjoaaDoor
