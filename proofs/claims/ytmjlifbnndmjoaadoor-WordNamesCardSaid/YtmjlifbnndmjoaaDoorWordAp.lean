/-
  word.Apply by its contracts, each operation the word's own (but Addmod and Mulmod); mootlaw01.at.
-/
import Derived.Test.YtmjlifbnndmjoaaDoorWordDiv
set_option linter.unusedVariables false
namespace Go.Proofs.YtmjlifbnndmjoaaDoor
open Go.RowKit

theorem w64_zero : W64 0 = 0 := by decide
theorem zero_iff {b : Int} (hb : R64 b) : W64 b = 0 ↔ b = 0 := by rw [val_zero, val_w64 hb]
theorem ap_1 {a b : Int} (c : Int) (ha : R64 a) (hb : R64 b) : (IntKind.u64.wrap (a + b)) = apZ 1 a b c := by
  show _ = val (W64 a + W64 b); rw [val_add, val_w64 ha, val_w64 hb]
theorem ap_2 {a b : Int} (c : Int) (ha : R64 a) (hb : R64 b) : (IntKind.u64.wrap (a - b)) = apZ 2 a b c := by
  show _ = val (W64 a - W64 b); rw [val_sub, val_w64 ha, val_w64 hb]
theorem ap_3 {a b : Int} (c : Int) (ha : R64 a) (hb : R64 b) : (IntKind.u64.wrap (a * b)) = apZ 3 a b c := by
  show _ = val (W64 a * W64 b); rw [val_mul, val_w64 ha, val_w64 hb]
theorem ap_22 {a b : Int} (c : Int) (ha : R64 a) (hb : R64 b) : (bits .and .u64 a b) = apZ 22 a b c := by
  show _ = val (W64 a &&& W64 b); rw [val_and, val_w64 ha, val_w64 hb]
theorem ap_23 {a b : Int} (c : Int) (ha : R64 a) (hb : R64 b) : (bits .or .u64 a b) = apZ 23 a b c := by
  show _ = val (W64 a ||| W64 b); rw [val_or, val_w64 ha, val_w64 hb]
theorem ap_24 {a b : Int} (c : Int) (ha : R64 a) (hb : R64 b) : (bits .xor .u64 a b) = apZ 24 a b c := by
  show _ = val (W64 a ^^^ W64 b); rw [val_xor, val_w64 ha, val_w64 hb]
theorem ap_25 {a b : Int} (c : Int) (ha : R64 a) (hb : R64 b) : (bits .xor .u64 a 18446744073709551615) = apZ 25 a b c := by
  show _ = val (~~~ (W64 a))
  have e : ~~~ (W64 a) = W64 a ^^^ 18446744073709551615 := by
    apply BitVec.eq_of_getLsbD_eq; intro i hi
    rw [Wrd.nb _ _ hi, BitVec.getLsbD_xor, show (18446744073709551615 : BitVec 64) = BitVec.allOnes 64 by decide, BitVec.getLsbD_allOnes]
    simp [hi]
  rw [e, val_xor, val_w64 ha]; rfl
theorem ap_16 {a b : Int} (c : Int) (ha : R64 a) (hb : R64 b) : (flagI (decide (a < b))) = apZ 16 a b c := by
  show flagI _ = flagI ((W64 a).ult (W64 b)); rw [val_ult, val_w64 ha, val_w64 hb]
theorem ap_17 {a b : Int} (c : Int) (ha : R64 a) (hb : R64 b) : (flagI (decide (b < a))) = apZ 17 a b c := by
  show flagI _ = flagI ((W64 b).ult (W64 a)); rw [val_ult, val_w64 ha, val_w64 hb]
theorem ap_18 {a b : Int} (c : Int) (ha : R64 a) (hb : R64 b) : (flagI (decide (wrap64 a < wrap64 b))) = apZ 18 a b c := by
  show flagI _ = flagI ((W64 a).slt (W64 b)); rw [val_slt, val_w64 ha, val_w64 hb]; simp only [IntWalk.i64_left]
theorem ap_19 {a b : Int} (c : Int) (ha : R64 a) (hb : R64 b) : (flagI (decide (wrap64 b < wrap64 a))) = apZ 19 a b c := by
  show flagI _ = flagI ((W64 b).slt (W64 a)); rw [val_slt, val_w64 ha, val_w64 hb]; simp only [IntWalk.i64_left]
theorem ap_20 {a b : Int} (c : Int) (ha : R64 a) (hb : R64 b) : (flagI (a == b)) = apZ 20 a b c := by
  show flagI _ = flagI (W64 a == W64 b); rw [val_eq, val_w64 ha, val_w64 hb]
theorem ap_21 {a b : Int} (c : Int) (ha : R64 a) (hb : R64 b) : (flagI (a == 0)) = apZ 21 a b c := by
  show flagI _ = flagI (W64 a == 0); rw [val_eq, val_w64 ha]; rfl

theorem ap_10 {a b : Int} (c : Int) (ha : R64 a) (hb : R64 b) : val (W64 a ^ b.toNat) = apZ 10 a b c := by
  show _ = val (W64 a ^ (W64 b).toNat)
  have e : (W64 b).toNat = b.toNat := by have := val_w64 hb; unfold val at this; omega
  rw [e]
theorem toNat_w64 {a : Int} (ha : R64 a) : (W64 a).toNat = a.toNat := by have := val_w64 ha; unfold val at this; omega
theorem ap_11 {a b : Int} (c : Int) (ha : R64 a) (hb : R64 b) (h7 : a < 7) : IntKind.u64.wrap (wrap64 (IntKind.u64.wrap (b * 2 ^ (56 - 8 * a).toNat)) / 2 ^ (56 - 8 * a).toNat) = apZ 11 a b c := by
  have h0 := ha.lo
  show _ = val (Wrd.sext (W64 a) (W64 b))
  unfold Wrd.sext
  rw [toNat_w64 ha, if_neg (by omega), val_sar, val_shl, val_w64 hb, Nat.min_eq_left (by omega), show 56 - 8 * a.toNat = (56 - 8 * a).toNat by omega]
theorem ap_11far {a b : Int} (c : Int) (ha : R64 a) (hb : R64 b) (h7 : 7 ≤ a) : b = apZ 11 a b c := by
  show _ = val (Wrd.sext (W64 a) (W64 b))
  unfold Wrd.sext
  rw [toNat_w64 ha, if_pos (by omega), val_w64 hb]
theorem ap_12 {a b : Int} (c : Int) (ha : R64 a) (hb : R64 b) (h7 : a ≤ 7) : bits .and .u64 (b / 2 ^ (56 - 8 * a).toNat) 255 = apZ 12 a b c := by
  have h0 := ha.lo
  show _ = val (Wrd.byt (W64 a) (W64 b))
  unfold Wrd.byt
  rw [toNat_w64 ha, if_neg (by omega), val_and, val_shr, val_w64 hb, Nat.min_eq_left (by omega), show 56 - 8 * a.toNat = (56 - 8 * a).toNat by omega]; rfl
theorem ap_12far {a b : Int} (c : Int) (ha : R64 a) (hb : R64 b) (h7 : 7 < a) : 0 = apZ 12 a b c := by
  show _ = val (Wrd.byt (W64 a) (W64 b))
  unfold Wrd.byt
  rw [toNat_w64 ha, if_pos (by omega)]; rfl
theorem ap_13 {a b : Int} (c : Int) (ha : R64 a) (hb : R64 b) : IntKind.u64.wrap (b * 2 ^ min a.toNat 64) = apZ 13 a b c := by
  show _ = val (W64 b <<< (W64 a).toNat); rw [val_shl, val_w64 hb, toNat_w64 ha]
theorem ap_14 {a b : Int} (c : Int) (ha : R64 a) (hb : R64 b) : b / 2 ^ min a.toNat 64 = apZ 14 a b c := by
  show _ = val (W64 b >>> (W64 a).toNat); rw [val_shr, val_w64 hb, toNat_w64 ha]
theorem ap_15 {a b : Int} (c : Int) (ha : R64 a) (hb : R64 b) : IntKind.u64.wrap (wrap64 b / 2 ^ min a.toNat 64) = apZ 15 a b c := by
  show _ = val ((W64 b).sshiftRight (W64 a).toNat); rw [val_sar, val_w64 hb, toNat_w64 ha]
theorem R64_wrap {a : Int} (h : R64 a) : IntKind.u64.wrap a = a := by rw [IntKind.wrap_u64]; have := h.lo; have := h.hi; omega
theorem tdiv_val (x y : BitVec 64) : IntKind.u64.wrap ((val x).tdiv (val y)) = val (x / y) := by
  rw [val_div, Int.tdiv_eq_ediv_of_nonneg (val_R x).lo]
  rw [← val_div]; exact R64_wrap (val_R _)
/-- The signed value of a word is below 0 just if its highest bit is 1. -/
theorem neg_iff {a : Int} (ha : R64 a) : Wrd.neg (W64 a) = decide (wrap64 a < 0) := by
  show (W64 a).msb = _; rw [val_msb, val_w64 ha, IntWalk.i64_left]
theorem val_pos {x : BitVec 64} (h : x ≠ 0) : 1 ≤ val x := by
  have := (val_R x).lo
  have h2 : val x ≠ 0 := fun e => h (val_zero.2 e)
  omega

/-! Each operation: what it answers is its word. -/
/-- What a call of Apply answers. -/
def Answers (r : Int) (w : World) (e : Ending) (w' : World) : Prop := e = .returned (.tuple #[.int .u64 r, .nilIface]) ∧ w = w'
def Gives (r : Int) (w : World) (e : Ending) (w' : World) : Prop := e = .returned (.int .u64 r) ∧ w = w'
theorem divided_4Z (a b c : Int) (ha : R64 a) (hb : R64 b) (w : World) : Calls Tryd.prog 23 #[.int .i64 4, .int .u64 a, .int .u64 b] w (Gives (apZ 4 a b c) w) := by
  have e : apZ 4 a b c = val (W64 a / W64 b) := rfl
  rw [e]
  by_cases h : b = 0
  · subst h
    have e0 : W64 a / W64 0 = 0 := by rw [w64_zero]; simp
    rw [e0]; exact divided_zero 4 a w
  · have e1 := tdiv_val (W64 a) (W64 b)
    rw [val_w64 ha, val_w64 hb] at e1
    have := hb.lo
    exact divided_4 a b _ w ha.lo (by omega) (by simpa using h) e1
theorem divided_6Z (a b c : Int) (ha : R64 a) (hb : R64 b) (w : World) : Calls Tryd.prog 23 #[.int .i64 6, .int .u64 a, .int .u64 b] w (Gives (apZ 6 a b c) w) := by
  have e : apZ 6 a b c = val (Wrd.umod (W64 a) (W64 b)) := rfl
  rw [e]; unfold Wrd.umod
  by_cases h : b = 0
  · subst h; rw [if_pos w64_zero]; exact divided_zero 6 a w
  · rw [if_neg (fun h0 => h ((zero_iff hb).1 h0)), val_mod, val_w64 ha, val_w64 hb]
    have := hb.lo
    exact divided_6 a b w ha.lo (by omega) (by simpa using h)
theorem divided_5Z (a b c : Int) (ha : R64 a) (hb : R64 b) (w : World) : Calls Tryd.prog 23 #[.int .i64 5, .int .u64 a, .int .u64 b] w (Gives (apZ 5 a b c) w) := by
  have e : apZ 5 a b c = val (Wrd.sdiv (W64 a) (W64 b)) := rfl
  rw [e]; unfold Wrd.sdiv
  by_cases h : b = 0
  · subst h; rw [if_pos w64_zero]; exact divided_zero 5 a w
  · have hz : W64 b ≠ 0 := fun h0 => h ((zero_iff hb).1 h0)
    have hb0 := hb.lo
    have hb1 : 1 ≤ b := by omega
    have h0 : (b == 0) = false := by simpa using h
    have hy : IntKind.u64.wrap (-b) = val (-(W64 b)) := by rw [val_neg, val_w64 hb]
    have hx : IntKind.u64.wrap (-a) = val (-(W64 a)) := by rw [val_neg, val_w64 ha]
    have hy1 : 1 ≤ val (-(W64 b)) := val_pos (fun e0 => hz (by have := congrArg (fun x : BitVec 64 => -x) e0; simpa using this))
    rw [if_neg hz]
    unfold Wrd.absd
    rw [neg_iff ha, neg_iff hb]
    cases ea : decide (wrap64 a < 0) <;> cases eb : decide (wrap64 b < 0)
    · have e1 := tdiv_val (W64 a) (W64 b)
      rw [val_w64 ha] at e1
      rw [val_w64 hb] at e1
      exact divided_500 a b _ w h0 eb ea ha.lo hb1 e1
    · have e1 := tdiv_val (W64 a) (-(W64 b))
      rw [val_w64 ha] at e1
      exact divided_501 a b _ _ _ w h0 eb ea hy ha.lo hy1 e1 (val_neg _).symm
    · have e1 := tdiv_val (-(W64 a)) (W64 b)
      rw [val_w64 hb] at e1
      exact divided_510 a b _ _ _ w h0 eb ea hx (val_R _).lo hb1 e1 (val_neg _).symm
    · have e1 := tdiv_val (-(W64 a)) (-(W64 b))
      exact divided_511 a b _ _ _ w h0 eb ea hx hy (val_R _).lo hy1 e1
theorem divided_7Z (a b c : Int) (ha : R64 a) (hb : R64 b) (w : World) : Calls Tryd.prog 23 #[.int .i64 7, .int .u64 a, .int .u64 b] w (Gives (apZ 7 a b c) w) := by
  have e : apZ 7 a b c = val (Wrd.smod (W64 a) (W64 b)) := rfl
  rw [e]; unfold Wrd.smod
  by_cases h : b = 0
  · subst h; rw [if_pos w64_zero]; exact divided_zero 7 a w
  · have hz : W64 b ≠ 0 := fun h0 => h ((zero_iff hb).1 h0)
    have hb0 := hb.lo
    have hb1 : 1 ≤ b := by omega
    have h0 : (b == 0) = false := by simpa using h
    have hy : IntKind.u64.wrap (-b) = val (-(W64 b)) := by rw [val_neg, val_w64 hb]
    have hx : IntKind.u64.wrap (-a) = val (-(W64 a)) := by rw [val_neg, val_w64 ha]
    have hy1 : 1 ≤ val (-(W64 b)) := val_pos (fun e0 => hz (by have := congrArg (fun x : BitVec 64 => -x) e0; simpa using this))
    rw [if_neg hz]
    unfold Wrd.absd
    rw [neg_iff ha, neg_iff hb]
    cases ea : decide (wrap64 a < 0) <;> cases eb : decide (wrap64 b < 0)
    · show Calls _ _ _ _ (Gives (val ((W64 a) % (W64 b))) w)
      rw [val_mod, val_w64 ha, val_w64 hb]
      exact divided_700 a b w h0 eb ea ha.lo hb1
    · show Calls _ _ _ _ (Gives (val ((W64 a) % (-(W64 b)))) w)
      rw [val_mod, val_w64 ha]
      exact divided_701 a b _ w h0 eb ea hy ha.lo hy1
    · have e1 : IntKind.u64.wrap (-(val (-(W64 a)) % b)) = val (-((-(W64 a)) % (W64 b))) := by rw [val_neg ((-(W64 a)) % (W64 b)), val_mod, val_w64 hb]
      exact divided_710 a b _ _ w h0 eb ea hx (val_R _).lo hb1 e1
    · have e1 : IntKind.u64.wrap (-(val (-(W64 a)) % val (-(W64 b)))) = val (-((-(W64 a)) % (-(W64 b)))) := by rw [val_neg ((-(W64 a)) % (-(W64 b))), val_mod]
      exact divided_711 a b _ _ _ w h0 eb ea hx hy (val_R _).lo hy1 e1

theorem shifted_11Z (a b c : Int) (ha : R64 a) (hb : R64 b) (w : World) : Calls Tryd.prog 26 #[.int .i64 11, .int .u64 a, .int .u64 b] w (Gives (apZ 11 a b c) w) := by
  by_cases h : a < 7
  · rw [← ap_11 c ha hb h]; exact shifted_11 a b w ha.lo h
  · rw [← ap_11far c ha hb (by omega)]; exact shifted_11far a b w (by omega)
theorem shifted_12Z (a b c : Int) (ha : R64 a) (hb : R64 b) (w : World) : Calls Tryd.prog 26 #[.int .i64 12, .int .u64 a, .int .u64 b] w (Gives (apZ 12 a b c) w) := by
  by_cases h : a ≤ 7
  · rw [← ap_12 c ha hb h]; exact shifted_12 a b w ha.lo h
  · rw [← ap_12far c ha hb (by omega)]; exact shifted_12far a b w (by omega)
theorem shifted_13Z (a b c : Int) (ha : R64 a) (hb : R64 b) (w : World) : Calls Tryd.prog 26 #[.int .i64 13, .int .u64 a, .int .u64 b] w (Gives (apZ 13 a b c) w) := by
  rw [← ap_13 c ha hb]; exact shifted_13 a b w ha.lo
theorem shifted_14Z (a b c : Int) (ha : R64 a) (hb : R64 b) (w : World) : Calls Tryd.prog 26 #[.int .i64 14, .int .u64 a, .int .u64 b] w (Gives (apZ 14 a b c) w) := by
  rw [← ap_14 c ha hb]; exact shifted_14 a b w ha.lo
theorem shifted_15Z (a b c : Int) (ha : R64 a) (hb : R64 b) (w : World) : Calls Tryd.prog 26 #[.int .i64 15, .int .u64 a, .int .u64 b] w (Gives (apZ 15 a b c) w) := by
  rw [← ap_15 c ha hb]; exact shifted_15 a b w ha.lo
theorem power_Z (a b c : Int) (ha : R64 a) (hb : R64 b) (w : World) : Calls Tryd.prog 25 #[.int .u64 a, .int .u64 b] w (Gives (apZ 10 a b c) w) := by
  have h := power_calls (W64 a) b.toNat (by have := hb.hi; omega) w
  rw [val_w64 ha, ap_10 c ha hb, show ((b.toNat : Nat) : Int) = b by have := hb.lo; omega] at h
  exact h
theorem apply_4 (a b c : Int) (ha : R64 a) (hb : R64 b) (w : World) :
    Calls Tryd.prog 12 #[.int .i64 4, .int .u64 a, .int .u64 b, .int .u64 c] w (Answers (apZ 4 a b c) w) := by
  go_enter Tryd.func12, Tryd.ntmps12
  go_upto_if 17 with (fail)
  refine wp_cond_true rfl ?_
  go_upto_if 17 with (fail)
  refine wp_cond_true rfl ?_
  refine wp_exit ?_
  conv => whnf
  go_wp2_with (go_at_call 23; (with_reducible refine (divided_4Z a b c ha hb _).mono ?_); rintro e w' ⟨rfl, rfl⟩)
  go_returns
  exact ⟨rfl, rfl⟩
theorem apply_5 (a b c : Int) (ha : R64 a) (hb : R64 b) (w : World) :
    Calls Tryd.prog 12 #[.int .i64 5, .int .u64 a, .int .u64 b, .int .u64 c] w (Answers (apZ 5 a b c) w) := by
  go_enter Tryd.func12, Tryd.ntmps12
  go_upto_if 17 with (fail)
  refine wp_cond_false rfl ?_
  go_upto_if 17 with (fail)
  refine wp_cond_true rfl ?_
  go_upto_if 17 with (fail)
  refine wp_cond_true rfl ?_
  refine wp_exit ?_
  conv => whnf
  go_wp2_with (go_at_call 23; (with_reducible refine (divided_5Z a b c ha hb _).mono ?_); rintro e w' ⟨rfl, rfl⟩)
  go_returns
  exact ⟨rfl, rfl⟩
theorem apply_6 (a b c : Int) (ha : R64 a) (hb : R64 b) (w : World) :
    Calls Tryd.prog 12 #[.int .i64 6, .int .u64 a, .int .u64 b, .int .u64 c] w (Answers (apZ 6 a b c) w) := by
  go_enter Tryd.func12, Tryd.ntmps12
  go_upto_if 17 with (fail)
  refine wp_cond_false rfl ?_
  go_upto_if 17 with (fail)
  refine wp_cond_false rfl ?_
  go_upto_if 17 with (fail)
  refine wp_cond_true rfl ?_
  go_upto_if 17 with (fail)
  refine wp_cond_true rfl ?_
  refine wp_exit ?_
  conv => whnf
  go_wp2_with (go_at_call 23; (with_reducible refine (divided_6Z a b c ha hb _).mono ?_); rintro e w' ⟨rfl, rfl⟩)
  go_returns
  exact ⟨rfl, rfl⟩
theorem apply_7 (a b c : Int) (ha : R64 a) (hb : R64 b) (w : World) :
    Calls Tryd.prog 12 #[.int .i64 7, .int .u64 a, .int .u64 b, .int .u64 c] w (Answers (apZ 7 a b c) w) := by
  go_enter Tryd.func12, Tryd.ntmps12
  go_upto_if 17 with (fail)
  refine wp_cond_false rfl ?_
  go_upto_if 17 with (fail)
  refine wp_cond_false rfl ?_
  go_upto_if 17 with (fail)
  refine wp_cond_false rfl ?_
  go_upto_if 17 with (fail)
  refine wp_cond_true rfl ?_
  refine wp_exit ?_
  conv => whnf
  go_wp2_with (go_at_call 23; (with_reducible refine (divided_7Z a b c ha hb _).mono ?_); rintro e w' ⟨rfl, rfl⟩)
  go_returns
  exact ⟨rfl, rfl⟩
theorem apply_10 (a b c : Int) (ha : R64 a) (hb : R64 b) (w : World) :
    Calls Tryd.prog 12 #[.int .i64 10, .int .u64 a, .int .u64 b, .int .u64 c] w (Answers (apZ 10 a b c) w) := by
  go_enter Tryd.func12, Tryd.ntmps12
  go_upto_if 25 with (fail)
  refine wp_cond_true rfl ?_
  refine wp_exit ?_
  conv => whnf
  go_wp2_with (go_at_call 25; (with_reducible refine (power_Z a b c ha hb _).mono ?_); rintro e w' ⟨rfl, rfl⟩)
  go_returns
  exact ⟨rfl, rfl⟩
theorem apply_11 (a b c : Int) (ha : R64 a) (hb : R64 b) (w : World) :
    Calls Tryd.prog 12 #[.int .i64 11, .int .u64 a, .int .u64 b, .int .u64 c] w (Answers (apZ 11 a b c) w) := by
  go_enter Tryd.func12, Tryd.ntmps12
  go_upto_if 27 with (fail)
  refine wp_cond_true rfl ?_
  go_upto_if 27 with (fail)
  refine wp_cond_true rfl ?_
  refine wp_exit ?_
  conv => whnf
  go_wp2_with (go_at_call 26; (with_reducible refine (shifted_11Z a b c ha hb _).mono ?_); rintro e w' ⟨rfl, rfl⟩)
  go_returns
  exact ⟨rfl, rfl⟩
theorem apply_12 (a b c : Int) (ha : R64 a) (hb : R64 b) (w : World) :
    Calls Tryd.prog 12 #[.int .i64 12, .int .u64 a, .int .u64 b, .int .u64 c] w (Answers (apZ 12 a b c) w) := by
  go_enter Tryd.func12, Tryd.ntmps12
  go_upto_if 27 with (fail)
  refine wp_cond_false rfl ?_
  go_upto_if 27 with (fail)
  refine wp_cond_true rfl ?_
  go_upto_if 27 with (fail)
  refine wp_cond_true rfl ?_
  refine wp_exit ?_
  conv => whnf
  go_wp2_with (go_at_call 26; (with_reducible refine (shifted_12Z a b c ha hb _).mono ?_); rintro e w' ⟨rfl, rfl⟩)
  go_returns
  exact ⟨rfl, rfl⟩
theorem apply_13 (a b c : Int) (ha : R64 a) (hb : R64 b) (w : World) :
    Calls Tryd.prog 12 #[.int .i64 13, .int .u64 a, .int .u64 b, .int .u64 c] w (Answers (apZ 13 a b c) w) := by
  go_enter Tryd.func12, Tryd.ntmps12
  go_upto_if 27 with (fail)
  refine wp_cond_false rfl ?_
  go_upto_if 27 with (fail)
  refine wp_cond_false rfl ?_
  go_upto_if 27 with (fail)
  refine wp_cond_true rfl ?_
  go_upto_if 27 with (fail)
  refine wp_cond_true rfl ?_
  refine wp_exit ?_
  conv => whnf
  go_wp2_with (go_at_call 26; (with_reducible refine (shifted_13Z a b c ha hb _).mono ?_); rintro e w' ⟨rfl, rfl⟩)
  go_returns
  exact ⟨rfl, rfl⟩
theorem apply_14 (a b c : Int) (ha : R64 a) (hb : R64 b) (w : World) :
    Calls Tryd.prog 12 #[.int .i64 14, .int .u64 a, .int .u64 b, .int .u64 c] w (Answers (apZ 14 a b c) w) := by
  go_enter Tryd.func12, Tryd.ntmps12
  go_upto_if 27 with (fail)
  refine wp_cond_false rfl ?_
  go_upto_if 27 with (fail)
  refine wp_cond_false rfl ?_
  go_upto_if 27 with (fail)
  refine wp_cond_false rfl ?_
  go_upto_if 27 with (fail)
  refine wp_cond_true rfl ?_
  go_upto_if 27 with (fail)
  refine wp_cond_true rfl ?_
  refine wp_exit ?_
  conv => whnf
  go_wp2_with (go_at_call 26; (with_reducible refine (shifted_14Z a b c ha hb _).mono ?_); rintro e w' ⟨rfl, rfl⟩)
  go_returns
  exact ⟨rfl, rfl⟩
theorem apply_15 (a b c : Int) (ha : R64 a) (hb : R64 b) (w : World) :
    Calls Tryd.prog 12 #[.int .i64 15, .int .u64 a, .int .u64 b, .int .u64 c] w (Answers (apZ 15 a b c) w) := by
  go_enter Tryd.func12, Tryd.ntmps12
  go_upto_if 27 with (fail)
  refine wp_cond_false rfl ?_
  go_upto_if 27 with (fail)
  refine wp_cond_false rfl ?_
  go_upto_if 27 with (fail)
  refine wp_cond_false rfl ?_
  go_upto_if 27 with (fail)
  refine wp_cond_false rfl ?_
  go_upto_if 27 with (fail)
  refine wp_cond_true rfl ?_
  refine wp_exit ?_
  conv => whnf
  go_wp2_with (go_at_call 26; (with_reducible refine (shifted_15Z a b c ha hb _).mono ?_); rintro e w' ⟨rfl, rfl⟩)
  go_returns
  exact ⟨rfl, rfl⟩

/-- Every operation but Addmod and Mulmod. -/
theorem apply_Z (op : Nat) (h1 : 1 ≤ op) (h2 : op ≤ 25) (h8 : op ≠ 8) (h9 : op ≠ 9) (a b c : Int) (ha : R64 a) (hb : R64 b) (w : World) :
    Calls Tryd.prog 12 #[.int .i64 (op : Int), .int .u64 a, .int .u64 b, .int .u64 c] w (Answers (apZ op a b c) w) := by
  match op, h1, h2, h8, h9 with
  | 1, _, _, _, _ => rw [← ap_1 c ha hb]; exact apply_1 a b c w
  | 2, _, _, _, _ => rw [← ap_2 c ha hb]; exact apply_2 a b c w
  | 3, _, _, _, _ => rw [← ap_3 c ha hb]; exact apply_3 a b c w
  | 4, _, _, _, _ => exact apply_4 a b c ha hb w
  | 5, _, _, _, _ => exact apply_5 a b c ha hb w
  | 6, _, _, _, _ => exact apply_6 a b c ha hb w
  | 7, _, _, _, _ => exact apply_7 a b c ha hb w
  | 8, _, _, h8, h9 => omega
  | 9, _, _, h8, h9 => omega
  | 10, _, _, _, _ => exact apply_10 a b c ha hb w
  | 11, _, _, _, _ => exact apply_11 a b c ha hb w
  | 12, _, _, _, _ => exact apply_12 a b c ha hb w
  | 13, _, _, _, _ => exact apply_13 a b c ha hb w
  | 14, _, _, _, _ => exact apply_14 a b c ha hb w
  | 15, _, _, _, _ => exact apply_15 a b c ha hb w
  | 16, _, _, _, _ => rw [← ap_16 c ha hb]; exact apply_16 a b c w
  | 17, _, _, _, _ => rw [← ap_17 c ha hb]; exact apply_17 a b c w
  | 18, _, _, _, _ => rw [← ap_18 c ha hb]; exact apply_18 a b c w
  | 19, _, _, _, _ => rw [← ap_19 c ha hb]; exact apply_19 a b c w
  | 20, _, _, _, _ => rw [← ap_20 c ha hb]; exact apply_20 a b c w
  | 21, _, _, _, _ => rw [← ap_21 c ha hb]; exact apply_21 a b c w
  | 22, _, _, _, _ => rw [← ap_22 c ha hb]; exact apply_22 a b c w
  | 23, _, _, _, _ => rw [← ap_23 c ha hb]; exact apply_23 a b c w
  | 24, _, _, _, _ => rw [← ap_24 c ha hb]; exact apply_24 a b c w
  | 25, _, _, _, _ => rw [← ap_25 c ha hb]; exact apply_25 a b c w
  | n + 26, _, h, _, _ => omega
/-- .. with its number as the caller spells it. -/
theorem apply_V (O : Int) (op : Nat) (hO : O = op) (h1 : 1 ≤ op) (h2 : op ≤ 25) (h8 : op ≠ 8) (h9 : op ≠ 9) (a b c : Int) (ha : R64 a) (hb : R64 b) (w : World) :
    Calls Tryd.prog 12 #[.int .i64 O, .int .u64 a, .int .u64 b, .int .u64 c] w (Answers (apZ op a b c) w) := by
  subst hO; exact apply_Z op h1 h2 h8 h9 a b c ha hb w
end Go.Proofs.YtmjlifbnndmjoaaDoor
