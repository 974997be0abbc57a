/-
  The laws of 64-bit words, plain: no program.
-/
set_option linter.unusedVariables false
namespace Go.Proofs.YtmjlifbnndmjoaaDoor.Wrd
abbrev Wd := BitVec 64
def flag (b : Bool) : Wd := if b then 1 else 0
def neg (a : Wd) : Bool := a.msb
def absd (a : Wd) : Wd := if neg a then -a else a
def sdiv (a b : Wd) : Wd := if b = 0 then 0 else if neg a != neg b then -(absd a / absd b) else absd a / absd b
def smod (a b : Wd) : Wd := if b = 0 then 0 else if neg a then -(absd a % absd b) else absd a % absd b
def umod (a b : Wd) : Wd := if b = 0 then 0 else a % b
def pow (a : Wd) (n : Nat) : Wd := a ^ n
def sext (a b : Wd) : Wd := if 7 ≤ a.toNat then b else (b <<< (56 - 8 * a.toNat)).sshiftRight (56 - 8 * a.toNat)
def byt (a b : Wd) : Wd := if 7 < a.toNat then 0 else (b >>> (56 - 8 * a.toNat)) &&& 255
def shl (a b : Wd) : Wd := b <<< a.toNat
def shr (a b : Wd) : Wd := b >>> a.toNat
def sar (a b : Wd) : Wd := b.sshiftRight a.toNat
def ap (op : Nat) (a b c : Wd) : Wd :=
  match op with
  | 1 => a + b
  | 2 => a - b
  | 3 => a * b
  | 4 => a / b
  | 5 => sdiv a b
  | 6 => umod a b
  | 7 => smod a b
  | 8 => if c = 0 then 0 else BitVec.ofNat 64 ((a.toNat + b.toNat) % c.toNat)
  | 9 => if c = 0 then 0 else BitVec.ofNat 64 ((a.toNat * b.toNat) % c.toNat)
  | 10 => pow a b.toNat
  | 11 => sext a b
  | 12 => byt a b
  | 13 => shl a b
  | 14 => shr a b
  | 15 => sar a b
  | 16 => flag (a.ult b)
  | 17 => flag (b.ult a)
  | 18 => flag (a.slt b)
  | 19 => flag (b.slt a)
  | 20 => flag (a == b)
  | 21 => flag (a == 0)
  | 22 => a &&& b
  | 23 => a ||| b
  | 24 => a ^^^ b
  | 25 => ~~~ a
  | _ => 0

/-! WordGroups -/
theorem groups (a b c : Wd) : a + b = b + a ∧ (a + b) + c = a + (b + c) ∧ (a + b) - b = a ∧ (0 : Wd) - (0 - a) = a ∧ a * b = b * a ∧ (a * b) * c = a * (b * c) ∧ a * (b + c) = a * b + a * c ∧ a * 1 = a := by
  refine ⟨BitVec.add_comm _ _, BitVec.add_assoc _ _ _, BitVec.add_sub_cancel _ _, by simp, BitVec.mul_comm _ _, BitVec.mul_assoc _ _ _, BitVec.mul_add, by simp⟩
/-! WordBits -/
theorem disj (a b : Wd) (h : ∀ i, i < 64 → (a.getLsbD i && b.getLsbD i) = false) : a + b = a ||| b := by
  apply BitVec.add_eq_or_of_and_eq_zero
  apply BitVec.eq_of_getLsbD_eq; intro i hi
  rw [BitVec.getLsbD_and, h i hi]; simp
theorem nb (a : Wd) (i : Nat) (hi : i < 64) : (~~~ a).getLsbD i = !a.getLsbD i := by simp [hi]
theorem split_and (a b : Wd) : (a &&& b) + (a &&& ~~~ b) = a := by
  rw [disj _ _ (by intro i hi; rw [BitVec.getLsbD_and, BitVec.getLsbD_and, nb _ _ hi]; cases a.getLsbD i <;> cases b.getLsbD i <;> rfl)]
  apply BitVec.eq_of_getLsbD_eq; intro i hi
  rw [BitVec.getLsbD_or, BitVec.getLsbD_and, BitVec.getLsbD_and, nb _ _ hi]; cases a.getLsbD i <;> cases b.getLsbD i <;> rfl
theorem split_or (a b : Wd) : (a &&& ~~~ b) + b = a ||| b := by
  rw [disj _ _ (by intro i hi; rw [BitVec.getLsbD_and, nb _ _ hi]; cases a.getLsbD i <;> cases b.getLsbD i <;> rfl)]
  apply BitVec.eq_of_getLsbD_eq; intro i hi
  rw [BitVec.getLsbD_or, BitVec.getLsbD_and, nb _ _ hi, BitVec.getLsbD_or]; cases a.getLsbD i <;> cases b.getLsbD i <;> rfl
theorem and_add_or (a b : Wd) : (a &&& b) + (a ||| b) = a + b := by
  rw [← split_or a b, ← BitVec.add_assoc, split_and]
theorem xor_split (a b : Wd) : (a ^^^ b) + (a &&& b) = a ||| b := by
  rw [disj _ _ (by intro i hi; rw [BitVec.getLsbD_and, BitVec.getLsbD_xor]; cases a.getLsbD i <;> cases b.getLsbD i <;> rfl)]
  apply BitVec.eq_of_getLsbD_eq; intro i hi
  rw [BitVec.getLsbD_or, BitVec.getLsbD_and, BitVec.getLsbD_xor, BitVec.getLsbD_or]; cases a.getLsbD i <;> cases b.getLsbD i <;> rfl
theorem bits2 (a b : Wd) : a ^^^ b = (a ||| b) - (a &&& b) := by rw [← xor_split a b, BitVec.add_sub_cancel]
theorem bits1 (a b : Wd) : ~~~ (a &&& b) = ~~~ a ||| ~~~ b := by simp [BitVec.not_and]
theorem bits3 (a : Wd) : ~~~ a = (18446744073709551615 : Wd) - a := by
  rw [BitVec.not_eq_neg_add, show (18446744073709551615 : Wd) = -1 from by decide, BitVec.sub_eq_add_neg, BitVec.sub_eq_add_neg, BitVec.add_comm]; rfl
theorem bits4 (a : Wd) : ~~~ ~~~ a = a := by simp
/-! WordShifts -/
theorem two_pow (n : Nat) : ((2 : Wd) ^ n) = BitVec.twoPow 64 n := by
  induction n with
  | zero => decide
  | succ n ih =>
    rw [BitVec.pow_succ, ih]
    apply BitVec.eq_of_toNat_eq
    simp only [BitVec.toNat_mul, BitVec.toNat_twoPow]
    rw [Nat.pow_succ, Nat.mul_mod, Nat.mod_mod, ← Nat.mul_mod]; rfl
theorem shl_mul (a : Wd) (n : Nat) : a <<< n = a * (2 : Wd) ^ n := by rw [two_pow, BitVec.shiftLeft_eq_mul_twoPow]
theorem sar_not (a : Wd) (n : Nat) : (~~~ a).sshiftRight n = ~~~ (a.sshiftRight n) := by
  apply BitVec.eq_of_getLsbD_eq; intro i hi
  rw [nb _ _ hi, BitVec.getLsbD_sshiftRight, BitVec.getLsbD_sshiftRight, BitVec.msb_not]
  have : ¬ 64 ≤ i := by omega
  simp only [this, decide_false, Bool.not_false, Bool.true_and]
  split
  · rename_i h; rw [nb _ _ h]
  · simp
theorem shr_div (a : Wd) (n : Nat) (hn : n < 64) : a >>> n = a / (2 : Wd) ^ n := by
  rw [two_pow]
  apply BitVec.eq_of_toNat_eq
  rw [BitVec.toNat_ushiftRight, BitVec.toNat_udiv, BitVec.toNat_twoPow, Nat.shiftRight_eq_div_pow, Nat.mod_eq_of_lt (Nat.pow_lt_pow_right (by omega) hn)]
theorem sar_pos (a : Wd) (n : Nat) : (a >>> 1).sshiftRight n = (a >>> 1) >>> n := by
  rw [BitVec.sshiftRight_eq_of_msb_false]
  simp [BitVec.msb_ushiftRight]
theorem shl_big (a : Wd) (n : Nat) (hn : 64 ≤ n) : a <<< n = 0 := BitVec.shiftLeft_eq_zero hn
theorem shr_big (a : Wd) (n : Nat) (hn : 64 ≤ n) : a >>> n = 0 := BitVec.ushiftRight_eq_zero hn
/-! WordOrders -/
theorem top_toNat (a : Wd) : (a ^^^ 9223372036854775808).toNat = if a.toNat < 9223372036854775808 then a.toNat + 9223372036854775808 else a.toNat - 9223372036854775808 := by
  have e : a ^^^ 9223372036854775808 = a + 9223372036854775808 := by
    rw [bits2, ← and_add_or]
    have h2 : (a &&& 9223372036854775808) + (a &&& 9223372036854775808) = 0 := by
      apply BitVec.eq_of_toNat_eq
      rw [BitVec.toNat_add, BitVec.toNat_and]
      have e63 : (9223372036854775808 : Wd).toNat = 2 ^ 63 := by decide
      have hb : ∀ n : Nat, n &&& 2 ^ 63 = if n.testBit 63 then 2 ^ 63 else 0 := by
        intro n
        apply Nat.eq_of_testBit_eq; intro i
        rw [Nat.testBit_and, Nat.testBit_two_pow]
        cases h2 : n.testBit 63
        · rw [if_neg (by simp)]
          by_cases h : 63 = i
          · subst h; simp [h2]
          · simp [h]
        · rw [if_pos rfl, Nat.testBit_two_pow]
          by_cases h : 63 = i
          · subst h; rw [h2]; rfl
          · simp [h]
      rw [e63, hb]
      split <;> decide
    have : (a &&& 9223372036854775808) + (a ||| 9223372036854775808) = (a ||| 9223372036854775808) - (a &&& 9223372036854775808) + ((a &&& 9223372036854775808) + (a &&& 9223372036854775808)) := by
      rw [← BitVec.add_assoc, BitVec.sub_add_cancel, BitVec.add_comm]
    rw [this, h2]; simp
  rw [e, BitVec.toNat_add]
  have := a.isLt
  have h : (9223372036854775808 : Wd).toNat = 9223372036854775808 := by decide
  rw [h]
  split <;> omega
theorem toInt_nat (a : Wd) : a.toInt = if a.toNat < 9223372036854775808 then (a.toNat : Int) else (a.toNat : Int) - 18446744073709551616 := by
  rw [BitVec.toInt_eq_toNat_cond]
  have := a.isLt
  split <;> split <;> first | rfl | omega
theorem lt_top (a b : Wd) : a.slt b = (a ^^^ 9223372036854775808).ult (b ^^^ 9223372036854775808) := by
  rw [BitVec.slt_eq_decide, BitVec.ult, top_toNat, top_toNat, toInt_nat, toInt_nat]
  have := a.isLt; have := b.isLt
  rw [decide_eq_decide]
  split <;> split <;> omega
theorem eq_xor (a b : Wd) : (a == b) = (a ^^^ b == 0) := by
  by_cases h : a = b
  · subst h; simp
  · have h1 : (a == b) = false := by simp [h]
    have h2 : (a ^^^ b == 0) = false := by simpa using h
    rw [h1, h2]
theorem tri (a b : Wd) : flag (a.ult b) + flag (b.ult a) + flag (a == b) = 1 := by
  unfold flag
  have h1 : a.ult b = decide (a.toNat < b.toNat) := rfl
  have h2 : b.ult a = decide (b.toNat < a.toNat) := rfl
  have h3 : (a == b) = decide (a.toNat = b.toNat) := by
    by_cases h : a = b
    · subst h; simp
    · have : ¬ a.toNat = b.toNat := fun e => h (BitVec.eq_of_toNat_eq e)
      simp [h, this]
  rw [h1, h2, h3]
  rcases Nat.lt_trichotomy a.toNat b.toNat with h | h | h
  · rw [decide_eq_true h, decide_eq_false (by omega), decide_eq_false (by omega)]; rfl
  · rw [decide_eq_false (by omega), decide_eq_false (by omega), decide_eq_true h]; rfl
  · rw [decide_eq_false (by omega), decide_eq_true h, decide_eq_false (by omega)]; rfl

/-! WordParts, WordLaws -/
theorem ne_zero_toNat {b : Wd} (h : b ≠ 0) : 0 < b.toNat := by
  rcases Nat.eq_zero_or_pos b.toNat with h0 | h0
  · exact absurd (BitVec.eq_of_toNat_eq (by rw [h0]; rfl)) h
  · exact h0
theorem div_mod (a b : Wd) (_h : b ≠ 0) : a / b * b + a % b = a := by
  apply BitVec.eq_of_toNat_eq
  have := Nat.div_add_mod a.toNat b.toNat
  rw [BitVec.toNat_add, BitVec.toNat_mul, BitVec.toNat_udiv, BitVec.toNat_umod]
  have ha := a.isLt
  rw [Nat.mul_comm] at this
  have h1 : a.toNat / b.toNat * b.toNat < 2 ^ 64 := by omega
  rw [Nat.mod_eq_of_lt h1, this, Nat.mod_eq_of_lt ha]
theorem umod_lt (a b : Wd) (h : b ≠ 0) : (a % b).ult b = true := by
  show decide _ = true
  rw [BitVec.toNat_umod]
  exact decide_eq_true (Nat.mod_lt _ (ne_zero_toNat h))
theorem uparts (a b : Wd) (h : b ≠ 0) : a / b * b + umod a b = a := by unfold umod; rw [if_neg h]; exact div_mod a b h
theorem absd_ne {b : Wd} (h : b ≠ 0) : absd b ≠ 0 := by
  unfold absd; split
  · intro e; apply h
    have := congrArg (fun x : Wd => -x) e
    simpa using this
  · exact h
theorem neg_add' (x y : Wd) : -x + -y = -(x + y) := by rw [BitVec.neg_add, BitVec.sub_eq_add_neg]
theorem sparts (a b : Wd) (h : b ≠ 0) : sdiv a b * b + smod a b = a := by
  have e := div_mod (absd a) (absd b) (absd_ne h)
  unfold sdiv smod
  rw [if_neg h, if_neg h]
  unfold absd at *
  cases ha : neg a <;> cases hb : neg b <;> simp only [ha, hb, if_true, if_false, Bool.false_eq_true, bne_self_eq_false, Bool.true_bne, Bool.false_bne, Bool.not_false] at e ⊢
  · exact e
  · rw [BitVec.neg_mul, ← BitVec.mul_neg]; exact e
  · rw [BitVec.neg_mul, neg_add', e, BitVec.neg_neg]
  · have hq : ∀ q : Wd, q * b = -(q * -b) := fun q => by rw [BitVec.mul_neg, BitVec.neg_neg]
    rw [hq, neg_add', e, BitVec.neg_neg]
theorem byte_sum (A k : Nat) : A / 2 ^ (k + 8) * 2 ^ (k + 8) + A / 2 ^ k % 256 * 2 ^ k = A / 2 ^ k * 2 ^ k := by
  have e : A / 2 ^ (k + 8) = A / 2 ^ k / 256 := by rw [Nat.pow_add, ← Nat.div_div_eq_div_mul]
  rw [e, Nat.pow_add, Nat.mul_comm (2 ^ k) (2 ^ 8), ← Nat.mul_assoc, ← Nat.add_mul]
  congr 1
  have := Nat.div_add_mod (A / 2 ^ k) 256
  rw [Nat.mul_comm] at this
  exact this
/-- The sum of a word's first bytes, each at its place. -/
def ps (a : Wd) : Nat → Wd
  | 0 => 0
  | i + 1 => ps a i + shl (BitVec.ofNat 64 (56 - 8 * i)) (byt (BitVec.ofNat 64 i) a)
theorem byt_toNat (a : Wd) (i : Nat) (h : i < 8) : (byt (BitVec.ofNat 64 i) a).toNat = a.toNat / 2 ^ (56 - 8 * i) % 256 := by
  unfold byt
  have e : (BitVec.ofNat 64 i).toNat = i := by rw [BitVec.toNat_ofNat]; omega
  rw [e, if_neg (by omega), BitVec.toNat_and, BitVec.toNat_ushiftRight, Nat.shiftRight_eq_div_pow]
  exact Nat.and_two_pow_sub_one_eq_mod (a.toNat / 2 ^ (56 - 8 * i)) 8
theorem ps_toNat (a : Wd) (i : Nat) (h : i ≤ 8) : (ps a i).toNat = a.toNat / 2 ^ (64 - 8 * i) * 2 ^ (64 - 8 * i) := by
  induction i with
  | zero =>
    have : a.toNat / 2 ^ (64 - 8 * 0) = 0 := Nat.div_eq_of_lt a.isLt
    rw [this]; rfl
  | succ i ih =>
    have ih := ih (by omega)
    show (ps a i + shl (BitVec.ofNat 64 (56 - 8 * i)) (byt (BitVec.ofNat 64 i) a)).toNat = _
    have e1 : (BitVec.ofNat 64 (56 - 8 * i)).toNat = 56 - 8 * i := by rw [BitVec.toNat_ofNat]; omega
    have hb := byte_sum a.toNat (56 - 8 * i)
    have e2 : 56 - 8 * i + 8 = 64 - 8 * i := by omega
    have e3 : 64 - 8 * (i + 1) = 56 - 8 * i := by omega
    rw [e2] at hb
    rw [e3, BitVec.toNat_add, ih]
    unfold shl
    rw [e1, BitVec.toNat_shiftLeft, byt_toNat a i (by omega), Nat.shiftLeft_eq]
    have hle : a.toNat / 2 ^ (56 - 8 * i) * 2 ^ (56 - 8 * i) ≤ a.toNat := Nat.div_mul_le_self _ _
    have ha := a.isLt
    have h6 : a.toNat / 2 ^ (56 - 8 * i) % 256 * 2 ^ (56 - 8 * i) < 2 ^ 64 := by omega
    rw [Nat.mod_eq_of_lt h6, hb, Nat.mod_eq_of_lt (by omega)]
theorem ps_all (a : Wd) : ps a 8 = a := by
  apply BitVec.eq_of_toNat_eq
  rw [ps_toNat a 8 (by omega)]
  simp
theorem ss (b : Wd) (n : Nat) (hn : n < 64) : ((b <<< n).sshiftRight n) <<< n = b <<< n := by
  apply BitVec.eq_of_getLsbD_eq; intro j hj
  rw [BitVec.getLsbD_shiftLeft, BitVec.getLsbD_sshiftRight, BitVec.getLsbD_shiftLeft, BitVec.getLsbD_shiftLeft]
  by_cases h : j < n
  · simp [h]
  · have : ¬ 64 ≤ j - n := by omega
    have e : n + (j - n) = j := by omega
    simp [h, this, e, hj]
theorem sext_twice (a b : Wd) : sext a (sext a b) = sext a b := by
  unfold sext
  by_cases h : 7 ≤ a.toNat
  · rw [if_pos h, if_pos h]
  · rw [if_neg h, if_neg h, ss _ _ (by omega)]
theorem sext_far (a b : Wd) (h : 7 ≤ a.toNat) : sext a b = b := by unfold sext; rw [if_pos h]
theorem byt_far (a b : Wd) (h : 7 < a.toNat) : byt a b = 0 := by unfold byt; rw [if_pos h]
theorem shl_shl (a : Wd) (n : Nat) : (a <<< n) <<< 1 = a <<< (n + 1) := by rw [BitVec.shiftLeft_add]
theorem sar_sar (a : Wd) (n : Nat) : (a.sshiftRight n).sshiftRight 1 = a.sshiftRight (n + 1) := by rw [BitVec.sshiftRight_add]
theorem xor_xor (a b : Wd) : (a ^^^ b) ^^^ b = a := by rw [BitVec.xor_assoc]; simp
end Go.Proofs.YtmjlifbnndmjoaaDoor.Wrd
