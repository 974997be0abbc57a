/-
  The rest of both Apply, and Args: all operations of one contract.
-/
import Derived.Test.YtmjlifbnndmjoaaDoorApRef
set_option linter.unusedVariables false
set_option linter.unusedSimpArgs false
namespace Go.Proofs.YtmjlifbnndmjoaaDoor
open Go.RowKit

theorem rapply_3 (a b c : Nat) (hab : a < 18446744073709551616 ∧ b < 18446744073709551616) (w : World) : Calls Tryd.prog 13 #[.int .i64 3, .int .u64 a, .int .u64 b, .int .u64 c] w (AnswersR ((a * b % 18446744073709551616 : Nat) : Int) w) := by
  obtain ⟨l, hl⟩ : ∃ l, a * b % 18446744073709551616 = l := ⟨_, rfl⟩
  rw [hl]
  have Hl := Lib.hid hl
  have H := Lib.hid hab
  clear hl hab
  go_enter Tryd.func13, Tryd.ntmps13
  go_wp2_with (go_at_call 7; (with_reducible refine (rwide_V a b _ l H.out rfl Hl.out _).mono ?_); rintro e w' ⟨rfl, rfl⟩)
  go_returns
  exact ⟨rfl, rfl⟩
/-- Addmod's and Mulmod's words. -/
theorem ap_8 (a b c : Nat) (ha : a < 18446744073709551616) (hb : b < 18446744073709551616) (hc : c < 18446744073709551616) (h0 : 0 < c) : apZ 8 a b c = (((a + b) % c : Nat) : Int) := by
  show val (if W64 (c : Int) = 0 then 0 else BitVec.ofNat 64 (((W64 (a : Int)).toNat + (W64 (b : Int)).toNat) % (W64 (c : Int)).toNat)) = _
  rw [toNat_wA ha, toNat_wA hb, toNat_wA hc, if_neg (fun h => by have := (zero_iff ⟨by omega, by omega⟩).1 h; omega)]
  unfold val
  rw [BitVec.toNat_ofNat, Nat.mod_eq_of_lt (Nat.lt_trans (Nat.mod_lt _ h0) hc)]
theorem ap_9 (a b c : Nat) (ha : a < 18446744073709551616) (hb : b < 18446744073709551616) (hc : c < 18446744073709551616) (h0 : 0 < c) : apZ 9 a b c = ((a * b % c : Nat) : Int) := by
  show val (if W64 (c : Int) = 0 then 0 else BitVec.ofNat 64 (((W64 (a : Int)).toNat * (W64 (b : Int)).toNat) % (W64 (c : Int)).toNat)) = _
  rw [toNat_wA ha, toNat_wA hb, toNat_wA hc, if_neg (fun h => by have := (zero_iff ⟨by omega, by omega⟩).1 h; omega)]
  unfold val
  rw [BitVec.toNat_ofNat, Nat.mod_eq_of_lt (Nat.lt_trans (Nat.mod_lt _ h0) hc)]
theorem ap_80 (a b : Int) : apZ 8 a b 0 = 0 := by show val (Wrd.ap 8 (W64 a) (W64 b) (W64 0)) = 0; rw [w64_zero]; rfl
theorem ap_90 (a b : Int) : apZ 9 a b 0 = 0 := by show val (Wrd.ap 9 (W64 a) (W64 b) (W64 0)) = 0; rw [w64_zero]; rfl
theorem rest_1 (low n q r : Nat) (h : low < 18446744073709551616 ∧ 0 < n ∧ n < 18446744073709551616) (hq : (18446744073709551616 + low) / n % 18446744073709551616 = q) (hr : (18446744073709551616 + low) % n = r) (w : World) :
    Calls Tryd.prog 20 #[.int .u64 1, .int .u64 low, .int .u64 n] w fun e w' => e = .returned (.tuple #[.int .u64 (q : Int), .int .u64 (r : Int)]) ∧ w = w' :=
  rest_V 1 low n q r ⟨by decide, h.1, h.2.1, h.2.2⟩ (by rw [Nat.one_mul]; exact hq) (by rw [Nat.one_mul]; exact hr) w
theorem rest_0 (low n q r : Nat) (h : low < 18446744073709551616 ∧ 0 < n ∧ n < 18446744073709551616) (hq : low / n % 18446744073709551616 = q) (hr : low % n = r) (w : World) :
    Calls Tryd.prog 20 #[.int .u64 0, .int .u64 low, .int .u64 n] w fun e w' => e = .returned (.tuple #[.int .u64 (q : Int), .int .u64 (r : Int)]) ∧ w = w' :=
  rest_V 0 low n q r ⟨by decide, h.1, h.2.1, h.2.2⟩ (by rw [Nat.zero_mul, Nat.zero_add]; exact hq) (by rw [Nat.zero_mul, Nat.zero_add]; exact hr) w
theorem one_true (w : World) : Calls Tryd.prog 29 #[.bool true] w fun e w' => e = .returned (.int .u64 1) ∧ w = w' := one_calls true w
theorem one_false (w : World) : Calls Tryd.prog 29 #[.bool false] w fun e w' => e = .returned (.int .u64 0) ∧ w = w' := one_calls false w
set_option maxRecDepth 100000 in
theorem rapply_80 (op : Int) (hop : op = 8 ∨ op = 9) (a b : Int) (w : World) : Calls Tryd.prog 13 #[.int .i64 op, .int .u64 a, .int .u64 b, .int .u64 0] w (AnswersR 0 w) := by
  rcases hop with rfl | rfl
  all_goals
    go_enter Tryd.func13, Tryd.ntmps13
    go_wp2
    go_returns
    exact ⟨rfl, rfl⟩
theorem rapply_9 (a b c : Nat) (hab : a < 18446744073709551616 ∧ b < 18446744073709551616) (hc : 0 < c ∧ c < 18446744073709551616) (w : World) : Calls Tryd.prog 13 #[.int .i64 9, .int .u64 a, .int .u64 b, .int .u64 c] w (AnswersR ((a * b % c : Nat) : Int) w) := by
  obtain ⟨h, hh⟩ : ∃ h, a * b / 18446744073709551616 = h := ⟨_, rfl⟩
  obtain ⟨l, hl⟩ : ∃ l, a * b % 18446744073709551616 = l := ⟨_, rfl⟩
  obtain ⟨r, hr⟩ : ∃ r, a * b % c = r := ⟨_, rfl⟩
  have hN : h * 18446744073709551616 + l = a * b := by omega
  have hr2 : (h * 18446744073709551616 + l) % c = r := by rw [hN, hr]
  rw [hr]
  have hm : h ≤ a := by rw [← hh]; exact Nat.div_le_of_le_mul (by rw [Nat.mul_comm a b]; exact Nat.mul_le_mul_right a (Nat.le_of_lt hab.2))
  have H2 : Hid (h < 18446744073709551616 ∧ l < 18446744073709551616 ∧ 0 < c ∧ c < 18446744073709551616) := ⟨Nat.lt_of_le_of_lt hm hab.1, by omega, hc.1, hc.2⟩
  have H := Lib.hid hab
  have Hh := Lib.hid hh
  have Hl := Lib.hid hl
  have Hr := Lib.hid hr2
  have c0 : ((c : Int) == 0) = false := by simp; omega
  clear hN hm hh hl hr hr2 hab hc
  go_enter Tryd.func13, Tryd.ntmps13
  go_wp2_with (first
    | (go_at_call 7; (with_reducible refine (rwide_V a b h l H.out Hh.out Hl.out _).mono ?_); rintro e w' ⟨rfl, rfl⟩)
    | (go_at_call 20; (with_reducible refine (rest_V h l c _ r H2.out rfl Hr.out _).mono ?_); rintro e w' ⟨rfl, rfl⟩))
  go_returns
  exact ⟨rfl, rfl⟩
theorem rapply_8 (a b c : Nat) (hab : a < 18446744073709551616 ∧ b < 18446744073709551616) (hc : 0 < c ∧ c < 18446744073709551616) (w : World) : Calls Tryd.prog 13 #[.int .i64 8, .int .u64 a, .int .u64 b, .int .u64 c] w (AnswersR (((a + b) % c : Nat) : Int) w) := by
  obtain ⟨s, hs⟩ : ∃ s, (a + b) % 18446744073709551616 = s := ⟨_, rfl⟩
  obtain ⟨r, hr⟩ : ∃ r, (a + b) % c = r := ⟨_, rfl⟩
  rw [hr]
  have H2 : Hid (s < 18446744073709551616 ∧ 0 < c ∧ c < 18446744073709551616) := ⟨by omega, hc.1, hc.2⟩
  have H := Lib.hid hab
  have c0 : ((c : Int) == 0) = false := by simp; omega
  have ES : IntKind.u64.wrap ((a : Int) + (b : Int)) = (s : Int) := by rw [IntKind.wrap_u64]; omega
  by_cases hlt : s < a
  · have hd : decide ((s : Int) < (a : Int)) = true := by simp; omega
    have hr2 : (18446744073709551616 + s) % c = r := by rw [show 18446744073709551616 + s = a + b by omega, hr]
    have Hr := Lib.hid hr2
    clear hs hr hr2 hab hc
    go_enter Tryd.func13, Tryd.ntmps13
    go_wp2_with (first
      | (go_at_call 7; (with_reducible refine (rwide_V a b _ _ H.out rfl rfl _).mono ?_); rintro e w' ⟨rfl, rfl⟩)
      | (go_at_call 29; (with_reducible refine (one_true _).mono ?_); rintro e w' ⟨rfl, rfl⟩)
      | (go_at_call 20; (with_reducible refine (rest_1 s c _ r H2.out rfl Hr.out _).mono ?_); rintro e w' ⟨rfl, rfl⟩))
    go_returns
    exact ⟨rfl, rfl⟩
  · have hd : decide ((s : Int) < (a : Int)) = false := by simp; omega
    have hr2 : s % c = r := by rw [show s = a + b by omega, hr]
    have Hr := Lib.hid hr2
    clear hs hr hr2 hab hc
    go_enter Tryd.func13, Tryd.ntmps13
    go_wp2_with (first
      | (go_at_call 7; (with_reducible refine (rwide_V a b _ _ H.out rfl rfl _).mono ?_); rintro e w' ⟨rfl, rfl⟩)
      | (go_at_call 29; (with_reducible refine (one_false _).mono ?_); rintro e w' ⟨rfl, rfl⟩)
      | (go_at_call 20; (with_reducible refine (rest_0 s c _ r H2.out rfl Hr.out _).mono ?_); rintro e w' ⟨rfl, rfl⟩))
    go_returns
    exact ⟨rfl, rfl⟩
theorem pw_mul (x y : BitVec 64) : IntKind.u64.wrap (val x * val y) = val (x * y) := (val_mul x y).symm
set_option maxRecDepth 100000 in
set_option maxHeartbeats 2000000 in
theorem rapply_10 (A : BitVec 64) (N : Nat) (hN : N < 18446744073709551616) (c : Int) (w : World) : Calls Tryd.prog 13 #[.int .i64 10, .int .u64 (val A), .int .u64 N, .int .u64 c] w (AnswersR (val (A ^ N)) w) := by
  have HN := Lib.hid hN
  clear hN
  go_enter Tryd.func13, Tryd.ntmps13
  go_wp2
  go_loop [16, 17] (fun p i => ∃ (I : Int) (j : Nat) (P : BitVec 64), p = .int .u64 (val P) ∧ i = .int .i64 I ∧ -1 ≤ I ∧ I ≤ 63 ∧ Hid (I = (j : Int) - 1) ∧ Hid (P = A ^ (N / 2 ^ j))) (fun _ i => (intOf i + 1).toNat)
  case atStart => exact ⟨63, 64, 1, rfl, rfl, by omega, by omega, rfl, by
    have : N / 2 ^ 64 = 0 := Nat.div_eq_of_lt HN.out
    show (1 : BitVec 64) = _; rw [this, BitVec.pow_zero]; rfl⟩
  case round =>
    obtain ⟨I, j, P, rfl, rfl, hI0, hI1, HI, HP⟩ := hrel
    by_cases h0 : 0 ≤ I
    · obtain ⟨m, hm⟩ := Int.eq_ofNat_of_zero_le h0
      have hj : j = m + 1 := by have := HI.out; omega
      have hst := Wrd.pow_bit A N m
      rw [← hj, ← HP.out] at hst
      have EB : bits .and .u64 ((N : Int) / 2 ^ I.toNat) 1 = ((N / 2 ^ m % 2 : Nat) : Int) := by rw [show I.toNat = m by omega]; exact bitN N m HN.out
      have hmI : Hid (I - 1 = (m : Int) - 1) := by show _ = _; rw [hm]
      have E1 : IntKind.u64.wrap (val P * val P) = val (P * P) := pw_mul P P
      by_cases hb : N / 2 ^ m % 2 = 1
      · rw [if_pos hb] at hst
        rw [hb] at EB
        have EB2 : bits .and .u64 ((N : Int) / 2 ^ I.toNat) 1 = 1 := EB
        have E2 : IntKind.u64.wrap (val (P * P) * val A) = val (P * P * A) := pw_mul _ _
        have HS := Lib.hid hst
        clear hst hb EB hm hj
        go_wp2
        go_round
        case rel => exact ⟨I - 1, m, P * P * A, rfl, rfl, by omega, by omega, hmI.out, HS.out.symm⟩
        case measure => simp [intOf]; omega
      · rw [if_neg hb, show P * P * 1 = P * P by simp] at hst
        rw [show N / 2 ^ m % 2 = 0 by omega] at EB
        have EB2 : bits .and .u64 ((N : Int) / 2 ^ I.toNat) 1 = 0 := EB
        have HS := Lib.hid hst
        clear hst hb EB hm hj
        go_wp2
        go_round
        case rel => exact ⟨I - 1, m, P * P, rfl, rfl, by omega, by omega, hmI.out, HS.out.symm⟩
        case measure => simp [intOf]; omega
    · have hj : j = 0 := by have := HI.out; omega
      have hP : P = A ^ N := by rw [HP.out, hj]; simp
      subst hP
      clear hj HP
      go_wp2
      go_returns
      exact ⟨rfl, rfl⟩
theorem apply_8 (a b c : Int) (r : Int) (h : ∀ w : World, Calls Tryd.prog 24 #[.int .i64 8, .int .u64 a, .int .u64 b, .int .u64 c] w fun e w' => e = .returned (.int .u64 r) ∧ Below w.heap.size w w') (w : World) :
    Calls Tryd.prog 12 #[.int .i64 8, .int .u64 a, .int .u64 b, .int .u64 c] w fun e w' => e = .returned (.tuple #[.int .u64 r, .nilIface]) ∧ Below w.heap.size w w' := by
  have H : Hid (∀ w : World, Calls Tryd.prog 24 #[.int .i64 8, .int .u64 a, .int .u64 b, .int .u64 c] w fun e w' => e = .returned (.int .u64 r) ∧ Below w.heap.size w w') := h
  clear h
  go_enter Tryd.func12, Tryd.ntmps12
  go_upto_if 22 with (fail)
  refine wp_cond_true rfl ?_
  go_upto_if 22 with (fail)
  refine wp_cond_true rfl ?_
  refine wp_exit ?_
  conv => whnf
  go_wp2_with (go_at_call 24; (with_reducible refine (H.out _).mono ?_); rintro e1 w1 ⟨rfl, hb1⟩; obtain ⟨hc1, hf1⟩ := bcell hb1; have hz1 := hb1.size; (try simp at hz1))
  go_returns
  exact ⟨rfl, hb1⟩
theorem apply_9 (a b c : Int) (r : Int) (h : ∀ w : World, Calls Tryd.prog 24 #[.int .i64 9, .int .u64 a, .int .u64 b, .int .u64 c] w fun e w' => e = .returned (.int .u64 r) ∧ Below w.heap.size w w') (w : World) :
    Calls Tryd.prog 12 #[.int .i64 9, .int .u64 a, .int .u64 b, .int .u64 c] w fun e w' => e = .returned (.tuple #[.int .u64 r, .nilIface]) ∧ Below w.heap.size w w' := by
  have H : Hid (∀ w : World, Calls Tryd.prog 24 #[.int .i64 9, .int .u64 a, .int .u64 b, .int .u64 c] w fun e w' => e = .returned (.int .u64 r) ∧ Below w.heap.size w w') := h
  clear h
  go_enter Tryd.func12, Tryd.ntmps12
  go_upto_if 22 with (fail)
  refine wp_cond_false rfl ?_
  go_upto_if 22 with (fail)
  refine wp_cond_true rfl ?_
  refine wp_exit ?_
  conv => whnf
  go_wp2_with (go_at_call 24; (with_reducible refine (H.out _).mono ?_); rintro e1 w1 ⟨rfl, hb1⟩; obtain ⟨hc1, hf1⟩ := bcell hb1; have hz1 := hb1.size; (try simp at hz1))
  go_returns
  exact ⟨rfl, hb1⟩
end Go.Proofs.YtmjlifbnndmjoaaDoor
