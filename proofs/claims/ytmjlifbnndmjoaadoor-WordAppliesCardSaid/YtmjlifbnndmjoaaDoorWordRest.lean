/-
  mootref01.Rest by its contract: bit by bit.
-/
import Derived.Test.YtmjlifbnndmjoaaDoorWordRef
import Derived.Deep.Cut
set_option linter.unusedVariables false
set_option linter.unusedSimpArgs false
namespace Go.Proofs.YtmjlifbnndmjoaaDoor
open Go.RowKit

theorem and1N (x : Nat) (h : x < 18446744073709551616) : bits .and .u64 (x : Int) 1 = ((x % 2 : Nat) : Int) := by
  rw [show (1 : Int) = ((1 : Nat) : Int) from rfl, bits_and_u64_nat _ _ h (by decide)]
  congr 1; exact Nat.and_one_is_mod x
/-- A bit of a number, as the reference takes it. -/
theorem bitN (x m : Nat) (h : x < 18446744073709551616) : bits .and .u64 ((x : Int) / 2 ^ m) 1 = ((x / 2 ^ m % 2 : Nat) : Int) := by
  rw [div_powN, and1N _ (Nat.lt_of_le_of_lt (Nat.div_le_self _ _) h)]
/-- What a round reckons, of what it finds. -/
theorem rest_a (Q R b : Nat) (qi ri bi : Int) (hq : qi = Q) (hr : ri = R) (hb : bi = b) (hb1 : b ≤ 1) :
    IntKind.u64.wrap (ri * 2) = ((2 * R % 18446744073709551616 : Nat) : Int) ∧ bits .or .u64 ((2 * R % 18446744073709551616 : Nat) : Int) bi = (((2 * R + b) % 18446744073709551616 : Nat) : Int) ∧
    IntKind.u64.wrap (qi * 2) = ((2 * Q % 18446744073709551616 : Nat) : Int) ∧ bits .or .u64 ((2 * Q % 18446744073709551616 : Nat) : Int) 1 = ((2 * Q % 18446744073709551616 + 1 : Nat) : Int) := by
  subst hq; subst hr; subst hb
  refine ⟨by rw [IntKind.wrap_u64]; omega, ?_, by rw [IntKind.wrap_u64]; omega, ?_⟩
  · rw [orN _ _ (by omega) (by omega), show 2 * R % 18446744073709551616 = R % 9223372036854775808 * 2 ^ 1 by omega, Dv.or_add _ _ _ (by omega)]; congr 1; omega
  · rw [show (1 : Int) = ((1 : Nat) : Int) from rfl, orN _ _ (by omega) (by omega), show 2 * Q % 18446744073709551616 = Q % 9223372036854775808 * 2 ^ 1 by omega, Dv.or_add _ _ _ (by omega)]
theorem rest_b (x n : Nat) (hx : x < 18446744073709551616) (hn : n < 18446744073709551616) : IntKind.u64.wrap ((x : Int) - (n : Int)) = (((x + 18446744073709551616 - n) % 18446744073709551616 : Nat) : Int) := by
  rw [IntKind.wrap_u64]; omega
set_option maxRecDepth 100000 in
set_option maxHeartbeats 4000000 in
theorem rest_calls (high low n : Nat) (hh : high < 18446744073709551616) (hl : low < 18446744073709551616) (hn : 0 < n) (hn64 : n < 18446744073709551616) (w : World) :
    Calls Tryd.prog 20 #[.int .u64 high, .int .u64 low, .int .u64 n] w fun e w' => e = .returned (.tuple #[.int .u64 (((high * 18446744073709551616 + low) / n % 18446744073709551616 : Nat) : Int), .int .u64 (((high * 18446744073709551616 + low) % n : Nat) : Int)]) ∧ w = w' := by
  obtain ⟨N, hN⟩ : ∃ N, N = high * 18446744073709551616 + low := ⟨_, rfl⟩
  rw [← hN]
  obtain ⟨qq, hqq⟩ : ∃ qq, qq = N / n % 18446744073709551616 := ⟨_, rfl⟩
  obtain ⟨rr, hrr⟩ : ∃ rr, rr = N % n := ⟨_, rfl⟩
  rw [← hqq, ← hrr]
  have HQQ := Lib.hid hqq
  have HRR := Lib.hid hrr
  clear hqq hrr
  have HN := Lib.hid hN
  have Hh := Lib.hid hh
  have Hl := Lib.hid hl
  have H64 := Lib.hid hn64
  clear hN hh hl hn64
  go_enter Tryd.func20, Tryd.ntmps20
  go_wp2
  go_loop [8, 9, 10] (fun q r i => ∃ (I qi ri : Int) (j Q R : Nat), i = .int .i64 I ∧ q = .int .u64 qi ∧ r = .int .u64 ri ∧ -1 ≤ I ∧ I ≤ 127 ∧ Hid (I = (j : Int) - 1) ∧ Hid (qi = (Q : Int)) ∧ Hid (ri = (R : Int)) ∧ Hid (Dv.Rs n (N / 2 ^ j) Q R)) (fun _ _ i => (intOf i + 1).toNat)
  case atStart => exact ⟨127, 0, 0, 128, 0, 0, rfl, rfl, rfl, by omega, by omega, rfl, rfl, rfl, by
    have h0 : N / 2 ^ 128 = 0 := Nat.div_eq_of_lt (by have := HN.out; have := Hh.out; have := Hl.out; omega)
    rw [h0]; exact ⟨by simp, by simp⟩⟩
  case round =>
    obtain ⟨I, qi, ri, j, Q, R, rfl, rfl, rfl, hI0, hI1, HI, Hq, Hr, HR⟩ := hrel
    by_cases h0 : 0 ≤ I
    · obtain ⟨m, hm⟩ := Int.eq_ofNat_of_zero_le h0
      obtain ⟨b, hb⟩ : ∃ b, b = N / 2 ^ m % 2 := ⟨_, rfl⟩
      by_cases h64 : 64 ≤ I
      · have EB : bits .and .u64 ((high : Int) / 2 ^ (I - 64).toNat) 1 = (b : Int) := by
          obtain ⟨k, hk⟩ : ∃ k, m = k + 64 := ⟨m - 64, by omega⟩
          rw [show (I - 64).toNat = k by omega, bitN _ _ Hh.out, hb, hk, HN.out, Dv.bit_hi _ _ _ Hl.out]
        have hb1 : b ≤ 1 := by rw [hb]; omega
        obtain ⟨bi, hbi⟩ : ∃ bi : Int, bi = (b : Int) := ⟨_, rfl⟩
        rw [← hbi] at EB
        obtain ⟨E2, E3, E4, E6⟩ := rest_a Q R b qi ri bi Hq.out Hr.out hbi hb1
        have hst := HR.out.next hn H64.out b hb1
        have hP : 2 * (N / 2 ^ j) + b = N / 2 ^ m := by rw [hb, show j = m + 1 by have := HI.out; omega]; exact (Dv.bit_step N m).symm
        rw [hP] at hst
        have hRn : R < 18446744073709551616 := by rw [HR.out.r]; exact Nat.lt_trans (Nat.mod_lt _ hn) H64.out
        have hRr := Hr.out
        have E5 := rest_b ((2 * R + b) % 18446744073709551616) n (Nat.mod_lt _ (by decide)) H64.out
        obtain ⟨rc, hrc⟩ : ∃ rc, rc = ((2 * R + b) % 18446744073709551616 + 18446744073709551616 - n) % 18446744073709551616 := ⟨_, rfl⟩
        rw [← hrc] at hst E5
        have hrb : (2 * R + b) % 18446744073709551616 < 18446744073709551616 := Nat.mod_lt _ (by decide)
        generalize (2 * R + b) % 18446744073709551616 = rbn at hst E3 E5 hrb
        obtain ⟨rb, hrbn⟩ : ∃ rb : Int, rb = (rbn : Int) := ⟨_, rfl⟩
        rw [← hrbn] at E3 E5
        obtain ⟨qb, hqb⟩ : ∃ qb, qb = 2 * Q % 18446744073709551616 + 1 := ⟨_, rfl⟩
        rw [← hqb] at hst E6
        generalize 2 * Q % 18446744073709551616 = qa at hst E4 E6
        generalize 2 * R % 18446744073709551616 = ra at E2 E3
        have HST := Lib.hid hst
        have hmI : I - 1 = (m : Int) - 1 := by rw [hm]
        have HMI := Lib.hid hmI
        have hrb0 : 0 ≤ rb := by omega
        by_cases ht : R / 9223372036854775808 = 1
        · have ET : ri / 9223372036854775808 = 1 := by omega
          have hY := HST.out.1 (.inl ht)
          have HY := Lib.hid hY
          clear hst hY ht hb hbi hb1 hP hRn hRr hrc hrb hqb hmI hm hrbn
          go_wp2
          go_round
          case rel => exact ⟨I - 1, _, _, m, _, _, rfl, rfl, rfl, by omega, by omega, HMI.out, rfl, rfl, HY.out⟩
          case measure => simp [intOf]; omega
        · have ET : ri / 9223372036854775808 = 0 := by omega
          by_cases hc : n ≤ rbn
          · have hY := HST.out.1 (.inr hc)
            have HY := Lib.hid hY
            have hc2 : (n : Int) ≤ rb := by omega
            clear hst hY ht hb hbi hb1 hP hRn hRr hrc hrb hqb hmI hm hc hrbn
            go_wp2
            go_round
            case rel => exact ⟨I - 1, _, _, m, _, _, rfl, rfl, rfl, by omega, by omega, HMI.out, rfl, rfl, HY.out⟩
            case measure => simp [intOf]; omega
          · have hY := HST.out.2 (by omega)
            have HY := Lib.hid hY
            have HRB := Lib.hid hrbn
            have hc2 : rb < (n : Int) := by omega
            clear hst hY ht hb hbi hb1 hP hRn hRr hrc hrb hqb hmI hm hc hrbn
            go_wp2
            go_round
            case rel => exact ⟨I - 1, _, _, m, _, _, rfl, rfl, rfl, by omega, by omega, HMI.out, rfl, HRB.out, HY.out⟩
            case measure => simp [intOf]; omega
      · have EB : bits .and .u64 ((low : Int) / 2 ^ I.toNat) 1 = (b : Int) := by
          rw [show I.toNat = m by omega, bitN _ _ Hl.out, hb, HN.out, Dv.bit_lo _ _ _ (by omega)]
        have hb1 : b ≤ 1 := by rw [hb]; omega
        obtain ⟨bi, hbi⟩ : ∃ bi : Int, bi = (b : Int) := ⟨_, rfl⟩
        rw [← hbi] at EB
        obtain ⟨E2, E3, E4, E6⟩ := rest_a Q R b qi ri bi Hq.out Hr.out hbi hb1
        have hst := HR.out.next hn H64.out b hb1
        have hP : 2 * (N / 2 ^ j) + b = N / 2 ^ m := by rw [hb, show j = m + 1 by have := HI.out; omega]; exact (Dv.bit_step N m).symm
        rw [hP] at hst
        have hRn : R < 18446744073709551616 := by rw [HR.out.r]; exact Nat.lt_trans (Nat.mod_lt _ hn) H64.out
        have hRr := Hr.out
        have E5 := rest_b ((2 * R + b) % 18446744073709551616) n (Nat.mod_lt _ (by decide)) H64.out
        obtain ⟨rc, hrc⟩ : ∃ rc, rc = ((2 * R + b) % 18446744073709551616 + 18446744073709551616 - n) % 18446744073709551616 := ⟨_, rfl⟩
        rw [← hrc] at hst E5
        have hrb : (2 * R + b) % 18446744073709551616 < 18446744073709551616 := Nat.mod_lt _ (by decide)
        generalize (2 * R + b) % 18446744073709551616 = rbn at hst E3 E5 hrb
        obtain ⟨rb, hrbn⟩ : ∃ rb : Int, rb = (rbn : Int) := ⟨_, rfl⟩
        rw [← hrbn] at E3 E5
        obtain ⟨qb, hqb⟩ : ∃ qb, qb = 2 * Q % 18446744073709551616 + 1 := ⟨_, rfl⟩
        rw [← hqb] at hst E6
        generalize 2 * Q % 18446744073709551616 = qa at hst E4 E6
        generalize 2 * R % 18446744073709551616 = ra at E2 E3
        have HST := Lib.hid hst
        have hmI : I - 1 = (m : Int) - 1 := by rw [hm]
        have HMI := Lib.hid hmI
        have hrb0 : 0 ≤ rb := by omega
        by_cases ht : R / 9223372036854775808 = 1
        · have ET : ri / 9223372036854775808 = 1 := by omega
          have hY := HST.out.1 (.inl ht)
          have HY := Lib.hid hY
          clear hst hY ht hb hbi hb1 hP hRn hRr hrc hrb hqb hmI hm hrbn
          go_wp2
          go_round
          case rel => exact ⟨I - 1, _, _, m, _, _, rfl, rfl, rfl, by omega, by omega, HMI.out, rfl, rfl, HY.out⟩
          case measure => simp [intOf]; omega
        · have ET : ri / 9223372036854775808 = 0 := by omega
          by_cases hc : n ≤ rbn
          · have hY := HST.out.1 (.inr hc)
            have HY := Lib.hid hY
            have hc2 : (n : Int) ≤ rb := by omega
            clear hst hY ht hb hbi hb1 hP hRn hRr hrc hrb hqb hmI hm hc hrbn
            go_wp2
            go_round
            case rel => exact ⟨I - 1, _, _, m, _, _, rfl, rfl, rfl, by omega, by omega, HMI.out, rfl, rfl, HY.out⟩
            case measure => simp [intOf]; omega
          · have hY := HST.out.2 (by omega)
            have HY := Lib.hid hY
            have HRB := Lib.hid hrbn
            have hc2 : rb < (n : Int) := by omega
            clear hst hY ht hb hbi hb1 hP hRn hRr hrc hrb hqb hmI hm hc hrbn
            go_wp2
            go_round
            case rel => exact ⟨I - 1, _, _, m, _, _, rfl, rfl, rfl, by omega, by omega, HMI.out, rfl, HRB.out, HY.out⟩
            case measure => simp [intOf]; omega
    · have hj : j = 0 := by have := HI.out; omega
      have hq : qi = (qq : Int) := by rw [Hq.out, HR.out.q, hj, HQQ.out]; simp
      have hr : ri = (rr : Int) := by rw [Hr.out, HR.out.r, hj, HRR.out]; simp
      subst hq
      subst hr
      clear hj HR
      go_wp2
      go_returns
      exact ⟨rfl, rfl⟩
end Go.Proofs.YtmjlifbnndmjoaaDoor
