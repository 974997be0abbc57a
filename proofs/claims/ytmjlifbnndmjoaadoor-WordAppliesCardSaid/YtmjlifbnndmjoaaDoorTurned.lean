/-
  mootref01.turned by its contracts: 11 to 15, bit by bit.
-/
import Derived.Test.YtmjlifbnndmjoaaDoorWordMod
import Derived.Test.YtmjlifbnndmjoaaDoorBitz
set_option linter.unusedVariables false
set_option linter.unusedSimpArgs false
namespace Go.Proofs.YtmjlifbnndmjoaaDoor
open Go.RowKit

/-- A bit of a word, as the reference takes it. -/
theorem bitT (B : BitVec 64) (f : Nat) (h : B.getLsbD f = true) : bits .and .u64 (val B / 2 ^ f) 1 = 1 := by
  rw [Wrd.lsb_val, decide_eq_true_eq] at h
  unfold val; rw [bitN _ _ B.isLt, h]; rfl
theorem bitF (B : BitVec 64) (f : Nat) (h : B.getLsbD f = false) : bits .and .u64 (val B / 2 ^ f) 1 = 0 := by
  rw [Wrd.lsb_val, decide_eq_false_iff_not] at h
  unfold val; rw [bitN _ _ B.isLt]; omega
theorem lowP (k : Nat) (hk : k < 64) : IntKind.u64.wrap (2 ^ k) = ((2 ^ k : Nat) : Int) := by
  rw [show (2 : Int) ^ k = ((2 ^ k : Nat) : Int) by rw [Int.natCast_pow]; rfl, wrapN, Nat.mod_eq_of_lt]
  exact Nat.pow_lt_pow_right (n := 64) (by decide) hk
theorem lowT (T : BitVec 64) (k : Nat) (hk : k < 64) (h : T.getLsbD k = true) : bits .or .u64 (Wrd.low T k : Int) ((2 ^ k : Nat) : Int) = (Wrd.low T (k + 1) : Int) := by
  have h1 : 2 ^ k < 18446744073709551616 := Nat.pow_lt_pow_right (n := 64) (by decide) hk
  rw [orN _ _ (Nat.lt_trans (Wrd.low_lt T k) h1) h1, Wrd.low_or, Wrd.low_succ, h]; rfl
theorem lowF (T : BitVec 64) (k : Nat) (h : T.getLsbD k = false) : Wrd.low T k = Wrd.low T (k + 1) := by rw [Wrd.low_succ, h]; simp

theorem toNat_wA {A : Nat} (h : A < 18446744073709551616) : (W64 (A : Int)).toNat = A := by
  rw [toNat_w64 ⟨by omega, by omega⟩]; omega

set_option maxRecDepth 100000 in
set_option maxHeartbeats 4000000 in
theorem turned_11 (A : Nat) (hA : A < 18446744073709551616) (B : BitVec 64) (w : World) :
    Calls Tryd.prog 30 #[.int .i64 11, .int .u64 A, .int .u64 (val B)] w fun e w' => e = .returned (.int .u64 (val (Wrd.sext (W64 A) B))) ∧ w = w' := by
  obtain ⟨b, hb⟩ : ∃ b, b = val B := ⟨_, rfl⟩
  have hA2 := Lib.hid hA
  go_enter Tryd.func30, Tryd.ntmps30
  go_wp2
  go_loop [7, 8] (fun o i => ∃ k : Nat, k ≤ 64 ∧ i = .int .u64 k ∧ o = .int .u64 (Wrd.low (Wrd.sext (W64 A) B) k : Int)) (fun _ i => 64 - (intOf i).toNat)
  case atStart => exact ⟨0, by omega, rfl, by rw [Wrd.low_zero]; rfl⟩
  case round =>
    obtain ⟨k, hk, rfl, rfl⟩ := hrel
    by_cases hlt : k < 64
    · by_cases h6 : A < 8
      · obtain ⟨f, hf⟩ : ∃ f, f = min k (8 * A + 7) := ⟨_, rfl⟩
        have hf64 : f < 64 := by omega
        have EF0 : min (k : Int) (8 * (A : Int) + 7) = (f : Int) := by omega
        clear hf
        have hbb : (Wrd.sext (W64 A) B).getLsbD k = B.getLsbD f := by
          rw [Wrd.bit_11 _ _ _ hlt]; simp only [toNat_wA hA]
          first | (rw [decide_eq_true (by omega), Bool.true_and]; congr 1; omega) | (rw [if_pos (by omega)]; congr 1; omega) | (rw [if_neg (by omega)]; congr 1; omega)
        cases hB : B.getLsbD f
        · have EB := bitF B f hB
          have hbit := hbb.trans hB
          clear hbb hB
          have EO := Lib.hid (lowF _ k hbit)
          clear hbit
          go_wp2
          go_round
          case rel => exact ⟨k + 1, by omega, by go_num, by rw [← EO.out]⟩
          case measure => simp [intOf]; omega
        · have EB := bitT B f hB
          have hbit := hbb.trans hB
          clear hbb hB
          have EP := lowP k hlt
          have EO := Lib.hid (lowT _ k hlt hbit)
          clear hbit
          go_wp2
          go_round
          case rel => exact ⟨k + 1, by omega, by go_num, by rw [← EO.out]; rfl⟩
          case measure => simp [intOf]; omega
      · have hbb : (Wrd.sext (W64 A) B).getLsbD k = B.getLsbD k := by
          rw [Wrd.bit_11 _ _ _ hlt]; simp only [toNat_wA hA]; rw [if_neg (by omega)]
        cases hB : B.getLsbD k
        · have EB := bitF B k hB
          have hbit := hbb.trans hB
          clear hbb hB
          have EO := Lib.hid (lowF _ k hbit)
          clear hbit
          go_wp2
          go_round
          case rel => exact ⟨k + 1, by omega, by go_num, by rw [← EO.out]⟩
          case measure => simp [intOf]; omega
        · have EB := bitT B k hB
          have hbit := hbb.trans hB
          clear hbb hB
          have EP := lowP k hlt
          have EO := Lib.hid (lowT _ k hlt hbit)
          clear hbit
          go_wp2
          go_round
          case rel => exact ⟨k + 1, by omega, by go_num, by rw [← EO.out]; rfl⟩
          case measure => simp [intOf]; omega
    · have hk64 : k = 64 := by omega
      subst hk64
      clear hlt hk
      have E : (Wrd.low (Wrd.sext (W64 A) B) 64 : Int) = val (Wrd.sext (W64 A) B) := by rw [Wrd.low_all]; rfl
      go_wp2
      go_returns
      exact ⟨rfl, rfl⟩

set_option maxRecDepth 100000 in
set_option maxHeartbeats 4000000 in
theorem turned_12 (A : Nat) (hA : A < 18446744073709551616) (B : BitVec 64) (w : World) :
    Calls Tryd.prog 30 #[.int .i64 12, .int .u64 A, .int .u64 (val B)] w fun e w' => e = .returned (.int .u64 (val (Wrd.byt (W64 A) B))) ∧ w = w' := by
  obtain ⟨b, hb⟩ : ∃ b, b = val B := ⟨_, rfl⟩
  have hA2 := Lib.hid hA
  go_enter Tryd.func30, Tryd.ntmps30
  go_wp2
  go_loop [7, 8] (fun o i => ∃ k : Nat, k ≤ 64 ∧ i = .int .u64 k ∧ o = .int .u64 (Wrd.low (Wrd.byt (W64 A) B) k : Int)) (fun _ i => 64 - (intOf i).toNat)
  case atStart => exact ⟨0, by omega, rfl, by rw [Wrd.low_zero]; rfl⟩
  case round =>
    obtain ⟨k, hk, rfl, rfl⟩ := hrel
    by_cases hlt : k < 64
    · by_cases h6 : k < 8
      · by_cases h8 : A < 8
        · obtain ⟨f, hf⟩ : ∃ f, f = 56 - 8 * min A 7 + k := ⟨_, rfl⟩
          have hf64 : f < 64 := by omega
          have EF0 : 56 - 8 * min (A : Int) 7 + (k : Int) = (f : Int) := by omega
          clear hf
          have hbb : (Wrd.byt (W64 A) B).getLsbD k = B.getLsbD f := by
            rw [Wrd.bit_12 _ _ _ hlt]; simp only [toNat_wA hA]
            first | (rw [decide_eq_true (by omega), Bool.true_and]; congr 1; omega) | (rw [if_pos (by omega)]; congr 1; omega) | (rw [if_neg (by omega)]; congr 1; omega)
          cases hB : B.getLsbD f
          · have EB := bitF B f hB
            have hbit := hbb.trans hB
            clear hbb hB
            have EO := Lib.hid (lowF _ k hbit)
            clear hbit
            go_wp2
            go_round
            case rel => exact ⟨k + 1, by omega, by go_num, by rw [← EO.out]⟩
            case measure => simp [intOf]; omega
          · have EB := bitT B f hB
            have hbit := hbb.trans hB
            clear hbb hB
            have EP := lowP k hlt
            have EO := Lib.hid (lowT _ k hlt hbit)
            clear hbit
            go_wp2
            go_round
            case rel => exact ⟨k + 1, by omega, by go_num, by rw [← EO.out]; rfl⟩
            case measure => simp [intOf]; omega
        · have hbit : (Wrd.byt (W64 A) B).getLsbD k = false := by rw [Wrd.bit_12 _ _ _ hlt]; simp only [toNat_wA hA]; first | (rw [decide_eq_false (by omega)]; rfl) | (rw [if_neg (by omega)])
          have EO := Lib.hid (lowF _ k hbit)
          clear hbit
          go_wp2
          go_round
          case rel => exact ⟨k + 1, by omega, by go_num, by rw [← EO.out]⟩
          case measure => simp [intOf]; omega
      · have hbit : (Wrd.byt (W64 A) B).getLsbD k = false := by rw [Wrd.bit_12 _ _ _ hlt]; simp only [toNat_wA hA]; first | (rw [decide_eq_false (by omega)]; rfl) | (rw [if_neg (by omega)])
        have EO := Lib.hid (lowF _ k hbit)
        clear hbit
        go_wp2
        go_round
        case rel => exact ⟨k + 1, by omega, by go_num, by rw [← EO.out]⟩
        case measure => simp [intOf]; omega
    · have hk64 : k = 64 := by omega
      subst hk64
      clear hlt hk
      have E : (Wrd.low (Wrd.byt (W64 A) B) 64 : Int) = val (Wrd.byt (W64 A) B) := by rw [Wrd.low_all]; rfl
      go_wp2
      go_returns
      exact ⟨rfl, rfl⟩

set_option maxRecDepth 100000 in
set_option maxHeartbeats 4000000 in
theorem turned_13 (A : Nat) (hA : A < 18446744073709551616) (B : BitVec 64) (w : World) :
    Calls Tryd.prog 30 #[.int .i64 13, .int .u64 A, .int .u64 (val B)] w fun e w' => e = .returned (.int .u64 (val (Wrd.shl (W64 A) B))) ∧ w = w' := by
  obtain ⟨b, hb⟩ : ∃ b, b = val B := ⟨_, rfl⟩
  have hA2 := Lib.hid hA
  go_enter Tryd.func30, Tryd.ntmps30
  go_wp2
  go_loop [7, 8] (fun o i => ∃ k : Nat, k ≤ 64 ∧ i = .int .u64 k ∧ o = .int .u64 (Wrd.low (Wrd.shl (W64 A) B) k : Int)) (fun _ i => 64 - (intOf i).toNat)
  case atStart => exact ⟨0, by omega, rfl, by rw [Wrd.low_zero]; rfl⟩
  case round =>
    obtain ⟨k, hk, rfl, rfl⟩ := hrel
    by_cases hlt : k < 64
    · by_cases h6 : A ≤ k
      · obtain ⟨f, hf⟩ : ∃ f, f = k - A := ⟨_, rfl⟩
        have hf64 : f < 64 := by omega
        have EF0 : (k : Int) - (A : Int) = (f : Int) := by omega
        clear hf
        have hbb : (Wrd.shl (W64 A) B).getLsbD k = B.getLsbD f := by
          rw [Wrd.bit_13 _ _ _ hlt]; simp only [toNat_wA hA]
          first | (rw [decide_eq_true (by omega), Bool.true_and]; congr 1; omega) | (rw [if_pos (by omega)]; congr 1; omega) | (rw [if_neg (by omega)]; congr 1; omega)
        cases hB : B.getLsbD f
        · have EB := bitF B f hB
          have hbit := hbb.trans hB
          clear hbb hB
          have EO := Lib.hid (lowF _ k hbit)
          clear hbit
          go_wp2
          go_round
          case rel => exact ⟨k + 1, by omega, by go_num, by rw [← EO.out]⟩
          case measure => simp [intOf]; omega
        · have EB := bitT B f hB
          have hbit := hbb.trans hB
          clear hbb hB
          have EP := lowP k hlt
          have EO := Lib.hid (lowT _ k hlt hbit)
          clear hbit
          go_wp2
          go_round
          case rel => exact ⟨k + 1, by omega, by go_num, by rw [← EO.out]; rfl⟩
          case measure => simp [intOf]; omega
      · have hbit : (Wrd.shl (W64 A) B).getLsbD k = false := by rw [Wrd.bit_13 _ _ _ hlt]; simp only [toNat_wA hA]; first | (rw [decide_eq_false (by omega)]; rfl) | (rw [if_neg (by omega)])
        have EO := Lib.hid (lowF _ k hbit)
        clear hbit
        go_wp2
        go_round
        case rel => exact ⟨k + 1, by omega, by go_num, by rw [← EO.out]⟩
        case measure => simp [intOf]; omega
    · have hk64 : k = 64 := by omega
      subst hk64
      clear hlt hk
      have E : (Wrd.low (Wrd.shl (W64 A) B) 64 : Int) = val (Wrd.shl (W64 A) B) := by rw [Wrd.low_all]; rfl
      go_wp2
      go_returns
      exact ⟨rfl, rfl⟩

set_option maxRecDepth 100000 in
set_option maxHeartbeats 4000000 in
theorem turned_14 (A : Nat) (hA : A < 18446744073709551616) (B : BitVec 64) (w : World) :
    Calls Tryd.prog 30 #[.int .i64 14, .int .u64 A, .int .u64 (val B)] w fun e w' => e = .returned (.int .u64 (val (Wrd.shr (W64 A) B))) ∧ w = w' := by
  obtain ⟨b, hb⟩ : ∃ b, b = val B := ⟨_, rfl⟩
  have hA2 := Lib.hid hA
  go_enter Tryd.func30, Tryd.ntmps30
  go_wp2
  go_loop [7, 8] (fun o i => ∃ k : Nat, k ≤ 64 ∧ i = .int .u64 k ∧ o = .int .u64 (Wrd.low (Wrd.shr (W64 A) B) k : Int)) (fun _ i => 64 - (intOf i).toNat)
  case atStart => exact ⟨0, by omega, rfl, by rw [Wrd.low_zero]; rfl⟩
  case round =>
    obtain ⟨k, hk, rfl, rfl⟩ := hrel
    by_cases hlt : k < 64
    · by_cases h6 : A < 64 - k
      · obtain ⟨f, hf⟩ : ∃ f, f = k + A := ⟨_, rfl⟩
        have hf64 : f < 64 := by omega
        have EF0 : (k : Int) + (A : Int) = (f : Int) := by omega
        clear hf
        have hbb : (Wrd.shr (W64 A) B).getLsbD k = B.getLsbD f := by
          rw [Wrd.bit_14 _ _ _ hlt]; simp only [toNat_wA hA]
          first | (rw [decide_eq_true (by omega), Bool.true_and]; congr 1; omega) | (rw [if_pos (by omega)]; congr 1; omega) | (rw [if_neg (by omega)]; congr 1; omega)
        cases hB : B.getLsbD f
        · have EB := bitF B f hB
          have hbit := hbb.trans hB
          clear hbb hB
          have EO := Lib.hid (lowF _ k hbit)
          clear hbit
          go_wp2
          go_round
          case rel => exact ⟨k + 1, by omega, by go_num, by rw [← EO.out]⟩
          case measure => simp [intOf]; omega
        · have EB := bitT B f hB
          have hbit := hbb.trans hB
          clear hbb hB
          have EP := lowP k hlt
          have EO := Lib.hid (lowT _ k hlt hbit)
          clear hbit
          go_wp2
          go_round
          case rel => exact ⟨k + 1, by omega, by go_num, by rw [← EO.out]; rfl⟩
          case measure => simp [intOf]; omega
      · have hbit : (Wrd.shr (W64 A) B).getLsbD k = false := by rw [Wrd.bit_14 _ _ _ hlt]; simp only [toNat_wA hA]; first | (rw [decide_eq_false (by omega)]; rfl) | (rw [if_neg (by omega)])
        have EO := Lib.hid (lowF _ k hbit)
        clear hbit
        go_wp2
        go_round
        case rel => exact ⟨k + 1, by omega, by go_num, by rw [← EO.out]⟩
        case measure => simp [intOf]; omega
    · have hk64 : k = 64 := by omega
      subst hk64
      clear hlt hk
      have E : (Wrd.low (Wrd.shr (W64 A) B) 64 : Int) = val (Wrd.shr (W64 A) B) := by rw [Wrd.low_all]; rfl
      go_wp2
      go_returns
      exact ⟨rfl, rfl⟩

set_option maxRecDepth 100000 in
set_option maxHeartbeats 4000000 in
theorem turned_15 (A : Nat) (hA : A < 18446744073709551616) (B : BitVec 64) (w : World) :
    Calls Tryd.prog 30 #[.int .i64 15, .int .u64 A, .int .u64 (val B)] w fun e w' => e = .returned (.int .u64 (val (Wrd.sar (W64 A) B))) ∧ w = w' := by
  obtain ⟨b, hb⟩ : ∃ b, b = val B := ⟨_, rfl⟩
  have hA2 := Lib.hid hA
  go_enter Tryd.func30, Tryd.ntmps30
  go_wp2
  go_loop [7, 8] (fun o i => ∃ k : Nat, k ≤ 64 ∧ i = .int .u64 k ∧ o = .int .u64 (Wrd.low (Wrd.sar (W64 A) B) k : Int)) (fun _ i => 64 - (intOf i).toNat)
  case atStart => exact ⟨0, by omega, rfl, by rw [Wrd.low_zero]; rfl⟩
  case round =>
    obtain ⟨k, hk, rfl, rfl⟩ := hrel
    by_cases hlt : k < 64
    · by_cases h6 : A < 64 - k
      · obtain ⟨f, hf⟩ : ∃ f, f = k + A := ⟨_, rfl⟩
        have hf64 : f < 64 := by omega
        have hdd : decide ((A : Int) < 64 - (k : Int)) = true := by simp; omega
        have EF0 : (k : Int) + (A : Int) = (f : Int) := by omega
        clear hf
        have hbb : (Wrd.sar (W64 A) B).getLsbD k = B.getLsbD f := by
          rw [Wrd.bit_15 _ _ _ hlt]; simp only [toNat_wA hA]
          first | (rw [decide_eq_true (by omega), Bool.true_and]; congr 1; omega) | (rw [if_pos (by omega)]; congr 1; omega) | (rw [if_neg (by omega)]; congr 1; omega)
        cases hB : B.getLsbD f
        · have EB := bitF B f hB
          have hbit := hbb.trans hB
          clear hbb hB
          have EO := Lib.hid (lowF _ k hbit)
          clear hbit
          go_wp2
          go_round
          case rel => exact ⟨k + 1, by omega, by go_num, by rw [← EO.out]⟩
          case measure => simp [intOf]; omega
        · have EB := bitT B f hB
          have hbit := hbb.trans hB
          clear hbb hB
          have EP := lowP k hlt
          have EO := Lib.hid (lowT _ k hlt hbit)
          clear hbit
          go_wp2
          go_round
          case rel => exact ⟨k + 1, by omega, by go_num, by rw [← EO.out]; rfl⟩
          case measure => simp [intOf]; omega
      · have hdd : decide ((A : Int) < 64 - (k : Int)) = false := by simp; omega
        have hbb : (Wrd.sar (W64 A) B).getLsbD k = B.getLsbD 63 := by
          rw [Wrd.bit_15 _ _ _ hlt]; simp only [toNat_wA hA]; rw [if_neg (by omega)]
        cases hB : B.getLsbD 63
        · have EB := bitF B 63 hB
          rw [show (2 : Int) ^ 63 = 9223372036854775808 by decide] at EB
          have hbit := hbb.trans hB
          clear hbb hB
          have EO := Lib.hid (lowF _ k hbit)
          clear hbit
          go_wp2
          go_round
          case rel => exact ⟨k + 1, by omega, by go_num, by rw [← EO.out]⟩
          case measure => simp [intOf]; omega
        · have EB := bitT B 63 hB
          rw [show (2 : Int) ^ 63 = 9223372036854775808 by decide] at EB
          have hbit := hbb.trans hB
          clear hbb hB
          have EP := lowP k hlt
          have EO := Lib.hid (lowT _ k hlt hbit)
          clear hbit
          go_wp2
          go_round
          case rel => exact ⟨k + 1, by omega, by go_num, by rw [← EO.out]; rfl⟩
          case measure => simp [intOf]; omega
    · have hk64 : k = 64 := by omega
      subst hk64
      clear hlt hk
      have E : (Wrd.low (Wrd.sar (W64 A) B) 64 : Int) = val (Wrd.sar (W64 A) B) := by rw [Wrd.low_all]; rfl
      go_wp2
      go_returns
      exact ⟨rfl, rfl⟩

end Go.Proofs.YtmjlifbnndmjoaaDoor
