/-
  The walk of WordParts: it returns true for every input.
-/
import Derived.Test.YtmjlifbnndmjoaaWordFixed
set_option linter.unusedVariables false
namespace Go.Proofs.Ytmjlifbnndmjoaa
open Go.RowKit

theorem bneF {x y : Int} (h : x = y) : (x != y) = false := by simpa using h
theorem w64_ne {b : Int} (hb : R64 b) (h : b ≠ 0) : W64 b ≠ 0 := fun e => h ((zero_iff hb).1 e)
theorem wp1 {a b : Int} (ha : R64 a) (hb : R64 b) (h : b ≠ 0) : apZ 1 (apZ 3 (apZ 4 a b 0) b 0) (apZ 6 a b 0) 0 = a := by
  have := congrArg val (Wrd.uparts (W64 a) (W64 b) (w64_ne hb h))
  rw [val_w64 ha] at this
  simp only [apZ, w64_val, Wrd.ap]; exact this
theorem wp2 {a b : Int} (ha : R64 a) (hb : R64 b) (h : b ≠ 0) : apZ 1 (apZ 3 (apZ 5 a b 0) b 0) (apZ 7 a b 0) 0 = a := by
  have := congrArg val (Wrd.sparts (W64 a) (W64 b) (w64_ne hb h))
  rw [val_w64 ha] at this
  simp only [apZ, w64_val, Wrd.ap]; exact this
theorem wp3 {a b : Int} (ha : R64 a) (hb : R64 b) (h : b ≠ 0) : apZ 16 (apZ 6 a b 0) b 0 = 1 := by
  have := Wrd.umod_lt (W64 a) (W64 b) (w64_ne hb h)
  show val (Wrd.flag ((W64 (apZ 6 a b 0)).ult (W64 b))) = 1
  rw [w64_apZ]
  show val (Wrd.flag ((Wrd.umod (W64 a) (W64 b)).ult (W64 b))) = 1
  unfold Wrd.umod
  rw [if_neg (w64_ne hb h), this]; rfl
/-- The sum of a word's first bytes, as a number. -/
def psI (a : Int) (k : Nat) : Int := val (Wrd.ps (W64 a) k)
theorem psI_R (a : Int) (k : Nat) : R64 (psI a k) := val_R _
theorem psI_zero (a : Int) : psI a 0 = 0 := by unfold psI Wrd.ps; rfl
theorem psI_all {a : Int} (ha : R64 a) : psI a 8 = a := by unfold psI; rw [Wrd.ps_all, val_w64 ha]
theorem w64_nat (k : Nat) : W64 (k : Int) = BitVec.ofNat 64 k := by unfold W64; exact BitVec.ofInt_natCast _ _
theorem psI_succ (a : Int) (k : Nat) (hk : k < 8) : apZ 1 (psI a k) (apZ 13 (56 - 8 * (k : Int)) (apZ 12 (k : Int) a 0) 0) 0 = psI a (k + 1) := by
  have e : (56 - 8 * (k : Int)) = ((56 - 8 * k : Nat) : Int) := by omega
  rw [e]
  show val (W64 (psI a k) + W64 (apZ 13 _ _ 0)) = val (Wrd.ps (W64 a) k + _)
  rw [w64_apZ]
  show val (W64 (psI a k) + Wrd.shl (W64 _) (W64 (apZ 12 _ a 0))) = _
  rw [w64_apZ]
  show val (W64 (psI a k) + Wrd.shl (W64 _) (Wrd.byt (W64 _) (W64 a))) = _
  rw [w64_nat, w64_nat]; unfold psI; rw [w64_val]
theorem k_R {x : Int} (h : 0 ≤ x) (h2 : x ≤ 64) : R64 x := ⟨h, by omega⟩
theorem wp4 (k : Int) (a : Int) : apZ 11 k (apZ 11 k a 0) 0 = apZ 11 k a 0 := by
  show val (Wrd.sext (W64 k) (W64 (apZ 11 k a 0))) = val (Wrd.sext (W64 k) (W64 a))
  rw [w64_apZ]; exact congrArg val (Wrd.sext_twice _ _)
theorem wp5 {a : Int} (ha : R64 a) (k : Int) (h : 7 ≤ k) (h2 : k ≤ 64) : apZ 11 k a 0 = a := (ap_11far 0 (k_R (by omega) h2) ha h).symm
theorem wp6 {a : Int} (ha : R64 a) (k : Int) (h : 8 ≤ k) (h2 : k ≤ 64) : apZ 12 k a 0 = 0 := (ap_12far 0 (k_R (by omega) h2) ha (by omega)).symm
set_option maxRecDepth 100000 in
set_option maxHeartbeats 4000000 in
theorem wordParts_walk (w : World) (a0 : Int) (w0 : (Lit.int .u64 a0).wf = true) (a1 : Int) (w1 : (Lit.int .u64 a1).wf = true) :
    Calls Try.prog 7 #[.int .u64 a0, .int .u64 a1] w fun e w' => e = .returned (.bool true) ∧ Below w.heap.size w w' := by
  have ra := R64_wf w0
  have rb := R64_wf w1
  have r0 := R0
  clear w0 w1
  by_cases h0 : a1 = 0
  · subst h0
    go_enter Try.func7, Try.ntmps7
    go_wp2
    go_loop [5, 44] (fun s i => ∃ k : Nat, k ≤ 8 ∧ i = .int .u64 k ∧ s = .int .u64 (psI a0 k)) (fun _ i => 8 - (intOf i).toNat)
    case atStart => exact ⟨0, by omega, rfl, by rw [psI_zero]⟩
    case round =>
      obtain ⟨k, hk, rfl, rfl⟩ := hrel
      have rp := psI_R a0 k
      by_cases hlt : k < 8
      · have rk : R64 (k : Int) := k_R (by omega) (by omega)
        have rk7 : R64 ((k : Int) + 7) := k_R (by omega) (by omega)
        have rk8 : R64 ((k : Int) + 8) := k_R (by omega) (by omega)
        have rk5 : R64 (56 - 8 * (k : Int)) := k_R (by omega) (by omega)
        have HS := Lib.hid (psI_succ a0 k hlt)
        have m1 := bneF (wp4 (k : Int) a0)
        have m2 := bneF (wp5 ra ((k : Int) + 7) (by omega) (by omega))
        have m3 := bneF (wp6 ra ((k : Int) + 8) (by omega) (by omega))
        go_wp2_with (first
          | (go_at_call 10; (with_reducible refine (at_V 12 12 rfl (by decide) (by decide) (by decide) (by decide) _ _ ?_ ?_ _).mono ?_); (any_goals (first | assumption | exact apZ_R _ _ _ _)); rintro e w' ⟨rfl, rfl⟩)
          | (go_at_call 10; (with_reducible refine (at_V 13 13 rfl (by decide) (by decide) (by decide) (by decide) _ _ ?_ ?_ _).mono ?_); (any_goals (first | assumption | exact apZ_R _ _ _ _)); rintro e w' ⟨rfl, rfl⟩)
          | (go_at_call 10; (with_reducible refine (at_V 1 1 rfl (by decide) (by decide) (by decide) (by decide) _ _ ?_ ?_ _).mono ?_); (any_goals (first | assumption | exact apZ_R _ _ _ _)); rintro e w' ⟨rfl, rfl⟩)
          | (go_at_call 10; (with_reducible refine (at_V 11 11 rfl (by decide) (by decide) (by decide) (by decide) _ _ ?_ ?_ _).mono ?_); (any_goals (first | assumption | exact apZ_R _ _ _ _)); rintro e w' ⟨rfl, rfl⟩))
        go_round
        case rel => exact ⟨k + 1, by omega, by go_num, by rw [HS.out]⟩
        case measure => simp [intOf]; omega
      · have hk8 : k = 8 := by omega
        subst hk8
        have HA := Lib.hid (psI_all ra)
        have HB : (psI a0 8 == a0) = true := beqT HA.out
        clear hlt hk
        go_wp2_with (first
          | (go_at_call 9; (with_reducible refine (fixed01_calls _).mono ?_); rintro e w' ⟨rfl, rfl⟩))
        go_returns
        exact ⟨rfl, by (repeat' (first | (with_reducible exact Below.refl _ _) | (with_reducible refine Below.alloc ?_ ?_ _) | (with_reducible refine Below.drew ?_) | (with_reducible refine Below.setCell ?_ ?_ _) | (with_reducible refine Below.thn (by assumption) ?_ ?_) | (with_reducible refine below_drewN ?_ _) | go_size))⟩
  · have e0 : (a1 != 0) = true := by simpa using h0
    have n1 := bneF (wp1 ra rb h0)
    have n2 := bneF (wp2 ra rb h0)
    have n3 := bneF (wp3 ra rb h0)
    clear h0
    go_enter Try.func7, Try.ntmps7
    go_wp2_with (first
      | (go_at_call 10; (with_reducible refine (at_V 4 4 rfl (by decide) (by decide) (by decide) (by decide) _ _ ?_ ?_ _).mono ?_); (any_goals (first | assumption | exact apZ_R _ _ _ _)); rintro e w' ⟨rfl, rfl⟩)
      | (go_at_call 10; (with_reducible refine (at_V 3 3 rfl (by decide) (by decide) (by decide) (by decide) _ _ ?_ ?_ _).mono ?_); (any_goals (first | assumption | exact apZ_R _ _ _ _)); rintro e w' ⟨rfl, rfl⟩)
      | (go_at_call 10; (with_reducible refine (at_V 6 6 rfl (by decide) (by decide) (by decide) (by decide) _ _ ?_ ?_ _).mono ?_); (any_goals (first | assumption | exact apZ_R _ _ _ _)); rintro e w' ⟨rfl, rfl⟩)
      | (go_at_call 10; (with_reducible refine (at_V 1 1 rfl (by decide) (by decide) (by decide) (by decide) _ _ ?_ ?_ _).mono ?_); (any_goals (first | assumption | exact apZ_R _ _ _ _)); rintro e w' ⟨rfl, rfl⟩)
      | (go_at_call 10; (with_reducible refine (at_V 5 5 rfl (by decide) (by decide) (by decide) (by decide) _ _ ?_ ?_ _).mono ?_); (any_goals (first | assumption | exact apZ_R _ _ _ _)); rintro e w' ⟨rfl, rfl⟩)
      | (go_at_call 10; (with_reducible refine (at_V 7 7 rfl (by decide) (by decide) (by decide) (by decide) _ _ ?_ ?_ _).mono ?_); (any_goals (first | assumption | exact apZ_R _ _ _ _)); rintro e w' ⟨rfl, rfl⟩)
      | (go_at_call 10; (with_reducible refine (at_V 16 16 rfl (by decide) (by decide) (by decide) (by decide) _ _ ?_ ?_ _).mono ?_); (any_goals (first | assumption | exact apZ_R _ _ _ _)); rintro e w' ⟨rfl, rfl⟩))
    go_loop [5, 44] (fun s i => ∃ k : Nat, k ≤ 8 ∧ i = .int .u64 k ∧ s = .int .u64 (psI a0 k)) (fun _ i => 8 - (intOf i).toNat)
    case atStart => exact ⟨0, by omega, rfl, by rw [psI_zero]⟩
    case round =>
      obtain ⟨k, hk, rfl, rfl⟩ := hrel
      have rp := psI_R a0 k
      by_cases hlt : k < 8
      · have rk : R64 (k : Int) := k_R (by omega) (by omega)
        have rk7 : R64 ((k : Int) + 7) := k_R (by omega) (by omega)
        have rk8 : R64 ((k : Int) + 8) := k_R (by omega) (by omega)
        have rk5 : R64 (56 - 8 * (k : Int)) := k_R (by omega) (by omega)
        have HS := Lib.hid (psI_succ a0 k hlt)
        have m1 := bneF (wp4 (k : Int) a0)
        have m2 := bneF (wp5 ra ((k : Int) + 7) (by omega) (by omega))
        have m3 := bneF (wp6 ra ((k : Int) + 8) (by omega) (by omega))
        go_wp2_with (first
          | (go_at_call 10; (with_reducible refine (at_V 12 12 rfl (by decide) (by decide) (by decide) (by decide) _ _ ?_ ?_ _).mono ?_); (any_goals (first | assumption | exact apZ_R _ _ _ _)); rintro e w' ⟨rfl, rfl⟩)
          | (go_at_call 10; (with_reducible refine (at_V 13 13 rfl (by decide) (by decide) (by decide) (by decide) _ _ ?_ ?_ _).mono ?_); (any_goals (first | assumption | exact apZ_R _ _ _ _)); rintro e w' ⟨rfl, rfl⟩)
          | (go_at_call 10; (with_reducible refine (at_V 1 1 rfl (by decide) (by decide) (by decide) (by decide) _ _ ?_ ?_ _).mono ?_); (any_goals (first | assumption | exact apZ_R _ _ _ _)); rintro e w' ⟨rfl, rfl⟩)
          | (go_at_call 10; (with_reducible refine (at_V 11 11 rfl (by decide) (by decide) (by decide) (by decide) _ _ ?_ ?_ _).mono ?_); (any_goals (first | assumption | exact apZ_R _ _ _ _)); rintro e w' ⟨rfl, rfl⟩))
        go_round
        case rel => exact ⟨k + 1, by omega, by go_num, by rw [HS.out]⟩
        case measure => simp [intOf]; omega
      · have hk8 : k = 8 := by omega
        subst hk8
        have HA := Lib.hid (psI_all ra)
        have HB : (psI a0 8 == a0) = true := beqT HA.out
        clear hlt hk
        go_wp2_with (first
          | (go_at_call 9; (with_reducible refine (fixed01_calls _).mono ?_); rintro e w' ⟨rfl, rfl⟩))
        go_returns
        exact ⟨rfl, by (repeat' (first | (with_reducible exact Below.refl _ _) | (with_reducible refine Below.alloc ?_ ?_ _) | (with_reducible refine Below.drew ?_) | (with_reducible refine Below.setCell ?_ ?_ _) | (with_reducible refine Below.thn (by assumption) ?_ ?_) | (with_reducible refine below_drewN ?_ _) | go_size))⟩
end Go.Proofs.Ytmjlifbnndmjoaa
