/-
  The walk of WordLaws: it returns true for every input.
-/
import Derived.Test.YtmjlifbnndmjoaaWordFixed
set_option linter.unusedVariables false
namespace Go.Proofs.Ytmjlifbnndmjoaa
open Go.RowKit

theorem wl_bneF {x y : Int} (h : x = y) : (x != y) = false := by simpa using h
theorem wl_ne {b : Int} (hb : R64 b) (h : b ≠ 0) : W64 b ≠ 0 := fun e => h ((zero_iff hb).1 e)
theorem wl1 {a b : Int} (ha : R64 a) (hb : R64 b) (h : b ≠ 0) : apZ 1 (apZ 3 (apZ 4 a b 0) b 0) (apZ 6 a b 0) 0 = a := by
  have := congrArg val (Wrd.uparts (W64 a) (W64 b) (wl_ne hb h))
  rw [val_w64 ha] at this
  simp only [apZ, w64_val, Wrd.ap]; exact this
theorem wl2 {a b : Int} (ha : R64 a) (hb : R64 b) (h : b ≠ 0) : apZ 1 (apZ 3 (apZ 5 a b 0) b 0) (apZ 7 a b 0) 0 = a := by
  have := congrArg val (Wrd.sparts (W64 a) (W64 b) (wl_ne hb h))
  rw [val_w64 ha] at this
  simp only [apZ, w64_val, Wrd.ap]; exact this
theorem wl40 (a : Int) : apZ 4 a 0 0 = 0 := by
  show val (W64 a / W64 0) = 0
  rw [w64_zero]; simp [val]
theorem wl60 (a : Int) : apZ 6 a 0 0 = 0 := by show val (Wrd.umod (W64 a) (W64 0)) = 0; unfold Wrd.umod; rw [if_pos w64_zero]; rfl
theorem wl50 (a : Int) : apZ 5 a 0 0 = 0 := by show val (Wrd.sdiv (W64 a) (W64 0)) = 0; unfold Wrd.sdiv; rw [if_pos w64_zero]; rfl
theorem wl70 (a : Int) : apZ 7 a 0 0 = 0 := by show val (Wrd.smod (W64 a) (W64 0)) = 0; unfold Wrd.smod; rw [if_pos w64_zero]; rfl
theorem wl_sub {a : Int} (b : Int) (ha : R64 a) : apZ 2 (apZ 1 a b 0) b 0 = a := by
  have := congrArg val (Wrd.groups (W64 a) (W64 b) 0).2.2.1
  rw [val_w64 ha] at this
  simp only [apZ, w64_val, Wrd.ap]; exact this
theorem wl_not {a : Int} (ha : R64 a) : apZ 25 (apZ 25 a 0 0) 0 0 = a := by
  have := congrArg val (Wrd.bits4 (W64 a))
  rw [val_w64 ha] at this
  simp only [apZ, w64_val, Wrd.ap]; exact this
theorem wl_xor {a : Int} (b : Int) (ha : R64 a) : apZ 24 (apZ 24 a b 0) b 0 = a := by
  have := congrArg val (Wrd.xor_xor (W64 a) (W64 b))
  rw [val_w64 ha] at this
  simp only [apZ, w64_val, Wrd.ap]; exact this
theorem wl_succ {n : Int} (hn : R64 n) (h : n < 100) : (W64 (n + 1)).toNat = (W64 n).toNat + 1 := by
  have h0 := hn.lo
  rw [toNat_w64 hn, toNat_w64 ⟨by omega, by omega⟩]; omega
theorem wl_shl (a : Int) {n : Int} (hn : R64 n) (h : n < 100) : apZ 13 1 (apZ 13 n a 0) 0 = apZ 13 (n + 1) a 0 := by
  show val (W64 (apZ 13 n a 0) <<< (W64 1).toNat) = val (W64 a <<< (W64 (n + 1)).toNat)
  rw [w64_apZ, wl_succ hn h, ← Wrd.shl_shl]; rfl
theorem wl_sar (a : Int) {n : Int} (hn : R64 n) (h : n < 100) : apZ 15 1 (apZ 15 n a 0) 0 = apZ 15 (n + 1) a 0 := by
  show val ((W64 (apZ 15 n a 0)).sshiftRight (W64 1).toNat) = val ((W64 a).sshiftRight (W64 (n + 1)).toNat)
  rw [w64_apZ, wl_succ hn h, ← Wrd.sar_sar]; rfl
theorem wl_sext (k : Int) (a : Int) : apZ 11 k (apZ 11 k a 0) 0 = apZ 11 k a 0 := by
  show val (Wrd.sext (W64 k) (W64 (apZ 11 k a 0))) = val (Wrd.sext (W64 k) (W64 a))
  rw [w64_apZ]; exact congrArg val (Wrd.sext_twice _ _)
theorem wl_triI (x y z : BitVec 64) (h : x + y + z = 1) : IntKind.u64.wrap (IntKind.u64.wrap (val x + val y) + val z) = 1 := by
  rw [← val_add, ← val_add, h]; rfl
theorem stri (a b : BitVec 64) : Wrd.flag (a.slt b) + Wrd.flag (b.slt a) + Wrd.flag (a == b) = 1 := by
  rw [Wrd.lt_top, Wrd.lt_top, show (a == b) = (a ^^^ 9223372036854775808 == b ^^^ 9223372036854775808) by rw [Bool.eq_iff_iff]; simp]
  exact Wrd.tri _ _
theorem wl_tri (a b : Int) : IntKind.u64.wrap (IntKind.u64.wrap (apZ 16 a b 0 + apZ 17 a b 0) + apZ 20 a b 0) = 1 := wl_triI _ _ _ (Wrd.tri (W64 a) (W64 b))
theorem wl_stri (a b : Int) : IntKind.u64.wrap (IntKind.u64.wrap (apZ 18 a b 0 + apZ 19 a b 0) + apZ 20 a b 0) = 1 := wl_triI _ _ _ (stri (W64 a) (W64 b))
theorem do_V (O : Int) (op : Nat) (hO : O = op) (h1 : 1 ≤ op) (h2 : op ≤ 25) (h8 : op ≠ 8) (h9 : op ≠ 9) (a b : Int) (ha : R64 a) (hb : R64 b) (w : World) :
    Calls Try.prog 12 #[.int .i64 O, .int .u64 a, .int .u64 b] w fun e w' => e = .returned (.int .u64 (apZ op a b 0)) ∧ w = w' := by
  have HO := Lib.hid hO
  clear hO
  go_enter Try.func12, Try.ntmps12
  go_wp2_with (go_at_call 13; (with_reducible refine (apply_V O op HO.out h1 h2 h8 h9 a b 0 ha hb _).mono ?_); rintro e w' ⟨rfl, rfl⟩)
  go_returns
  exact ⟨rfl, rfl⟩

theorem do_Q (O : Int) (op : Nat) (hO : O = op) (h1 : 1 ≤ op) (h2 : op ≤ 25) (h8 : op ≠ 8) (h9 : op ≠ 9) (a b : Int) (ha : R64 a) (hb : R64 b) (w : World) :
    Calls Try.prog 12 #[.int .i64 O, .int .u64 a, .int .u64 b] w fun e w' => e = .returned (.int .u64 (apZ op a b 0)) ∧ w' = w :=
  (do_V O op hO h1 h2 h8 h9 a b ha hb w).mono fun _ _ h => ⟨h.1, h.2.symm⟩
/-- An operation by its number as the caller has it. -/
def apI (O a b : Int) : Int := apZ O.toNat a b 0
theorem apI_R (O a b : Int) : R64 (apI O a b) := apZ_R _ _ _ _
def opOk (O : Int) : Bool := decide (1 ≤ O ∧ O ≤ 25 ∧ O ≠ 8 ∧ O ≠ 9)
theorem do_I (O : Int) (h : opOk O = true) (a b : Int) (ha : R64 a) (hb : R64 b) (w : World) :
    Calls Try.prog 12 #[.int .i64 O, .int .u64 a, .int .u64 b] w fun e w' => e = .returned (.int .u64 (apI O a b)) ∧ w = w' := by
  have h := of_decide_eq_true h
  exact do_V O O.toNat (by omega) (by omega) (by omega) (by omega) (by omega) a b ha hb w
theorem do_IQ (O : Int) (h : opOk O = true) (a b : Int) (ha : R64 a) (hb : R64 b) (w : World) :
    Calls Try.prog 12 #[.int .i64 O, .int .u64 a, .int .u64 b] w fun e w' => e = .returned (.int .u64 (apI O a b)) ∧ w' = w :=
  (do_I O h a b ha hb w).mono fun _ _ h => ⟨h.1, h.2.symm⟩
set_option maxRecDepth 100000 in
set_option maxHeartbeats 4000000 in
theorem wordLaws_walk (w : World) (a0 : Int) (w0 : (Lit.int .u64 a0).wf = true) (a1 : Int) (w1 : (Lit.int .u64 a1).wf = true) (a2 : Int) (w2 : (Lit.int .u64 a2).wf = true) :
    Calls Try.prog 8 #[.int .u64 a0, .int .u64 a1, .int .u64 a2] w fun e w' => e = .returned (.bool true) ∧ Below w.heap.size w w' := by
  have ra := R64_wf w0
  have rb := R64_wf w1
  have rc := R64_wf w2
  have r0 := R0
  have r1 := R1
  have l2 := rc.lo
  clear w0 w1 w2
  go_enter Try.func8, Try.ntmps8
  go_wp2_with (go_at_call 9; (with_reducible refine (fixed01_calls _).mono ?_); rintro e w' ⟨rfl, rfl⟩)
  go_loopw [18] (fun i wr => ∃ K : Int, (K = 0 ∨ K = 1 ∨ K = 2) ∧ i = .int .i64 K ∧ Below w.heap.size w wr ∧ w.heap.size < wr.heap.size ∧ wr.cell? ⟨w.heap.size, 0, none⟩ = some (.int .i64 4) ∧ wr.cell? ⟨w.heap.size, 1, none⟩ = some (.int .i64 6) ∧ wr.cell? ⟨w.heap.size, 2, none⟩ = some (.int .i64 5) ∧ wr.cell? ⟨w.heap.size, 3, none⟩ = some (.int .i64 7)) (fun i _ => (2 - intOf i).toNat)
  case atStart => exact ⟨0, .inl rfl, rfl, by (repeat' (first | (with_reducible exact Below.refl _ _) | (with_reducible refine Below.alloc ?_ ?_ _) | (with_reducible refine Below.drew ?_) | (with_reducible refine Below.setCell ?_ ?_ _) | (with_reducible refine Below.thn (by assumption) ?_ ?_) | (with_reducible refine below_drewN ?_ _) | go_size)), by simp, by go_cell, by go_cell, by go_cell, by go_cell⟩
  case round =>
    obtain ⟨K, hK, rfl, hbr, hsr, q0, q1, q2, q3⟩ := hrel
    rcases hK with rfl | rfl | rfl
    · by_cases h0 : a1 = 0
      · subst h0
        have p1 : (apI 4 a0 0 != 0) = false := wl_bneF (wl40 a0)
        have p2 : (apI 6 a0 0 != 0) = false := wl_bneF (wl60 a0)
        go_wp2
        go_quiet ((go_at_call 12; with_reducible exact Calls.quiet_of_same (do_IQ _ rfl _ _ ra rb _)))
        go_wp2_with (go_at_call 12; (with_reducible refine (do_I _ rfl _ _ ?_ ?_ _).mono ?_); (any_goals (first | assumption | exact apI_R _ _ _)); rintro e w' ⟨rfl, rfl⟩)
        go_roundw
        case rel => exact ⟨1, by omega, rfl, hbr.trans (by (repeat' (first | (with_reducible exact Below.refl _ _) | (with_reducible refine Below.alloc ?_ ?_ _) | (with_reducible refine Below.drew ?_) | (with_reducible refine Below.setCell ?_ ?_ _) | (with_reducible refine Below.thn (by assumption) ?_ ?_) | (with_reducible refine below_drewN ?_ _) | go_size))), by simp; omega, by go_cell, by go_cell, by go_cell, by go_cell⟩
        case measure => simp [intOf]
      · have e0 : (a1 != 0) = true := by simpa using h0
        have e1 : (a1 == 0) = false := by simpa using h0
        have p1 : (apI 1 (apI 3 (apI 4 a0 a1) a1) (apI 6 a0 a1) != a0) = false := wl_bneF (wl1 ra rb h0)
        clear h0
        go_wp2
        go_quiet ((go_at_call 12; with_reducible exact Calls.quiet_of_same (do_IQ _ rfl _ _ ra rb _)))
        go_wp2_with (go_at_call 12; (with_reducible refine (do_I _ rfl _ _ ?_ ?_ _).mono ?_); (any_goals (first | assumption | exact apI_R _ _ _)); rintro e w' ⟨rfl, rfl⟩)
        go_roundw
        case rel => exact ⟨1, by omega, rfl, hbr.trans (by (repeat' (first | (with_reducible exact Below.refl _ _) | (with_reducible refine Below.alloc ?_ ?_ _) | (with_reducible refine Below.drew ?_) | (with_reducible refine Below.setCell ?_ ?_ _) | (with_reducible refine Below.thn (by assumption) ?_ ?_) | (with_reducible refine below_drewN ?_ _) | go_size))), by simp; omega, by go_cell, by go_cell, by go_cell, by go_cell⟩
        case measure => simp [intOf]
    · by_cases h0 : a1 = 0
      · subst h0
        have p1 : (apI 5 a0 0 != 0) = false := wl_bneF (wl50 a0)
        have p2 : (apI 7 a0 0 != 0) = false := wl_bneF (wl70 a0)
        go_wp2
        go_quiet ((go_at_call 12; with_reducible exact Calls.quiet_of_same (do_IQ _ rfl _ _ ra rb _)))
        go_wp2_with (go_at_call 12; (with_reducible refine (do_I _ rfl _ _ ?_ ?_ _).mono ?_); (any_goals (first | assumption | exact apI_R _ _ _)); rintro e w' ⟨rfl, rfl⟩)
        go_roundw
        case rel => exact ⟨2, by omega, rfl, hbr.trans (by (repeat' (first | (with_reducible exact Below.refl _ _) | (with_reducible refine Below.alloc ?_ ?_ _) | (with_reducible refine Below.drew ?_) | (with_reducible refine Below.setCell ?_ ?_ _) | (with_reducible refine Below.thn (by assumption) ?_ ?_) | (with_reducible refine below_drewN ?_ _) | go_size))), by simp; omega, by go_cell, by go_cell, by go_cell, by go_cell⟩
        case measure => simp [intOf]
      · have e0 : (a1 != 0) = true := by simpa using h0
        have e1 : (a1 == 0) = false := by simpa using h0
        have p1 : (apI 1 (apI 3 (apI 5 a0 a1) a1) (apI 7 a0 a1) != a0) = false := wl_bneF (wl2 ra rb h0)
        clear h0
        go_wp2
        go_quiet ((go_at_call 12; with_reducible exact Calls.quiet_of_same (do_IQ _ rfl _ _ ra rb _)))
        go_wp2_with (go_at_call 12; (with_reducible refine (do_I _ rfl _ _ ?_ ?_ _).mono ?_); (any_goals (first | assumption | exact apI_R _ _ _)); rintro e w' ⟨rfl, rfl⟩)
        go_roundw
        case rel => exact ⟨2, by omega, rfl, hbr.trans (by (repeat' (first | (with_reducible exact Below.refl _ _) | (with_reducible refine Below.alloc ?_ ?_ _) | (with_reducible refine Below.drew ?_) | (with_reducible refine Below.setCell ?_ ?_ _) | (with_reducible refine Below.thn (by assumption) ?_ ?_) | (with_reducible refine below_drewN ?_ _) | go_size))), by simp; omega, by go_cell, by go_cell, by go_cell, by go_cell⟩
        case measure => simp [intOf]
    · clear q0 q1 q2 q3 hsr
      have n1 : a2 % 70 < 70 := Int.emod_lt_of_pos _ (by decide)
      have n0 : 0 ≤ a2 % 70 := Int.emod_nonneg _ (by decide)
      have rn : R64 (a2 % 70) := ⟨n0, by omega⟩
      have rs : R64 (a2 % 70 + 1) := ⟨by omega, by omega⟩
      have c1 : (apI 2 (apI 1 a0 a1) a1 == a0) = true := beqT (wl_sub a1 ra)
      have c2 : (apI 25 (apI 25 a0 0) 0 == a0) = true := beqT (wl_not ra)
      have c3 : (apI 24 (apI 24 a0 a1) a1 == a0) = true := beqT (wl_xor a1 ra)
      have c4 : (apI 13 1 (apI 13 (a2 % 70) a0) == apI 13 (a2 % 70 + 1) a0) = true := beqT (wl_shl a0 rn (by omega))
      have c5 : (apI 15 1 (apI 15 (a2 % 70) a0) == apI 15 (a2 % 70 + 1) a0) = true := beqT (wl_sar a0 rn (by omega))
      have c6 : (apI 11 (a2 % 70) (apI 11 (a2 % 70) a0) == apI 11 (a2 % 70) a0) = true := beqT (wl_sext (a2 % 70) a0)
      have c7 : (IntKind.u64.wrap (IntKind.u64.wrap (apI 16 a0 a1 + apI 17 a0 a1) + apI 20 a0 a1) == 1) = true := beqT (wl_tri a0 a1)
      have c8 : (IntKind.u64.wrap (IntKind.u64.wrap (apI 18 a0 a1 + apI 19 a0 a1) + apI 20 a0 a1) == 1) = true := beqT (wl_stri a0 a1)
      go_wp2_with (go_at_call 12; (with_reducible refine (do_I _ rfl _ _ ?_ ?_ _).mono ?_); (any_goals (first | assumption | exact apI_R _ _ _)); rintro e w' ⟨rfl, rfl⟩)
      go_returns
      exact ⟨rfl, hbr⟩
end Go.Proofs.Ytmjlifbnndmjoaa
