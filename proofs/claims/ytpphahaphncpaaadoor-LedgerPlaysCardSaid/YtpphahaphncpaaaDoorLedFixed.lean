/-
  'fixed' of layer 18: it returns true.
-/
import Derived.Test.YtpphahaphncpaaaDoorLedLock
set_option linter.unusedVariables false
namespace Go.Proofs.YtpphahaphncpaaaDoor
open Go.RowKit

theorem Led.kept {w w' : World} {b base : Nat} {S : LS} (h : Led w b base S) (hb : Below w.heap.size w w') : Led w' b base S := by
  obtain ⟨v, hr, hown⟩ := h.row
  refine ⟨h.lt, h.ok, v, hr.of_block (hb.block b hr.lt), ?_⟩
  refine ⟨hown.1, ?_⟩
  rcases hown.2 with h2 | ⟨g, cap, cur, e, hg, hh, r⟩
  · exact .inl h2
  · exact .inr ⟨g, cap, cur, e, hg, by rw [hb.block g (lt_of_block hh)]; exact hh, r⟩

/-! The contracts, their numbers spelled as the caller has them. -/
theorem payIn_V (b base p : Nat) (P v : Int) (S S' : LS) (w : World) (h : Led w b base S) (hP : P = (p : Int)) (hp : p < 8) (h0 : 0 ≤ v) (h1 : S.inn + v ≤ 281474976710656) (hS : S.payIn p v = S') (hok : S'.Ok) :
    Calls Tryd.prog 6 #[.pointer (some ⟨b, 0, none⟩), .int .i64 P, .int .u64 v] w fun e w' => e = .returned .nilIface ∧ Led w' b base S' ∧ Kept TL TB b w w' := by
  subst hP; subst hS; exact payIn_ok b base p v S w h hp h0 h1 hok
theorem payOut_V (b base p : Nat) (P v : Int) (S S' : LS) (w : World) (h : Led w b base S) (hP : P = (p : Int)) (hp : p < 8) (h0 : 0 ≤ v) (h1 : v ≤ S.bal p) (hS : S.payOut p v = S') (hok : S'.Ok) :
    Calls Tryd.prog 7 #[.pointer (some ⟨b, 0, none⟩), .int .i64 P, .int .u64 v] w fun e w' => e = .returned .nilIface ∧ Led w' b base S' ∧ Kept TL TB b w w' := by
  subst hP; subst hS; exact payOut_ok b base p v S w h hp h0 h1 hok
theorem payOut_fewV (b base p : Nat) (P v : Int) (S : LS) (w : World) (h : Led w b base S) (hP : P = (p : Int)) (hp : p < 8) (h1 : S.bal p < v) :
    Calls Tryd.prog 7 #[.pointer (some ⟨b, 0, none⟩), .int .i64 P, .int .u64 v] w fun e w' => e = .returned (.iface 42 (.int .i64 21)) ∧ w = w' := by
  subst hP; exact payOut_few b base p v S w h hp h1
theorem payIn_bigV (b base p : Nat) (P v : Int) (S : LS) (w : World) (h : Led w b base S) (hP : P = (p : Int)) (hp : p < 8) (h0 : 0 ≤ v) (h1 : 281474976710656 < S.inn + v) :
    Calls Tryd.prog 6 #[.pointer (some ⟨b, 0, none⟩), .int .i64 P, .int .u64 v] w fun e w' => e = .returned (.iface 42 (.int .i64 2)) ∧ w = w' := by
  subst hP; exact payIn_big b base p v S w h hp h0 h1
theorem lock_V (b base p : Nat) (P v N : Int) (S S' : LS) (w : World) (h : Led w b base S) (hP : P = (p : Int)) (hp : p < 8) (h0 : 0 ≤ v) (h1 : v ≤ S.bal p) (hbase : base ≤ w.heap.size) (hn : S.bonds.length < 200) (hN : (S.bonds.length : Int) = N) (hS : S.lock p v = S') (hok : S'.Ok) :
    Calls Tryd.prog 8 #[.pointer (some ⟨b, 0, none⟩), .int .i64 P, .int .u64 v] w fun e w' => e = .returned (.tuple #[.int .i64 N, .nilIface]) ∧ Led w' b base S' ∧ Kept TL TB b w w' := by
  subst hP; subst hS; subst hN; exact lock_ok b base p v S w h hp h0 h1 hbase hn hok
theorem give_V (b base n p : Nat) (N P : Int) (S S' : LS) (w : World) (h : Led w b base S) (hP : P = (p : Int)) (hN : N = (n : Int)) (hp : p < 8) (hn : n < S.bonds.length) (hg : (S.bond n).2 = false) (hS : S.give n p = S') (hok : S'.Ok) :
    Calls Tryd.prog 9 #[.pointer (some ⟨b, 0, none⟩), .int .i64 N, .int .i64 P] w fun e w' => e = .returned .nilIface ∧ Led w' b base S' ∧ Kept TL TB b w w' := by
  subst hP; subst hS; subst hN; exact give_ok b base n p S w h hp hn hg hok
theorem give_twiceV (b base n p : Nat) (N P : Int) (S : LS) (w : World) (h : Led w b base S) (hP : P = (p : Int)) (hN : N = (n : Int)) (hp : p < 8) (hn : n < S.bonds.length) (hg : (S.bond n).2 = true) :
    Calls Tryd.prog 9 #[.pointer (some ⟨b, 0, none⟩), .int .i64 N, .int .i64 P] w fun e w' => e = .returned (.iface 42 (.int .i64 41)) ∧ w = w' := by
  subst hP; subst hN; exact give_twice b base n p S w h hp hn hg
theorem balance_V (b base p : Nat) (P B : Int) (S : LS) (w : World) (h : Led w b base S) (hP : P = (p : Int)) (hp : p < 8) (hB : S.bal p = B) :
    Calls Tryd.prog 10 #[.pointer (some ⟨b, 0, none⟩), .int .i64 P] w fun e w' => e = .returned (.tuple #[.int .u64 B, .nilIface]) ∧ w = w' := by
  subst hP; subst hB; exact balance_ok b base p S w h hp
theorem locked_V (b base : Nat) (L : Int) (S : LS) (w : World) (h : Led w b base S) (hL : S.lk = L) :
    Calls Tryd.prog 15 #[.pointer (some ⟨b, 0, none⟩)] w fun e w' => e = .returned (.int .u64 L) ∧ w = w' := by
  subst hL; exact locked_ok b base S w h
theorem flows_V (b base : Nat) (I O : Int) (S : LS) (w : World) (h : Led w b base S) (hI : S.inn = I) (hO : S.out = O) :
    Calls Tryd.prog 16 #[.pointer (some ⟨b, 0, none⟩)] w fun e w' => e = .returned (.tuple #[.int .u64 I, .int .u64 O]) ∧ Below w.heap.size w w' := by
  subst hI; subst hO; exact flows_ok b base S w h

/-- A ledger of small numbers: each of its states. -/
def LS1 : LS := LS.zero.payIn 1 10
def LS2 : LS := LS1.lock 1 4
def LS3 : LS := LS2.give 0 2
theorem bal8 (f : Nat → Int) (h : ∀ i, i < 8 → 0 ≤ f i ∧ f i ≤ 281474976710656) : ∀ i, i < 8 → 0 ≤ f i ∧ f i ≤ 281474976710656 := h
theorem lt8 {P : Nat → Prop} (h0 : P 0) (h1 : P 1) (h2 : P 2) (h3 : P 3) (h4 : P 4) (h5 : P 5) (h6 : P 6) (h7 : P 7) : ∀ i, i < 8 → P i := by
  intro i hi
  rcases (by omega : i = 0 ∨ i = 1 ∨ i = 2 ∨ i = 3 ∨ i = 4 ∨ i = 5 ∨ i = 6 ∨ i = 7) with rfl | rfl | rfl | rfl | rfl | rfl | rfl | rfl <;> assumption
theorem LS1_ok : LS1.Ok := ⟨lt8 (by decide) (by decide) (by decide) (by decide) (by decide) (by decide) (by decide) (by decide), by decide, by decide, by decide, fun n => by simp [LS1, LS.payIn, LS.zero], by decide⟩
theorem LS2_ok : LS2.Ok := ⟨lt8 (by decide) (by decide) (by decide) (by decide) (by decide) (by decide) (by decide) (by decide), by decide, by decide, by decide, fun n => by cases n <;> simp [LS2, LS1, LS.payIn, LS.lock, LS.zero], by decide⟩
theorem LS3_ok : LS3.Ok := ⟨lt8 (by decide) (by decide) (by decide) (by decide) (by decide) (by decide) (by decide) (by decide), by decide, by decide, by decide, fun n => by cases n <;> simp [LS3, LS2, LS1, LS.payIn, LS.lock, LS.give, LS.bond, LS.zero], by decide⟩

set_option maxRecDepth 100000 in
set_option maxHeartbeats 2000000 in
theorem fixed18_calls (w : World) : Calls Tryd.prog 5 #[] w fun e w' => e = .returned (.bool true) ∧ Below w.heap.size w w' := by
  go_enter Tryd.func5, Tryd.ntmps5
  go_wp2_with (first
    | (go_at_call 4; (with_reducible refine (new_calls _).mono ?_); rintro e w1 ⟨rfl, hL1, hb1⟩; have HL1 := Lib.hid hL1; have HB1 := Lib.hid hb1; have hz1 : w.heap.size < w1.heap.size := (hL1.row.choose_spec.1.lt); clear hL1 hb1)
    | (go_at_call 6; (with_reducible refine (payIn_V w.heap.size (w.heap.size + 1) 1 1 10 LS.zero LS1 _ HL1.out rfl (by decide) (by decide) (by decide) rfl LS1_ok).mono ?_); rintro e w2 ⟨rfl, hL2, hk2⟩; have HL2 := Lib.hid hL2; have HK2 := Lib.hid hk2; have hz2 := hk2.below.size; clear hL2 hk2)
    | (go_at_call 8; (with_reducible refine (lock_V w.heap.size (w.heap.size + 1) 1 1 4 0 LS1 LS2 _ HL2.out rfl (by decide) (by decide) (by decide) (by omega) (by decide) rfl rfl LS2_ok).mono ?_); rintro e w3 ⟨rfl, hL3, hk3⟩; have HL3 := Lib.hid hL3; have HK3 := Lib.hid hk3; have hz3 := hk3.below.size; clear hL3 hk3)
    | (go_at_call 10; (with_reducible refine (balance_V w.heap.size (w.heap.size + 1) 1 1 6 LS2 _ HL3.out rfl (by decide) rfl).mono ?_); rintro e w' ⟨rfl, rfl⟩)
    | (go_at_call 15; (with_reducible refine (locked_V w.heap.size (w.heap.size + 1) 4 LS2 _ HL3.out rfl).mono ?_); rintro e w' ⟨rfl, rfl⟩)
    | (go_at_call 9; (with_reducible refine (give_V w.heap.size (w.heap.size + 1) 0 2 0 2 LS2 LS3 _ HL3.out rfl rfl (by decide) (by decide) rfl rfl LS3_ok).mono ?_); rintro e w4 ⟨rfl, hL4, hk4⟩; have HL4 := Lib.hid hL4; have HK4 := Lib.hid hk4; have hz4 := hk4.below.size; clear hL4 hk4)
    | (go_at_call 9; (with_reducible refine (give_twiceV w.heap.size (w.heap.size + 1) 0 2 0 2 LS3 _ HL4.out rfl rfl (by decide) (by decide) rfl).mono ?_); rintro e w' ⟨rfl, rfl⟩)
    | (go_at_call 11; refine (is_num _ _ _).mono ?_; rintro e w' ⟨rfl, rfl⟩))
  go_returns
  exact ⟨rfl, HB1.out.trans (HK2.out.below.trans (HK3.out.below.trans HK4.out.below))⟩
end Go.Proofs.YtpphahaphncpaaaDoor
