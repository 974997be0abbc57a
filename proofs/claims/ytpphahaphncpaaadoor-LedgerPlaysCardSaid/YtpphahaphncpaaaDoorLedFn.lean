/-
  The ledger's calls by their contracts.
-/
import Derived.Test.YtpphahaphncpaaaDoorLed
set_option linter.unusedVariables false
set_option linter.unusedSimpArgs false
namespace Go.Proofs.YtpphahaphncpaaaDoor
open Go.RowKit

theorem LS.cell_bal (S : LS) (v : Value) {p : Nat} (hp : p < 8) : S.cell v p = .int .u64 (S.bal p) := by unfold LS.cell; rw [if_pos hp]
theorem Led.ty {w : World} {b base : Nat} {S : LS} (h : Led w b base S) : ∃ cs, w.heap[b]? = some (.cells cs TL (0, 0)) := by
  obtain ⟨v, ⟨cs, h1, _⟩, _⟩ := h.row; exact ⟨cs, h1⟩

/-- The cells that a call on a ledger reads. -/
structure Seen (w : World) (b p : Nat) (S : LS) (v : Value) : Prop where
  p : w.cell? ⟨b, p, none⟩ = some (.int .u64 (S.bal p))
  inn : w.cell? ⟨b, 8, none⟩ = some (.int .u64 S.inn)
  out : w.cell? ⟨b, 9, none⟩ = some (.int .u64 S.out)
  bonds : w.cell? ⟨b, 10, none⟩ = some v
  lk : w.cell? ⟨b, 11, none⟩ = some (.int .u64 S.lk)
  fr : ∀ i, w.frozen? ⟨b, i, none⟩ = false
theorem seen {w : World} {b p : Nat} {S : LS} {v : Value} (h : w.rowIs b TL 12 (S.cell v)) (hp : p < 8) : Seen w b p S v :=
  ⟨by rw [h.cell (by omega), S.cell_bal v hp], h.cell (i := 8) (by omega), h.cell (i := 9) (by omega), h.cell (i := 10) (by omega), h.cell (i := 11) (by omega), fun i => h.frozen i⟩

theorem balance_ok (b base p : Nat) (S : LS) (w : World) (h : Led w b base S) (hp : p < 8) :
    Calls Tryd.prog 10 #[.pointer (some ⟨b, 0, none⟩), .int .i64 p] w fun e w' => e = .returned (.tuple #[.int .u64 (S.bal p), .nilIface]) ∧ w = w' := by
  obtain ⟨v, hr, _⟩ := h.row
  have hc := (seen hr hp).p
  clear h hr
  go_enter Tryd.func10, Tryd.ntmps10
  go_wp2_with (go_at_call 18; refine (ready_ok b p _ hp).mono ?_; rintro e w' ⟨rfl, rfl⟩)
  go_returns
  exact ⟨rfl, rfl⟩
theorem balance_bad (b : Nat) (p : Int) (w : World) (hp : p < 0 ∨ 8 ≤ p) :
    Calls Tryd.prog 10 #[.pointer (some ⟨b, 0, none⟩), .int .i64 p] w fun e w' => e = .returned (.tuple #[.int .u64 0, .iface 42 (.int .i64 2)]) ∧ w = w' := by
  have H := Lib.hid hp
  clear hp
  go_enter Tryd.func10, Tryd.ntmps10
  go_wp2_with (go_at_call 18; refine (ready_bad b p _ H.out).mono ?_; rintro e w' ⟨rfl, rfl⟩)
  go_returns
  exact ⟨rfl, rfl⟩
theorem balance_nil (p : Int) (w : World) :
    Calls Tryd.prog 10 #[.pointer none, .int .i64 p] w fun e w' => e = .returned (.tuple #[.int .u64 0, .iface 42 (.int .i64 1)]) ∧ w = w' := by
  go_enter Tryd.func10, Tryd.ntmps10
  go_wp2_with (go_at_call 18; refine (ready_nil p _).mono ?_; rintro e w' ⟨rfl, rfl⟩)
  go_returns
  exact ⟨rfl, rfl⟩
theorem locked_ok (b base : Nat) (S : LS) (w : World) (h : Led w b base S) :
    Calls Tryd.prog 15 #[.pointer (some ⟨b, 0, none⟩)] w fun e w' => e = .returned (.int .u64 S.lk) ∧ w = w' := by
  obtain ⟨v, hr, _⟩ := h.row
  have hc := (seen (p := 0) hr (by omega)).lk
  clear h hr
  go_enter Tryd.func15, Tryd.ntmps15
  go_wp2
  go_returns
  exact ⟨rfl, rfl⟩
theorem locked_nil (w : World) :
    Calls Tryd.prog 15 #[.pointer none] w fun e w' => e = .returned (.int .u64 0) ∧ w = w' := by
  go_enter Tryd.func15, Tryd.ntmps15
  go_wp2
  go_returns
  exact ⟨rfl, rfl⟩
theorem flows_ok (b base : Nat) (S : LS) (w : World) (h : Led w b base S) :
    Calls Tryd.prog 16 #[.pointer (some ⟨b, 0, none⟩)] w fun e w' => e = .returned (.tuple #[.int .u64 S.inn, .int .u64 S.out]) ∧ Below w.heap.size w w' := by
  obtain ⟨v, hr, _⟩ := h.row
  have hc := (seen (p := 0) hr (by omega)).inn
  have hd := (seen (p := 0) hr (by omega)).out
  clear h hr
  go_enter Tryd.func16, Tryd.ntmps16
  go_wp2
  go_quiet (fail)
  go_wp2
  go_returns
  exact ⟨rfl, by (repeat' (first | (with_reducible exact Below.refl _ _) | (with_reducible refine Below.alloc ?_ ?_ _) | (with_reducible refine Below.drew ?_) | (with_reducible refine Below.setCell ?_ ?_ _) | (with_reducible refine Below.thn (by assumption) ?_ ?_) | (with_reducible refine below_drewN ?_ _) | go_size))⟩
theorem flows_nil (w : World) :
    Calls Tryd.prog 16 #[.pointer none] w fun e w' => e = .returned (.tuple #[.int .u64 0, .int .u64 0]) ∧ Below w.heap.size w w' := by
  go_enter Tryd.func16, Tryd.ntmps16
  go_wp2
  go_returns
  exact ⟨rfl, by (repeat' (first | (with_reducible exact Below.refl _ _) | (with_reducible refine Below.alloc ?_ ?_ _) | (with_reducible refine Below.drew ?_) | (with_reducible refine Below.setCell ?_ ?_ _) | (with_reducible refine Below.thn (by assumption) ?_ ?_) | (with_reducible refine below_drewN ?_ _) | go_size))⟩

/-! ### The calls that change it -/
def LS.payIn (S : LS) (p : Nat) (v : Int) : LS := { S with inn := S.inn + v, bal := upd S.bal p (S.bal p + v) }
def LS.payOut (S : LS) (p : Nat) (v : Int) : LS := { S with out := S.out + v, bal := upd S.bal p (S.bal p - v) }
def LS.take (S : LS) (p : Nat) (v : Int) : LS := { S with bal := upd S.bal p (S.bal p - v) }
def LS.lock (S : LS) (p : Nat) (v : Int) : LS := { S with bal := upd S.bal p (S.bal p - v), lk := S.lk + v, bonds := S.bonds ++ [(v, false)] }
def LS.bond (S : LS) (n : Nat) : Int × Bool := S.bonds.getD n (0, false)
def LS.give (S : LS) (n p : Nat) : LS := { S with bal := upd S.bal p (S.bal p + (S.bond n).1), lk := S.lk - (S.bond n).1, bonds := S.bonds.set n ((S.bond n).1, true) }

theorem Kept.own {b n : Nat} {f : Nat → Value} {w w1 : World} (h : Kept TL TB b w w1) (hr : w1.rowIs b TL n f) (i : Nat) (u : Value) : Kept TL TB b w (w1.setCell ⟨b, i, none⟩ u) := by
  obtain ⟨c, hb, _, _⟩ := hr
  exact h.setCell (p := ⟨b, i, none⟩) (Nat.le_refl _) hb (.inl rfl) u
theorem payIn_ok (b base p : Nat) (v : Int) (S : LS) (w : World) (h : Led w b base S) (hp : p < 8) (h0 : 0 ≤ v) (h1 : S.inn + v ≤ 281474976710656) (hok : (S.payIn p v).Ok) :
    Calls Tryd.prog 6 #[.pointer (some ⟨b, 0, none⟩), .int .i64 p, .int .u64 v] w fun e w' => e = .returned .nilIface ∧ Led w' b base (S.payIn p v) ∧ Kept TL TB b w w' := by
  obtain ⟨x, hr, hown⟩ := h.row
  have hs := seen hr hp
  have c1 := hs.p
  have c2 := hs.inn
  have f1 := hs.fr p
  have f2 := hs.fr 8
  have i1 := h.ok.inn
  have i2 := h.ok.bal p hp
  have HW : Hid (w.rowIs b TL 12 (S.cell x)) := hr
  have HO : Hid (w.ownsRow base TB 2 x S.bonds.length (flatB S.bonds)) := hown
  have HL : Hid (Led w b base S) := h
  have HK := Lib.hid hok
  clear hs hr hown h hok
  have hne : ((8 : Nat) = p) = False := by simp; omega
  go_enter Tryd.func6, Tryd.ntmps6
  go_wp2_with (go_at_call 18; refine (ready_ok b p _ hp).mono ?_; rintro e w' ⟨rfl, rfl⟩)
  go_region
  go_wp2
  go_returns
  refine ⟨rfl, ⟨HL.out.lt, HK.out, x, ?_, ?_⟩, ?_⟩
  · refine ((HW.out.set 8 _).set p _).congr ?_
    intro i hi
    have hp8 : ¬ 8 = p := by omega
    have hp9 : ¬ p = 8 := by omega
    by_cases h1 : i = p <;> by_cases h2 : i = 8 <;> simp [LS.cell, LS.payIn, upd, h1, h2, hp, hp8, hp9]
  · exact ownsRow_setCell_below (ownsRow_setCell_below HO.out HL.out.lt _) HL.out.lt _
  · exact (((Kept.refl _ _ _ _).own HW.out 8 _).own (HW.out.set 8 _) p _).drew
theorem payIn_big (b base p : Nat) (v : Int) (S : LS) (w : World) (h : Led w b base S) (hp : p < 8) (h0 : 0 ≤ v) (h1 : 281474976710656 < S.inn + v) :
    Calls Tryd.prog 6 #[.pointer (some ⟨b, 0, none⟩), .int .i64 p, .int .u64 v] w fun e w' => e = .returned (.iface 42 (.int .i64 2)) ∧ w = w' := by
  obtain ⟨x, hr, hown⟩ := h.row
  have hs := seen hr hp
  have c1 := hs.p
  have c2 := hs.inn
  have i1 := h.ok.inn
  clear hs hr hown h
  by_cases hv : 281474976710656 < v
  · go_enter Tryd.func6, Tryd.ntmps6
    go_wp2_with (go_at_call 18; refine (ready_ok b p _ hp).mono ?_; rintro e w' ⟨rfl, rfl⟩)
    go_returns
    exact ⟨rfl, rfl⟩
  · go_enter Tryd.func6, Tryd.ntmps6
    go_wp2_with (go_at_call 18; refine (ready_ok b p _ hp).mono ?_; rintro e w' ⟨rfl, rfl⟩)
    go_returns
    exact ⟨rfl, rfl⟩
theorem payIn_bad (b : Nat) (p v : Int) (w : World) (hp : p < 0 ∨ 8 ≤ p) :
    Calls Tryd.prog 6 #[.pointer (some ⟨b, 0, none⟩), .int .i64 p, .int .u64 v] w fun e w' => e = .returned (.iface 42 (.int .i64 2)) ∧ w = w' := by
  have H := Lib.hid hp
  clear hp
  go_enter Tryd.func6, Tryd.ntmps6
  go_wp2_with (go_at_call 18; refine (ready_bad b p _ H.out).mono ?_; rintro e w' ⟨rfl, rfl⟩)
  go_returns
  exact ⟨rfl, rfl⟩
theorem payIn_nil (p v : Int) (w : World) :
    Calls Tryd.prog 6 #[.pointer none, .int .i64 p, .int .u64 v] w fun e w' => e = .returned (.iface 42 (.int .i64 1)) ∧ w = w' := by
  go_enter Tryd.func6, Tryd.ntmps6
  go_wp2_with (go_at_call 18; refine (ready_nil p _).mono ?_; rintro e w' ⟨rfl, rfl⟩)
  go_returns
  exact ⟨rfl, rfl⟩

theorem take_ok (b base p : Nat) (v : Int) (S : LS) (w : World) (h : Led w b base S) (hp : p < 8) (h0 : 0 ≤ v) (h1 : v ≤ S.bal p) :
    Calls Tryd.prog 19 #[.pointer (some ⟨b, 0, none⟩), .int .i64 p, .int .u64 v] w fun e w' => e = .returned .nilIface ∧ (w.setCell ⟨b, p, none⟩ (.int .u64 (S.bal p - v))).drew = w' := by
  obtain ⟨x, hr, hown⟩ := h.row
  have hs := seen hr hp
  have c1 := hs.p
  have f1 := hs.fr p
  have i2 := h.ok.bal p hp
  clear hs hr hown h
  go_enter Tryd.func19, Tryd.ntmps19
  go_wp2_with (go_at_call 18; refine (ready_ok b p _ hp).mono ?_; rintro e w' ⟨rfl, rfl⟩)
  go_region
  go_wp2
  go_returns
  exact ⟨rfl, rfl⟩
theorem take_few (b base p : Nat) (v : Int) (S : LS) (w : World) (h : Led w b base S) (hp : p < 8) (h1 : S.bal p < v) :
    Calls Tryd.prog 19 #[.pointer (some ⟨b, 0, none⟩), .int .i64 p, .int .u64 v] w fun e w' => e = .returned (.iface 42 (.int .i64 21)) ∧ w = w' := by
  obtain ⟨x, hr, hown⟩ := h.row
  have hs := seen hr hp
  have c1 := hs.p
  clear hs hr hown h
  go_enter Tryd.func19, Tryd.ntmps19
  go_wp2_with (go_at_call 18; refine (ready_ok b p _ hp).mono ?_; rintro e w' ⟨rfl, rfl⟩)
  go_returns
  exact ⟨rfl, rfl⟩
theorem take_bad (b : Nat) (p v : Int) (w : World) (hp : p < 0 ∨ 8 ≤ p) :
    Calls Tryd.prog 19 #[.pointer (some ⟨b, 0, none⟩), .int .i64 p, .int .u64 v] w fun e w' => e = .returned (.iface 42 (.int .i64 2)) ∧ w = w' := by
  have H := Lib.hid hp
  clear hp
  go_enter Tryd.func19, Tryd.ntmps19
  go_wp2_with (go_at_call 18; refine (ready_bad b p _ H.out).mono ?_; rintro e w' ⟨rfl, rfl⟩)
  go_returns
  exact ⟨rfl, rfl⟩
theorem take_nil (p v : Int) (w : World) :
    Calls Tryd.prog 19 #[.pointer none, .int .i64 p, .int .u64 v] w fun e w' => e = .returned (.iface 42 (.int .i64 1)) ∧ w = w' := by
  go_enter Tryd.func19, Tryd.ntmps19
  go_wp2_with (go_at_call 18; refine (ready_nil p _).mono ?_; rintro e w' ⟨rfl, rfl⟩)
  go_returns
  exact ⟨rfl, rfl⟩

theorem payOut_ok (b base p : Nat) (v : Int) (S : LS) (w : World) (h : Led w b base S) (hp : p < 8) (h0 : 0 ≤ v) (h1 : v ≤ S.bal p) (hok : (S.payOut p v).Ok) :
    Calls Tryd.prog 7 #[.pointer (some ⟨b, 0, none⟩), .int .i64 p, .int .u64 v] w fun e w' => e = .returned .nilIface ∧ Led w' b base (S.payOut p v) ∧ Kept TL TB b w w' := by
  obtain ⟨x, hr, hown⟩ := h.row
  have hs := seen hr hp
  have c1 := hs.p
  have c2 := hs.out
  have f1 := hs.fr p
  have f2 := hs.fr 9
  have i2 := h.ok.bal p hp
  have i3 := h.ok.out
  have i4 : S.out + v ≤ 281474976710656 := hok.out.2
  have HW : Hid (w.rowIs b TL 12 (S.cell x)) := hr
  have HO : Hid (w.ownsRow base TB 2 x S.bonds.length (flatB S.bonds)) := hown
  have HL : Hid (Led w b base S) := h
  have HK := Lib.hid hok
  clear hs hr hown h hok
  have hne : ((9 : Nat) = p) = False := by simp; omega
  have hne' : (p = (9 : Nat)) = False := by simp; omega
  go_enter Tryd.func7, Tryd.ntmps7
  go_wp2_with (go_at_call 19; (with_reducible refine (take_ok b base p v S _ HL.out hp h0 h1).mono ?_); rintro e w' ⟨rfl, rfl⟩)
  go_returns
  refine ⟨rfl, ⟨HL.out.lt, HK.out, x, ?_, ?_⟩, ?_⟩
  · refine ((HW.out.set p _).set 9 _).congr ?_
    intro i hi
    have hp8 : ¬ 9 = p := by omega
    have hp9 : ¬ p = 9 := by omega
    by_cases h1 : i = p <;> by_cases h2 : i = 9 <;> simp [LS.cell, LS.payOut, upd, h1, h2, hp, hp8, hp9]
  · exact ownsRow_setCell_below (ownsRow_setCell_below HO.out HL.out.lt _) HL.out.lt _
  · exact (((Kept.refl _ _ _ _).own HW.out p _).own (HW.out.set p _) 9 _).drew
end Go.Proofs.YtpphahaphncpaaaDoor
