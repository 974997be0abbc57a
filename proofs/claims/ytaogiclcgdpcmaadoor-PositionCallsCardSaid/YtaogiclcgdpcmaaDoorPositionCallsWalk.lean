/-
  The walk of PositionCalls: it returns true for every input.
-/
import Derived.Test.YtaogiclcgdpcmaaDoorPosRef
import Derived.Test.YtaogiclcgdpcmaaDoorLaid
set_option linter.unusedVariables false
namespace Go.Proofs.YtaogiclcgdpcmaaDoor
open Go.RowKit

set_option maxRecDepth 100000 in
set_option maxHeartbeats 4000000 in
theorem positionCalls_walk (w : World) (a0 : Int) (w0 : (Lit.int .u64 a0).wf = true) (a1 : Int) (w1 : (Lit.int .i64 a1).wf = true) (a2 : Int) (w2 : (Lit.int .u64 a2).wf = true) (laid : laidMetH Tryd.prog Rows.positionCallsRow.laid w) :
    Calls Tryd.prog 3 #[.int .u64 a0, .int .i64 a1, .int .u64 a2] w fun e w' => e = .returned (.bool true) ∧ Below w.heap.size w w' := by
  have HE : Hid (ErrType w) := errType_of_laid laid
  have b0 := (u64_wf w0).1
  have b2 := (u64_wf w2).1
  clear w0 w1 w2 laid
  obtain ⟨v1, n1, A1, B1⟩ := make_pair a1 a2 b2
  obtain ⟨D2, i2, n2, A2, B2⟩ := parts_pair a0 b0
  obtain ⟨v3, n3, A3, B3⟩ := trace_pair a0 a1 b0
  obtain ⟨v4, n4, A4, B4⟩ := attack_pair a0 b0
  obtain ⟨v5, n5, A5, B5⟩ := defend_pair a0 b0
  have A1' := Lib.hid A1; have A2' := Lib.hid A2; have A3' := Lib.hid A3; have A4' := Lib.hid A4; have A5' := Lib.hid A5
  have B1' := Lib.hid B1; have B2' := Lib.hid B2; have B3' := Lib.hid B3; have B4' := Lib.hid B4; have B5' := Lib.hid B5
  clear A1 A2 A3 A4 A5 B1 B2 B3 B4 B5
  have P6 := Lib.hid (highest_pair a0 a1)
  go_enter Tryd.func3, Tryd.ntmps3
  go_wp2_with (first
    | (go_at_call 4; (with_reducible refine (A1'.out _).mono ?_); rintro e1 w1 ⟨rfl, hb1⟩; obtain ⟨hc1, hf1⟩ := bcell hb1; have hz1 := hb1.size; (try simp at hz1))
    | (go_at_call 5; (with_reducible refine (B1'.out _).mono ?_); rintro e2 w2 ⟨rfl, hb2⟩; obtain ⟨hc2, hf2⟩ := bcell hb2; have hz2 := hb2.size; (try simp at hz2))
    | (go_at_call 6; (with_reducible refine (A2'.out _).mono ?_); rintro e3 w3 ⟨rfl, hb3⟩; obtain ⟨hc3, hf3⟩ := bcell hb3; have hz3 := hb3.size; (try simp at hz3))
    | (go_at_call 7; (with_reducible refine (B2'.out _).mono ?_); rintro e4 w4 ⟨rfl, hb4⟩; obtain ⟨hc4, hf4⟩ := bcell hb4; have hz4 := hb4.size; (try simp at hz4))
    | (go_at_call 8; (with_reducible refine (fixed16_calls _).mono ?_); rintro e5 w5 ⟨rfl, hb5⟩; obtain ⟨hc5, hf5⟩ := bcell hb5; have hz5 := hb5.size; (try simp at hz5); have E5 : Hid (ErrType w5) := (HE.out.below (by (repeat' (first | (with_reducible exact Below.refl _ _) | (with_reducible refine Below.alloc ?_ ?_ _) | (with_reducible refine Below.drew ?_) | (with_reducible refine Below.setCell ?_ ?_ _) | (with_reducible refine Below.thn (by assumption) ?_ ?_) | (with_reducible refine below_drewN ?_ _) | go_size)))))
    | (go_at_call 9; (with_reducible refine (same_ok v1 n1 _ E5).mono ?_); rintro e6 w6 ⟨rfl, hb6⟩; obtain ⟨hc6, hf6⟩ := bcell hb6; have hz6 := hb6.size; (try simp at hz6); have E6 : Hid (ErrType w6) := (HE.out.below (by (repeat' (first | (with_reducible exact Below.refl _ _) | (with_reducible refine Below.alloc ?_ ?_ _) | (with_reducible refine Below.drew ?_) | (with_reducible refine Below.setCell ?_ ?_ _) | (with_reducible refine Below.thn (by assumption) ?_ ?_) | (with_reducible refine below_drewN ?_ _) | go_size)))))
    | (go_at_call 9; (with_reducible refine (same_ok i2 n2 _ E6).mono ?_); rintro e19 w19 ⟨rfl, hb19⟩; obtain ⟨hc19, hf19⟩ := bcell hb19; have hz19 := hb19.size; (try simp at hz19))
    | (go_at_call 10; (with_reducible refine (A3'.out _).mono ?_); rintro e7 w7 ⟨rfl, hb7⟩; obtain ⟨hc7, hf7⟩ := bcell hb7; have hz7 := hb7.size; (try simp at hz7))
    | (go_at_call 11; (with_reducible refine (B3'.out _).mono ?_); rintro e8 w8 ⟨rfl, hb8⟩; obtain ⟨hc8, hf8⟩ := bcell hb8; have hz8 := hb8.size; (try simp at hz8); have E8 : Hid (ErrType w8) := (HE.out.below (by (repeat' (first | (with_reducible exact Below.refl _ _) | (with_reducible refine Below.alloc ?_ ?_ _) | (with_reducible refine Below.drew ?_) | (with_reducible refine Below.setCell ?_ ?_ _) | (with_reducible refine Below.thn (by assumption) ?_ ?_) | (with_reducible refine below_drewN ?_ _) | go_size)))))
    | (go_at_call 9; (with_reducible refine (same_ok v3 n3 _ E8).mono ?_); rintro e9 w9 ⟨rfl, hb9⟩; obtain ⟨hc9, hf9⟩ := bcell hb9; have hz9 := hb9.size; (try simp at hz9))
    | (go_at_call 12; (with_reducible refine (A4'.out _).mono ?_); rintro e10 w10 ⟨rfl, hb10⟩; obtain ⟨hc10, hf10⟩ := bcell hb10; have hz10 := hb10.size; (try simp at hz10))
    | (go_at_call 13; (with_reducible refine (B4'.out _).mono ?_); rintro e11 w11 ⟨rfl, hb11⟩; obtain ⟨hc11, hf11⟩ := bcell hb11; have hz11 := hb11.size; (try simp at hz11); have E11 : Hid (ErrType w11) := (HE.out.below (by (repeat' (first | (with_reducible exact Below.refl _ _) | (with_reducible refine Below.alloc ?_ ?_ _) | (with_reducible refine Below.drew ?_) | (with_reducible refine Below.setCell ?_ ?_ _) | (with_reducible refine Below.thn (by assumption) ?_ ?_) | (with_reducible refine below_drewN ?_ _) | go_size)))))
    | (go_at_call 9; (with_reducible refine (same_ok v4 n4 _ E11).mono ?_); rintro e12 w12 ⟨rfl, hb12⟩; obtain ⟨hc12, hf12⟩ := bcell hb12; have hz12 := hb12.size; (try simp at hz12))
    | (go_at_call 14; (with_reducible refine (A5'.out _).mono ?_); rintro e13 w13 ⟨rfl, hb13⟩; obtain ⟨hc13, hf13⟩ := bcell hb13; have hz13 := hb13.size; (try simp at hz13))
    | (go_at_call 15; (with_reducible refine (B5'.out _).mono ?_); rintro e14 w14 ⟨rfl, hb14⟩; obtain ⟨hc14, hf14⟩ := bcell hb14; have hz14 := hb14.size; (try simp at hz14); have E14 : Hid (ErrType w14) := (HE.out.below (by (repeat' (first | (with_reducible exact Below.refl _ _) | (with_reducible refine Below.alloc ?_ ?_ _) | (with_reducible refine Below.drew ?_) | (with_reducible refine Below.setCell ?_ ?_ _) | (with_reducible refine Below.thn (by assumption) ?_ ?_) | (with_reducible refine below_drewN ?_ _) | go_size)))))
    | (go_at_call 9; (with_reducible refine (same_ok v5 n5 _ E14).mono ?_); rintro e15 w15 ⟨rfl, hb15⟩; obtain ⟨hc15, hf15⟩ := bcell hb15; have hz15 := hb15.size; (try simp at hz15))
    | (go_at_call 16; (with_reducible refine (P6.out _ b0).mono ?_); rintro e16 w16 ⟨v6, n6, rfl, hb16, HR⟩; have HR' := Lib.hid HR; clear HR; have hz16 := hb16.size; (try simp at hz16))
    | (go_at_call 17; (with_reducible refine (HR'.out _).mono ?_); rintro e17 w17 ⟨rfl, hb17⟩; obtain ⟨hc17, hf17⟩ := bcell hb17; have hz17 := hb17.size; (try simp at hz17); have E17 : Hid (ErrType w17) := (HE.out.below (by (repeat' (first | (with_reducible exact Below.refl _ _) | (with_reducible refine Below.alloc ?_ ?_ _) | (with_reducible refine Below.drew ?_) | (with_reducible refine Below.setCell ?_ ?_ _) | (with_reducible refine Below.thn (by assumption) ?_ ?_) | (with_reducible refine below_drewN ?_ _) | go_size)))))
    | (go_at_call 9; (with_reducible refine (same_ok v6 n6 _ E17).mono ?_); rintro e18 w18 ⟨rfl, hb18⟩; obtain ⟨hc18, hf18⟩ := bcell hb18; have hz18 := hb18.size; (try simp at hz18)))
  go_returns
  exact ⟨rfl, by (repeat' (first | (with_reducible exact Below.refl _ _) | (with_reducible refine Below.alloc ?_ ?_ _) | (with_reducible refine Below.drew ?_) | (with_reducible refine Below.setCell ?_ ?_ _) | (with_reducible refine Below.thn (by assumption) ?_ ?_) | (with_reducible refine below_drewN ?_ _) | go_size))⟩
end Go.Proofs.YtaogiclcgdpcmaaDoor
