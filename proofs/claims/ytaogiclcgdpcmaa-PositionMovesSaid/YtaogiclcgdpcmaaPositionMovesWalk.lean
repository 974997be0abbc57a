/-
  The walk of PositionMoves: it returns true for every input.
-/
import Derived.Test.YtaogiclcgdpcmaaPositionOrderWalk
import Derived.Test.YtaogiclcgdpcmaaBools
import Derived.Test.YtaogiclcgdpcmaaMov
set_option linter.unusedVariables false
namespace Go.Proofs.Ytaogiclcgdpcmaa
open Go.RowKit

theorem mov_bounds {D k : Nat} {p l h : Int} (hD : D ≤ 24) (H : Mov.MV D k p l h) : 1 ≤ p ∧ p ≤ 33554432 ∧ 0 ≤ Mov.T D k p ∧ Mov.T D k p ≤ 16777215 := by
  have h1 := H.h1; have h2 := H.h2; have hi := H.hi
  have a := (pow_bounds k (by omega)).1
  have b := (pow_bounds (k + 1) (by omega)).2
  have s := shift_bounds k D p hi hD h1 h2
  unfold Mov.T
  exact ⟨by omega, by omega, by omega, by omega⟩

theorem below_thn {B : Nat} {w w1 w2 : World} (h1 : Below B w w1) (h2 : Below w1.heap.size w1 w2) (hs : B ≤ w1.heap.size) : Below B w w2 := h1.trans (h2.mono hs)

set_option maxRecDepth 100000 in
set_option maxHeartbeats 8000000 in
theorem positionMoves_walk (w : World) (a0 : Option Addr) (len0 cap0 : Nat) (z0 : Nat → Bool) (w0 : IsBools w a0 len0 z0) (a1 : Int) (w1 : (Lit.int .i64 a1).wf = true) :
    Calls Try.prog 6 #[.slice a0 len0 cap0, .int .i64 a1] w fun e w' => e = .returned (.bool true) ∧ Below w.heap.size w w' := by
  clear w1
  have hlen := w0.1
  have HR := Lib.hid w0.2
  clear w0
  obtain ⟨d0, hE, hd0⟩ := tmod_small a1 24 (by omega)
  obtain ⟨D, hD⟩ : ∃ D : Nat, D = 1 + d0 := ⟨_, rfl⟩
  have hE2 : 1 + (d0 : Int) = (D : Int) := by omega
  have hd : D ≤ 24 := by omega
  have hd1 : 1 ≤ D := by omega
  clear hD hd0
  have p1 := (pow_bounds D (by omega)).2
  have p0 := (pow_bounds D (by omega)).1
  have p2 : (2 : Int) ^ D ≤ 16777216 := by
    have h0 := Nat.pow_le_pow_right (n := 2) (by omega) hd
    have h1 : (2 : Int) ^ D ≤ 2 ^ 24 := by exact_mod_cast h0
    omega
  have HP2 := Lib.hid p2
  clear p2
  go_enter Try.func6, Try.ntmps6
  go_wp2_with (go_at_call 10; (with_reducible refine (fixed16_calls _).mono ?_); rintro e1 w1 ⟨rfl, hb1⟩; obtain ⟨hc1, hf1⟩ := bcell hb1; have hz1 := hb1.size; (try simp at hz1))
  clear hE hE2
  have Hc := Lib.hid hc1
  have Hf := Lib.hid hf1
  clear hc1 hf1
  go_loopw [5, 6, 7, 37] (fun p l h i wr => ∃ (k : Nat) (pv lv hv : Int), p = .int .u64 pv ∧ l = .int .u64 lv ∧ h = .int .u64 hv ∧ i = .int .i64 k ∧ k ≤ len0 ∧ Hid (Mov.MV D k pv lv hv) ∧ Below w1.heap.size w1 wr) (fun _ _ _ i _ => len0 - (intOf i).toNat)
  case atStart => exact ⟨0, 1, 0, 2 ^ D - 1, rfl, rfl, rfl, rfl, by omega, ⟨by omega, by simp, by simp, by omega, by simp, by have := HP2.out; omega, .inl (by simp)⟩, Below.refl _ _⟩
  case round =>
    obtain ⟨k, pv, lv, hv, rfl, rfl, rfl, rfl, hkl, HM, hbr⟩ := hrel
    have hsr := hbr.size
    have m1 := HM.out.hi
    have H1 := Lib.hid HM.out.h1
    have H2 := Lib.hid HM.out.h2
    have l0 := HM.out.l0
    have hh := HM.out.hh
    have mb := mov_bounds hd HM.out
    obtain ⟨t, ht⟩ : ∃ t, t = Mov.T D k pv := ⟨_, rfl⟩
    rw [← ht] at mb
    obtain ⟨b1, b2, b3, b4⟩ := mb
    have HT := Lib.hid ht
    have KT : Hid ((pv - 2 ^ k + 1) * 2 ^ (D - k) - 1 = t) := ht.symm
    clear ht
    by_cases hlt : k < len0 ∧ k < D
    · obtain ⟨hlt, hkd⟩ := hlt
      have q0 := (pow_bounds k (by omega)).1
      have q1 := (pow_bounds k (by omega)).2
      obtain ⟨xb, xo, rfl, hxb, hx⟩ := HR.out k hlt
      have hxr : wr.cell? ⟨xb, xo + k, none⟩ = some (.bool (z0 k)) := by
        rw [hbr.cell (p := ⟨xb, xo + k, none⟩) (by have := hb1.size; show xb < _; omega), Hc.out _ _ hxb]; exact hx
      clear hx
      cases hz : z0 k
      · rw [hz] at hxr
        clear hz
        have HA := Lib.hid (Mov.attack HM.out hkd (by rw [← HT.out]; omega))
        obtain ⟨u, hu⟩ : ∃ u, u = Mov.T D (k + 1) (2 * pv) := ⟨_, rfl⟩
        have c1 : u < t := by rw [hu, HT.out]; exact HA.out.2.1
        have c2 : lv ≤ u := by rw [hu]; exact HA.out.2.2
        have mb2 := mov_bounds hd HA.out.1
        rw [← hu] at mb2
        obtain ⟨b5, b6, b7, b8⟩ := mb2
        have HU := Lib.hid hu
        have KU : Hid ((2 * pv - 2 ^ (k + 1) + 1) * 2 ^ (D - (k + 1)) - 1 = u) := hu.symm
        clear hu
        have HM2 : Hid (Mov.MV D (k + 1) (2 * pv) lv t) := by rw [HT.out]; exact HA.out.1
        go_wp2_with (first
          | (go_at_call 12; (with_reducible refine (trace_okV (D : Int) k D pv t _ (by omega) (by omega) (by omega) H1.out H2.out KT.out).mono ?_); rintro e2 w2 ⟨rfl, hb2⟩; obtain ⟨hc2, hf2⟩ := bcell hb2; have hz2 := hb2.size; (try simp at hz2))
          | (go_at_call 9; (with_reducible refine (attack_ok k pv _ (by omega) H1.out H2.out).mono ?_); rintro e3 w3 ⟨rfl, hb3⟩; obtain ⟨hc3, hf3⟩ := bcell hb3; have hz3 := hb3.size; (try simp at hz3))
          | (go_at_call 14; refine (is_nil _ _).mono ?_; rintro e w' ⟨rfl, rfl⟩)
          | (go_at_call 12; (with_reducible refine (trace_okV (D : Int) (k + 1) D (2 * pv) u _ (by omega) (by omega) (by omega) HA.out.1.h1 HA.out.1.h2 KU.out).mono ?_); rintro e4 w4 ⟨rfl, hb4⟩; obtain ⟨hc4, hf4⟩ := bcell hb4; have hz4 := hb4.size; (try simp at hz4)))
        go_roundw
        case rel => exact ⟨k + 1, 2 * pv, lv, t, rfl, rfl, rfl, by go_num, by omega, HM2, hbr.trans (by (repeat' (first | (with_reducible exact Below.refl _ _) | (with_reducible refine Below.alloc ?_ ?_ _) | (with_reducible refine Below.drew ?_) | (with_reducible refine Below.setCell ?_ ?_ _) | (with_reducible refine Below.thn (by assumption) ?_ ?_) | (with_reducible refine below_drewN ?_ _) | go_size)))⟩
        case measure => simp [intOf]; omega
      · rw [hz] at hxr
        clear hz
        by_cases c3 : pv - 2 ^ k = 2 ^ k - 1
        · have c4 : (pv - 2 ^ k == 2 ^ k - 1) = true := by simpa using c3
          have K3 : Hid (pv + 1 = 2 ^ (k + 1)) := by show _ = _; have := pow_succ' k; omega
          have c5 : pv - 2 ^ k ≤ 33554432 := by omega
          have c6 : 0 ≤ pv - 2 ^ k := by omega
          clear c3
          go_wp2_with (first
            | (go_at_call 12; (with_reducible refine (trace_okV (D : Int) k D pv t _ (by omega) (by omega) (by omega) H1.out H2.out KT.out).mono ?_); rintro e2 w2 ⟨rfl, hb2⟩; obtain ⟨hc2, hf2⟩ := bcell hb2; have hz2 := hb2.size; (try simp at hz2))
            | (go_at_call 9; (with_reducible refine (attack_ok k pv _ (by omega) H1.out H2.out).mono ?_); rintro e3 w3 ⟨rfl, hb3⟩; obtain ⟨hc3, hf3⟩ := bcell hb3; have hz3 := hb3.size; (try simp at hz3))
            | (go_at_call 11; (with_reducible refine (defend_last k pv _ (by omega) K3.out).mono ?_); rintro e4 w4 ⟨rfl, hb4⟩; obtain ⟨hc4, hf4⟩ := bcell hb4; have hz4 := hb4.size; (try simp at hz4))
            | (go_at_call 14; refine (is_num _ _ _).mono ?_; rintro e w' ⟨rfl, rfl⟩)
            | (go_at_call 8; (with_reducible refine (parts_ok k pv _ (by omega) H1.out H2.out).mono ?_); rintro e5 w5 ⟨rfl, hb5⟩; obtain ⟨hc5, hf5⟩ := bcell hb5; have hz5 := hb5.size; (try simp at hz5)))
          go_returns
          exact ⟨rfl, by (repeat' (first | (with_reducible exact Below.refl _ _) | (with_reducible refine Below.alloc ?_ ?_ _) | (with_reducible refine Below.drew ?_) | (with_reducible refine Below.setCell ?_ ?_ _) | (with_reducible refine Below.thn (by assumption) ?_ ?_) | (with_reducible refine below_drewN ?_ _) | go_size))⟩
        · have HA := Lib.hid (Mov.defend HM.out hkd c3)
          have K3 : Hid (pv + 1 < 2 ^ (k + 1)) := by show _ < _; have := pow_succ' k; have := H1.out; have := H2.out; omega
          obtain ⟨u, hu⟩ : ∃ u, u = Mov.T D (k + 1) (2 * pv + 2) := ⟨_, rfl⟩
          have c1 : t < u := by rw [hu, HT.out]; exact HA.out.2.1
          have c2 : u ≤ hv := by rw [hu]; exact HA.out.2.2
          have mb2 := mov_bounds hd HA.out.1
          rw [← hu] at mb2
          obtain ⟨b5, b6, b7, b8⟩ := mb2
          have HU := Lib.hid hu
          have KU : Hid ((2 * pv + 2 - 2 ^ (k + 1) + 1) * 2 ^ (D - (k + 1)) - 1 = u) := hu.symm
          have HM2 : Hid (Mov.MV D (k + 1) (2 * pv + 2) (t + 1) hv) := by rw [HT.out]; exact HA.out.1
          have c6 : t + 1 ≤ u := by omega
          clear hu c3
          go_wp2_with (first
            | (go_at_call 12; (with_reducible refine (trace_okV (D : Int) k D pv t _ (by omega) (by omega) (by omega) H1.out H2.out KT.out).mono ?_); rintro e2 w2 ⟨rfl, hb2⟩; obtain ⟨hc2, hf2⟩ := bcell hb2; have hz2 := hb2.size; (try simp at hz2))
            | (go_at_call 9; (with_reducible refine (attack_ok k pv _ (by omega) H1.out H2.out).mono ?_); rintro e3 w3 ⟨rfl, hb3⟩; obtain ⟨hc3, hf3⟩ := bcell hb3; have hz3 := hb3.size; (try simp at hz3))
            | (go_at_call 11; (with_reducible refine (defend_ok k pv _ (by omega) H1.out K3.out).mono ?_); rintro e4 w4 ⟨rfl, hb4⟩; obtain ⟨hc4, hf4⟩ := bcell hb4; have hz4 := hb4.size; (try simp at hz4))
            | (go_at_call 14; refine (is_nil _ _).mono ?_; rintro e w' ⟨rfl, rfl⟩)
            | (go_at_call 12; (with_reducible refine (trace_okV (D : Int) (k + 1) D (2 * pv + 2) u _ (by omega) (by omega) (by omega) HA.out.1.h1 HA.out.1.h2 KU.out).mono ?_); rintro e5 w5 ⟨rfl, hb5⟩; obtain ⟨hc5, hf5⟩ := bcell hb5; have hz5 := hb5.size; (try simp at hz5)))
          go_roundw
          case rel => exact ⟨k + 1, 2 * pv + 2, t + 1, hv, rfl, rfl, rfl, by go_num, by omega, HM2, hbr.trans (by (repeat' (first | (with_reducible exact Below.refl _ _) | (with_reducible refine Below.alloc ?_ ?_ _) | (with_reducible refine Below.drew ?_) | (with_reducible refine Below.setCell ?_ ?_ _) | (with_reducible refine Below.thn (by assumption) ?_ ?_) | (with_reducible refine below_drewN ?_ _) | go_size)))⟩
          case measure => simp [intOf]; omega
    · have hcase : (len0 ≤ k) ∨ (k < len0 ∧ D ≤ k) := by omega
      clear hlt
      rcases hcase with hlt | ⟨hlt, hkd⟩
      · go_wp2_with (first
          | (go_at_call 12; (with_reducible refine (trace_okV (D : Int) k D pv t _ (by omega) (by omega) (by omega) H1.out H2.out KT.out).mono ?_); rintro e2 w2 ⟨rfl, hb2⟩; obtain ⟨hc2, hf2⟩ := bcell hb2; have hz2 := hb2.size; (try simp at hz2))
          | (go_at_call 13; (with_reducible refine (highest_okD _ k D pv _ (by omega) (by omega) (by omega) H1.out H2.out).mono ?_); rintro e6 w6 ⟨q, ⟨ee, he1, he2, he3, he4, he5⟩, q0, q1, rfl, hb6⟩; have hz6 := hb6.size; have KQ : Hid ((q - 2 ^ ee + 1) * 2 ^ (D - ee) - 1 = t) := (by show _ = _; rw [he4]; exact KT.out); have He2 := Lib.hid he2; have He3 := Lib.hid he3; have hq3 : q ≤ 67108864 := (by omega); clear he2 he3 he4 q1)
          | (go_at_call 12; (with_reducible refine (trace_okV _ ee D q t _ (by omega) (by omega) (by omega) He2.out He3.out KQ.out).mono ?_); rintro e7 w7 ⟨rfl, hb7⟩; obtain ⟨hc7, hf7⟩ := bcell hb7; have hz7 := hb7.size; (try simp at hz7)))
        go_returns
        exact ⟨rfl, below_thn (hb1.trans (hbr.mono (by have := hb1.size; omega))) (by (repeat' (first | (with_reducible exact Below.refl _ _) | (with_reducible refine Below.alloc ?_ ?_ _) | (with_reducible refine Below.drew ?_) | (with_reducible refine Below.setCell ?_ ?_ _) | (with_reducible refine Below.thn (by assumption) ?_ ?_) | (with_reducible refine below_drewN ?_ _) | go_size))) (by have := hb1.size; omega)⟩
      · obtain ⟨xb, xo, rfl, hxb, hx⟩ := HR.out k hlt
        have hxr : wr.cell? ⟨xb, xo + k, none⟩ = some (.bool (z0 k)) := by
          rw [hbr.cell (p := ⟨xb, xo + k, none⟩) (by have := hb1.size; show xb < _; omega), Hc.out _ _ hxb]; exact hx
        clear hx
        go_wp2_with (first
          | (go_at_call 12; (with_reducible refine (trace_okV (D : Int) k D pv t _ (by omega) (by omega) (by omega) H1.out H2.out KT.out).mono ?_); rintro e2 w2 ⟨rfl, hb2⟩; obtain ⟨hc2, hf2⟩ := bcell hb2; have hz2 := hb2.size; (try simp at hz2))
          | (go_at_call 13; (with_reducible refine (highest_okD _ k D pv _ (by omega) (by omega) (by omega) H1.out H2.out).mono ?_); rintro e6 w6 ⟨q, ⟨ee, he1, he2, he3, he4, he5⟩, q0, q1, rfl, hb6⟩; have hz6 := hb6.size; have KQ : Hid ((q - 2 ^ ee + 1) * 2 ^ (D - ee) - 1 = t) := (by show _ = _; rw [he4]; exact KT.out); have He2 := Lib.hid he2; have He3 := Lib.hid he3; have hq3 : q ≤ 67108864 := (by omega); clear he2 he3 he4 q1)
          | (go_at_call 12; (with_reducible refine (trace_okV _ ee D q t _ (by omega) (by omega) (by omega) He2.out He3.out KQ.out).mono ?_); rintro e7 w7 ⟨rfl, hb7⟩; obtain ⟨hc7, hf7⟩ := bcell hb7; have hz7 := hb7.size; (try simp at hz7)))
        go_returns
        exact ⟨rfl, below_thn (hb1.trans (hbr.mono (by have := hb1.size; omega))) (by (repeat' (first | (with_reducible exact Below.refl _ _) | (with_reducible refine Below.alloc ?_ ?_ _) | (with_reducible refine Below.drew ?_) | (with_reducible refine Below.setCell ?_ ?_ _) | (with_reducible refine Below.thn (by assumption) ?_ ?_) | (with_reducible refine below_drewN ?_ _) | go_size))) (by have := hb1.size; omega)⟩
end Go.Proofs.Ytaogiclcgdpcmaa
