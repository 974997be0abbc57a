/-
  mootref03.Big by its contract.
-/
import Derived.Test.YtcblbmjcfckgjaaDoorBig
set_option linter.unusedVariables false
set_option linter.unusedSimpArgs false
namespace Go.Proofs.YtcblbmjcfckgjaaDoor
open Go.RowKit
theorem lows_more (g D : Nat) (h : D < 256 ^ g) : Rlp.lows (g + 1) D = Rlp.lows g D := by
  induction g generalizing D with
  | zero => simp at h; subst h; simp [Rlp.lows]
  | succ g ih =>
    rw [Rlp.lows]
    conv => rhs; rw [Rlp.lows]
    split
    · rfl
    · rw [ih (D / 256) (by rw [Nat.pow_succ] at h; exact Nat.div_lt_of_lt_mul (by omega))]
theorem big_snoc (D x : Nat) (hx : x < 256) (h : 0 < D * 256 + x) (hD : D < 256 ^ 7) : Rlp.big (D * 256 + x) = Rlp.big D ++ [UInt8.ofNat x] := by
  unfold Rlp.big
  rw [lows_step 7 _ h, show (D * 256 + x) / 256 = D by omega, lows_more 7 D hD, List.reverse_cons]
  congr 2
  apply UInt8.toNat_inj.1
  simp
theorem big_zero : Rlp.big 0 = [] := by simp [Rlp.big, Rlp.lows]
/-- The first j of eight bytes. -/
def top (V j : Nat) : Nat := V / 2 ^ (64 - 8 * j)
theorem top_succ (V j : Nat) (hj : j < 8) : top V (j + 1) = top V j * 256 + (V / 2 ^ (56 - 8 * j)) % 256 := by
  unfold top
  have e : 64 - 8 * j = (56 - 8 * j) + 8 := by omega
  have e2 : 64 - 8 * (j + 1) = 56 - 8 * j := by omega
  rw [e2, e, Nat.pow_add, ← Nat.div_div_eq_div_mul]
  have := Nat.div_add_mod (V / 2 ^ (56 - 8 * j)) 256
  omega
theorem top_lt (V j : Nat) (hV : V < 18446744073709551616) (hj : j < 8) : top V j < 256 ^ 7 := by
  unfold top
  have h1 : (2 : Nat) ^ 8 ≤ 2 ^ (64 - 8 * j) := Nat.pow_le_pow_right (by decide) (by omega)
  have h2 : V / 2 ^ (64 - 8 * j) ≤ V / 2 ^ 8 := Nat.div_le_div_left h1 (by decide)
  have h3 : (256 : Nat) ^ 7 = 72057594037927936 := by decide
  have h4 : V / 2 ^ 8 < 72057594037927936 := by omega
  omega
set_option maxRecDepth 100000 in
set_option maxHeartbeats 4000000 in
theorem rbig_V (V : Nat) (w : World) (hV : Hid (V < 18446744073709551616)) :
    Calls Tryd.prog 17 #[.int .u64 V] w (GivesB w (Rlp.big V)) := by
  go_enter Tryd.func17, Tryd.ntmps17
  go_wp2
  go_loopw [3, 4, 5, 6] (fun o s i y wr => ∃ (j : Nat) (st : Bool) (n c : Nat) (ao : Option Addr), j ≤ 8 ∧ i = .int .i64 j ∧ s = .bool st ∧ o = .slice ao n c ∧ Hid (st = decide (0 < top V j)) ∧ Hid (OwnB wr w.heap.size ao n c (Rlp.big (top V j))) ∧ Below w.heap.size w wr) (fun _ _ i _ _ => 8 - (intOf i).toNat)
  case atStart =>
    have e : top V 0 = 0 := by unfold top; exact Nat.div_eq_of_lt hV.out
    exact ⟨0, false, 0, 0, none, by omega, rfl, rfl, rfl, by show _ = _; rw [e]; rfl, by rw [e, big_zero]; exact OwnB.nil _ _, by (repeat' (first | (with_reducible exact Below.refl _ _) | (with_reducible refine Below.alloc ?_ ?_ _) | (with_reducible refine Below.drew ?_) | (with_reducible refine Below.setCell ?_ ?_ _) | (with_reducible refine Below.thn (by assumption) ?_ ?_) | (with_reducible refine below_drewN ?_ _) | go_size))⟩
  case round =>
    obtain ⟨j, st, n, c, ao, hj, rfl, rfl, rfl, HS, HO, hbr⟩ := hrel
    have hzr := hbr.size
    by_cases hlt : j < 8
    · obtain ⟨x, hxe⟩ : ∃ x, x = (V / 2 ^ (56 - 8 * j)) % 256 := ⟨_, rfl⟩
      have hx : x < 256 := by rw [hxe]; exact Nat.mod_lt _ (by decide)
      have EX : (V : Int) / 2 ^ (56 - 8 * j) % 256 = (x : Int) := by rw [hxe]; simp
      have HT : Hid (top V (j + 1) = top V j * 256 + x) := by show _ = _; rw [hxe]; exact top_succ V j hlt
      clear hxe
      cases st
      · have h0 : Hid (top V j = 0) := by have := HS.out; simp at this; show _ = _; omega
        by_cases hx0 : x = 0
        · subst hx0
          have ES : Hid (false = decide (0 < top V (j + 1))) := by show _ = _; rw [HT.out, h0.out]; rfl
          have EB : Hid (Rlp.big (top V (j + 1)) = Rlp.big (top V j)) := by show _ = _; rw [HT.out, h0.out]
          go_wp2
          go_roundw
          case rel => exact ⟨j + 1, false, n, c, ao, by omega, by go_num, rfl, rfl, ES, by rw [EB.out]; exact HO, hbr⟩
          case measure => simp [intOf]; omega
        · have hxb : ((x : Int) != 0) = true := by simp; omega
          have hu : (x : Int) = ((UInt8.ofNat x).toNat : Int) := by simp; omega
          have HOW := Lib.hid (own_one wr (UInt8.ofNat x) _ hu)
          have HO2 := Lib.hid (HO.out.below ((Below.refl _ _).alloc (Nat.le_refl _) (.cells #[.int .u8 (x : Int)] TU)))
          have hn := HO.out.len
          have hbl : (Rlp.big (top V j)).length ≤ 8 := by unfold Rlp.big; rw [List.length_reverse]; exact lows_len 8 _
          have hn8 : n ≤ 8 := by omega
          have EB : Hid (Rlp.big (top V (j + 1)) = Rlp.big (top V j) ++ [UInt8.ofNat x]) := by show _ = _; rw [HT.out]; exact big_snoc _ _ hx (by have := h0.out; omega) (top_lt V j hV.out hlt)
          have ES : Hid (true = decide (0 < top V (j + 1))) := by show _ = _; rw [HT.out]; symm; simp; omega
          clear hu hn hbl hx0
          go_wp2_with (at_builtin; refine wpList_append_B rfl (.tmp 24) (.tmp 26) rfl w.heap.size ao n c (Rlp.big (top V j)) (some ⟨wr.heap.size, 0, none⟩) 1 1 [UInt8.ofNat x] HO2.out HOW.out.bytes rfl rfl rfl (by simp) (Sm.of (by omega)) (by simp; omega) ?_; intro ao' c' w1 ho hg _; have hb1 := Lib.hid (grown_below hg HO2.out (Nat.le_refl _) (by simp; omega)); have HO3 := Lib.hid ho; clear ho hg)
          go_roundw
          case rel => exact ⟨j + 1, true, n + 1, c', ao', by omega, by go_num, rfl, by go_num, ES, by rw [EB.out]; exact HO3, (hbr.alloc (by omega) _).trans hb1.out⟩
          case measure => simp [intOf]; omega
      · have h0 : Hid (0 < top V j) := by have := HS.out; simp at this; exact this
        have hu : (x : Int) = ((UInt8.ofNat x).toNat : Int) := by simp; omega
        have HOW := Lib.hid (own_one wr (UInt8.ofNat x) _ hu)
        have HO2 := Lib.hid (HO.out.below ((Below.refl _ _).alloc (Nat.le_refl _) (.cells #[.int .u8 (x : Int)] TU)))
        have hn := HO.out.len
        have hbl : (Rlp.big (top V j)).length ≤ 8 := by unfold Rlp.big; rw [List.length_reverse]; exact lows_len 8 _
        have hn8 : n ≤ 8 := by omega
        have EB : Hid (Rlp.big (top V (j + 1)) = Rlp.big (top V j) ++ [UInt8.ofNat x]) := by show _ = _; rw [HT.out]; exact big_snoc _ _ hx (by have := h0.out; omega) (top_lt V j hV.out hlt)
        have ES : Hid (true = decide (0 < top V (j + 1))) := by show _ = _; rw [HT.out]; symm; simp; have := h0.out; omega
        clear hu hn hbl 
        go_wp2_with (at_builtin; refine wpList_append_B rfl (.tmp 24) (.tmp 26) rfl w.heap.size ao n c (Rlp.big (top V j)) (some ⟨wr.heap.size, 0, none⟩) 1 1 [UInt8.ofNat x] HO2.out HOW.out.bytes rfl rfl rfl (by simp) (Sm.of (by omega)) (by simp; omega) ?_; intro ao' c' w1 ho hg _; have hb1 := Lib.hid (grown_below hg HO2.out (Nat.le_refl _) (by simp; omega)); have HO3 := Lib.hid ho; clear ho hg)
        go_roundw
        case rel => exact ⟨j + 1, true, n + 1, c', ao', by omega, by go_num, rfl, by go_num, ES, by rw [EB.out]; exact HO3, (hbr.alloc (by omega) _).trans hb1.out⟩
        case measure => simp [intOf]; omega

    · have hj8 : 8 = j := by omega
      subst hj8
      have e : top V 8 = V := by unfold top; simp
      have HE : Hid (OwnB wr w.heap.size ao n c (Rlp.big V)) := by have := HO; rw [e] at this; exact this
      clear e
      go_wp2
      go_returns
      exact ⟨_, _, _, rfl, HE.out, hbr⟩
end Go.Proofs.YtcblbmjcfckgjaaDoor
