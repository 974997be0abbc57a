/-
  Several texts in one (merge.py): RBig, REnc, RForm, RFormB, REncB.
-/
import Derived.Test.YtgcpnhnckbgjmaaDoorBig
import Derived.Test.YtgcpnhnckbgjmaaDoorTxEqG
/-
  mootref03.Big by its contract.
-/
set_option linter.unusedVariables false
set_option linter.unusedSimpArgs false
namespace Go.Proofs.YtgcpnhnckbgjmaaDoor
open Go.RowKit
theorem lows_more (g D : Nat) (h : D < 256 ^ g) : Rlp.lows (g + 1) D = Rlp.lows g D := by
  induction g generalizing D with
  | zero => simp at h; subst h; simp [Rlp.lows]
  | succ g ih =>
    rw [Rlp.lows]
    conv => rhs; rw [Rlp.lows]
    split
    · rfl
    · rw [ih (D / 256) (by rw [Nat.pow_succ] at h; exact Nat.div_lt_of_lt_mul (by omega))]
theorem big_snoc (D x : Nat) (hx : x < 256) (h : 0 < D * 256 + x) (hD : D < 256 ^ 7) : Rlp.big (D * 256 + x) = Rlp.big D ++ [UInt8.ofNat x] := by
  unfold Rlp.big
  rw [lows_step 7 _ h, show (D * 256 + x) / 256 = D by omega, lows_more 7 D hD, List.reverse_cons]
  congr 2
  apply UInt8.toNat_inj.1
  simp
theorem big_zero : Rlp.big 0 = [] := by simp [Rlp.big, Rlp.lows]
/-- The first j of eight bytes. -/
def top (V j : Nat) : Nat := V / 2 ^ (64 - 8 * j)
theorem top_succ (V j : Nat) (hj : j < 8) : top V (j + 1) = top V j * 256 + (V / 2 ^ (56 - 8 * j)) % 256 := by
  unfold top
  have e : 64 - 8 * j = (56 - 8 * j) + 8 := by omega
  have e2 : 64 - 8 * (j + 1) = 56 - 8 * j := by omega
  rw [e2, e, Nat.pow_add, ← Nat.div_div_eq_div_mul]
  have := Nat.div_add_mod (V / 2 ^ (56 - 8 * j)) 256
  omega
theorem top_lt (V j : Nat) (hV : V < 18446744073709551616) (hj : j < 8) : top V j < 256 ^ 7 := by
  unfold top
  have h1 : (2 : Nat) ^ 8 ≤ 2 ^ (64 - 8 * j) := Nat.pow_le_pow_right (by decide) (by omega)
  have h2 : V / 2 ^ (64 - 8 * j) ≤ V / 2 ^ 8 := Nat.div_le_div_left h1 (by decide)
  have h3 : (256 : Nat) ^ 7 = 72057594037927936 := by decide
  have h4 : V / 2 ^ 8 < 72057594037927936 := by omega
  omega
set_option maxRecDepth 100000 in
set_option maxHeartbeats 4000000 in
theorem rbig_V (V : Nat) (w : World) (hV : Hid (V < 18446744073709551616)) :
    Calls Tryd.prog 25 #[.int .u64 V] w (GivesB w (Rlp.big V)) := by
  go_enter Tryd.func25, Tryd.ntmps25
  go_wp2
  go_loopw [3, 4, 5, 6] (fun o s i y wr => ∃ (j : Nat) (st : Bool) (n c : Nat) (ao : Option Addr), j ≤ 8 ∧ i = .int .i64 j ∧ s = .bool st ∧ o = .slice ao n c ∧ Hid (st = decide (0 < top V j)) ∧ Hid (OwnB wr w.heap.size ao n c (Rlp.big (top V j))) ∧ Below w.heap.size w wr) (fun _ _ i _ _ => 8 - (intOf i).toNat)
  case atStart =>
    have e : top V 0 = 0 := by unfold top; exact Nat.div_eq_of_lt hV.out
    exact ⟨0, false, 0, 0, none, by omega, rfl, rfl, rfl, by show _ = _; rw [e]; rfl, by rw [e, big_zero]; exact OwnB.nil _ _, by (repeat' (first | (with_reducible exact Below.refl _ _) | (with_reducible refine Below.alloc ?_ ?_ _) | (with_reducible refine Below.drew ?_) | (with_reducible refine Below.setCell ?_ ?_ _) | (with_reducible refine Below.thn (by assumption) ?_ ?_) | (with_reducible refine below_drewN ?_ _) | go_size))⟩
  case round =>
    obtain ⟨j, st, n, c, ao, hj, rfl, rfl, rfl, HS, HO, hbr⟩ := hrel
    have hzr := hbr.size
    by_cases hlt : j < 8
    · obtain ⟨x, hxe⟩ : ∃ x, x = (V / 2 ^ (56 - 8 * j)) % 256 := ⟨_, rfl⟩
      have hx : x < 256 := by rw [hxe]; exact Nat.mod_lt _ (by decide)
      have EX : (V : Int) / 2 ^ (56 - 8 * j) % 256 = (x : Int) := by rw [hxe]; simp
      have HT : Hid (top V (j + 1) = top V j * 256 + x) := by show _ = _; rw [hxe]; exact top_succ V j hlt
      clear hxe
      cases st
      · have h0 : Hid (top V j = 0) := by have := HS.out; simp at this; show _ = _; omega
        by_cases hx0 : x = 0
        · subst hx0
          have ES : Hid (false = decide (0 < top V (j + 1))) := by show _ = _; rw [HT.out, h0.out]; rfl
          have EB : Hid (Rlp.big (top V (j + 1)) = Rlp.big (top V j)) := by show _ = _; rw [HT.out, h0.out]
          go_wp2
          go_roundw
          case rel => exact ⟨j + 1, false, n, c, ao, by omega, by go_num, rfl, rfl, ES, by rw [EB.out]; exact HO, hbr⟩
          case measure => simp [intOf]; omega
        · have hxb : ((x : Int) != 0) = true := by simp; omega
          have hu : (x : Int) = ((UInt8.ofNat x).toNat : Int) := by simp; omega
          have HOW := Lib.hid (own_one wr (UInt8.ofNat x) _ hu)
          have HO2 := Lib.hid (HO.out.below ((Below.refl _ _).alloc (Nat.le_refl _) (.cells #[.int .u8 (x : Int)] TU)))
          have hn := HO.out.len
          have hbl : (Rlp.big (top V j)).length ≤ 8 := by unfold Rlp.big; rw [List.length_reverse]; exact lows_len 8 _
          have hn8 : n ≤ 8 := by omega
          have EB : Hid (Rlp.big (top V (j + 1)) = Rlp.big (top V j) ++ [UInt8.ofNat x]) := by show _ = _; rw [HT.out]; exact big_snoc _ _ hx (by have := h0.out; omega) (top_lt V j hV.out hlt)
          have ES : Hid (true = decide (0 < top V (j + 1))) := by show _ = _; rw [HT.out]; symm; simp; omega
          clear hu hn hbl hx0
          go_wp2_with (at_builtin; refine wpList_append_B rfl (.tmp 24) (.tmp 26) rfl w.heap.size ao n c (Rlp.big (top V j)) (some ⟨wr.heap.size, 0, none⟩) 1 1 [UInt8.ofNat x] HO2.out HOW.out.bytes rfl rfl rfl (by simp) (Sm.of (by omega)) (by simp; omega) ?_; intro ao' c' w1 ho hg _; have hb1 := Lib.hid (grown_below hg HO2.out (Nat.le_refl _) (by simp; omega)); have HO3 := Lib.hid ho; clear ho hg)
          go_roundw
          case rel => exact ⟨j + 1, true, n + 1, c', ao', by omega, by go_num, rfl, by go_num, ES, by rw [EB.out]; exact HO3, (hbr.alloc (by omega) _).trans hb1.out⟩
          case measure => simp [intOf]; omega
      · have h0 : Hid (0 < top V j) := by have := HS.out; simp at this; exact this
        have hu : (x : Int) = ((UInt8.ofNat x).toNat : Int) := by simp; omega
        have HOW := Lib.hid (own_one wr (UInt8.ofNat x) _ hu)
        have HO2 := Lib.hid (HO.out.below ((Below.refl _ _).alloc (Nat.le_refl _) (.cells #[.int .u8 (x : Int)] TU)))
        have hn := HO.out.len
        have hbl : (Rlp.big (top V j)).length ≤ 8 := by unfold Rlp.big; rw [List.length_reverse]; exact lows_len 8 _
        have hn8 : n ≤ 8 := by omega
        have EB : Hid (Rlp.big (top V (j + 1)) = Rlp.big (top V j) ++ [UInt8.ofNat x]) := by show _ = _; rw [HT.out]; exact big_snoc _ _ hx (by have := h0.out; omega) (top_lt V j hV.out hlt)
        have ES : Hid (true = decide (0 < top V (j + 1))) := by show _ = _; rw [HT.out]; symm; simp; have := h0.out; omega
        clear hu hn hbl 
        go_wp2_with (at_builtin; refine wpList_append_B rfl (.tmp 24) (.tmp 26) rfl w.heap.size ao n c (Rlp.big (top V j)) (some ⟨wr.heap.size, 0, none⟩) 1 1 [UInt8.ofNat x] HO2.out HOW.out.bytes rfl rfl rfl (by simp) (Sm.of (by omega)) (by simp; omega) ?_; intro ao' c' w1 ho hg _; have hb1 := Lib.hid (grown_below hg HO2.out (Nat.le_refl _) (by simp; omega)); have HO3 := Lib.hid ho; clear ho hg)
        go_roundw
        case rel => exact ⟨j + 1, true, n + 1, c', ao', by omega, by go_num, rfl, by go_num, ES, by rw [EB.out]; exact HO3, (hbr.alloc (by omega) _).trans hb1.out⟩
        case measure => simp [intOf]; omega

    · have hj8 : 8 = j := by omega
      subst hj8
      have e : top V 8 = V := by unfold top; simp
      have HE : Hid (OwnB wr w.heap.size ao n c (Rlp.big V)) := by have := HO; rw [e] at this; exact this
      clear e
      go_wp2
      go_returns
      exact ⟨_, _, _, rfl, HE.out, hbr⟩
end Go.Proofs.YtgcpnhnckbgjmaaDoor
/-
  mootref03.Head, Deep, Right by their contracts, for lists of bytes.
-/
set_option linter.unusedVariables false
set_option linter.unusedSimpArgs false
namespace Go.Proofs.YtgcpnhnckbgjmaaDoor
open Go.RowKit
variable {F : Nat → Prop}
/-- The head of n bytes. -/
def hdB (sh n : Nat) : List UInt8 := if n < 56 then [UInt8.ofNat (sh + n)] else UInt8.ofNat (sh + 55 + (Rlp.big n).length) :: Rlp.big n
theorem headed_hd (sh : Nat) (b : List UInt8) : Rlp.headed sh b = hdB sh b.length ++ b := by
  unfold Rlp.headed hdB
  split <;> rfl
theorem hdB_len (sh n : Nat) : (hdB sh n).length ≤ 9 := by
  have := big_le n
  unfold hdB
  split
  · simp
  · simp; omega
set_option maxRecDepth 100000 in
set_option maxHeartbeats 4000000 in
theorem rhead_V (sh : Nat) (hs : sh = 128 ∨ sh = 192) (n : Nat) (hn : n ≤ 140737488420864) (w : World) (V N : Int) (hV : V = (sh : Int)) (hN : N = (n : Int)) :
    Calls Tryd.prog 54 #[.int .i64 V, .int .i64 N] w (GivesB w (hdB sh n)) := by
  subst hV; subst hN
  by_cases h56 : n < 56
  · have E : Hid (hdB sh n = [UInt8.ofNat (sh + n)]) := by show _ = _; unfold hdB; rw [if_pos h56]
    have hun : (sh : Int) + n = ((UInt8.ofNat (sh + n)).toNat : Int) := by simp; omega
    have HOW := Lib.hid (own_one w _ _ hun)
    clear hun
    go_enter Tryd.func54, Tryd.ntmps54
    go_wp2
    go_returns
    exact ⟨_, 1, 1, rfl, by rw [E.out]; exact HOW.out, (Below.refl _ _).alloc (Nat.le_refl _) _⟩
  · have E : Hid (hdB sh n = [UInt8.ofNat (sh + 55 + (Rlp.big n).length)] ++ Rlp.big n) := by show _ = _; unfold hdB; rw [if_neg h56]; rfl
    have HV : Hid (n < 18446744073709551616) := by show _ < _; omega
    have HBL := Lib.hid (big_le n)
    go_enter Tryd.func54, Tryd.ntmps54
    go_wp2_with (first
      | (go_at_call 25; (with_reducible refine (rbig_V n _ HV).mono ?_); rintro e w1 ⟨ab, k, cb, rfl, ho1, hb1⟩; have HO1 := Lib.hid ho1; have HW1 := Lib.hid hb1; have hk8 : k ≤ 8 := (by have := HO1.out.len; have := HBL.out; omega); have hun : (sh : Int) + 55 + k = ((UInt8.ofNat (sh + 55 + k)).toNat : Int) := (by simp; omega); have HOW := Lib.hid (own_one w1 _ _ hun); have HO1' := Lib.hid (HO1.out.below ((Below.refl _ _).alloc (Nat.le_refl _) (.cells #[.int .u8 ((sh : Int) + 55 + k)] TU))); clear ho1 hb1 hun)
      | (at_builtin; refine wpList_append_B rfl (.tmp 22) (.tmp 23) rfl w1.heap.size (some ⟨w1.heap.size, 0, none⟩) 1 1 [UInt8.ofNat (sh + 55 + k)] ab k cb (Rlp.big n) HOW.out HO1'.out.bytes rfl rfl HO1.out.len HO1.out.cap.2.2 (Sm.of (by omega)) (by simp) ?_; intro ao2 c2 w2 ho hg _; have hb2 := Lib.hid (grown_below hg HOW.out (Nat.le_refl _) (by simp)); have HO2 := Lib.hid ho; clear ho hg))
    go_returns
    have hz1 := HW1.out.size
    exact ⟨_, _, _, rfl, by rw [E.out, HO1.out.len]; exact HO2.out.le hz1, HW1.out.trans ((((Below.refl _ _).alloc (Nat.le_refl _) _).trans hb2.out).mono hz1)⟩
theorem bIt_at {w : World} {k : Nat} {ls : List (List UInt8)} {vl vb vi : Value} (h : IsIt F w (k + 2) (bItem ls) vl vb vi) : vl = .bool true ∧ (∃ a c, vb = .slice a 0 c) ∧ ∃ a c, vi = .slice a ls.length c ∧ ls.length ≤ c ∧ c ≤ maxLen ∧
    ∀ i, i < ls.length → ∃ b off la lc ia ic, a = some ⟨b, off, none⟩ ∧ b < w.heap.size ∧ w.cell? ⟨b, off + i * 3, none⟩ = some (.bool false) ∧ w.cell? ⟨b, off + i * 3 + 1, none⟩ = some (.slice la (ls.getD i []).length lc) ∧ w.cell? ⟨b, off + i * 3 + 2, none⟩ = some (.slice ia 0 ic) ∧
      IsIt F w (k + 1) (.mk false (ls.getD i []) []) (.bool false) (.slice la (ls.getD i []).length lc) (.slice ia 0 ic) := by
  have hl : (bItem ls).items.length = ls.length := by simp [bItem, Rlp.It.items]
  obtain ⟨h1, ⟨a, c, h2, _⟩, a', c', h3, h4, h5, h6⟩ := h
  rw [hl] at h3 h4 h6
  refine ⟨h1, ⟨a, c, h2⟩, a', c', h3, h4, h5, fun i hi => ?_⟩
  obtain ⟨b, off, u, v, z, e, _, hb, c0, c1, c2, hx⟩ := h6 i hi
  rw [bItem_get ls i hi] at hx
  have hx0 := hx
  obtain ⟨g1, ⟨la, lc, g2, _⟩, ia, ic, g3, _⟩ := hx
  subst g1; subst g2; subst g3
  exact ⟨b, off, la, lc, ia, ic, e, hb, c0, c1, c2, hx0⟩
set_option maxRecDepth 100000 in
set_option maxHeartbeats 1000000 in
theorem rdeep_leaf (w : World) (k : Nat) (l : List UInt8) (la ia : Option Addr) (m lc ic : Nat) (N : Int) (hN : 0 < N) (hN2 : N ≤ 16) :
    Calls Tryd.prog 39 #[.agg #[.bool false, .slice la m lc, .slice ia 0 ic], .int .i64 N] w fun e w' => e = .returned (.bool false) ∧ Below w.heap.size w w' := by
  go_enter Tryd.func39, Tryd.ntmps39
  go_wp2
  refine wp_loop_rounds 1 ?_
  rw [rounds_succ]
  go_wp2
  go_returns
  exact ⟨rfl, by (repeat' (first | (with_reducible exact Below.refl _ _) | (with_reducible refine Below.alloc ?_ ?_ _) | (with_reducible refine Below.drew ?_) | (with_reducible refine Below.setCell ?_ ?_ _) | (with_reducible refine Below.thn (by assumption) ?_ ?_) | (with_reducible refine below_drewN ?_ _) | go_size))⟩
set_option maxRecDepth 100000 in
set_option maxHeartbeats 1000000 in
theorem rright_leaf (w : World) (la ia : Option Addr) (m lc ic : Nat) :
    Calls Tryd.prog 40 #[.agg #[.bool false, .slice la m lc, .slice ia 0 ic]] w fun e w' => e = .returned (.bool true) ∧ Below w.heap.size w w' := by
  go_enter Tryd.func40, Tryd.ntmps40
  go_wp2
  refine wp_loop_rounds 1 ?_
  rw [rounds_succ]
  go_wp2
  go_returns
  exact ⟨rfl, by (repeat' (first | (with_reducible exact Below.refl _ _) | (with_reducible refine Below.alloc ?_ ?_ _) | (with_reducible refine Below.drew ?_) | (with_reducible refine Below.setCell ?_ ?_ _) | (with_reducible refine Below.thn (by assumption) ?_ ?_) | (with_reducible refine below_drewN ?_ _) | go_size))⟩
set_option maxRecDepth 100000 in
set_option maxHeartbeats 2000000 in
theorem rdeep_b (w : World) (k : Nat) (ls : List (List UInt8)) (h8 : ls.length ≤ 8) (vl vb vi : Value) (h : IsIt F w (k + 2) (bItem ls) vl vb vi) :
    Calls Tryd.prog 39 #[.agg #[vl, vb, vi], .int .i64 16] w fun e w' => e = .returned (.bool false) ∧ Below w.heap.size w w' := by
  obtain ⟨rfl, ⟨a, c, rfl⟩, a', c', rfl, hc1, hc2, h6⟩ := bIt_at h
  have H6 := Lib.hid h6
  unfold maxLen at hc2
  obtain ⟨n, hn⟩ : ∃ n, ls.length = n := ⟨_, rfl⟩
  rw [hn] at hc1 h8 H6 ⊢
  clear h h6
  go_enter Tryd.func39, Tryd.ntmps39
  go_wp2
  go_loopw [5] (fun i wr => ∃ j : Nat, j ≤ n ∧ i = .int .i64 j ∧ SlotI wr w.heap.size (.bool true) (.slice a 0 c) (.slice a' n c') ∧ Below w.heap.size w wr) (fun i _ => n - (intOf i).toNat)
  case atStart => exact ⟨0, by omega, rfl, SlotI.new _ _ _ _, by (repeat' (first | (with_reducible exact Below.refl _ _) | (with_reducible refine Below.alloc ?_ ?_ _) | (with_reducible refine Below.drew ?_) | (with_reducible refine Below.setCell ?_ ?_ _) | (with_reducible refine Below.thn (by assumption) ?_ ?_) | (with_reducible refine below_drewN ?_ _) | go_size))⟩
  case round =>
    obtain ⟨j, hj, rfl, hs, hb⟩ := hrel
    have HSl := Lib.hid hs
    have HB := Lib.hid hb
    have p2 := hs.c2
    clear hs
    by_cases hlt : j < n
    · obtain ⟨b, off, la, lc, ia, ic, rfl, hbl, q0, q1, q2, _⟩ := H6.out j hlt
      rw [← hb.cell (p := ⟨b, off + j * 3, none⟩) hbl] at q0
      rw [← hb.cell (p := ⟨b, off + j * 3 + 1, none⟩) hbl] at q1
      rw [← hb.cell (p := ⟨b, off + j * 3 + 2, none⟩) hbl] at q2
      clear hb
      go_wp2_with (go_at_call 39; (with_reducible refine (rdeep_leaf _ 0 [] _ _ _ _ _ 15 (by omega) (by omega)).mono ?_); rintro e w2 ⟨rfl, hb2⟩; have HB2 : Hid (Below w.heap.size w w2) := (HB.out.trans (hb2.mono HB.out.size)); have HS2 := Lib.hid (HSl.out.below hb2); clear hb2)
      go_roundw
      case rel => exact ⟨j + 1, by omega, by go_num, HS2.out, HB2.out⟩
      case measure => simp [intOf]; omega
    · have hjn : j = n := by omega
      subst hjn
      go_wp2
      go_returns
      exact ⟨rfl, hb⟩
set_option maxRecDepth 100000 in
set_option maxHeartbeats 2000000 in
theorem rright_b (w : World) (k : Nat) (ls : List (List UInt8)) (h8 : ls.length ≤ 8) (vl vb vi : Value) (h : IsIt F w (k + 2) (bItem ls) vl vb vi) :
    Calls Tryd.prog 40 #[.agg #[vl, vb, vi]] w fun e w' => e = .returned (.bool true) ∧ Below w.heap.size w w' := by
  obtain ⟨rfl, ⟨a, c, rfl⟩, a', c', rfl, hc1, hc2, h6⟩ := bIt_at h
  have H6 := Lib.hid h6
  unfold maxLen at hc2
  obtain ⟨n, hn⟩ : ∃ n, ls.length = n := ⟨_, rfl⟩
  rw [hn] at hc1 h8 H6 ⊢
  clear h h6
  go_enter Tryd.func40, Tryd.ntmps40
  go_wp2
  go_loopw [3] (fun i wr => ∃ j : Nat, j ≤ n ∧ i = .int .i64 j ∧ SlotI wr w.heap.size (.bool true) (.slice a 0 c) (.slice a' n c') ∧ Below w.heap.size w wr) (fun i _ => n - (intOf i).toNat)
  case atStart => exact ⟨0, by omega, rfl, SlotI.new _ _ _ _, by (repeat' (first | (with_reducible exact Below.refl _ _) | (with_reducible refine Below.alloc ?_ ?_ _) | (with_reducible refine Below.drew ?_) | (with_reducible refine Below.setCell ?_ ?_ _) | (with_reducible refine Below.thn (by assumption) ?_ ?_) | (with_reducible refine below_drewN ?_ _) | go_size))⟩
  case round =>
    obtain ⟨j, hj, rfl, hs, hb⟩ := hrel
    have HSl := Lib.hid hs
    have HB := Lib.hid hb
    have p2 := hs.c2
    clear hs
    by_cases hlt : j < n
    · obtain ⟨b, off, la, lc, ia, ic, rfl, hbl, q0, q1, q2, _⟩ := H6.out j hlt
      rw [← hb.cell (p := ⟨b, off + j * 3, none⟩) hbl] at q0
      rw [← hb.cell (p := ⟨b, off + j * 3 + 1, none⟩) hbl] at q1
      rw [← hb.cell (p := ⟨b, off + j * 3 + 2, none⟩) hbl] at q2
      clear hb
      go_wp2_with (go_at_call 40; (with_reducible refine (rright_leaf _ _ _ _ _ _).mono ?_); rintro e w2 ⟨rfl, hb2⟩; have HB2 : Hid (Below w.heap.size w w2) := (HB.out.trans (hb2.mono HB.out.size)); have HS2 := Lib.hid (HSl.out.below hb2); clear hb2)
      go_roundw
      case rel => exact ⟨j + 1, by omega, by go_num, HS2.out, HB2.out⟩
      case measure => simp [intOf]; omega
    · have hjn : j = n := by omega
      subst hjn
      go_wp2
      go_returns
      exact ⟨rfl, hb⟩
end Go.Proofs.YtgcpnhnckbgjmaaDoor
/-
  mootref03.form and Encode by their contracts, for lists of bytes.
-/
set_option linter.unusedVariables false
set_option linter.unusedSimpArgs false
namespace Go.Proofs.YtgcpnhnckbgjmaaDoor
open Go.RowKit
variable {F : Nat → Prop}
/-- What form answers: bytes, and whether they are not too many. -/
def RForm (w : World) (bs : List UInt8) (m : Nat) (e : Ending) (w' : World) : Prop := ∃ ao c, e = .returned (.tuple #[.slice ao m c, .bool (decide (m ≤ 4096))]) ∧ OwnB w' w.heap.size ao m c bs ∧ Below w.heap.size w w'
theorem own_none1 (w : World) (x : Obj) : OwnB ((w.alloc x).alloc (.cells #[] TU)) (w.heap.size + 1) (some ⟨w.heap.size + 1, 0, none⟩) 0 0 [] := by
  have := own_none (w.alloc x)
  rw [World.size_alloc] at this
  exact this
set_option maxRecDepth 100000 in
set_option maxHeartbeats 4000000 in
theorem rform_one (w : World) (u : UInt8) (hu : u < 128) (a ia : Option Addr) (c ic : Nat) (hc : 1 ≤ c) (hcm : c ≤ maxLen) (hb : BytesF F w a [u]) :
    Calls Tryd.prog 41 #[.agg #[.bool false, .slice a 1 c, .slice ia 0 ic]] w (RForm w [u] 1) := by
  obtain ⟨b, off, rfl, _, hbl, h0⟩ := hb 0 (by simp)
  have HB := Lib.hid (hb.below ((Below.refl _ _).alloc (Nat.le_refl _) (.cells #[.bool false, .slice (some ⟨b, off, none⟩) 1 c, .slice ia 0 ic] TI)))
  obtain ⟨x, hx⟩ : ∃ x : Nat, u.toNat = x := ⟨_, rfl⟩
  have hx2 : x < 128 := by rw [← hx]; exact hu
  have hxd : decide ((x : Int) < 128) = true := by simp; omega
  simp only [Nat.add_zero, List.getD_cons_zero, hx] at h0
  have h1 := (((Below.refl w.heap.size w).alloc (Nat.le_refl _) (.cells #[.bool false, .slice (some ⟨b, off, none⟩) 1 c, .slice ia 0 ic] TI)).cell (p := ⟨b, off, none⟩) hbl).trans h0
  have HS := Lib.hid (SlotI.new w (.bool false) (.slice (some ⟨b, off, none⟩) 1 c) (.slice ia 0 ic))
  clear hb h0 hx
  go_enter Tryd.func41, Tryd.ntmps41
  go_wp2_with (at_builtin; refine wpList_append_B rfl (.tmp 26) (.tmp 28) rfl (w.heap.size + 1) (some ⟨w.heap.size + 1, 0, none⟩) 0 0 [] (some ⟨b, off, none⟩) 1 c [u] (own_none1 w _) (HB.out.below ((Below.refl _ _).alloc (Nat.le_refl _) _)) rfl rfl rfl (by simp) (Sm.of (by omega)) (by simp) ?_; intro ao c1 w1 ho hg _; have hbb := Lib.hid (grown_below (B := w.heap.size) hg (own_none1 w _) (by omega) (by simp; omega)); have HM1 : Hid (OwnB w1 (w.heap.size + 1) ao 1 c1 [u]) := (by show OwnB _ _ _ _ _ _; simpa using ho); clear ho hg)
  go_returns
  exact ⟨ao, c1, rfl, HM1.out.le (by omega), (((Below.refl _ _).alloc (Nat.le_refl _) _).alloc (by simp) _).trans hbb.out⟩
set_option maxRecDepth 100000 in
set_option maxHeartbeats 4000000 in
theorem rform_many (w : World) (l : List UInt8) (a ia : Option Addr) (n c ic : Nat) (hl : l.length = n) (h1 : n = 1 → 128 ≤ (l.getD 0 0).toNat) (hc : n ≤ c) (hcm : c ≤ maxLen) (hn : a = none → c = 0) (hb : BytesF F w a l) (hS : Sm (n + 9)) :
    Calls Tryd.prog 41 #[.agg #[.bool false, .slice a n c, .slice ia 0 ic]] w (RForm w (Rlp.headed 128 l) (Rlp.headed 128 l).length) := by
  have HL := Lib.hid hl
  have HN := Lib.hid hn
  have HSm := Lib.hid hS
  have HB := Lib.hid (hb.below ((Below.refl _ _).alloc (Nat.le_refl _) (.cells #[.bool false, .slice a n c, .slice ia 0 ic] TI)))
  have HS := Lib.hid (SlotI.new w (.bool false) (.slice a n c) (.slice ia 0 ic))
  by_cases e1 : n = 1
  · subst e1
    obtain ⟨b, off, rfl, _, hbl, h0⟩ := hb 0 (by omega)
    obtain ⟨x, hx⟩ : ∃ x : Nat, (l.getD 0 0).toNat = x := ⟨_, rfl⟩
    have hx2 : 128 ≤ x := by rw [← hx]; exact h1 rfl
    have hxd : decide ((x : Int) < 128) = false := by simp; omega
    rw [Nat.add_zero, hx] at h0
    have h1 := (((Below.refl w.heap.size w).alloc (Nat.le_refl _) (.cells #[.bool false, .slice (some ⟨b, off, none⟩) 1 c, .slice ia 0 ic] TI)).cell (p := ⟨b, off, none⟩) hbl).trans h0
    clear hb h0 hx hl hn hS
    go_enter Tryd.func41, Tryd.ntmps41
    go_wp2_with (first
          | (at_builtin; refine wpList_append_B rfl (.tmp 30) (.tmp 32) rfl (w.heap.size + 1) (some ⟨w.heap.size + 1, 0, none⟩) 0 0 [] (some ⟨b, off, none⟩) 1 c l (own_none1 w _) (HB.out.below ((Below.refl _ _).alloc (Nat.le_refl _) _)) rfl rfl HL.out HN.out (HSm.out.le (by omega)) (by simp) ?_; intro ao c1 w1 ho hg _; have HB1 := Lib.hid (grown_below (B := w.heap.size + 1) hg (own_none1 w _) (Nat.le_refl _) (by simp)); have HM1 : Hid (OwnB w1 (w.heap.size + 1) ao 1 c1 l) := (by show OwnB _ _ _ _ _ _; simpa using ho); have HS1 := Lib.hid ((HS.out.below ((Below.refl _ _).alloc (Nat.le_refl _) _)).keep HB1.out.size (HB1.out.block _ (Nat.lt_succ_self _))); have p2 := HS1.out.c2; have p0 := HS1.out.c0; have hs1 := HS1.out.lt; clear ho hg)
          | (go_at_call 54; (with_reducible refine (rhead_V 128 (.inl rfl) 1 (by omega) _ 128 1 rfl rfl).mono ?_); rintro e w2 ⟨ah, k, ch, rfl, ho2, hb2⟩; have HO2 := Lib.hid ho2; have HB2 := Lib.hid hb2; have HM2 := Lib.hid (HM1.out.below hb2); have hk9 : k ≤ 9 := (by have := ho2.len; have := hdB_len 128 1; omega); clear ho2 hb2)
          | (at_builtin; refine wpList_append_B rfl (.tmp 65) (.tmp 66) rfl w1.heap.size ah k ch (hdB 128 1) ao 1 c1 l HO2.out HM2.out.bytes rfl rfl HL.out HM2.out.cap.2.2 (HSm.out.le (by omega)) HB2.out.size ?_; intro a3 c3 w3 ho hg _; have HB3 := Lib.hid (grown_below hg HO2.out (Nat.le_refl _) HB2.out.size); have HO3 := Lib.hid ho; clear ho hg))
    refine wp_loop_rounds 1 ?_
    rw [rounds_succ]
    go_wp2_with (first
          | (at_builtin; refine wpList_append_B rfl (.tmp 30) (.tmp 32) rfl (w.heap.size + 1) (some ⟨w.heap.size + 1, 0, none⟩) 0 0 [] (some ⟨b, off, none⟩) 1 c l (own_none1 w _) (HB.out.below ((Below.refl _ _).alloc (Nat.le_refl _) _)) rfl rfl HL.out HN.out (HSm.out.le (by omega)) (by simp) ?_; intro ao c1 w1 ho hg _; have HB1 := Lib.hid (grown_below (B := w.heap.size + 1) hg (own_none1 w _) (Nat.le_refl _) (by simp)); have HM1 : Hid (OwnB w1 (w.heap.size + 1) ao 1 c1 l) := (by show OwnB _ _ _ _ _ _; simpa using ho); have HS1 := Lib.hid ((HS.out.below ((Below.refl _ _).alloc (Nat.le_refl _) _)).keep HB1.out.size (HB1.out.block _ (Nat.lt_succ_self _))); have p2 := HS1.out.c2; have p0 := HS1.out.c0; have hs1 := HS1.out.lt; clear ho hg)
          | (go_at_call 54; (with_reducible refine (rhead_V 128 (.inl rfl) 1 (by omega) _ 128 1 rfl rfl).mono ?_); rintro e w2 ⟨ah, k, ch, rfl, ho2, hb2⟩; have HO2 := Lib.hid ho2; have HB2 := Lib.hid hb2; have HM2 := Lib.hid (HM1.out.below hb2); have hk9 : k ≤ 9 := (by have := ho2.len; have := hdB_len 128 1; omega); clear ho2 hb2)
          | (at_builtin; refine wpList_append_B rfl (.tmp 65) (.tmp 66) rfl w1.heap.size ah k ch (hdB 128 1) ao 1 c1 l HO2.out HM2.out.bytes rfl rfl HL.out HM2.out.cap.2.2 (HSm.out.le (by omega)) HB2.out.size ?_; intro a3 c3 w3 ho hg _; have HB3 := Lib.hid (grown_below hg HO2.out (Nat.le_refl _) HB2.out.size); have HO3 := Lib.hid ho; clear ho hg))
    go_returns
    have hm : (Rlp.headed 128 l).length = k + 1 := by rw [headed_hd, List.length_append, HL.out, HO2.out.len]
    have hd : decide ((k : Int) + 1 ≤ 4096) = decide (k + 1 ≤ 4096) := by rw [decide_eq_decide]; omega
    rw [hm]
    refine ⟨a3, c3, ?_, ?_, ?_⟩
    · first | rfl | (rw [← hd]; rfl) | (simp [hd])
    · rw [headed_hd, HL.out]; exact HO3.out.le (by omega)
    · exact (((Below.refl _ _).alloc (Nat.le_refl _) _).alloc (by simp) _).trans ((HB1.out.mono (by omega)).trans ((HB2.out.mono (by omega)).trans (HB3.out.mono (by omega))))
  · unfold maxLen at hcm
    clear hb h1 hl hn hS
    go_enter Tryd.func41, Tryd.ntmps41
    go_wp2_with (first
          | (at_builtin; refine wpList_append_B rfl (.tmp 30) (.tmp 32) rfl (w.heap.size + 1) (some ⟨w.heap.size + 1, 0, none⟩) 0 0 [] a n c l (own_none1 w _) (HB.out.below ((Below.refl _ _).alloc (Nat.le_refl _) _)) rfl rfl HL.out HN.out (HSm.out.le (by omega)) (by simp) ?_; intro ao c1 w1 ho hg _; have HB1 := Lib.hid (grown_below (B := w.heap.size + 1) hg (own_none1 w _) (Nat.le_refl _) (by simp)); have HM1 : Hid (OwnB w1 (w.heap.size + 1) ao n c1 l) := (by show OwnB _ _ _ _ _ _; simpa using ho); have HS1 := Lib.hid ((HS.out.below ((Below.refl _ _).alloc (Nat.le_refl _) _)).keep HB1.out.size (HB1.out.block _ (Nat.lt_succ_self _))); have p2 := HS1.out.c2; have p0 := HS1.out.c0; have hs1 := HS1.out.lt; clear ho hg)
          | (go_at_call 54; (with_reducible refine (rhead_V 128 (.inl rfl) n (by have := HSm.out; unfold Sm at this; omega) _ 128 n rfl rfl).mono ?_); rintro e w2 ⟨ah, k, ch, rfl, ho2, hb2⟩; have HO2 := Lib.hid ho2; have HB2 := Lib.hid hb2; have HM2 := Lib.hid (HM1.out.below hb2); have hk9 : k ≤ 9 := (by have := ho2.len; have := hdB_len 128 n; omega); clear ho2 hb2)
          | (at_builtin; refine wpList_append_B rfl (.tmp 65) (.tmp 66) rfl w1.heap.size ah k ch (hdB 128 n) ao n c1 l HO2.out HM2.out.bytes rfl rfl HL.out HM2.out.cap.2.2 (HSm.out.le (by omega)) HB2.out.size ?_; intro a3 c3 w3 ho hg _; have HB3 := Lib.hid (grown_below hg HO2.out (Nat.le_refl _) HB2.out.size); have HO3 := Lib.hid ho; clear ho hg))
    refine wp_loop_rounds 1 ?_
    rw [rounds_succ]
    go_wp2_with (first
          | (at_builtin; refine wpList_append_B rfl (.tmp 30) (.tmp 32) rfl (w.heap.size + 1) (some ⟨w.heap.size + 1, 0, none⟩) 0 0 [] a n c l (own_none1 w _) (HB.out.below ((Below.refl _ _).alloc (Nat.le_refl _) _)) rfl rfl HL.out HN.out (HSm.out.le (by omega)) (by simp) ?_; intro ao c1 w1 ho hg _; have HB1 := Lib.hid (grown_below (B := w.heap.size + 1) hg (own_none1 w _) (Nat.le_refl _) (by simp)); have HM1 : Hid (OwnB w1 (w.heap.size + 1) ao n c1 l) := (by show OwnB _ _ _ _ _ _; simpa using ho); have HS1 := Lib.hid ((HS.out.below ((Below.refl _ _).alloc (Nat.le_refl _) _)).keep HB1.out.size (HB1.out.block _ (Nat.lt_succ_self _))); have p2 := HS1.out.c2; have p0 := HS1.out.c0; have hs1 := HS1.out.lt; clear ho hg)
          | (go_at_call 54; (with_reducible refine (rhead_V 128 (.inl rfl) n (by have := HSm.out; unfold Sm at this; omega) _ 128 n rfl rfl).mono ?_); rintro e w2 ⟨ah, k, ch, rfl, ho2, hb2⟩; have HO2 := Lib.hid ho2; have HB2 := Lib.hid hb2; have HM2 := Lib.hid (HM1.out.below hb2); have hk9 : k ≤ 9 := (by have := ho2.len; have := hdB_len 128 n; omega); clear ho2 hb2)
          | (at_builtin; refine wpList_append_B rfl (.tmp 65) (.tmp 66) rfl w1.heap.size ah k ch (hdB 128 n) ao n c1 l HO2.out HM2.out.bytes rfl rfl HL.out HM2.out.cap.2.2 (HSm.out.le (by omega)) HB2.out.size ?_; intro a3 c3 w3 ho hg _; have HB3 := Lib.hid (grown_below hg HO2.out (Nat.le_refl _) HB2.out.size); have HO3 := Lib.hid ho; clear ho hg))
    go_returns
    have hm : (Rlp.headed 128 l).length = k + n := by rw [headed_hd, List.length_append, HL.out, HO2.out.len]
    have hd : decide ((k : Int) + n ≤ 4096) = decide (k + n ≤ 4096) := by rw [decide_eq_decide]; omega
    rw [hm]
    refine ⟨a3, c3, ?_, ?_, ?_⟩
    · first | rfl | (rw [← hd]; rfl) | (simp [hd])
    · rw [headed_hd, HL.out]; exact HO3.out.le (by omega)
    · exact (((Below.refl _ _).alloc (Nat.le_refl _) _).alloc (by simp) _).trans ((HB1.out.mono (by omega)).trans ((HB2.out.mono (by omega)).trans (HB3.out.mono (by omega))))
end Go.Proofs.YtgcpnhnckbgjmaaDoor
/-
  mootref03.form and Encode of a list of bytes, by their contracts.
-/
set_option linter.unusedVariables false
set_option linter.unusedSimpArgs false
namespace Go.Proofs.YtgcpnhnckbgjmaaDoor
open Go.RowKit
variable {F : Nat → Prop}
abbrev lvs (ls : List (List UInt8)) : List Rlp.It := ls.map fun l => .mk false l []
theorem formL_over (its : List Rlp.It) (acc : List UInt8) (h : 4096 < (acc ++ Rlp.formC its).length) : 4096 < (Rlp.formL its acc).length := by
  induction its generalizing acc with
  | nil => simpa [Rlp.formL, Rlp.formC] using h
  | cons x xs ih =>
    rw [Rlp.formL]
    by_cases h1 : 4096 < (acc ++ Rlp.form x).length
    · rw [if_pos h1]; exact h1
    · rw [if_neg h1]
      refine ih _ ?_
      have e : Rlp.formC (x :: xs) = Rlp.form x ++ Rlp.formC xs := by simp [Rlp.formC]
      rw [e, ← List.append_assoc] at h
      exact h
theorem take_lvs (ls : List (List UInt8)) (j : Nat) (hj : j < ls.length) : Rlp.formC ((lvs ls).take (j + 1)) = Rlp.formC ((lvs ls).take j) ++ Rlp.form (.mk false (ls.getD j []) []) := by
  have hj' : j < (lvs ls).length := by simpa using hj
  rw [List.take_add_one, List.getElem?_eq_getElem hj', Rlp.formC_app]
  congr 1
  simp [Rlp.formC, lvs, hj]
theorem bForm_over (ls : List (List UInt8)) (j : Nat) (h : 4096 < (Rlp.formC ((lvs ls).take j)).length) : 4096 < (Rlp.form (bItem ls)).length := by
  have h1 : 4096 < ([] ++ Rlp.formC (lvs ls)).length := by
    rw [List.nil_append, ← List.take_append_drop j (lvs ls), Rlp.formC_app, List.length_append]; omega
  have h2 := formL_over _ _ h1
  unfold bItem
  rw [form_list, headed_hd, List.length_append]
  have : (Rlp.formL (lvs ls) []).length = (Rlp.formL (ls.map fun l => .mk false l []) []).length := rfl
  omega
theorem bForm_at (ls : List (List UInt8)) (h : (Rlp.formC (lvs ls)).length ≤ 4096) : Rlp.form (bItem ls) = Rlp.headed 192 (Rlp.formC (lvs ls)) := by
  unfold bItem
  rw [form_list, Rlp.formL_cat _ _ (by simpa using h)]; simp
theorem leaf_form' (l : List UInt8) : (Rlp.form (.mk false l [])).length ≤ l.length + 9 := by
  by_cases h : l.length = 1
  · obtain ⟨u, rfl⟩ := List.length_eq_one_iff.1 h
    rw [form_one]
    split
    · simp
    · exact headed_len 128 [u]
  · rw [form_bytes _ _ h]; exact headed_len 128 l
theorem rform_leaf (w : World) (l : List UInt8) (a ia : Option Addr) (n c ic : Nat) (hl : l.length = n) (hc : n ≤ c) (hcm : c ≤ maxLen) (hn : a = none → c = 0) (hb : BytesF F w a l) (hS : Sm (n + 9)) (m : Nat) (hm : (Rlp.form (.mk false l [])).length = m) :
    Calls Tryd.prog 41 #[.agg #[.bool false, .slice a n c, .slice ia 0 ic]] w (RForm w (Rlp.form (.mk false l [])) m) := by
  subst hm
  by_cases e1 : n = 1
  · subst e1
    obtain ⟨u, rfl⟩ := List.length_eq_one_iff.1 hl
    rw [form_one]
    by_cases hu : u < 128
    · rw [if_pos hu]; exact rform_one w u hu a ia c ic hc hcm hb
    · rw [if_neg hu]
      exact rform_many w [u] a ia 1 c ic hl (fun _ => by
        have : ¬ u.toNat < 128 := hu
        simp only [List.getD_cons_zero]; omega) hc hcm hn hb hS
  · rw [form_bytes _ _ (by omega)]
    exact rform_many w l a ia n c ic hl (fun e => absurd e e1) hc hcm hn hb hS
/-- What form answers of a list. -/
def RFormB (w : World) (ls : List (List UInt8)) (e : Ending) (w' : World) : Prop := Below w.heap.size w w' ∧
  ((4096 < (Rlp.form (bItem ls)).length ∧ ∃ ao m c, e = .returned (.tuple #[.slice ao m c, .bool false])) ∨ (¬ 4096 < (Rlp.form (bItem ls)).length ∧ ∃ ao m c, e = .returned (.tuple #[.slice ao m c, .bool true]) ∧ OwnB w' w.heap.size ao m c (Rlp.form (bItem ls))))
structure FB (w : World) (a' : Option Addr) (N c' : Nat) (ls : List (List UInt8)) (j n c : Nat) (ao : Option Addr) (W : World) : Prop where
  b : Below w.heap.size w W
  x : SlotI W w.heap.size (.bool true) (.slice none 0 0) (.slice a' N c')
  o : OwnB W (w.heap.size + 1) ao n c (Rlp.formC ((lvs ls).take j))
theorem FB.below {w : World} {a' : Option Addr} {N c' : Nat} {ls : List (List UInt8)} {j n c : Nat} {ao : Option Addr} {W W' : World} (h : FB w a' N c' ls j n c ao W) (hb : Below W.heap.size W W') : FB w a' N c' ls j n c ao W' :=
  ⟨h.b.trans (hb.mono h.b.size), h.x.below hb, h.o.below hb⟩
theorem FB.app {w : World} {a' : Option Addr} {N c' : Nat} {ls : List (List UInt8)} {j n c m c2 : Nat} {ao a2 : Option Addr} {W W' : World} (h : FB w a' N c' ls j n c ao W) (hj : j < ls.length)
    (ho : OwnB W' (w.heap.size + 1) a2 m c2 (Rlp.formC ((lvs ls).take j) ++ Rlp.form (.mk false (ls.getD j []) []))) (hg : W.grownBy W' (Value.slice ao n c).ownBlock) : FB w a' N c' ls (j + 1) m c2 a2 W' := by
  have hl := h.x.lt
  have hb : Below (w.heap.size + 1) W W' := grown_below hg h.o (Nat.le_refl _) (by omega)
  refine ⟨h.b.trans (hb.mono (by omega)), h.x.keep hb.size (hb.block _ (Nat.lt_succ_self _)), ?_⟩
  rw [take_lvs ls j hj]; exact ho
set_option maxRecDepth 100000 in
set_option maxHeartbeats 8000000 in
theorem rform_b (w : World) (k : Nat) (ls : List (List UInt8)) (h8 : ls.length ≤ 8) (vi : Value) (h : IsIt F w (k + 2) (bItem ls) (.bool true) (.slice none 0 0) vi) (M : Nat) (hM : ∀ i, i < ls.length → (ls.getD i []).length ≤ M) (hS : Sm (4096 + (M + 9))) :
    Calls Tryd.prog 41 #[.agg #[.bool true, .slice none 0 0, vi]] w (RFormB w ls) := by
  obtain ⟨_, _, a', c', rfl, hc1, hc2, h6⟩ := bIt_at h
  have H6 := Lib.hid h6
  have HM := Lib.hid hM
  have HSm := Lib.hid hS
  unfold maxLen at hc2
  obtain ⟨N, hN⟩ : ∃ N, ls.length = N := ⟨_, rfl⟩
  have HN := Lib.hid hN
  rw [hN] at hc1 h8 H6 HM ⊢
  clear h h6 hM hS hN
  have HS := Lib.hid (SlotI.new w (.bool true) (.slice none 0 0) (.slice a' N c'))
  go_enter Tryd.func41, Tryd.ntmps41
  go_wp2_with (at_builtin; refine wpList_append_B (F := fun _ => True) rfl (.tmp 30) (.tmp 32) rfl (w.heap.size + 1) (some ⟨w.heap.size + 1, 0, none⟩) 0 0 [] none 0 0 [] (own_none1 w _) (fun i hi => by simp at hi) rfl rfl rfl (fun _ => rfl) (Sm.of (by omega)) (by simp) ?_; intro ao c1 w1 ho hg _; have HB1 := Lib.hid (grown_below (B := w.heap.size + 1) hg (own_none1 w _) (Nat.le_refl _) (by simp)); have hFB : FB w a' N c' ls 0 0 c1 ao w1 := ⟨(((Below.refl _ _).alloc (Nat.le_refl _) _).alloc (by simp) _).trans (HB1.out.mono (by omega)), ((HS.out.below ((Below.refl _ _).alloc (Nat.le_refl _) _)).keep HB1.out.size (HB1.out.block _ (Nat.lt_succ_self _))), (by simpa [Rlp.formC] using ho)⟩; have HFB := Lib.hid hFB; clear ho hg hFB; have p2 := HFB.out.x.c2; have p0 := HFB.out.x.c0)
  go_loopw [4, 6, 7, 8] (fun all i bb kk wr => ∃ (j n c : Nat) (ao : Option Addr), j ≤ N ∧ i = .int .i64 j ∧ all = .slice ao n c ∧ n ≤ 4096 ∧ Hid (FB w a' N c' ls j n c ao wr)) (fun _ i _ _ _ => N - (intOf i).toNat)
  case atStart => exact ⟨0, 0, c1, ao, by omega, rfl, rfl, by omega, HFB.out⟩
  case round =>
    obtain ⟨j, n, c, ao, hj, rfl, rfl, hn, HR⟩ := hrel
    have p2 := HR.out.x.c2
    by_cases hlt : j < N
    · obtain ⟨b, off, la, lc, ia, ic, rfl, hbl, q0, q1, q2, hx⟩ := H6.out j hlt
      rw [← HR.out.b.cell (p := ⟨b, off + j * 3, none⟩) hbl] at q0
      rw [← HR.out.b.cell (p := ⟨b, off + j * 3 + 1, none⟩) hbl] at q1
      rw [← HR.out.b.cell (p := ⟨b, off + j * 3 + 2, none⟩) hbl] at q2
      have hmj := HM.out j hlt
      obtain ⟨nj, hnj⟩ : ∃ nj, (ls.getD j []).length = nj := ⟨_, rfl⟩
      obtain ⟨mj, hmf⟩ : ∃ mj, (Rlp.form (.mk false (ls.getD j []) [])).length = mj := ⟨_, rfl⟩
      have hmn : mj ≤ nj + 9 := by rw [← hmf, ← hnj]; exact leaf_form' _
      have hlf : nj ≤ lc ∧ lc ≤ maxLen ∧ (la = none → lc = 0) ∧ BytesF F wr la (ls.getD j []) := by
        obtain ⟨_, ⟨a2, c2, g2, g3, g4, g5, g6⟩, _⟩ := hx
        injection g2 with e1 e2 e3
        subst e1; subst e3
        exact ⟨by rw [← hnj]; exact g3, g4, g5, BytesF.below g6 HR.out.b⟩
      rw [hnj] at hmj q1
      have HNJ := Lib.hid hnj
      have HMJ := Lib.hid hmf
      have HLf := Lib.hid hlf
      clear hx hnj hmf hlf
      by_cases h1 : mj ≤ 4096
      · have hd : decide (mj ≤ 4096) = true := by simpa using h1
        by_cases h2 : n + mj ≤ 4096
        · go_wp2_with (first
            | (go_at_call 41; (with_reducible refine (rform_leaf wr (ls.getD j []) la ia nj lc ic HNJ.out HLf.out.1 HLf.out.2.1 HLf.out.2.2.1 HLf.out.2.2.2 (HSm.out.le (by omega)) mj HMJ.out).mono ?_); rintro e w2 ⟨ab, cb, rfl, ho2, hb2⟩; rw [hd]; have HR2 := Lib.hid (HR.out.below hb2); have HO2 := Lib.hid ho2; have p2' := HR2.out.x.c2; clear ho2 hb2)
            | (at_builtin; refine wpList_append_B rfl (.tmp 52) (.tmp 53) rfl (w.heap.size + 1) ao n c (Rlp.formC ((lvs ls).take j)) ab mj cb (Rlp.form (.mk false (ls.getD j []) [])) HR2.out.o HO2.out.bytes rfl rfl HO2.out.len HO2.out.cap.2.2 (HSm.out.le (by omega)) (by have := HR2.out.x.lt; omega) ?_; intro ao' c2 w3 ho hg _; have H3 := Lib.hid (HR2.out.app (by rw [HN.out]; exact hlt) ho hg); have p3 := H3.out.x.c2; clear ho hg))
          go_roundw
          case rel => exact ⟨j + 1, n + mj, c2, ao', by omega, by go_num, by go_num, by omega, H3.out⟩
          case measure => simp [intOf]; omega
        · go_wp2_with (first
            | (go_at_call 41; (with_reducible refine (rform_leaf wr (ls.getD j []) la ia nj lc ic HNJ.out HLf.out.1 HLf.out.2.1 HLf.out.2.2.1 HLf.out.2.2.2 (HSm.out.le (by omega)) mj HMJ.out).mono ?_); rintro e w2 ⟨ab, cb, rfl, ho2, hb2⟩; rw [hd]; have HR2 := Lib.hid (HR.out.below hb2); have HO2 := Lib.hid ho2; have p2' := HR2.out.x.c2; clear ho2 hb2)
            | (at_builtin; refine wpList_append_B rfl (.tmp 52) (.tmp 53) rfl (w.heap.size + 1) ao n c (Rlp.formC ((lvs ls).take j)) ab mj cb (Rlp.form (.mk false (ls.getD j []) [])) HR2.out.o HO2.out.bytes rfl rfl HO2.out.len HO2.out.cap.2.2 (HSm.out.le (by omega)) (by have := HR2.out.x.lt; omega) ?_; intro ao' c2 w3 ho hg _; have H3 := Lib.hid (HR2.out.app (by rw [HN.out]; exact hlt) ho hg); have p3 := H3.out.x.c2; clear ho hg))
          go_returns
          exact ⟨H3.out.b, .inl ⟨bForm_over ls (j + 1) (by rw [H3.out.o.len]; omega), _, _, _, rfl⟩⟩
      · have hd : decide (mj ≤ 4096) = false := by simpa using h1
        go_wp2_with (first
          | (go_at_call 41; (with_reducible refine (rform_leaf wr (ls.getD j []) la ia nj lc ic HNJ.out HLf.out.1 HLf.out.2.1 HLf.out.2.2.1 HLf.out.2.2.2 (HSm.out.le (by omega)) mj HMJ.out).mono ?_); rintro e w2 ⟨ab, cb, rfl, ho2, hb2⟩; rw [hd]; have HR2 := Lib.hid (HR.out.below hb2); have HO2 := Lib.hid ho2; have p2' := HR2.out.x.c2; clear ho2 hb2)
          | (at_builtin; refine wpList_append_B rfl (.tmp 52) (.tmp 53) rfl (w.heap.size + 1) ao n c (Rlp.formC ((lvs ls).take j)) ab mj cb (Rlp.form (.mk false (ls.getD j []) [])) HR2.out.o HO2.out.bytes rfl rfl HO2.out.len HO2.out.cap.2.2 (HSm.out.le (by omega)) (by have := HR2.out.x.lt; omega) ?_; intro ao' c2 w3 ho hg _; have H3 := Lib.hid (HR2.out.app (by rw [HN.out]; exact hlt) ho hg); have p3 := H3.out.x.c2; clear ho hg))
        go_returns
        exact ⟨H3.out.b, .inl ⟨bForm_over ls (j + 1) (by rw [H3.out.o.len]; omega), _, _, _, rfl⟩⟩
    · have hjn : j = N := by omega
      subst hjn
      go_wp2_with (first
        | (go_at_call 54; (with_reducible refine (rhead_V 192 (.inr rfl) n (by omega) _ 192 n rfl rfl).mono ?_); rintro e w2 ⟨ah, k, ch, rfl, ho2, hb2⟩; have HO2 := Lib.hid ho2; have HB2 := Lib.hid hb2; have HR2 := Lib.hid (HR.out.below hb2); have hk9 : k ≤ 9 := (by have := ho2.len; have := hdB_len 192 n; omega); clear ho2 hb2)
        | (at_builtin; refine wpList_append_B rfl (.tmp 65) (.tmp 66) rfl wr.heap.size ah k ch (hdB 192 n) ao n c (Rlp.formC ((lvs ls).take j)) HO2.out HR2.out.o.bytes rfl rfl HR2.out.o.len HR2.out.o.cap.2.2 (Sm.of (by omega)) HB2.out.size ?_; intro a3 c3 w3 ho hg _; have HB3 := Lib.hid (grown_below hg HO2.out (Nat.le_refl _) HB2.out.size); have HO3 := Lib.hid ho; clear ho hg))
      have hall : (lvs ls).take j = lvs ls := List.take_of_length_le (by rw [List.length_map, HN.out]; exact Nat.le_refl _)
      have hlen := HR.out.o.len
      rw [hall] at hlen
      have hf := bForm_at ls (by omega)
      have hL : (Rlp.form (bItem ls)).length = k + n := by rw [hf, headed_hd, List.length_append, hlen, HO2.out.len]
      by_cases h4 : k + n ≤ 4096
      · go_returns
        refine ⟨HR.out.b.trans ((HB2.out.mono HR.out.b.size).trans (HB3.out.mono HR.out.b.size)), .inr ⟨by omega, a3, k + n, c3, ?_, ?_⟩⟩
        · have hd : decide ((k : Int) + n ≤ 4096) = true := by simp; omega
          first | rfl | (simp [hd]; done) | (rw [← hd]; rfl)
        · rw [hf, headed_hd, hlen]
          have := HO3.out
          rw [hall] at this
          exact this.le HR.out.b.size
      · go_returns
        refine ⟨HR.out.b.trans ((HB2.out.mono HR.out.b.size).trans (HB3.out.mono HR.out.b.size)), .inl ⟨by omega, a3, k + n, c3, ?_⟩⟩
        have hd : decide ((k : Int) + n ≤ 4096) = false := by simp; omega
        first | rfl | (simp [hd]; done) | (rw [← hd]; rfl)
end Go.Proofs.YtgcpnhnckbgjmaaDoor
/-
  mootref03.Encode of a list of bytes; mootref04.Right, Fields by their contracts.
-/
set_option linter.unusedVariables false
set_option linter.unusedSimpArgs false
namespace Go.Proofs.YtgcpnhnckbgjmaaDoor
open Go.RowKit
variable {F : Nat → Prop}
theorem enc_b (ls : List (List UInt8)) : enc (bItem ls) = if 4096 < (Rlp.form (bItem ls)).length then .error 5 else .ok (Rlp.form (bItem ls)) := by
  have hm : ∀ x ∈ lvs ls, ∃ l : List UInt8, x = .mk false l [] := fun x hx => by
    rw [List.mem_map] at hx
    obtain ⟨l, _, rfl⟩ := hx; exact ⟨l, rfl⟩
  have hn : Rlp.nest (bItem ls) 16 ≤ 2 := by
    unfold bItem
    rw [Rlp.nest]
    have := Rlp.nestL_le (ls.map fun l => .mk false l []) 15 1 (fun x hx => by obtain ⟨l, rfl⟩ := hm x hx; simp [Rlp.nest, Rlp.nestL])
    omega
  have hr : Rlp.right (bItem ls) = true := by
    unfold bItem
    simp only [Rlp.right, if_true, List.isEmpty_nil, Bool.true_and]
    exact Rlp.rightL_all _ (fun x hx => by obtain ⟨l, rfl⟩ := hm x hx; simp [Rlp.right])
  unfold enc
  rw [if_neg (by omega), hr, if_neg (by decide)]
/-- What the reference's encoders answer. -/
def REnc (w : World) (r : Except Nat (List UInt8)) (e : Ending) (w' : World) : Prop := Below w.heap.size w w' ∧ match r with
  | .error k => e = .returned (.tuple #[.slice none 0 0, .int .i64 k])
  | .ok bs => ∃ ao n c, e = .returned (.tuple #[.slice ao n c, .int .i64 0]) ∧ OwnB w' w.heap.size ao n c bs
set_option maxRecDepth 100000 in
set_option maxHeartbeats 8000000 in
theorem rencode_b (w : World) (k : Nat) (ls : List (List UInt8)) (h8 : ls.length ≤ 8) (a' : Option Addr) (N c' : Nat) (h : IsIt F w (k + 2) (bItem ls) (.bool true) (.slice none 0 0) (.slice a' N c')) (M : Nat) (hM : ∀ i, i < ls.length → (ls.getD i []).length ≤ M) (hS : Sm (4096 + (M + 9))) :
    Calls Tryd.prog 26 #[.agg #[.bool true, .slice none 0 0, .slice a' N c']] w (REnc w (enc (bItem ls))) := by
  rw [enc_b]
  have X : Below w.heap.size w (w.alloc (.cells #[.bool true, .slice none 0 0, .slice a' N c'] TI)) := (Below.refl _ _).alloc (Nat.le_refl _) _
  have H0 := Lib.hid (h.below ((Below.refl _ _).alloc (Nat.le_refl _) (.cells #[.bool true, .slice none 0 0, .slice a' N c'] TI)))
  have HS0 := Lib.hid (SlotI.new w (.bool true) (.slice none 0 0) (.slice a' N c'))
  have HB0 := Lib.hid X
  have HM := Lib.hid hM
  have HSm := Lib.hid hS
  clear h hM hS X
  by_cases hL : 4096 < (Rlp.form (bItem ls)).length
  · rw [if_pos hL]
    go_enter Tryd.func26, Tryd.ntmps26
    go_wp2_with (first
      | (go_at_call 39; (with_reducible refine (rdeep_b _ k ls h8 _ _ _ H0.out).mono ?_); rintro e w1 ⟨rfl, hb⟩; have H1 := Lib.hid (H0.out.below hb); have HS1 := Lib.hid (HS0.out.below hb); have HB1 := Lib.hid (HB0.out.trans (hb.mono HB0.out.size)); have p0 := HS1.out.c0; have p1 := HS1.out.c1; have p2 := HS1.out.c2; clear hb)
      | (go_at_call 40; (with_reducible refine (rright_b _ k ls h8 _ _ _ H1.out).mono ?_); rintro e w2 ⟨rfl, hb⟩; have H2 := Lib.hid (H1.out.below hb); have HS2 := Lib.hid (HS1.out.below hb); have HB2 := Lib.hid (HB1.out.trans (hb.mono HB1.out.size)); have q0 := HS2.out.c0; have q1 := HS2.out.c1; have q2 := HS2.out.c2; clear hb)
      | (go_at_call 41; (with_reducible refine (rform_b _ k ls h8 _ H2.out M HM.out HSm.out).mono ?_); rintro e w3 ⟨hb, ⟨_, ao, m, c, rfl⟩ | ⟨hx, _⟩⟩; rotate_left 1; (exact absurd hL hx); have HB3 := Lib.hid (HB2.out.trans (hb.mono HB2.out.size)); clear hb))
    go_returns
    exact ⟨HB3.out, rfl⟩
  · rw [if_neg hL]
    go_enter Tryd.func26, Tryd.ntmps26
    go_wp2_with (first
      | (go_at_call 39; (with_reducible refine (rdeep_b _ k ls h8 _ _ _ H0.out).mono ?_); rintro e w1 ⟨rfl, hb⟩; have H1 := Lib.hid (H0.out.below hb); have HS1 := Lib.hid (HS0.out.below hb); have HB1 := Lib.hid (HB0.out.trans (hb.mono HB0.out.size)); have p0 := HS1.out.c0; have p1 := HS1.out.c1; have p2 := HS1.out.c2; clear hb)
      | (go_at_call 40; (with_reducible refine (rright_b _ k ls h8 _ _ _ H1.out).mono ?_); rintro e w2 ⟨rfl, hb⟩; have H2 := Lib.hid (H1.out.below hb); have HS2 := Lib.hid (HS1.out.below hb); have HB2 := Lib.hid (HB1.out.trans (hb.mono HB1.out.size)); have q0 := HS2.out.c0; have q1 := HS2.out.c1; have q2 := HS2.out.c2; clear hb)
      | (go_at_call 41; (with_reducible refine (rform_b _ k ls h8 _ H2.out M HM.out HSm.out).mono ?_); rintro e w3 ⟨hb, ⟨hx, _⟩ | ⟨_, ao, m, c, rfl, ho⟩⟩; (exact absurd hx hL); have HB3 := Lib.hid (HB2.out.trans (hb.mono HB2.out.size)); have HO3 := Lib.hid (ho.le HB2.out.size); clear hb ho))
    go_returns
    exact ⟨HB3.out, _, _, _, rfl, HO3.out⟩
/-- Is a transaction right? -/
def okB (vs : Nat → Nat) : Bool := decide (vs 0 < 64) && (decide (vs 1 < 64) && decide (vs 4 ≤ 96))
theorem okB_iff (vs : Nat → Nat) : okB vs = true ↔ okTx vs := by
  unfold okB okTx
  constructor
  · intro h k hk
    simp at h
    rcases (by omega : k = 0 ∨ k = 1 ∨ k = 2 ∨ k = 3 ∨ k = 4 ∨ k = 5) with rfl | rfl | rfl | rfl | rfl | rfl <;> simp [inn, h]
  · intro h
    have h0 := h 0 (by decide)
    have h1 := h 1 (by decide)
    have h4 := h 4 (by decide)
    simp [inn] at h0 h1 h4 ⊢
    exact ⟨h0, h1, h4⟩
theorem rright4_V (vs : Nat → Nat) (w : World) (b : Bool) (hb : okB vs = b) :
    Calls Tryd.prog 23 #[.agg #[.int .u64 (vs 0), .int .u64 (vs 1), .int .u64 (vs 2), .int .u64 (vs 3), .int .u64 (vs 4), .int .u64 (vs 5)]] w fun e w' => e = .returned (.bool b) ∧ Below w.heap.size w w' := by
  subst hb
  unfold okB
  by_cases h0 : vs 0 < 64 <;> by_cases h1 : vs 1 < 64 <;> by_cases h4 : vs 4 ≤ 96
  all_goals
    go_enter Tryd.func23, Tryd.ntmps23
    go_wp2
    go_returns
    exact ⟨by first | (simp [h0, h1, h4]; done) | (simp [h0, h1, h4]; omega), by (repeat' (first | (with_reducible exact Below.refl _ _) | (with_reducible refine Below.alloc ?_ ?_ _) | (with_reducible refine Below.drew ?_) | (with_reducible refine Below.setCell ?_ ?_ _) | (with_reducible refine Below.thn (by assumption) ?_ ?_) | (with_reducible refine below_drewN ?_ _) | go_size))⟩
theorem txc_new (W : World) (vs : Nat → Nat) (T : TypeId) (b : Nat) (hb : W.heap.size = b) : TXC b vs (W.alloc (.cells #[.int .u64 (vs 0), .int .u64 (vs 1), .int .u64 (vs 2), .int .u64 (vs 3), .int .u64 (vs 4), .int .u64 (vs 5)] T)) := by
  subst hb
  refine ⟨by simp, fun k hk => ?_⟩
  rcases (by omega : k = 0 ∨ k = 1 ∨ k = 2 ∨ k = 3 ∨ k = 4 ∨ k = 5) with rfl | rfl | rfl | rfl | rfl | rfl
  all_goals exact (World.cell?_alloc_at _ _ _ _ rfl).trans rfl
theorem rfields_V (vs : Nat → Nat) (w : World) :
    Calls Tryd.prog 24 #[.agg #[.int .u64 (vs 0), .int .u64 (vs 1), .int .u64 (vs 2), .int .u64 (vs 3), .int .u64 (vs 4), .int .u64 (vs 5)]] w fun e w' => ∃ g, e = .returned (.slice (some ⟨g, 0, none⟩) 6 6) ∧ w.heap.size ≤ g ∧ TXC g vs w' ∧ Below w.heap.size w w' := by
  go_enter Tryd.func24, Tryd.ntmps24
  go_wp2
  go_returns
  exact ⟨_, rfl, by simp, txc_new _ vs _ _ (by simp), by (repeat' (first | (with_reducible exact Below.refl _ _) | (with_reducible refine Below.alloc ?_ ?_ _) | (with_reducible refine Below.drew ?_) | (with_reducible refine Below.setCell ?_ ?_ _) | (with_reducible refine Below.thn (by assumption) ?_ ?_) | (with_reducible refine below_drewN ?_ _) | go_size))⟩
end Go.Proofs.YtgcpnhnckbgjmaaDoor
