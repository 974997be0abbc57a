/-
  rlp.big and rlp.headed by their contracts.
-/
import Derived.Test.YtgcpnhnckbgjmaaDoorHeaded
set_option linter.unusedVariables false
set_option linter.unusedSimpArgs false
namespace Go.Proofs.YtgcpnhnckbgjmaaDoor
open Go.RowKit
variable {F : Nat → Prop}

theorem lows_step (m x : Nat) (h : 0 < x) : Rlp.lows (m + 1) x = UInt8.ofNat x :: Rlp.lows m (x / 256) := by rw [Rlp.lows, if_neg (by omega)]
theorem lows_zero (m : Nat) : Rlp.lows m 0 = [] := by cases m <;> simp [Rlp.lows]
set_option maxRecDepth 100000 in
theorem reverse_nil (w : World) : Calls Tryd.prog 49 #[.slice none 0 0] w fun e w' => e = .returned (.tuple #[]) ∧ w = w' := by
  go_enter Tryd.func49, Tryd.ntmps49
  go_wp2
  refine wp_loop_rounds 1 ?_
  rw [rounds_succ]
  go_wp2
  go_returns
  exact ⟨rfl, rfl⟩
set_option maxRecDepth 100000 in
set_option maxHeartbeats 4000000 in
theorem big_V (V : Nat) (w : World) (hV : Hid (V < 18446744073709551616)) :
    Calls Tryd.prog 35 #[.int .u64 V] w (GivesB w (Rlp.big V)) := by
  go_enter Tryd.func35, Tryd.ntmps35
  go_wp2
  go_loopw [0, 3] (fun v b wr => ∃ (x n m c : Nat) (ao : Option Addr) (pre : List UInt8), v = .int .u64 x ∧ b = .slice ao n c ∧ n + m = 8 ∧ Hid (OwnB wr w.heap.size ao n c pre) ∧ Hid (pre ++ Rlp.lows m x = Rlp.lows 8 V) ∧ Hid (x < 256 ^ m) ∧ Below w.heap.size w wr) (fun v _ _ => (intOf v).toNat)
  case atStart => exact ⟨V, 0, 8, 0, none, [], rfl, rfl, rfl, OwnB.nil _ _, by show _ = _; rfl, hV, by (repeat' (first | (with_reducible exact Below.refl _ _) | (with_reducible refine Below.alloc ?_ ?_ _) | (with_reducible refine Below.drew ?_) | (with_reducible refine Below.setCell ?_ ?_ _) | (with_reducible refine Below.thn (by assumption) ?_ ?_) | (with_reducible refine below_drewN ?_ _) | go_size))⟩
  case round =>
    obtain ⟨x, n, m, c, ao, pre, rfl, rfl, hnm, HO, HP, HX, hbr⟩ := hrel
    have hzr := hbr.size
    by_cases hx : 0 < x
    · have hm : 0 < m := by
        rcases Nat.eq_zero_or_pos m with h0 | h
        · have := HX.out; subst h0; simp at this; omega
        · exact h
      obtain ⟨m, rfl⟩ : ∃ m', m = m' + 1 := ⟨m - 1, by omega⟩
      obtain ⟨u, hu⟩ : ∃ u, u = UInt8.ofNat x := ⟨_, rfl⟩
      obtain ⟨y, hy⟩ : ∃ y, y = x / 256 := ⟨_, rfl⟩
      have HP2 : Hid ((pre ++ [u]) ++ Rlp.lows m y = Rlp.lows 8 V) := by
        have := HP.out
        rw [lows_step m x hx, ← hu, ← hy] at this
        show _ = _
        rw [← this]; simp
      have HX2 : Hid (y < 256 ^ m) := by
        have := HX.out
        rw [Nat.pow_succ] at this
        show y < _
        rw [hy]; exact Nat.div_lt_of_lt_mul (by omega)
      have hun : u.toNat = x % 256 := by rw [hu]; simp
      have HU := Lib.hid hun
      have HYe := Lib.hid hy
      have hyx : y < x := by omega
      have hcap := HO.out.cap
      clear hu hun hy hcap
      have hxu : (x : Int) % 256 = (u.toNat : Int) := by have := HU.out; omega
      have HOW := Lib.hid (own_one wr u _ hxu)
      have HO2 := Lib.hid (HO.out.below ((Below.refl _ _).alloc (Nat.le_refl _) (.cells #[.int .u8 ((x : Int) % 256)] TU)))
      clear hxu
      go_wp2_with (at_builtin; refine wpList_append_B rfl (.tmp 8) (.tmp 11) rfl w.heap.size ao n c pre (some ⟨wr.heap.size, 0, none⟩) 1 1 [u] HO2.out HOW.out.bytes rfl rfl rfl (by simp) (Sm.of (by omega)) (by simp; omega) ?_; intro ao' c' w1 ho hg _; have hb1 := Lib.hid (grown_below hg HO2.out (Nat.le_refl _) (by simp; omega)); have HO3 := Lib.hid ho; clear ho hg)
      go_roundw
      case rel => exact ⟨y, n + 1, m, c', ao', pre ++ [u], by rw [HYe.out]; go_num, by go_num, by omega, HO3, HP2, HX2, (hbr.alloc (by omega) _).trans hb1.out⟩
      case measure => have := HYe.out; simp [intOf]; omega
    · have h0 : x = 0 := by omega
      subst h0
      have E : Hid (pre = Rlp.lows 8 V) := by have := HP.out; rw [lows_zero] at this; show _ = _; rw [← this]; simp
      have HBig : Hid (pre.reverse = Rlp.big V) := by show _ = _; rw [E.out]; rfl
      rcases HO.out.form with ⟨rfl, rfl, rfl, e⟩ | ⟨g, rfl, hg, hl, h1, h2⟩
      · have E2 : Hid (pre = []) := e
        clear e
        go_wp2_with (go_at_call 49; (with_reducible refine (reverse_nil _).mono ?_); rintro e w' ⟨rfl, rfl⟩)
        go_returns
        exact ⟨_, _, _, rfl, by rw [← HBig.out, E2.out]; exact OwnB.nil _ _, hbr⟩
      · have hcap := HO.out.cap
        unfold maxLen at h2 hcap
        go_wp2_with (go_at_call 49; (with_reducible refine (reverse_V _ w.heap.size g n c pre HO.out (Sm.of (by omega))).mono ?_); rintro e w2 ⟨rfl, ho, hb2, hz2⟩; have HO2 := Lib.hid ho; have HB2 := Lib.hid hb2; have HZ2 := Lib.hid hz2; clear ho hb2 hz2)
        go_returns
        exact ⟨_, _, _, rfl, by rw [← HBig.out]; exact HO2.out, hbr.trans HB2.out⟩
theorem OwnB.le {w : World} {base base' : Nat} {ao : Option Addr} {n c : Nat} {bs : List UInt8} (h : OwnB w base ao n c bs) (hb : base' ≤ base) : OwnB w base' ao n c bs := by
  refine ⟨h.len, h.own.1, ?_⟩
  rcases h.own.2 with h2 | ⟨g, cap, cur, e, hg, r⟩
  · exact .inl h2
  · exact .inr ⟨g, cap, cur, e, by omega, r⟩
theorem lows_len (g v : Nat) : (Rlp.lows g v).length ≤ g := by
  induction g generalizing v with
  | zero => simp [Rlp.lows]
  | succ g ih => rw [Rlp.lows]; split <;> simp; exact ih _
set_option maxRecDepth 100000 in
set_option maxHeartbeats 4000000 in
theorem headed_V (short : Int) (sh : Nat) (w : World) (a : Option Addr) (n c : Nat) (bs : List UInt8) (hs : short = 128 ∧ sh = 128 ∨ short = 192 ∧ sh = 192) (hl : bs.length = n) (h40 : Sm (n + 9)) (hn : a = none → c = 0) (hb : BytesF F w a bs) :
    Calls Tryd.prog 53 #[.int .u8 short, .slice a n c] w (GivesB w (Rlp.headed sh bs)) := by
  have HL := Lib.hid hl
  have HB := Lib.hid hb
  have HN := Lib.hid hn
  have HS := Lib.hid h40
  have hnb : (n : Int) ≤ 140737488420864 := by unfold Sm at h40; omega
  have HV : Hid (n < 18446744073709551616) := by show _ < _; unfold Sm at h40; omega
  clear hl hb hn h40
  rcases hs with ⟨rfl, rfl⟩ | ⟨rfl, rfl⟩
  · go_enter Tryd.func53, Tryd.ntmps53
    by_cases h56 : n < 56
    · have E : Hid (Rlp.headed 128 bs = [UInt8.ofNat (128 + n)] ++ bs) := by show _ = _; unfold Rlp.headed; rw [if_pos (by rw [HL.out]; exact h56), HL.out]; rfl
      obtain ⟨u, hu⟩ : ∃ u, u = UInt8.ofNat (128 + n) := ⟨_, rfl⟩
      have hun : (128 : Int) + n = (u.toNat : Int) := by rw [hu]; simp; omega
      rw [← hu] at E
      have HOW := Lib.hid (own_one w u _ hun)
      have HB2 := Lib.hid (HB.out.below ((Below.refl _ _).alloc (Nat.le_refl _) (.cells #[.int .u8 ((128 : Int) + n)] TU)))
      clear hu hun
      go_wp2_with (at_builtin; refine wpList_append_B rfl (.tmp 14) (.tmp 15) rfl w.heap.size (some ⟨w.heap.size, 0, none⟩) 1 1 [u] a n c bs HOW.out HB2.out rfl rfl HL.out HN.out (Sm.of (by omega)) (by simp) ?_; intro ao' c' w1 ho hg _; have hb1 := Lib.hid (grown_below hg HOW.out (Nat.le_refl _) (by simp)); have HO3 := Lib.hid ho; clear ho hg)
      go_returns
      exact ⟨_, _, _, rfl, by rw [E.out]; exact HO3.out, ((Below.refl _ _).alloc (Nat.le_refl _) _).trans hb1.out⟩
    · have hbl : Hid ((Rlp.big n).length ≤ 8) := by show _ ≤ _; unfold Rlp.big; rw [List.length_reverse]; exact lows_len 8 n
      have E : Hid (Rlp.headed 128 bs = [UInt8.ofNat (128 + 55 + (Rlp.big n).length)] ++ Rlp.big n ++ bs) := by show _ = _; unfold Rlp.headed; rw [if_neg (by rw [HL.out]; exact h56), HL.out]; rfl
      go_wp2_with (first
        | (go_at_call 35; (with_reducible refine (big_V n _ HV).mono ?_); rintro e w1 ⟨ab, k, cb, rfl, ho1, hb1⟩; have HO1 := Lib.hid ho1; have HW1 := Lib.hid hb1; have hz1 := hb1.size; have hk8 : k ≤ 8 := (by have := HO1.out.len; have := hbl.out; omega); have hun : (183 : Int) + k = ((UInt8.ofNat (183 + k)).toNat : Int) := (by simp; omega); have HOW := Lib.hid (own_one w1 _ _ hun); have HO1' := Lib.hid (HO1.out.below ((Below.refl _ _).alloc (Nat.le_refl _) (.cells #[.int .u8 ((183 : Int) + k)] TU))); have HB2 := Lib.hid (HB.out.below (HW1.out.alloc hz1 (.cells #[.int .u8 ((183 : Int) + k)] TU))); clear ho1 hb1 hun)
        | (at_builtin; refine wpList_append_B rfl (.tmp 27) (.tmp 28) rfl w1.heap.size (some ⟨w1.heap.size, 0, none⟩) 1 1 [UInt8.ofNat (183 + k)] ab k cb (Rlp.big n) HOW.out HO1'.out.bytes rfl rfl HO1.out.len HO1.out.cap.2.2 (Sm.of (by omega)) (by simp) ?_; intro ao2 c2 w2 ho hg _; have hb2 := Lib.hid (grown_below hg HOW.out (Nat.le_refl _) (by simp)); have HO2 := Lib.hid ho; have hz4 : w1.heap.size ≤ w2.heap.size := (by have := hb2.out.size; simp at this; omega); have HB3 := Lib.hid ((HB.out.below HW1.out).below (((Below.refl _ _).alloc (Nat.le_refl _) _).trans hb2.out)); clear ho hg)
        | (at_builtin; refine wpList_append_B rfl (.tmp 29) (.tmp 30) rfl w1.heap.size ao2 (1 + k) c2 ([UInt8.ofNat (183 + k)] ++ Rlp.big n) a n c bs HO2.out HB3.out rfl rfl HL.out HN.out (HS.out.le (by omega)) hz4 ?_; intro ao3 c3 w3 ho hg _; have hb3 := Lib.hid (grown_below hg HO2.out (Nat.le_refl _) hz4); have HO3 := Lib.hid ho; clear ho hg))
      go_returns
      exact ⟨_, _, _, rfl, by rw [E.out, HO1.out.len]; exact HO3.out.le hz1, HW1.out.trans ((((Below.refl _ _).alloc (Nat.le_refl _) _).trans (hb2.out.trans hb3.out)).mono hz1)⟩
  · go_enter Tryd.func53, Tryd.ntmps53
    by_cases h56 : n < 56
    · have E : Hid (Rlp.headed 192 bs = [UInt8.ofNat (192 + n)] ++ bs) := by show _ = _; unfold Rlp.headed; rw [if_pos (by rw [HL.out]; exact h56), HL.out]; rfl
      obtain ⟨u, hu⟩ : ∃ u, u = UInt8.ofNat (192 + n) := ⟨_, rfl⟩
      have hun : (192 : Int) + n = (u.toNat : Int) := by rw [hu]; simp; omega
      rw [← hu] at E
      have HOW := Lib.hid (own_one w u _ hun)
      have HB2 := Lib.hid (HB.out.below ((Below.refl _ _).alloc (Nat.le_refl _) (.cells #[.int .u8 ((192 : Int) + n)] TU)))
      clear hu hun
      go_wp2_with (at_builtin; refine wpList_append_B rfl (.tmp 14) (.tmp 15) rfl w.heap.size (some ⟨w.heap.size, 0, none⟩) 1 1 [u] a n c bs HOW.out HB2.out rfl rfl HL.out HN.out (Sm.of (by omega)) (by simp) ?_; intro ao' c' w1 ho hg _; have hb1 := Lib.hid (grown_below hg HOW.out (Nat.le_refl _) (by simp)); have HO3 := Lib.hid ho; clear ho hg)
      go_returns
      exact ⟨_, _, _, rfl, by rw [E.out]; exact HO3.out, ((Below.refl _ _).alloc (Nat.le_refl _) _).trans hb1.out⟩
    · have hbl : Hid ((Rlp.big n).length ≤ 8) := by show _ ≤ _; unfold Rlp.big; rw [List.length_reverse]; exact lows_len 8 n
      have E : Hid (Rlp.headed 192 bs = [UInt8.ofNat (192 + 55 + (Rlp.big n).length)] ++ Rlp.big n ++ bs) := by show _ = _; unfold Rlp.headed; rw [if_neg (by rw [HL.out]; exact h56), HL.out]; rfl
      go_wp2_with (first
        | (go_at_call 35; (with_reducible refine (big_V n _ HV).mono ?_); rintro e w1 ⟨ab, k, cb, rfl, ho1, hb1⟩; have HO1 := Lib.hid ho1; have HW1 := Lib.hid hb1; have hz1 := hb1.size; have hk8 : k ≤ 8 := (by have := HO1.out.len; have := hbl.out; omega); have hun : (247 : Int) + k = ((UInt8.ofNat (247 + k)).toNat : Int) := (by simp; omega); have HOW := Lib.hid (own_one w1 _ _ hun); have HO1' := Lib.hid (HO1.out.below ((Below.refl _ _).alloc (Nat.le_refl _) (.cells #[.int .u8 ((247 : Int) + k)] TU))); have HB2 := Lib.hid (HB.out.below (HW1.out.alloc hz1 (.cells #[.int .u8 ((247 : Int) + k)] TU))); clear ho1 hb1 hun)
        | (at_builtin; refine wpList_append_B rfl (.tmp 27) (.tmp 28) rfl w1.heap.size (some ⟨w1.heap.size, 0, none⟩) 1 1 [UInt8.ofNat (247 + k)] ab k cb (Rlp.big n) HOW.out HO1'.out.bytes rfl rfl HO1.out.len HO1.out.cap.2.2 (Sm.of (by omega)) (by simp) ?_; intro ao2 c2 w2 ho hg _; have hb2 := Lib.hid (grown_below hg HOW.out (Nat.le_refl _) (by simp)); have HO2 := Lib.hid ho; have hz4 : w1.heap.size ≤ w2.heap.size := (by have := hb2.out.size; simp at this; omega); have HB3 := Lib.hid ((HB.out.below HW1.out).below (((Below.refl _ _).alloc (Nat.le_refl _) _).trans hb2.out)); clear ho hg)
        | (at_builtin; refine wpList_append_B rfl (.tmp 29) (.tmp 30) rfl w1.heap.size ao2 (1 + k) c2 ([UInt8.ofNat (247 + k)] ++ Rlp.big n) a n c bs HO2.out HB3.out rfl rfl HL.out HN.out (HS.out.le (by omega)) hz4 ?_; intro ao3 c3 w3 ho hg _; have hb3 := Lib.hid (grown_below hg HO2.out (Nat.le_refl _) hz4); have HO3 := Lib.hid ho; clear ho hg))
      go_returns
      exact ⟨_, _, _, rfl, by rw [E.out, HO1.out.len]; exact HO3.out.le hz1, HW1.out.trans ((((Below.refl _ _).alloc (Nat.le_refl _) _).trans (hb2.out.trans hb3.out)).mono hz1)⟩
end Go.Proofs.YtgcpnhnckbgjmaaDoor
