/-
  mootref03.Reader.item by its contract: long heads (lists).
-/
import Derived.Test.YtgcpnhnckbgjmaaDoorRItemN
import Derived.Test.YtgcpnhnckbgjmaaDoorRItemM
set_option linter.unusedVariables false
set_option linter.unusedSimpArgs false
namespace Go.Proofs.YtgcpnhnckbgjmaaDoor
open Go.RowKit
set_option maxRecDepth 100000 in
set_option maxHeartbeats 2000000 in
theorem ri_l192e (f : Nat) (w : World) (r bb off n c : Nat) (b : List UInt8) (i s : Nat) (D : Int) (hl : b.length = n) (hc : n ≤ c) (hcm : c ≤ maxLen) (hn : n ≤ 4096) (his : i < s) (hsn : s ≤ n) (hR : Rd w r (some ⟨bb, off, none⟩) n c i 0 0) (hb : BytesF (fun b => b < r) w (some ⟨bb, off, none⟩) b) (hD0 : 0 ≤ D) (hD1 : D ≤ 15) (k : Nat) (hy : (b.getD i 0).toNat = 192 + (k + 55)) (hk : 0 < k) (hk8 : k ≤ 8) (h : s - i - 1 < k) :
    Calls Tryd.prog 44 #[.pointer (some ⟨r, 0, none⟩), .int .i64 s, .int .i64 D] w (RItemRet w r (some ⟨bb, off, none⟩) n c f (.error (i, 11))) := by
  unfold maxLen at hcm
  have H := Lib.hid hR
  have rc0 := hR.c0
  have rc1 := hR.c1
  have rc2 : w.cell? ⟨r, 2, none⟩ = some (.int .i64 0) := hR.c2
  have rf1 := hR.f1
  have hlt := hR.lt
  have c0 : w.cell? ⟨bb, off + i, none⟩ = some (.int .u8 ((b.getD i 0).toNat : Int)) := (bytes_at hb i (by omega)).1
  have hbr : bb < r := (bytes_at hb i (by omega)).2
  have hbw : bb < w.heap.size := by omega
  have hDn : (D == 16) = false := by simp; omega
  have hYl := (b.getD i 0).toNat_lt
  obtain ⟨Y, hY⟩ : ∃ Y : Int, Y = ((b.getD i 0).toNat : Int) := ⟨_, rfl⟩
  rw [← hY] at c0
  have y1 : 128 ≤ Y := by omega
  have y2 : Y ≤ 255 := by omega
  obtain ⟨d, hd⟩ : ∃ d : Int, d = (k : Int) + 55 := ⟨_, rfl⟩
  have y3 : Y - 192 = d := by omega
  have y4 : decide (Y ≥ 192) = true := by simp; omega
  have y5 : decide (192 ≤ Y) = true := by simp; omega
  have y6 : d - 55 = (k : Int) := by omega
  have y7 : 56 ≤ d := by omega
  have y8 : d ≤ 63 := by omega
  have h1 : (s : Int) - (i + 1) < k := by omega
  have HRW := Lib.hid ((hR.setAt (i + 1) ((i : Int) + 1) (by omega)).below ((Below.refl _ _).alloc (Nat.le_refl _) (.cells #[.bool false, .slice none 0 0, .slice none 0 0] TI)))
  have HSW := Lib.hid (SlotI.newAt (w.setCell ⟨r, 1, none⟩ (.int .i64 ((i : Int) + 1))) w.heap.size (by simp) (.bool false) (.slice none 0 0) (.slice none 0 0))
  clear hR hb hl hY hYl hy h hd
  go_enter Tryd.func44, Tryd.ntmps44
  go_wp2_with (first
    | (go_at_call 45; (with_reducible refine (fail_V r _ n c (i + 1) i 11 _ _ _ HRW.out rfl (by decide)).mono ?_); rintro e w1 ⟨rfl, hr1, hk1⟩; have HS : Hid (SlotI w1 w.heap.size (.bool false) (.slice none 0 0) (.slice none 0 0)) := ((HSW.out.below (by (repeat' (first | (with_reducible exact Below.refl _ _) | (with_reducible refine Below.alloc ?_ ?_ _) | (with_reducible refine Below.drew ?_) | (with_reducible refine Below.setCell ?_ ?_ _) | (with_reducible refine Below.thn (by assumption) ?_ ?_) | (with_reducible refine below_drewN ?_ _) | go_size)))).kept hk1 (by omega)); have q0 := HS.out.c0; have q1 := HS.out.c1; have q2 := HS.out.c2; have f0 := HS.out.f0; have f1 := HS.out.f1; have f2 := HS.out.f2; have HR1 := Lib.hid hr1; have HK1 := Lib.hid hk1; clear hr1 hk1))
  refine bodyPost_ret (by simp [results, Tryd.results44, go_sem, q0, q1, q2]; try rfl) rfl ?_
  exact RItemRet.err (((((((Keep.refl r w).set rfl _).alloc _).trans HK1.out).setNew (Nat.le_refl _) _).setNew (Nat.le_refl _) _).setNew (Nat.le_refl _) _) (by decide) (((HR1.out.setOther (by simp; omega) _).setOther (by simp; omega) _).setOther (by simp; omega) _)
set_option maxRecDepth 100000 in
set_option maxHeartbeats 16000000 in
theorem ri_l192o (f : Nat) (w : World) (r bb off n c : Nat) (b : List UInt8) (i s : Nat) (D : Int) (hl : b.length = n) (hc : n ≤ c) (hcm : c ≤ maxLen) (hn : n ≤ 4096) (his : i < s) (hsn : s ≤ n) (hR : Rd w r (some ⟨bb, off, none⟩) n c i 0 0) (hb : BytesF (fun b => b < r) w (some ⟨bb, off, none⟩) b) (hD : D = 16 - (f + 1 : Nat)) (hf : f ≤ 15) (ih : RItemAt f) (k : Nat) (hy : (b.getD i 0).toNat = 192 + (k + 55)) (hk : 0 < k) (hk8 : k ≤ 8) (h : ¬ s - i - 1 < k) :
    Calls Tryd.prog 44 #[.pointer (some ⟨r, 0, none⟩), .int .i64 s, .int .i64 D] w (RItemRet w r (some ⟨bb, off, none⟩) n c (f + 1) (longR s i k (Rlp.num ((b.drop (i + 1)).take k)) (b.getD (i + 1) 0).toNat (listEnd (Rlp.dList (Rlp.dItem b f) (Rlp.num ((b.drop (i + 1)).take k)) (i + 1 + k) (i + 1 + k + Rlp.num ((b.drop (i + 1)).take k)) []) (i + 1 + k + Rlp.num ((b.drop (i + 1)).take k))))) := by
  have IH := Lib.hid ih
  have HY := Lib.hid hb
  have HLn := Lib.hid hl
  have HM := Lib.hid hcm
  have HD := Lib.hid hD
  have hD0 : 0 ≤ D := by omega
  have hD1 : D ≤ 15 := by omega
  have hrl := hR.lt
  have hne : ¬ w.heap.size = r := by omega
  have hDw : IntKind.i64.wrap (D + 1) = D + 1 := wrap_up D hD0 hD1
  clear hD ih
  unfold maxLen at hcm
  have H := Lib.hid hR
  have rc0 := hR.c0
  have rc1 := hR.c1
  have rc2 : w.cell? ⟨r, 2, none⟩ = some (.int .i64 0) := hR.c2
  have rf1 := hR.f1
  have hlt := hR.lt
  have c0 : w.cell? ⟨bb, off + i, none⟩ = some (.int .u8 ((b.getD i 0).toNat : Int)) := (bytes_at hb i (by omega)).1
  have hbr : bb < r := (bytes_at hb i (by omega)).2
  have hbw : bb < w.heap.size := by omega
  have hDn : (D == 16) = false := by simp; omega
  have hYl := (b.getD i 0).toNat_lt
  obtain ⟨Y, hY⟩ : ∃ Y : Int, Y = ((b.getD i 0).toNat : Int) := ⟨_, rfl⟩
  rw [← hY] at c0
  have y1 : 128 ≤ Y := by omega
  have y2 : Y ≤ 255 := by omega
  obtain ⟨d, hd⟩ : ∃ d : Int, d = (k : Int) + 55 := ⟨_, rfl⟩
  have y3 : Y - 192 = d := by omega
  have y4 : decide (Y ≥ 192) = true := by simp; omega
  have y5 : decide (192 ≤ Y) = true := by simp; omega
  have y6 : d - 55 = (k : Int) := by omega
  have y7 : 56 ≤ d := by omega
  have y8 : d ≤ 63 := by omega
  have h3 : i + 1 + k ≤ s := by omega
  have hne : ¬ w.heap.size = r := by omega
  obtain ⟨ks, hks⟩ : ∃ ks, ks = (b.drop (i + 1)).take k := ⟨_, rfl⟩
  have hkl : ks.length = k := by rw [hks]; simp; omega
  have hkg : ∀ j, j < k → ks.getD j 0 = b.getD (i + 1 + j) 0 := fun j hj => by
    rw [hks, List.getD_eq_getElem?_getD, List.getElem?_take_of_lt hj, List.getElem?_drop, List.getD_eq_getElem?_getD]
  rw [← hks]
  have HKL := Lib.hid hkl
  have HKG := Lib.hid hkg
  have HBy := Lib.hid hb
  have HLb := Lib.hid hl
  have HRC : Hid (RC w r (some ⟨bb, off, none⟩) n c (i + 1) ((w.setCell ⟨r, 1, none⟩ (.int .i64 ((i : Int) + 1))).alloc (.cells #[.bool false, .slice none 0 0, .slice none 0 0] TI))) := ⟨((Keep.refl r w).set rfl _).alloc _, (hR.setAt (i + 1) ((i : Int) + 1) (by omega)).below ((Below.refl _ _).alloc (Nat.le_refl _) (.cells #[.bool false, .slice none 0 0, .slice none 0 0] TI)), SlotI.newAt (w.setCell ⟨r, 1, none⟩ (.int .i64 ((i : Int) + 1))) w.heap.size (by simp) (.bool false) (.slice none 0 0) (.slice none 0 0)⟩
  obtain ⟨z, hz⟩ : ∃ z, z = (b.getD (i + 1) 0).toNat := ⟨_, rfl⟩
  have hz2 : z ≤ 255 := by have := (b.getD (i + 1) 0).toNat_lt; omega
  have HZ := Lib.hid hz
  rw [← hz]
  obtain ⟨N, hN⟩ : ∃ N, N = Rlp.num ks := ⟨_, rfl⟩
  rw [← hN]
  have HNN := Lib.hid hN
  have hrl := hR.lt
  clear hN
  clear hR hb hl hY hYl hy h hks hkl hkg hd hz
  go_enter Tryd.func44, Tryd.ntmps44
  go_wp2_with fail
  go_loopw [10, 12] (fun nn ii wr => ∃ (j : Nat) (V : Int), j ≤ k ∧ ii = .int .i64 j ∧ nn = .int .i64 V ∧ Hid (V = cap40 (Rlp.num (ks.take j))) ∧ Hid (RC w r (some ⟨bb, off, none⟩) n c (i + 1) wr)) (fun _ ii _ => k - (intOf ii).toNat)
  case atStart => exact ⟨0, 0, by omega, rfl, rfl, by show _ = _; simp [Rlp.num, cap40], HRC⟩
  case round =>
    obtain ⟨j, V, hj, rfl, rfl, HV, HRr⟩ := hrel
    have r0 := HRr.out.r.c0
    have r1 : wr.cell? ⟨r, 1, none⟩ = some (.int .i64 ((i : Int) + 1)) := by have := HRr.out.r.c1; simpa using this
    have hwr := HRr.out.r.lt
    have hV0 : 0 ≤ V := by have := HV.out; have := (cap40_le (Rlp.num (ks.take j))).1; omega
    have hV1 : V ≤ 1099511627776 := by have := HV.out; have := (cap40_le (Rlp.num (ks.take j))).2; omega
    by_cases hjk : j < k
    · have hcj := (bytes_at (HBy.out.kept HRr.out.k (fun b hb => by have : b < r := hb; omega)) (i + 1 + j) (by rw [HLb.out]; omega)).1
      have et := num_take ks j (by rw [HKL.out]; exact hjk)
      rw [HKG.out j hjk] at et
      have es := cap40_step (Rlp.num (ks.take j)) (b.getD (i + 1 + j) 0).toNat
      rw [← et, ← HV.out] at es
      obtain ⟨x, hx⟩ : ∃ x, x = (b.getD (i + 1 + j) 0).toNat := ⟨_, rfl⟩
      have hx2 : x ≤ 255 := by have := (b.getD (i + 1 + j) 0).toNat_lt; omega
      rw [← hx] at hcj es
      clear et hx
      by_cases hle : V * 256 + x ≤ 1099511627776
      · have ET : Hid (V * 256 + x = cap40 (Rlp.num (ks.take (j + 1)))) := by show _ = _; rw [es, if_pos hle]
        clear es
        go_wp2_with fail
        go_quiet (fail)
        go_wp2
        go_roundw
        case rel => exact ⟨j + 1, V * 256 + x, by omega, by go_num, by go_num, ET, HRr.out.below (by (repeat' (first | (with_reducible exact Below.refl _ _) | (with_reducible refine Below.alloc ?_ ?_ _) | (with_reducible refine Below.drew ?_) | (with_reducible refine Below.setCell ?_ ?_ _) | (with_reducible refine Below.thn (by assumption) ?_ ?_) | (with_reducible refine below_drewN ?_ _) | go_size)))⟩
        case measure => simp [intOf]; omega
      · have ET : Hid (1099511627776 = cap40 (Rlp.num (ks.take (j + 1)))) := by show _ = _; rw [es, if_neg hle]
        clear es
        go_wp2_with fail
        go_quiet (fail)
        go_wp2
        go_roundw
        case rel => exact ⟨j + 1, 1099511627776, by omega, by go_num, by go_num, ET, HRr.out.below (by (repeat' (first | (with_reducible exact Below.refl _ _) | (with_reducible refine Below.alloc ?_ ?_ _) | (with_reducible refine Below.drew ?_) | (with_reducible refine Below.setCell ?_ ?_ _) | (with_reducible refine Below.thn (by assumption) ?_ ?_) | (with_reducible refine below_drewN ?_ _) | go_size)))⟩
        case measure => simp [intOf]; omega
    · have hjm : k = j := by omega
      have EV : Hid (V = cap40 (Rlp.num ks)) := by have := HV.out; rw [← hjm, ← HKL.out, List.take_length] at this; exact this
      have hjm' : j = k := hjm.symm
      subst hjm'
      have hcz := (bytes_at (HBy.out.kept HRr.out.k (fun b hb => by have : b < r := hb; omega)) (i + 1) (by rw [HLb.out]; omega)).1
      rw [← HZ.out] at hcz
      have EV : Hid (V = cap40 N) := by have := EV.out; rw [← HNN.out] at this; exact this
      clear hjm HV HKL HKG HNN
      go_wp2_with fail
      go_quiet (fail)
      have HRC2 : Hid (RC w r (some ⟨bb, off, none⟩) n c (i + 1) (wr.drewN nq)) := HRr.out.below (below_drewN (Below.refl _ _) nq)
      clear r0 r1 hcz
      generalize wr.drewN nq = w2 at HRC2 ⊢
      have r0 := HRC2.out.r.c0
      have r1 : w2.cell? ⟨r, 1, none⟩ = some (.int .i64 ((i : Int) + 1)) := by have := HRC2.out.r.c1; simpa using this
      have rg := HRC2.out.r.f1
      have hw2 := HRC2.out.r.lt
      have HRC3 := Lib.hid (HRC2.out.setAt hrl (i + 1 + j) ((i : Int) + 1 + j) (by omega))
      have HRW := Lib.hid HRC3.out.r
      have HSW := Lib.hid HRC3.out.s
      by_cases g1 : s - i - 1 - j < N
      · have G1 := Lib.hid g1
        have g2 : (s : Int) - (i + 1 + j) < V := by rw [EV.out]; exact (cap40_gt (by omega)).2 (by omega)
        clear g1
        as_aux_lemma =>
          go_wp2_with (first
    | (go_at_call 45; (with_reducible refine (fail_V r _ n c (i + 1 + j) i 11 _ _ _ (HRW.out.below (by (repeat' (first | (with_reducible exact Below.refl _ _) | (with_reducible refine Below.alloc ?_ ?_ _) | (with_reducible refine Below.drew ?_) | (with_reducible refine Below.setCell ?_ ?_ _) | (with_reducible refine Below.thn (by assumption) ?_ ?_) | (with_reducible refine below_drewN ?_ _) | go_size)))) rfl (by decide)).mono ?_); rintro e w1 ⟨rfl, hr1, hk1⟩; have HS : Hid (SlotI w1 w.heap.size (.bool false) (.slice none 0 0) (.slice none 0 0)) := ((HSW.out.below (by (repeat' (first | (with_reducible exact Below.refl _ _) | (with_reducible refine Below.alloc ?_ ?_ _) | (with_reducible refine Below.drew ?_) | (with_reducible refine Below.setCell ?_ ?_ _) | (with_reducible refine Below.thn (by assumption) ?_ ?_) | (with_reducible refine below_drewN ?_ _) | go_size)))).kept hk1 (by omega)); have q0 := HS.out.c0; have q1 := HS.out.c1; have q2 := HS.out.c2; have f0 := HS.out.f0; have f1 := HS.out.f1; have f2 := HS.out.f2; have HR1 := Lib.hid hr1; have HK1 := Lib.hid hk1; clear hr1 hk1))
          refine bodyPost_ret (by simp [results, Tryd.results44, go_sem, q0, q1, q2]; try rfl) rfl ?_
          rw [longR_end G1.out]
          exact RItemRet.err ((((HRC3.out.k.trans HK1.out).setNew (Nat.le_refl _) _).setNew (Nat.le_refl _) _).setNew (Nat.le_refl _) _) (by decide) (((HR1.out.setOther (q := ⟨w.heap.size, 0, none⟩) hne _).setOther (q := ⟨w.heap.size, 1, none⟩) hne _).setOther (q := ⟨w.heap.size, 2, none⟩) hne _)
      · have G1 := Lib.hid g1
        have g3 : N ≤ 4096 := by omega
        have hVN : V = (N : Int) := by rw [EV.out]; exact cap40_low (by omega)
        have g2 : ¬ ((s : Int) - (i + 1 + j) < N) := by omega
        have g7 : i + 1 + j + N ≤ s := by omega
        clear EV hV0 hV1
        subst hVN
        by_cases g6 : z = 0
        · have G6 := Lib.hid g6
          have g8 : ((z : Int) == 0) = true := by simp; omega
          clear g6 g1
          as_aux_lemma =>
            go_wp2_with (first
    | (go_at_call 45; (with_reducible refine (fail_V r _ n c (i + 1 + j) i 12 _ _ _ (HRW.out.below (by (repeat' (first | (with_reducible exact Below.refl _ _) | (with_reducible refine Below.alloc ?_ ?_ _) | (with_reducible refine Below.drew ?_) | (with_reducible refine Below.setCell ?_ ?_ _) | (with_reducible refine Below.thn (by assumption) ?_ ?_) | (with_reducible refine below_drewN ?_ _) | go_size)))) rfl (by decide)).mono ?_); rintro e w1 ⟨rfl, hr1, hk1⟩; have HS : Hid (SlotI w1 w.heap.size (.bool false) (.slice none 0 0) (.slice none 0 0)) := ((HSW.out.below (by (repeat' (first | (with_reducible exact Below.refl _ _) | (with_reducible refine Below.alloc ?_ ?_ _) | (with_reducible refine Below.drew ?_) | (with_reducible refine Below.setCell ?_ ?_ _) | (with_reducible refine Below.thn (by assumption) ?_ ?_) | (with_reducible refine below_drewN ?_ _) | go_size)))).kept hk1 (by omega)); have q0 := HS.out.c0; have q1 := HS.out.c1; have q2 := HS.out.c2; have f0 := HS.out.f0; have f1 := HS.out.f1; have f2 := HS.out.f2; have HR1 := Lib.hid hr1; have HK1 := Lib.hid hk1; clear hr1 hk1))
            refine bodyPost_ret (by simp [results, Tryd.results44, go_sem, q0, q1, q2]; try rfl) rfl ?_
            rw [longR_zero G1.out G6.out]
            exact RItemRet.err ((((HRC3.out.k.trans HK1.out).setNew (Nat.le_refl _) _).setNew (Nat.le_refl _) _).setNew (Nat.le_refl _) _) (by decide) (((HR1.out.setOther (q := ⟨w.heap.size, 0, none⟩) hne _).setOther (q := ⟨w.heap.size, 1, none⟩) hne _).setOther (q := ⟨w.heap.size, 2, none⟩) hne _)
        · have g8 : ((z : Int) == 0) = false := by simp; omega
          by_cases g4 : N < 56
          · have G4 := Lib.hid g4
            have g5 : decide ((N : Int) < 56) = true := by simp; omega
            clear g6 g1
            as_aux_lemma =>
              go_wp2_with (first
    | (go_at_call 45; (with_reducible refine (fail_V r _ n c (i + 1 + j) i 12 _ _ _ (HRW.out.below (by (repeat' (first | (with_reducible exact Below.refl _ _) | (with_reducible refine Below.alloc ?_ ?_ _) | (with_reducible refine Below.drew ?_) | (with_reducible refine Below.setCell ?_ ?_ _) | (with_reducible refine Below.thn (by assumption) ?_ ?_) | (with_reducible refine below_drewN ?_ _) | go_size)))) rfl (by decide)).mono ?_); rintro e w1 ⟨rfl, hr1, hk1⟩; have HS : Hid (SlotI w1 w.heap.size (.bool false) (.slice none 0 0) (.slice none 0 0)) := ((HSW.out.below (by (repeat' (first | (with_reducible exact Below.refl _ _) | (with_reducible refine Below.alloc ?_ ?_ _) | (with_reducible refine Below.drew ?_) | (with_reducible refine Below.setCell ?_ ?_ _) | (with_reducible refine Below.thn (by assumption) ?_ ?_) | (with_reducible refine below_drewN ?_ _) | go_size)))).kept hk1 (by omega)); have q0 := HS.out.c0; have q1 := HS.out.c1; have q2 := HS.out.c2; have f0 := HS.out.f0; have f1 := HS.out.f1; have f2 := HS.out.f2; have HR1 := Lib.hid hr1; have HK1 := Lib.hid hk1; clear hr1 hk1))
              refine bodyPost_ret (by simp [results, Tryd.results44, go_sem, q0, q1, q2]; try rfl) rfl ?_
              rw [longR_few G1.out G4.out]
              exact RItemRet.err ((((HRC3.out.k.trans HK1.out).setNew (Nat.le_refl _) _).setNew (Nat.le_refl _) _).setNew (Nat.le_refl _) _) (by decide) (((HR1.out.setOther (q := ⟨w.heap.size, 0, none⟩) hne _).setOther (q := ⟨w.heap.size, 1, none⟩) hne _).setOther (q := ⟨w.heap.size, 2, none⟩) hne _)
          · have G6 := Lib.hid g6
            have G4 := Lib.hid g4
            have g5 : decide ((N : Int) < 56) = false := by simp; omega
            clear g6 g4 g1
            have HRC := HRC3
            have hbx : w.heap.size < w2.heap.size := HRC2.out.s.lt
            as_aux_lemma =>
              go_wp2_with fail
              go_loopw [] (fun wr => LRel b (i + 1 + j + N) (Rlp.dList (Rlp.dItem b f) N (i + 1 + j) (i + 1 + j + N) []) w r (some ⟨bb, off, none⟩) n c w2.heap.size f wr) (fun wr => LMeas r (i + 1 + j + N) wr)
              case atStart =>
                exact .inl ⟨0, 0, none, [], i + 1 + j, N, ⟨(HRC.out.below (by (repeat' (first | (with_reducible exact Below.refl _ _) | (with_reducible refine Below.alloc ?_ ?_ _) | (with_reducible refine Below.drew ?_) | (with_reducible refine Below.setCell ?_ ?_ _) | (with_reducible refine Below.thn (by assumption) ?_ ?_) | (with_reducible refine below_drewN ?_ _) | go_size)))).k, (HRC.out.below (by (repeat' (first | (with_reducible exact Below.refl _ _) | (with_reducible refine Below.alloc ?_ ?_ _) | (with_reducible refine Below.drew ?_) | (with_reducible refine Below.setCell ?_ ?_ _) | (with_reducible refine Below.thn (by assumption) ?_ ?_) | (with_reducible refine below_drewN ?_ _) | go_size)))).s, SlotI.newAt _ _ (by simp) _ _ _, OwnI.nil _ _ _⟩, (HRC.out.below (by (repeat' (first | (with_reducible exact Below.refl _ _) | (with_reducible refine Below.alloc ?_ ?_ _) | (with_reducible refine Below.drew ?_) | (with_reducible refine Below.setCell ?_ ?_ _) | (with_reducible refine Below.thn (by assumption) ?_ ?_) | (with_reducible refine below_drewN ?_ _) | go_size)))).r, by omega, by omega, by omega, rfl⟩
              case round =>
                rcases hrel with ⟨q, cq, ao, its, x, g, hl⟩ | ⟨q, cq, ao, its, p, kk, jj, hl⟩
                · have HL := Lib.hid hl
                  have r1 := hl.rd.c1
                  have r2 : wr.cell? ⟨r, 2, none⟩ = some (.int .i64 0) := hl.rd.c2
                  have hwr := hl.lc.x.lt
                  by_cases hlt : x < i + 1 + j + N
                  · have hlt2 : (x : Int) < (i : Int) + 1 + j + N := by omega
                    have HQ : Hid (q ≤ 4096) := by have := hl.hq; show _ ≤ _; omega
                    have HCall : Hid (∀ W, LC w r w2.heap.size (f + 1) q cq ao its W → Rd W r (some ⟨bb, off, none⟩) n c x 0 0 → Calls Tryd.prog 44 #[.pointer (some ⟨r, 0, none⟩), .int .i64 ((i : Int) + 1 + j + N), .int .i64 (D + 1)] W fun e w' => ∃ v : ItV, e = .returned (.agg #[.bool v.l, .slice v.a1 v.n1 v.c1, .slice v.a2 v.n2 v.c2]) ∧ L6 b f x (i + 1 + j + N) w r (some ⟨bb, off, none⟩) n c w2.heap.size q cq ao its v w') :=
                      fun W h1 h2 => call_L6 (D := D) IH.out HLn.out hc HM.out hn hlt (by omega) HY.out (by have := HD.out; omega) (by omega) (by omega) hrl hbx W h1 h2
                    clear hl
                    go_wp2_with fail
                    refine wp_region_relG (fun _ => True) (fun W => LC w r w2.heap.size (f + 1) q cq ao its W ∧ Rd W r (some ⟨bb, off, none⟩) n c x 0 0) (by kernel_rfl) ⟨HL.out.lc.below (by (repeat' (first | (with_reducible exact Below.refl _ _) | (with_reducible refine Below.alloc ?_ ?_ _) | (with_reducible refine Below.drew ?_) | (with_reducible refine Below.setCell ?_ ?_ _) | (with_reducible refine Below.thn (by assumption) ?_ ?_) | (with_reducible refine below_drewN ?_ _) | go_size))), HL.out.rd.below (by (repeat' (first | (with_reducible exact Below.refl _ _) | (with_reducible refine Below.alloc ?_ ?_ _) | (with_reducible refine Below.drew ?_) | (with_reducible refine Below.setCell ?_ ?_ _) | (with_reducible refine Below.thn (by assumption) ?_ ?_) | (with_reducible refine below_drewN ?_ _) | go_size)))⟩ ?_
                    refine relR_pure 0 _ (by intro _ _; trivial) (by kernel_rfl) rfl (by kernel_rfl) (by kernel_rfl) (by go_simp) ?_
                    apply Exists.intro
                    refine ⟨fun W hW => ?_, fun K hK => ?_⟩
                    · unfold effAt
                      go_simp
                      exact ⟨rfl, rfl⟩
                    go_simp
                    refine hK _ ?_
                    clear hK K
                    refine relR_pure 2 _ (by intro _ _; trivial) (by kernel_rfl) rfl (by kernel_rfl) (by kernel_rfl) (by go_simp) ?_
                    apply Exists.intro
                    refine ⟨fun W hW => ?_, fun K hK => ?_⟩
                    · unfold effAt
                      go_simp
                      exact ⟨rfl, rfl⟩
                    go_simp
                    refine hK _ ?_
                    clear hK K
                    refine relR_pure 3 _ (by intro _ _; trivial) (by kernel_rfl) rfl (by kernel_rfl) (by kernel_rfl) (by go_simp) ?_
                    apply Exists.intro
                    refine ⟨fun W hW => ?_, fun K hK => ?_⟩
                    · unfold effAt
                      go_simp
                      exact ⟨rfl, rfl⟩
                    go_simp
                    refine hK _ ?_
                    clear hK K
                    refine relR_pure 4 _ (by intro _ _; trivial) (by kernel_rfl) rfl (by kernel_rfl) (by kernel_rfl) (by go_simp) ?_
                    apply Exists.intro
                    refine ⟨fun W hW => ?_, fun K hK => ?_⟩
                    · unfold effAt
                      go_simp
                      exact ⟨rfl, rfl⟩
                    go_simp
                    refine hK _ ?_
                    clear hK K
                    refine relR_pure 5 _ (by intro _ _; trivial) (by kernel_rfl) rfl (by kernel_rfl) (by kernel_rfl) (by go_simp) ?_
                    apply Exists.intro
                    refine ⟨fun W hW => ?_, fun K hK => ?_⟩
                    · unfold effAt
                      go_simp
                      exact ⟨rfl, rfl⟩
                    go_simp
                    refine hK _ ?_
                    clear hK K
                    refine relR_pair 1 6 (by kernel_rfl) ?_ ?_
                    · skip
                      refine relOp_call 1 _ rfl (by go_simp) Unit (fun _ => .slice ao q cq) (fun _ _ => True) (fun _ => (fun W => LC w r w2.heap.size (f + 1) q cq ao its W ∧ Rd W r (some ⟨bb, off, none⟩) n c x 0 0)) (fun _ _ _ => trivial) (fun W hW => ?_) (fun _ K hK => ?_)
                      · have hx2 := hW.1.x.c2
                        unfold effAt
                        go_simp
                        first | exact ⟨(), rfl, hW.1, trivial⟩ | exact ⟨(), rfl, hW, trivial⟩ | exact ⟨rfl, hW.1⟩ | exact ⟨rfl, hW⟩ | exact ⟨rfl, hW.1.1, hW.1.2⟩
                      go_simp
                      refine hK _ ?_
                      clear hK K
                      refine relR_call 6 _ rfl (by kernel_rfl) (by go_simp) ItV (fun v => .agg #[.bool v.l, .slice v.a1 v.n1 v.c1, .slice v.a2 v.n2 v.c2]) (fun _ _ => True) (fun v => L6 b f x (i + 1 + j + N) w r (some ⟨bb, off, none⟩) n c w2.heap.size q cq ao its v) (fun _ _ _ => trivial) (fun W hW => ?_) (fun v K hK => ?_)
                      · unfold effAt
                        go_simp
                        change Calls _ _ _ _ _
                        with_reducible refine (HCall.out W (hW.1.1) (hW.1.2)).mono ?_
                        rintro e w' ⟨v, he, h6⟩
                        first | exact ⟨_, he, v, rfl, h6⟩ | exact ⟨_, he, v, rfl, h6, trivial⟩
                      go_simp
                      refine hK _ ?_
                      clear hK K
                      refine relR_call 7 _ rfl (by kernel_rfl) (by go_simp) Nat (fun g => .slice (some ⟨g, 0, none⟩) 1 1) (fun _ _ => True) (fun g => L7 b f x (i + 1 + j + N) w r (some ⟨bb, off, none⟩) n c w2.heap.size q cq ao its v g) (fun _ _ _ => trivial) (fun W hW => ?_) (fun g K hK => ?_)
                      · unfold effAt
                        go_simp
                        have h7 : L7 b f x (i + 1 + j + N) w r (some ⟨bb, off, none⟩) n c w2.heap.size q cq ao its v W.heap.size (W.alloc (.cells #[.bool v.l, .slice v.a1 v.n1 v.c1, .slice v.a2 v.n2 v.c2] TI)) := ⟨hW.1.below ((Below.refl _ _).alloc (Nat.le_refl _) _), by go_cell, by go_cell, by go_cell⟩
                        first | exact ⟨W.heap.size, rfl, h7⟩ | exact ⟨W.heap.size, rfl, h7, trivial⟩
                      go_simp
                      refine hK _ ?_
                      clear hK K
                      refine relR_call 8 _ rfl (by kernel_rfl) (by go_simp) RowOf (fun z => .slice z.a (q + 1) z.c) (fun _ _ => True) (fun z => L8 b f x (i + 1 + j + N) w r (some ⟨bb, off, none⟩) n c w2.heap.size q cq ao its v z) (fun _ _ _ => trivial) (fun W hW => ?_) (fun z K hK => ?_)
                      · exact L7.app hW.1 HQ.out hrl hbx (.tmp 210) (.tmp 216) rfl rfl rfl
                      go_simp
                      refine hK _ ?_
                      clear hK K
                      refine relR_pure 9 _ (by intro _ _; trivial) (by kernel_rfl) rfl (by kernel_rfl) (by kernel_rfl) (by go_simp) ?_
                      apply Exists.intro
                      refine ⟨fun W hW => ?_, fun K hK => ?_⟩
                      · unfold effAt
                        go_simp
                        exact ⟨rfl, rfl⟩
                      go_simp
                      refine hK _ ?_
                      clear hK K
                      refine relR_call 10 _ rfl (by kernel_rfl) (by go_simp) Unit (fun _ => undef) (fun _ _ => True) (fun _ => L10 b f x (i + 1 + j + N) w r (some ⟨bb, off, none⟩) n c w2.heap.size q its v z) (fun _ _ _ => trivial) (fun W hW => ?_) (fun _ K hK => ?_)
                      · have hx2 := hW.1.sx.c2
                        have hxf := hW.1.sx.f2
                        have h10 := L10.of hW.1 hrl hbx
                        unfold effAt
                        go_simp
                        first | exact ⟨(), rfl, h10, trivial⟩ | exact ⟨rfl, h10⟩ | exact h10
                      go_simp
                      refine hK _ ?_
                      clear hK K
                      refine relR_end (by kernel_rfl) (fun W hW => ?_)
                      have hrm := L10.rel hW.1 HL.out hlt (by rw [HLn.out]; exact hn) (by rw [HLn.out]; omega)
                      have HRM := Lib.hid hrm
                      clear hrm hW
                      go_wp2
                      go_roundw
                      case rel => exact HRM.out.1
                      case measure => exact HRM.out.2
                    · skip
                      refine relOp_call 6 _ rfl (by go_simp) ItV (fun v => .agg #[.bool v.l, .slice v.a1 v.n1 v.c1, .slice v.a2 v.n2 v.c2]) (fun _ _ => True) (fun v => L6 b f x (i + 1 + j + N) w r (some ⟨bb, off, none⟩) n c w2.heap.size q cq ao its v) (fun _ _ _ => trivial) (fun W hW => ?_) (fun v K hK => ?_)
                      · unfold effAt
                        go_simp
                        change Calls _ _ _ _ _
                        with_reducible refine (HCall.out W (hW.1) (hW.2)).mono ?_
                        rintro e w' ⟨v, he, h6⟩
                        first | exact ⟨_, he, v, rfl, h6⟩ | exact ⟨_, he, v, rfl, h6, trivial⟩
                      go_simp
                      refine hK _ ?_
                      clear hK K
                      refine relR_pair 1 7 (by kernel_rfl) ?_ ?_
                      · skip
                        refine relOp_call 1 _ rfl (by go_simp) Unit (fun _ => .slice ao q cq) (fun _ _ => True) (fun _ => (fun W => L6 b f x (i + 1 + j + N) w r (some ⟨bb, off, none⟩) n c w2.heap.size q cq ao its v W)) (fun _ _ _ => trivial) (fun W hW => ?_) (fun _ K hK => ?_)
                        · have hx2 := hW.1.lc.x.c2
                          unfold effAt
                          go_simp
                          first | exact ⟨(), rfl, hW.1, trivial⟩ | exact ⟨(), rfl, hW, trivial⟩ | exact ⟨rfl, hW.1⟩ | exact ⟨rfl, hW⟩ | exact ⟨rfl, hW.1.1, hW.1.2⟩
                        go_simp
                        refine hK _ ?_
                        clear hK K
                        refine relR_call 7 _ rfl (by kernel_rfl) (by go_simp) Nat (fun g => .slice (some ⟨g, 0, none⟩) 1 1) (fun _ _ => True) (fun g => L7 b f x (i + 1 + j + N) w r (some ⟨bb, off, none⟩) n c w2.heap.size q cq ao its v g) (fun _ _ _ => trivial) (fun W hW => ?_) (fun g K hK => ?_)
                        · unfold effAt
                          go_simp
                          have h7 : L7 b f x (i + 1 + j + N) w r (some ⟨bb, off, none⟩) n c w2.heap.size q cq ao its v W.heap.size (W.alloc (.cells #[.bool v.l, .slice v.a1 v.n1 v.c1, .slice v.a2 v.n2 v.c2] TI)) := ⟨hW.1.below ((Below.refl _ _).alloc (Nat.le_refl _) _), by go_cell, by go_cell, by go_cell⟩
                          first | exact ⟨W.heap.size, rfl, h7⟩ | exact ⟨W.heap.size, rfl, h7, trivial⟩
                        go_simp
                        refine hK _ ?_
                        clear hK K
                        refine relR_call 8 _ rfl (by kernel_rfl) (by go_simp) RowOf (fun z => .slice z.a (q + 1) z.c) (fun _ _ => True) (fun z => L8 b f x (i + 1 + j + N) w r (some ⟨bb, off, none⟩) n c w2.heap.size q cq ao its v z) (fun _ _ _ => trivial) (fun W hW => ?_) (fun z K hK => ?_)
                        · exact L7.app hW.1 HQ.out hrl hbx (.tmp 210) (.tmp 216) rfl rfl rfl
                        go_simp
                        refine hK _ ?_
                        clear hK K
                        refine relR_pure 9 _ (by intro _ _; trivial) (by kernel_rfl) rfl (by kernel_rfl) (by kernel_rfl) (by go_simp) ?_
                        apply Exists.intro
                        refine ⟨fun W hW => ?_, fun K hK => ?_⟩
                        · unfold effAt
                          go_simp
                          exact ⟨rfl, rfl⟩
                        go_simp
                        refine hK _ ?_
                        clear hK K
                        refine relR_call 10 _ rfl (by kernel_rfl) (by go_simp) Unit (fun _ => undef) (fun _ _ => True) (fun _ => L10 b f x (i + 1 + j + N) w r (some ⟨bb, off, none⟩) n c w2.heap.size q its v z) (fun _ _ _ => trivial) (fun W hW => ?_) (fun _ K hK => ?_)
                        · have hx2 := hW.1.sx.c2
                          have hxf := hW.1.sx.f2
                          have h10 := L10.of hW.1 hrl hbx
                          unfold effAt
                          go_simp
                          first | exact ⟨(), rfl, h10, trivial⟩ | exact ⟨rfl, h10⟩ | exact h10
                        go_simp
                        refine hK _ ?_
                        clear hK K
                        refine relR_end (by kernel_rfl) (fun W hW => ?_)
                        have hrm := L10.rel hW.1 HL.out hlt (by rw [HLn.out]; exact hn) (by rw [HLn.out]; omega)
                        have HRM := Lib.hid hrm
                        clear hrm hW
                        go_wp2
                        go_roundw
                        case rel => exact HRM.out.1
                        case measure => exact HRM.out.2
                      · skip
                        refine relOp_call 7 _ rfl (by go_simp) Nat (fun g => .slice (some ⟨g, 0, none⟩) 1 1) (fun _ _ => True) (fun g => L7 b f x (i + 1 + j + N) w r (some ⟨bb, off, none⟩) n c w2.heap.size q cq ao its v g) (fun _ _ _ => trivial) (fun W hW => ?_) (fun g K hK => ?_)
                        · unfold effAt
                          go_simp
                          have h7 : L7 b f x (i + 1 + j + N) w r (some ⟨bb, off, none⟩) n c w2.heap.size q cq ao its v W.heap.size (W.alloc (.cells #[.bool v.l, .slice v.a1 v.n1 v.c1, .slice v.a2 v.n2 v.c2] TI)) := ⟨hW.1.below ((Below.refl _ _).alloc (Nat.le_refl _) _), by go_cell, by go_cell, by go_cell⟩
                          first | exact ⟨W.heap.size, rfl, h7⟩ | exact ⟨W.heap.size, rfl, h7, trivial⟩
                        go_simp
                        refine hK _ ?_
                        clear hK K
                        refine relR_call 1 _ rfl (by kernel_rfl) (by go_simp) Unit (fun _ => .slice ao q cq) (fun _ _ => True) (fun _ => (fun W => L7 b f x (i + 1 + j + N) w r (some ⟨bb, off, none⟩) n c w2.heap.size q cq ao its v g W)) (fun _ _ _ => trivial) (fun W hW => ?_) (fun _ K hK => ?_)
                        · have hx2 := hW.1.l6.lc.x.c2
                          unfold effAt
                          go_simp
                          first | exact ⟨(), rfl, hW.1, trivial⟩ | exact ⟨(), rfl, hW, trivial⟩ | exact ⟨rfl, hW.1⟩ | exact ⟨rfl, hW⟩ | exact ⟨rfl, hW.1.1, hW.1.2⟩
                        go_simp
                        refine hK _ ?_
                        clear hK K
                        refine relR_call 8 _ rfl (by kernel_rfl) (by go_simp) RowOf (fun z => .slice z.a (q + 1) z.c) (fun _ _ => True) (fun z => L8 b f x (i + 1 + j + N) w r (some ⟨bb, off, none⟩) n c w2.heap.size q cq ao its v z) (fun _ _ _ => trivial) (fun W hW => ?_) (fun z K hK => ?_)
                        · exact L7.app hW.1 HQ.out hrl hbx (.tmp 210) (.tmp 216) rfl rfl rfl
                        go_simp
                        refine hK _ ?_
                        clear hK K
                        refine relR_pure 9 _ (by intro _ _; trivial) (by kernel_rfl) rfl (by kernel_rfl) (by kernel_rfl) (by go_simp) ?_
                        apply Exists.intro
                        refine ⟨fun W hW => ?_, fun K hK => ?_⟩
                        · unfold effAt
                          go_simp
                          exact ⟨rfl, rfl⟩
                        go_simp
                        refine hK _ ?_
                        clear hK K
                        refine relR_call 10 _ rfl (by kernel_rfl) (by go_simp) Unit (fun _ => undef) (fun _ _ => True) (fun _ => L10 b f x (i + 1 + j + N) w r (some ⟨bb, off, none⟩) n c w2.heap.size q its v z) (fun _ _ _ => trivial) (fun W hW => ?_) (fun _ K hK => ?_)
                        · have hx2 := hW.1.sx.c2
                          have hxf := hW.1.sx.f2
                          have h10 := L10.of hW.1 hrl hbx
                          unfold effAt
                          go_simp
                          first | exact ⟨(), rfl, h10, trivial⟩ | exact ⟨rfl, h10⟩ | exact h10
                        go_simp
                        refine hK _ ?_
                        clear hK K
                        refine relR_end (by kernel_rfl) (fun W hW => ?_)
                        have hrm := L10.rel hW.1 HL.out hlt (by rw [HLn.out]; exact hn) (by rw [HLn.out]; omega)
                        have HRM := Lib.hid hrm
                        clear hrm hW
                        go_wp2
                        go_roundw
                        case rel => exact HRM.out.1
                        case measure => exact HRM.out.2
                  · have hxT : x = i + 1 + j + N := by have := hl.hx; omega
                    have hlt2 : ¬ ((x : Int) < (i : Int) + 1 + j + N) := by omega
                    have hR : Rlp.dList (Rlp.dItem b f) N (i + 1 + j) (i + 1 + j + N) [] = .ok its := by rw [← hl.d, dList_end hlt]
                    have HR := Lib.hid hR
                    have q0 := hl.lc.s.c0
                    have q1 := hl.lc.s.c1
                    have q2 := hl.lc.s.c2
                    have f0 := hl.lc.s.f0
                    have f1 := hl.lc.s.f1
                    have f2 := hl.lc.s.f2
                    have p0 := hl.lc.x.c0
                    have p1 := hl.lc.x.c1
                    have p2 := hl.lc.x.c2
                    have hs0 := hl.lc.s.lt
                    have HxT := Lib.hid hxT
                    clear hl hR hxT
                    go_wp2
                    refine bodyPost_ret (by simp [results, Tryd.results44, go_sem, q0, q1, q2]; try rfl) rfl ?_
                    rw [longR_ok G1.out G6.out G4.out, HR.out]
                    refine RItemRet.fine (((HL.out.lc.k.setNew (Nat.le_refl _) _).setNew (Nat.le_refl _) _).setNew (Nat.le_refl _) _) (HL.out.lc.isIt hbx fun b hb hl => ⟨by simpa using hl, ?_⟩) (((((HxT.out ▸ HL.out.rd)).setOther (q := ⟨w.heap.size, 0, none⟩) hne _).setOther (q := ⟨w.heap.size, 1, none⟩) hne _).setOther (q := ⟨w.heap.size, 2, none⟩) hne _)
                    rw [Below.heap_setCell _ _ _ _ (by simp; omega), Below.heap_setCell _ _ _ _ (by simp; omega), Below.heap_setCell _ _ _ _ (by simp; omega)]
                · have HL := Lib.hid hl
                  have r1 := hl.rd.c1
                  have r2 := hl.rd.c2
                  have hkk : ((kk : Int) == 0) = false := by have := hl.hk; simp; omega
                  have hwr := hl.lc.x.lt
                  have hR := hl.e
                  have HR := Lib.hid hR
                  have q0 := hl.lc.s.c0
                  have q1 := hl.lc.s.c1
                  have q2 := hl.lc.s.c2
                  have f0 := hl.lc.s.f0
                  have f1 := hl.lc.s.f1
                  have f2 := hl.lc.s.f2
                  have p0 := hl.lc.x.c0
                  have p1 := hl.lc.x.c1
                  have p2 := hl.lc.x.c2
                  have hs0 := hl.lc.s.lt
                  clear hl hR
                  by_cases hlt : (jj : Int) < (i : Int) + 1 + j + N
                  all_goals
                    go_wp2
                    refine bodyPost_ret (by simp [results, Tryd.results44, go_sem, q0, q1, q2]; try rfl) rfl ?_
                    rw [longR_ok G1.out G6.out G4.out, HR.out]
                    refine ⟨((HL.out.lc.k.setNew (Nat.le_refl _) _).setNew (Nat.le_refl _) _).setNew (Nat.le_refl _) _, .mk true [] its, _, _, _, rfl, HL.out.lc.isIt hbx fun b hb hl => ⟨by simpa using hl, ?_⟩, HL.out.hk, jj, ((HL.out.rd.setOther (q := ⟨w.heap.size, 0, none⟩) hne _).setOther (q := ⟨w.heap.size, 1, none⟩) hne _).setOther (q := ⟨w.heap.size, 2, none⟩) hne _⟩
                    rw [Below.heap_setCell _ _ _ _ (by simp; omega), Below.heap_setCell _ _ _ _ (by simp; omega), Below.heap_setCell _ _ _ _ (by simp; omega)]
end Go.Proofs.YtgcpnhnckbgjmaaDoor
