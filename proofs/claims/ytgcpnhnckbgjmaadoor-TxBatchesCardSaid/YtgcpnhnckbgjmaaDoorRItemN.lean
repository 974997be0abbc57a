/-
  mootref03.Reader.item by its contract: long heads (bytes).
-/
import Derived.Test.YtgcpnhnckbgjmaaDoorRItemL
set_option linter.unusedVariables false
set_option linter.unusedSimpArgs false
namespace Go.Proofs.YtgcpnhnckbgjmaaDoor
open Go.RowKit
theorem RC.setAt {w : World} {r : Nat} {a : Option Addr} {n c j : Nat} {W : World} (h : RC w r a n c j W) (h1 : r < w.heap.size) (j' : Nat) (J : Int) (hJ : J = j') : RC w r a n c j' (W.setCell ⟨r, 1, none⟩ (.int .i64 J)) :=
  ⟨h.k.set rfl _, h.r.setAt j' J hJ, h.s.keep (by simp) (Below.heap_setCell _ _ _ _ (Nat.ne_of_gt h1))⟩
/-- What a long head leads to. -/
def longR (s i k N z : Nat) (ok : Except (Nat × Nat) (Rlp.It × Nat)) : Except (Nat × Nat) (Rlp.It × Nat) :=
  if s - i - 1 - k < N then .error (i, 11) else if N < 56 ∨ z = 0 then .error (i, 12) else ok
section
variable {s i k N z : Nat} {ok : Except (Nat × Nat) (Rlp.It × Nat)}
theorem longR_end (h : s - i - 1 - k < N) : longR s i k N z ok = .error (i, 11) := if_pos h
theorem longR_zero (h : ¬ s - i - 1 - k < N) (hz : z = 0) : longR s i k N z ok = .error (i, 12) := by unfold longR; rw [if_neg h, if_pos (Or.inr hz)]
theorem longR_few (h : ¬ s - i - 1 - k < N) (hn : N < 56) : longR s i k N z ok = .error (i, 12) := by unfold longR; rw [if_neg h, if_pos (Or.inl hn)]
theorem longR_ok (h : ¬ s - i - 1 - k < N) (hz : ¬ z = 0) (hn : ¬ N < 56) : longR s i k N z ok = ok := by unfold longR; rw [if_neg h, if_neg (by omega)]
end
/-- A number that is held at 2^40. -/
def cap40 (n : Nat) : Int := if n ≤ 1099511627776 then n else 1099511627776
theorem cap40_le (n : Nat) : 0 ≤ cap40 n ∧ cap40 n ≤ 1099511627776 := by unfold cap40; split <;> omega
theorem cap40_low {n : Nat} (h : n ≤ 1099511627776) : cap40 n = n := by unfold cap40; rw [if_pos h]
theorem cap40_step (n x : Nat) : cap40 (n * 256 + x) = if cap40 n * 256 + x ≤ 1099511627776 then cap40 n * 256 + x else 1099511627776 := by
  unfold cap40
  repeat' split
  all_goals omega
theorem cap40_gt {n : Nat} {m : Int} (hm : m ≤ 4096) : m < cap40 n ↔ m < (n : Int) := by unfold cap40; split <;> omega
set_option maxRecDepth 100000 in
set_option maxHeartbeats 2000000 in
theorem ri_l128e (f : Nat) (w : World) (r bb off n c : Nat) (b : List UInt8) (i s : Nat) (D : Int) (hl : b.length = n) (hc : n ≤ c) (hcm : c ≤ maxLen) (hn : n ≤ 4096) (his : i < s) (hsn : s ≤ n) (hR : Rd w r (some ⟨bb, off, none⟩) n c i 0 0) (hb : BytesF (fun b => b < r) w (some ⟨bb, off, none⟩) b) (hD0 : 0 ≤ D) (hD1 : D ≤ 15) (k : Nat) (hy : (b.getD i 0).toNat = 128 + (k + 55)) (hk : 0 < k) (hk8 : k ≤ 8) (h : s - i - 1 < k) :
    Calls Tryd.prog 44 #[.pointer (some ⟨r, 0, none⟩), .int .i64 s, .int .i64 D] w (RItemRet w r (some ⟨bb, off, none⟩) n c f (.error (i, 11))) := by
  unfold maxLen at hcm
  have H := Lib.hid hR
  have rc0 := hR.c0
  have rc1 := hR.c1
  have rc2 : w.cell? ⟨r, 2, none⟩ = some (.int .i64 0) := hR.c2
  have rf1 := hR.f1
  have hlt := hR.lt
  have c0 : w.cell? ⟨bb, off + i, none⟩ = some (.int .u8 ((b.getD i 0).toNat : Int)) := (bytes_at hb i (by omega)).1
  have hbr : bb < r := (bytes_at hb i (by omega)).2
  have hbw : bb < w.heap.size := by omega
  have hDn : (D == 16) = false := by simp; omega
  have hYl := (b.getD i 0).toNat_lt
  obtain ⟨Y, hY⟩ : ∃ Y : Int, Y = ((b.getD i 0).toNat : Int) := ⟨_, rfl⟩
  rw [← hY] at c0
  have y1 : 128 ≤ Y := by omega
  have y2 : Y ≤ 255 := by omega
  obtain ⟨d, hd⟩ : ∃ d : Int, d = (k : Int) + 55 := ⟨_, rfl⟩
  have y3 : Y - 128 = d := by omega
  have y4 : decide (Y ≥ 192) = false := by simp; omega
  have y5 : decide (192 ≤ Y) = false := by simp; omega
  have y6 : d - 55 = (k : Int) := by omega
  have y7 : 56 ≤ d := by omega
  have y8 : d ≤ 63 := by omega
  have h1 : (s : Int) - (i + 1) < k := by omega
  have HRW := Lib.hid ((hR.setAt (i + 1) ((i : Int) + 1) (by omega)).below ((Below.refl _ _).alloc (Nat.le_refl _) (.cells #[.bool false, .slice none 0 0, .slice none 0 0] TI)))
  have HSW := Lib.hid (SlotI.newAt (w.setCell ⟨r, 1, none⟩ (.int .i64 ((i : Int) + 1))) w.heap.size (by simp) (.bool false) (.slice none 0 0) (.slice none 0 0))
  clear hR hb hl hY hYl hy h hd
  go_enter Tryd.func44, Tryd.ntmps44
  go_wp2_with (first
    | (go_at_call 45; (with_reducible refine (fail_V r _ n c (i + 1) i 11 _ _ _ HRW.out rfl (by decide)).mono ?_); rintro e w1 ⟨rfl, hr1, hk1⟩; have HS : Hid (SlotI w1 w.heap.size (.bool false) (.slice none 0 0) (.slice none 0 0)) := ((HSW.out.below (by (repeat' (first | (with_reducible exact Below.refl _ _) | (with_reducible refine Below.alloc ?_ ?_ _) | (with_reducible refine Below.drew ?_) | (with_reducible refine Below.setCell ?_ ?_ _) | (with_reducible refine Below.thn (by assumption) ?_ ?_) | (with_reducible refine below_drewN ?_ _) | go_size)))).kept hk1 (by omega)); have q0 := HS.out.c0; have q1 := HS.out.c1; have q2 := HS.out.c2; have f0 := HS.out.f0; have f1 := HS.out.f1; have f2 := HS.out.f2; have HR1 := Lib.hid hr1; have HK1 := Lib.hid hk1; clear hr1 hk1))
  refine bodyPost_ret (by simp [results, Tryd.results44, go_sem, q0, q1, q2]; try rfl) rfl ?_
  exact RItemRet.err (((((((Keep.refl r w).set rfl _).alloc _).trans HK1.out).setNew (Nat.le_refl _) _).setNew (Nat.le_refl _) _).setNew (Nat.le_refl _) _) (by decide) (((HR1.out.setOther (by simp; omega) _).setOther (by simp; omega) _).setOther (by simp; omega) _)
set_option maxRecDepth 100000 in
set_option maxHeartbeats 16000000 in
theorem ri_l128o (f : Nat) (w : World) (r bb off n c : Nat) (b : List UInt8) (i s : Nat) (D : Int) (hl : b.length = n) (hc : n ≤ c) (hcm : c ≤ maxLen) (hn : n ≤ 4096) (his : i < s) (hsn : s ≤ n) (hR : Rd w r (some ⟨bb, off, none⟩) n c i 0 0) (hb : BytesF (fun b => b < r) w (some ⟨bb, off, none⟩) b) (hD0 : 0 ≤ D) (hD1 : D ≤ 15) (k : Nat) (hy : (b.getD i 0).toNat = 128 + (k + 55)) (hk : 0 < k) (hk8 : k ≤ 8) (h : ¬ s - i - 1 < k) :
    Calls Tryd.prog 44 #[.pointer (some ⟨r, 0, none⟩), .int .i64 s, .int .i64 D] w (RItemRet w r (some ⟨bb, off, none⟩) n c f (longR s i k (Rlp.num ((b.drop (i + 1)).take k)) (b.getD (i + 1) 0).toNat (.ok (.mk false ((b.drop (i + 1 + k)).take (Rlp.num ((b.drop (i + 1)).take k))) [], i + 1 + k + Rlp.num ((b.drop (i + 1)).take k))))) := by
  unfold maxLen at hcm
  have H := Lib.hid hR
  have rc0 := hR.c0
  have rc1 := hR.c1
  have rc2 : w.cell? ⟨r, 2, none⟩ = some (.int .i64 0) := hR.c2
  have rf1 := hR.f1
  have hlt := hR.lt
  have c0 : w.cell? ⟨bb, off + i, none⟩ = some (.int .u8 ((b.getD i 0).toNat : Int)) := (bytes_at hb i (by omega)).1
  have hbr : bb < r := (bytes_at hb i (by omega)).2
  have hbw : bb < w.heap.size := by omega
  have hDn : (D == 16) = false := by simp; omega
  have hYl := (b.getD i 0).toNat_lt
  obtain ⟨Y, hY⟩ : ∃ Y : Int, Y = ((b.getD i 0).toNat : Int) := ⟨_, rfl⟩
  rw [← hY] at c0
  have y1 : 128 ≤ Y := by omega
  have y2 : Y ≤ 255 := by omega
  obtain ⟨d, hd⟩ : ∃ d : Int, d = (k : Int) + 55 := ⟨_, rfl⟩
  have y3 : Y - 128 = d := by omega
  have y4 : decide (Y ≥ 192) = false := by simp; omega
  have y5 : decide (192 ≤ Y) = false := by simp; omega
  have y6 : d - 55 = (k : Int) := by omega
  have y7 : 56 ≤ d := by omega
  have y8 : d ≤ 63 := by omega
  have h3 : i + 1 + k ≤ s := by omega
  have hne : ¬ w.heap.size = r := by omega
  obtain ⟨ks, hks⟩ : ∃ ks, ks = (b.drop (i + 1)).take k := ⟨_, rfl⟩
  have hkl : ks.length = k := by rw [hks]; simp; omega
  have hkg : ∀ j, j < k → ks.getD j 0 = b.getD (i + 1 + j) 0 := fun j hj => by
    rw [hks, List.getD_eq_getElem?_getD, List.getElem?_take_of_lt hj, List.getElem?_drop, List.getD_eq_getElem?_getD]
  rw [← hks]
  have HKL := Lib.hid hkl
  have HKG := Lib.hid hkg
  have HBy := Lib.hid hb
  have HLb := Lib.hid hl
  have HRC : Hid (RC w r (some ⟨bb, off, none⟩) n c (i + 1) ((w.setCell ⟨r, 1, none⟩ (.int .i64 ((i : Int) + 1))).alloc (.cells #[.bool false, .slice none 0 0, .slice none 0 0] TI))) := ⟨((Keep.refl r w).set rfl _).alloc _, (hR.setAt (i + 1) ((i : Int) + 1) (by omega)).below ((Below.refl _ _).alloc (Nat.le_refl _) (.cells #[.bool false, .slice none 0 0, .slice none 0 0] TI)), SlotI.newAt (w.setCell ⟨r, 1, none⟩ (.int .i64 ((i : Int) + 1))) w.heap.size (by simp) (.bool false) (.slice none 0 0) (.slice none 0 0)⟩
  obtain ⟨z, hz⟩ : ∃ z, z = (b.getD (i + 1) 0).toNat := ⟨_, rfl⟩
  have hz2 : z ≤ 255 := by have := (b.getD (i + 1) 0).toNat_lt; omega
  have HZ := Lib.hid hz
  rw [← hz]
  obtain ⟨N, hN⟩ : ∃ N, N = Rlp.num ks := ⟨_, rfl⟩
  rw [← hN]
  have HNN := Lib.hid hN
  have hrl := hR.lt
  clear hN
  clear hR hb hl hY hYl hy h hks hkl hkg hd hz
  go_enter Tryd.func44, Tryd.ntmps44
  go_wp2_with fail
  go_loopw [10, 12] (fun nn ii wr => ∃ (j : Nat) (V : Int), j ≤ k ∧ ii = .int .i64 j ∧ nn = .int .i64 V ∧ Hid (V = cap40 (Rlp.num (ks.take j))) ∧ Hid (RC w r (some ⟨bb, off, none⟩) n c (i + 1) wr)) (fun _ ii _ => k - (intOf ii).toNat)
  case atStart => exact ⟨0, 0, by omega, rfl, rfl, by show _ = _; simp [Rlp.num, cap40], HRC⟩
  case round =>
    obtain ⟨j, V, hj, rfl, rfl, HV, HRr⟩ := hrel
    have r0 := HRr.out.r.c0
    have r1 : wr.cell? ⟨r, 1, none⟩ = some (.int .i64 ((i : Int) + 1)) := by have := HRr.out.r.c1; simpa using this
    have hwr := HRr.out.r.lt
    have hV0 : 0 ≤ V := by have := HV.out; have := (cap40_le (Rlp.num (ks.take j))).1; omega
    have hV1 : V ≤ 1099511627776 := by have := HV.out; have := (cap40_le (Rlp.num (ks.take j))).2; omega
    by_cases hjk : j < k
    · have hcj := (bytes_at (HBy.out.kept HRr.out.k (fun b hb => by have : b < r := hb; omega)) (i + 1 + j) (by rw [HLb.out]; omega)).1
      have et := num_take ks j (by rw [HKL.out]; exact hjk)
      rw [HKG.out j hjk] at et
      have es := cap40_step (Rlp.num (ks.take j)) (b.getD (i + 1 + j) 0).toNat
      rw [← et, ← HV.out] at es
      obtain ⟨x, hx⟩ : ∃ x, x = (b.getD (i + 1 + j) 0).toNat := ⟨_, rfl⟩
      have hx2 : x ≤ 255 := by have := (b.getD (i + 1 + j) 0).toNat_lt; omega
      rw [← hx] at hcj es
      clear et hx
      by_cases hle : V * 256 + x ≤ 1099511627776
      · have ET : Hid (V * 256 + x = cap40 (Rlp.num (ks.take (j + 1)))) := by show _ = _; rw [es, if_pos hle]
        clear es
        go_wp2_with fail
        go_quiet (fail)
        go_wp2
        go_roundw
        case rel => exact ⟨j + 1, V * 256 + x, by omega, by go_num, by go_num, ET, HRr.out.below (by (repeat' (first | (with_reducible exact Below.refl _ _) | (with_reducible refine Below.alloc ?_ ?_ _) | (with_reducible refine Below.drew ?_) | (with_reducible refine Below.setCell ?_ ?_ _) | (with_reducible refine Below.thn (by assumption) ?_ ?_) | (with_reducible refine below_drewN ?_ _) | go_size)))⟩
        case measure => simp [intOf]; omega
      · have ET : Hid (1099511627776 = cap40 (Rlp.num (ks.take (j + 1)))) := by show _ = _; rw [es, if_neg hle]
        clear es
        go_wp2_with fail
        go_quiet (fail)
        go_wp2
        go_roundw
        case rel => exact ⟨j + 1, 1099511627776, by omega, by go_num, by go_num, ET, HRr.out.below (by (repeat' (first | (with_reducible exact Below.refl _ _) | (with_reducible refine Below.alloc ?_ ?_ _) | (with_reducible refine Below.drew ?_) | (with_reducible refine Below.setCell ?_ ?_ _) | (with_reducible refine Below.thn (by assumption) ?_ ?_) | (with_reducible refine below_drewN ?_ _) | go_size)))⟩
        case measure => simp [intOf]; omega
    · have hjm : k = j := by omega
      have EV : Hid (V = cap40 (Rlp.num ks)) := by have := HV.out; rw [← hjm, ← HKL.out, List.take_length] at this; exact this
      have hjm' : j = k := hjm.symm
      subst hjm'
      have hcz := (bytes_at (HBy.out.kept HRr.out.k (fun b hb => by have : b < r := hb; omega)) (i + 1) (by rw [HLb.out]; omega)).1
      rw [← HZ.out] at hcz
      have EV : Hid (V = cap40 N) := by have := EV.out; rw [← HNN.out] at this; exact this
      clear hjm HV HKL HKG HNN
      go_wp2_with fail
      go_quiet (fail)
      have HRC2 : Hid (RC w r (some ⟨bb, off, none⟩) n c (i + 1) (wr.drewN nq)) := HRr.out.below (below_drewN (Below.refl _ _) nq)
      clear r0 r1 hcz
      generalize wr.drewN nq = w2 at HRC2 ⊢
      have r0 := HRC2.out.r.c0
      have r1 : w2.cell? ⟨r, 1, none⟩ = some (.int .i64 ((i : Int) + 1)) := by have := HRC2.out.r.c1; simpa using this
      have rg := HRC2.out.r.f1
      have hw2 := HRC2.out.r.lt
      have HRC3 := Lib.hid (HRC2.out.setAt hrl (i + 1 + j) ((i : Int) + 1 + j) (by omega))
      have HRW := Lib.hid HRC3.out.r
      have HSW := Lib.hid HRC3.out.s
      by_cases g1 : s - i - 1 - j < N
      · have G1 := Lib.hid g1
        have g2 : (s : Int) - (i + 1 + j) < V := by rw [EV.out]; exact (cap40_gt (by omega)).2 (by omega)
        clear g1
        as_aux_lemma =>
          go_wp2_with (first
    | (go_at_call 45; (with_reducible refine (fail_V r _ n c (i + 1 + j) i 11 _ _ _ (HRW.out.below (by (repeat' (first | (with_reducible exact Below.refl _ _) | (with_reducible refine Below.alloc ?_ ?_ _) | (with_reducible refine Below.drew ?_) | (with_reducible refine Below.setCell ?_ ?_ _) | (with_reducible refine Below.thn (by assumption) ?_ ?_) | (with_reducible refine below_drewN ?_ _) | go_size)))) rfl (by decide)).mono ?_); rintro e w1 ⟨rfl, hr1, hk1⟩; have HS : Hid (SlotI w1 w.heap.size (.bool false) (.slice none 0 0) (.slice none 0 0)) := ((HSW.out.below (by (repeat' (first | (with_reducible exact Below.refl _ _) | (with_reducible refine Below.alloc ?_ ?_ _) | (with_reducible refine Below.drew ?_) | (with_reducible refine Below.setCell ?_ ?_ _) | (with_reducible refine Below.thn (by assumption) ?_ ?_) | (with_reducible refine below_drewN ?_ _) | go_size)))).kept hk1 (by omega)); have q0 := HS.out.c0; have q1 := HS.out.c1; have q2 := HS.out.c2; have f0 := HS.out.f0; have f1 := HS.out.f1; have f2 := HS.out.f2; have HR1 := Lib.hid hr1; have HK1 := Lib.hid hk1; clear hr1 hk1))
          refine bodyPost_ret (by simp [results, Tryd.results44, go_sem, q0, q1, q2]; try rfl) rfl ?_
          rw [longR_end G1.out]
          exact RItemRet.err ((((HRC3.out.k.trans HK1.out).setNew (Nat.le_refl _) _).setNew (Nat.le_refl _) _).setNew (Nat.le_refl _) _) (by decide) (((HR1.out.setOther (q := ⟨w.heap.size, 0, none⟩) hne _).setOther (q := ⟨w.heap.size, 1, none⟩) hne _).setOther (q := ⟨w.heap.size, 2, none⟩) hne _)
      · have G1 := Lib.hid g1
        have g3 : N ≤ 4096 := by omega
        have hVN : V = (N : Int) := by rw [EV.out]; exact cap40_low (by omega)
        have g2 : ¬ ((s : Int) - (i + 1 + j) < N) := by omega
        have g7 : i + 1 + j + N ≤ s := by omega
        clear EV hV0 hV1
        subst hVN
        by_cases g6 : z = 0
        · have G6 := Lib.hid g6
          have g8 : ((z : Int) == 0) = true := by simp; omega
          clear g6 g1
          as_aux_lemma =>
            go_wp2_with (first
    | (go_at_call 45; (with_reducible refine (fail_V r _ n c (i + 1 + j) i 12 _ _ _ (HRW.out.below (by (repeat' (first | (with_reducible exact Below.refl _ _) | (with_reducible refine Below.alloc ?_ ?_ _) | (with_reducible refine Below.drew ?_) | (with_reducible refine Below.setCell ?_ ?_ _) | (with_reducible refine Below.thn (by assumption) ?_ ?_) | (with_reducible refine below_drewN ?_ _) | go_size)))) rfl (by decide)).mono ?_); rintro e w1 ⟨rfl, hr1, hk1⟩; have HS : Hid (SlotI w1 w.heap.size (.bool false) (.slice none 0 0) (.slice none 0 0)) := ((HSW.out.below (by (repeat' (first | (with_reducible exact Below.refl _ _) | (with_reducible refine Below.alloc ?_ ?_ _) | (with_reducible refine Below.drew ?_) | (with_reducible refine Below.setCell ?_ ?_ _) | (with_reducible refine Below.thn (by assumption) ?_ ?_) | (with_reducible refine below_drewN ?_ _) | go_size)))).kept hk1 (by omega)); have q0 := HS.out.c0; have q1 := HS.out.c1; have q2 := HS.out.c2; have f0 := HS.out.f0; have f1 := HS.out.f1; have f2 := HS.out.f2; have HR1 := Lib.hid hr1; have HK1 := Lib.hid hk1; clear hr1 hk1))
            refine bodyPost_ret (by simp [results, Tryd.results44, go_sem, q0, q1, q2]; try rfl) rfl ?_
            rw [longR_zero G1.out G6.out]
            exact RItemRet.err ((((HRC3.out.k.trans HK1.out).setNew (Nat.le_refl _) _).setNew (Nat.le_refl _) _).setNew (Nat.le_refl _) _) (by decide) (((HR1.out.setOther (q := ⟨w.heap.size, 0, none⟩) hne _).setOther (q := ⟨w.heap.size, 1, none⟩) hne _).setOther (q := ⟨w.heap.size, 2, none⟩) hne _)
        · have g8 : ((z : Int) == 0) = false := by simp; omega
          by_cases g4 : N < 56
          · have G4 := Lib.hid g4
            have g5 : decide ((N : Int) < 56) = true := by simp; omega
            clear g6 g1
            as_aux_lemma =>
              go_wp2_with (first
    | (go_at_call 45; (with_reducible refine (fail_V r _ n c (i + 1 + j) i 12 _ _ _ (HRW.out.below (by (repeat' (first | (with_reducible exact Below.refl _ _) | (with_reducible refine Below.alloc ?_ ?_ _) | (with_reducible refine Below.drew ?_) | (with_reducible refine Below.setCell ?_ ?_ _) | (with_reducible refine Below.thn (by assumption) ?_ ?_) | (with_reducible refine below_drewN ?_ _) | go_size)))) rfl (by decide)).mono ?_); rintro e w1 ⟨rfl, hr1, hk1⟩; have HS : Hid (SlotI w1 w.heap.size (.bool false) (.slice none 0 0) (.slice none 0 0)) := ((HSW.out.below (by (repeat' (first | (with_reducible exact Below.refl _ _) | (with_reducible refine Below.alloc ?_ ?_ _) | (with_reducible refine Below.drew ?_) | (with_reducible refine Below.setCell ?_ ?_ _) | (with_reducible refine Below.thn (by assumption) ?_ ?_) | (with_reducible refine below_drewN ?_ _) | go_size)))).kept hk1 (by omega)); have q0 := HS.out.c0; have q1 := HS.out.c1; have q2 := HS.out.c2; have f0 := HS.out.f0; have f1 := HS.out.f1; have f2 := HS.out.f2; have HR1 := Lib.hid hr1; have HK1 := Lib.hid hk1; clear hr1 hk1))
              refine bodyPost_ret (by simp [results, Tryd.results44, go_sem, q0, q1, q2]; try rfl) rfl ?_
              rw [longR_few G1.out G4.out]
              exact RItemRet.err ((((HRC3.out.k.trans HK1.out).setNew (Nat.le_refl _) _).setNew (Nat.le_refl _) _).setNew (Nat.le_refl _) _) (by decide) (((HR1.out.setOther (q := ⟨w.heap.size, 0, none⟩) hne _).setOther (q := ⟨w.heap.size, 1, none⟩) hne _).setOther (q := ⟨w.heap.size, 2, none⟩) hne _)
          · have G6 := Lib.hid g6
            have G4 := Lib.hid g4
            have g5 : decide ((N : Int) < 56) = false := by simp; omega
            clear g6 g4 g1
            have HRC := HRC3
            obtain ⟨A0, hA0⟩ : ∃ A0, A0 = (if c = i + 1 + j then some (⟨bb, off, none⟩ : Addr) else some ⟨bb, off + (i + 1 + j), none⟩) := ⟨_, rfl⟩
            have HG : Hid (BytesF (fun b => b < r) w A0 ((b.drop (i + 1 + j)).take N)) := by
              show BytesF _ _ _ _
              rw [hA0]
              split
              · intro j hj; simp at hj; have := HLb.out; omega
              · exact bytesF_seg HBy.out (i + 1 + j) N (by rw [HLb.out]; omega)
            have HN : Hid (A0 = none → c - (i + 1 + j) = 0) := by
              show _ → _
              rw [hA0]
              split <;> simp
            have HL : Hid (((b.drop (i + 1 + j)).take N).length = N) := by show _ = _; simp; have := HLb.out; omega
            have HA0 := Lib.hid hA0
            clear hA0
            as_aux_lemma =>
              go_wp2_with fail
              refine wp_region_rel (RC w r (some ⟨bb, off, none⟩) n c (i + 1 + j)) (by kernel_rfl) (HRC.out.below (by (repeat' (first | (with_reducible exact Below.refl _ _) | (with_reducible refine Below.alloc ?_ ?_ _) | (with_reducible refine Below.drew ?_) | (with_reducible refine Below.setCell ?_ ?_ _) | (with_reducible refine Below.thn (by assumption) ?_ ?_) | (with_reducible refine below_drewN ?_ _) | go_size)))) ?_
              refine relR_pure 1 _ (by intro _ h; first | exact h | exact h.2) (by kernel_rfl) rfl (by kernel_rfl) (by kernel_rfl) (by go_simp) ?_
              apply Exists.intro
              refine ⟨fun W hW => ?_, fun K hK => ?_⟩
              · unfold effAt
                have r0 := hW.r.c0
                have r1 := hW.r.c1
                have hlt := hW.r.lt
                go_simp
                exact ⟨rfl, rfl⟩
              go_simp
              refine hK _ ?_
              clear hK K
              refine relR_pure 2 _ (by intro _ h; first | exact h | exact h.2) (by kernel_rfl) rfl (by kernel_rfl) (by kernel_rfl) (by go_simp) ?_
              apply Exists.intro
              refine ⟨fun W hW => ?_, fun K hK => ?_⟩
              · unfold effAt
                have r0 := hW.r.c0
                have r1 := hW.r.c1
                have hlt := hW.r.lt
                go_simp
                exact ⟨rfl, rfl⟩
              go_simp
              refine hK _ ?_
              clear hK K
              refine relR_pure 3 _ (by intro _ h; first | exact h | exact h.2) (by kernel_rfl) rfl (by kernel_rfl) (by kernel_rfl) (by go_simp) ?_
              apply Exists.intro
              refine ⟨fun W hW => ?_, fun K hK => ?_⟩
              · unfold effAt
                have r0 := hW.r.c0
                have r1 := hW.r.c1
                have hlt := hW.r.lt
                go_simp
                exact ⟨rfl, rfl⟩
              go_simp
              refine hK _ ?_
              clear hK K
              refine relR_pure 4 _ (by intro _ h; first | exact h | exact h.2) (by kernel_rfl) rfl (by kernel_rfl) (by kernel_rfl) (by go_simp) ?_
              apply Exists.intro
              refine ⟨fun W hW => ?_, fun K hK => ?_⟩
              · unfold effAt
                have r0 := hW.r.c0
                have r1 := hW.r.c1
                have hlt := hW.r.lt
                go_simp
                exact ⟨rfl, rfl⟩
              go_simp
              refine hK _ ?_
              clear hK K
              refine relR_pure 5 _ (by intro _ h; first | exact h | exact h.2) (by kernel_rfl) rfl (by kernel_rfl) (by kernel_rfl) (by go_simp) ?_
              apply Exists.intro
              refine ⟨fun W hW => ?_, fun K hK => ?_⟩
              · unfold effAt
                have r0 := hW.r.c0
                have r1 := hW.r.c1
                have hlt := hW.r.lt
                go_simp
                exact ⟨rfl, rfl⟩
              go_simp
              refine hK _ ?_
              clear hK K
              refine relR_pure 6 _ (by intro _ h; first | exact h | exact h.2) (by kernel_rfl) rfl (by kernel_rfl) (by kernel_rfl) (by go_simp) ?_
              apply Exists.intro
              refine ⟨fun W hW => ?_, fun K hK => ?_⟩
              · unfold effAt
                have r0 := hW.r.c0
                have r1 := hW.r.c1
                have hlt := hW.r.lt
                go_simp
                exact ⟨rfl, rfl⟩
              go_simp
              refine hK _ ?_
              clear hK K
              refine relR_pure 7 _ (by intro _ h; first | exact h | exact h.2) (by kernel_rfl) rfl (by kernel_rfl) (by kernel_rfl) (by go_simp) ?_
              apply Exists.intro
              refine ⟨fun W hW => ?_, fun K hK => ?_⟩
              · unfold effAt
                have r0 := hW.r.c0
                have r1 := hW.r.c1
                have hlt := hW.r.lt
                go_simp
                exact ⟨rfl, rfl⟩
              go_simp
              refine hK _ ?_
              clear hK K
              refine relR_pure 8 _ (by intro _ h; first | exact h | exact h.2) (by kernel_rfl) rfl (by kernel_rfl) (by kernel_rfl) (by go_simp) ?_
              apply Exists.intro
              refine ⟨fun W hW => ?_, fun K hK => ?_⟩
              · unfold effAt
                have r0 := hW.r.c0
                have r1 := hW.r.c1
                have hlt := hW.r.lt
                go_simp
                exact ⟨rfl, rfl⟩
              go_simp
              refine hK _ ?_
              clear hK K
              refine relR_pure 9 _ (by intro _ h; first | exact h | exact h.2) (by kernel_rfl) rfl (by kernel_rfl) (by kernel_rfl) (by go_simp) ?_
              apply Exists.intro
              refine ⟨fun W hW => ?_, fun K hK => ?_⟩
              · unfold effAt
                have r0 := hW.r.c0
                have r1 := hW.r.c1
                have hlt := hW.r.lt
                go_simp
                exact ⟨rfl, rfl⟩
              go_simp
              refine hK _ ?_
              clear hK K
              refine relR_pure 10 _ (by intro _ h; first | exact h | exact h.2) (by kernel_rfl) rfl (by kernel_rfl) (by kernel_rfl) (by go_simp) ?_
              apply Exists.intro
              refine ⟨fun W hW => ?_, fun K hK => ?_⟩
              · unfold effAt
                go_simp
                rw [if_pos (by omega), if_pos (by omega), show ((i : Int) + 1 + j).toNat = i + 1 + j by omega, show ((i : Int) + 1 + j + N).toNat - (i + 1 + j) = N by omega, ← HA0.out]
                exact ⟨rfl, rfl⟩
              go_simp
              refine hK _ ?_
              clear hK K
              refine relR_call 0 _ rfl (by kernel_rfl) (by go_simp) Nat (fun g => .slice (some ⟨g, 0, none⟩) 0 0) (fun _ => RC w r (some ⟨bb, off, none⟩) n c (i + 1 + j)) (fun g W => OwnB W (w.heap.size + 1) (some ⟨g, 0, none⟩) 0 0 []) (fun _ _ h => h) (fun W hW => ?_) (fun g K hK => ?_)
              · unfold effAt
                go_simp
                exact ⟨W.heap.size, rfl, (own_none W).le (by have := hW.s.lt; omega), hW.below ((Below.refl _ _).alloc (Nat.le_refl _) _)⟩
              go_simp
              refine hK _ ?_
              clear hK K
              refine relR_call 11 _ rfl (by kernel_rfl) (by go_simp) RowOf (fun q => .slice q.a q.n q.c) (fun _ => RC w r (some ⟨bb, off, none⟩) n c (i + 1 + j)) (fun q W => OwnB W (w.heap.size + 1) q.a q.n q.c ((b.drop (i + 1 + j)).take N)) (fun _ _ h => h) (fun W hW => ?_) (fun q K hK => ?_)
              · refine effAt_append_B (.tmp 177) (.tmp 187) rfl (w.heap.size + 1) (some ⟨g, 0, none⟩) 0 0 [] _ N _ ((b.drop (i + 1 + j)).take N) hW.1 (HG.out.kept hW.2.k (fun b hb => by have : b < r := hb; omega)) rfl rfl HL.out HN.out (Sm.of (by omega)) (by have := hW.2.s.lt; omega) ?_
                intro ao' c' w' ho hg
                refine ⟨⟨ao', 0 + N, c'⟩, rfl, by simpa using ho, ?_⟩
                -- the class is kept: only the row of the call grew
                exact hW.2.grown hg hW.1 hlt
              go_simp
              refine hK _ ?_
              clear hK K
              refine relR_pure 12 _ (by intro _ h; first | exact h | exact h.2) (by kernel_rfl) rfl (by kernel_rfl) (by kernel_rfl) (by go_simp) ?_
              apply Exists.intro
              refine ⟨fun W hW => ?_, fun K hK => ?_⟩
              · unfold effAt
                go_simp
                exact ⟨rfl, rfl⟩
              go_simp
              refine hK _ ?_
              clear hK K
              refine relR_end (by kernel_rfl) (fun W hW => ?_)
              have HO := Lib.hid hW.1
              have HC := Lib.hid hW.2
              have r1 := hW.2.r.c1
              have rg := hW.2.r.f1
              have q0 := hW.2.s.c0
              have q1 := hW.2.s.c1
              have q2 := hW.2.s.c2
              have f0 := hW.2.s.f0
              have f1 := hW.2.s.f1
              have f2 := hW.2.s.f2
              have hs0 := hW.2.s.lt
              have hne : ¬ w.heap.size = r := by omega
              have hne2 : ¬ r = w.heap.size := by omega
              clear hW
              go_wp2
              refine bodyPost_ret (by simp [results, Tryd.results44, go_sem, q0, q1, q2, hne, hne2]; try rfl) rfl ?_
              rw [longR_ok G1.out G6.out G4.out]
              refine RItemRet.fine ((((HC.out.k.set rfl _).setNew (Nat.le_refl _) _).setNew (Nat.le_refl _) _).setNew (Nat.le_refl _) _) (leaf_is (bs := (b.drop (i + 1 + j)).take N) HO.out.len HO.out.cap.1 HO.out.cap.2.1 HO.out.cap.2.2 ?_ f) ((((HC.out.r.setAt (i + 1 + j + N) ((i : Int) + 1 + j + N) (by omega)).setOther (q := ⟨w.heap.size, 0, none⟩) hne _).setOther (q := ⟨w.heap.size, 1, none⟩) hne _).setOther (q := ⟨w.heap.size, 2, none⟩) hne _)
              exact ((((HO.out.setBelow (a := ⟨r, 1, none⟩) (by simp; omega) _).setBelow (a := ⟨w.heap.size, 0, none⟩) (by simp) _).setBelow (a := ⟨w.heap.size, 1, none⟩) (by simp) _).setBelow (a := ⟨w.heap.size, 2, none⟩) (by simp) _).bytes.move fun b hb hl => ⟨by omega, hl, rfl⟩
end Go.Proofs.YtgcpnhnckbgjmaaDoor
