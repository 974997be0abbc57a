/-
  mootref03.Reader.item by its contract: one byte behind a head of its own.
-/
import Derived.Test.YtgcpnhnckbgjmaaDoorRItemL
set_option linter.unusedVariables false
set_option linter.unusedSimpArgs false
namespace Go.Proofs.YtgcpnhnckbgjmaaDoor
open Go.RowKit
set_option maxRecDepth 100000 in
set_option maxHeartbeats 2000000 in
theorem ri_s128g (f : Nat) (w : World) (r bb off n c : Nat) (b : List UInt8) (i s : Nat) (D : Int) (hl : b.length = n) (hc : n ≤ c) (hcm : c ≤ maxLen) (hn : n ≤ 4096) (his : i < s) (hsn : s ≤ n) (hR : Rd w r (some ⟨bb, off, none⟩) n c i 0 0) (hb : BytesF (fun b => b < r) w (some ⟨bb, off, none⟩) b) (hD0 : 0 ≤ D) (hD1 : D ≤ 15) (d : Nat) (hy : (b.getD i 0).toNat = 128 + d) (hd : d < 56) (h : ¬ s - i - 1 < d) (h0 : d = 1) (hz : ¬ (b.getD (i + 1) 0).toNat < 128) :
    Calls Tryd.prog 44 #[.pointer (some ⟨r, 0, none⟩), .int .i64 s, .int .i64 D] w (RItemRet w r (some ⟨bb, off, none⟩) n c f (.ok (.mk false ((b.drop (i + 1)).take d) [], i + 1 + d))) := by
  unfold maxLen at hcm
  have H := Lib.hid hR
  have rc0 := hR.c0
  have rc1 := hR.c1
  have rc2 : w.cell? ⟨r, 2, none⟩ = some (.int .i64 0) := hR.c2
  have rf1 := hR.f1
  have hlt := hR.lt
  have c0 : w.cell? ⟨bb, off + i, none⟩ = some (.int .u8 ((b.getD i 0).toNat : Int)) := (bytes_at hb i (by omega)).1
  have hbr : bb < r := (bytes_at hb i (by omega)).2
  have hbw : bb < w.heap.size := by omega
  have hDn : (D == 16) = false := by simp; omega
  have hYl := (b.getD i 0).toNat_lt
  obtain ⟨Y, hY⟩ : ∃ Y : Int, Y = ((b.getD i 0).toNat : Int) := ⟨_, rfl⟩
  rw [← hY] at c0
  have y1 : 128 ≤ Y := by omega
  have y2 : Y ≤ 255 := by omega
  have y3 : Y - 128 = (d : Int) := by omega
  have y4 : decide (Y ≥ 192) = false := by simp; omega
  have y5 : decide (192 ≤ Y) = false := by simp; omega
  have h3 : i + 1 + d ≤ s := by omega
  have h4 : ((d : Int) == 1) = true := by simp; omega
  have c1 := (bytes_at hb (i + 1) (by omega)).1
  have hz3 := (b.getD (i + 1) 0).toNat_lt
  obtain ⟨z, hzz⟩ : ∃ z : Nat, z = (b.getD (i + 1) 0).toNat := ⟨_, rfl⟩
  rw [← hzz] at c1 hz hz3
  have h9 : i + 1 < n := by omega
  have h10 : (i : Int) + 1 < n := by omega
  have hz4 : decide ((z : Int) < 128) = false := by simp; omega
  obtain ⟨A0, hA0⟩ : ∃ A0, A0 = (if c = i + 1 then some (⟨bb, off, none⟩ : Addr) else some ⟨bb, off + (i + 1), none⟩) := ⟨_, rfl⟩
  have HG : Hid (BytesF (fun b => b < r) w A0 ((b.drop (i + 1)).take d)) := by
    show BytesF _ _ _ _
    rw [hA0]
    split
    · intro j hj; simp at hj; omega
    · exact bytesF_seg hb (i + 1) d (by omega)
  have HN : Hid (A0 = none → c - (i + 1) = 0) := by
    show _ → _
    rw [hA0]
    split <;> simp
  have HA0 := Lib.hid hA0
  clear hA0
  have HL : Hid (((b.drop (i + 1)).take d).length = d) := by show _ = _; simp; omega
  have HRC : Hid (RC w r (some ⟨bb, off, none⟩) n c (i + 1) ((w.setCell ⟨r, 1, none⟩ (.int .i64 ((i : Int) + 1))).alloc (.cells #[.bool false, .slice none 0 0, .slice none 0 0] TI))) := ⟨((Keep.refl r w).set rfl _).alloc _, (hR.setAt (i + 1) ((i : Int) + 1) (by omega)).below ((Below.refl _ _).alloc (Nat.le_refl _) (.cells #[.bool false, .slice none 0 0, .slice none 0 0] TI)), SlotI.newAt (w.setCell ⟨r, 1, none⟩ (.int .i64 ((i : Int) + 1))) w.heap.size (by simp) (.bool false) (.slice none 0 0) (.slice none 0 0)⟩
  clear hR hb hl hY hYl hy h hzz h0
  go_enter Tryd.func44, Tryd.ntmps44
  go_wp2_with fail
  go_quiet (fail)
  go_wp2_with fail
  refine wp_region_rel (RC w r (some ⟨bb, off, none⟩) n c (i + 1)) (by kernel_rfl) (HRC.out.below (by (repeat' (first | (with_reducible exact Below.refl _ _) | (with_reducible refine Below.alloc ?_ ?_ _) | (with_reducible refine Below.drew ?_) | (with_reducible refine Below.setCell ?_ ?_ _) | (with_reducible refine Below.thn (by assumption) ?_ ?_) | (with_reducible refine below_drewN ?_ _) | go_size)))) ?_
  refine relR_pure 1 _ (by intro _ h; first | exact h | exact h.2) (by kernel_rfl) rfl (by kernel_rfl) (by kernel_rfl) (by go_simp) ?_
  apply Exists.intro
  refine ⟨fun W hW => ?_, fun K hK => ?_⟩
  · unfold effAt
    have r0 := hW.r.c0
    have r1 := hW.r.c1
    have hlt := hW.r.lt
    go_simp
    exact ⟨rfl, rfl⟩
  go_simp
  refine hK _ ?_
  clear hK K
  refine relR_pure 2 _ (by intro _ h; first | exact h | exact h.2) (by kernel_rfl) rfl (by kernel_rfl) (by kernel_rfl) (by go_simp) ?_
  apply Exists.intro
  refine ⟨fun W hW => ?_, fun K hK => ?_⟩
  · unfold effAt
    have r0 := hW.r.c0
    have r1 := hW.r.c1
    have hlt := hW.r.lt
    go_simp
    exact ⟨rfl, rfl⟩
  go_simp
  refine hK _ ?_
  clear hK K
  refine relR_pure 3 _ (by intro _ h; first | exact h | exact h.2) (by kernel_rfl) rfl (by kernel_rfl) (by kernel_rfl) (by go_simp) ?_
  apply Exists.intro
  refine ⟨fun W hW => ?_, fun K hK => ?_⟩
  · unfold effAt
    have r0 := hW.r.c0
    have r1 := hW.r.c1
    have hlt := hW.r.lt
    go_simp
    exact ⟨rfl, rfl⟩
  go_simp
  refine hK _ ?_
  clear hK K
  refine relR_pure 4 _ (by intro _ h; first | exact h | exact h.2) (by kernel_rfl) rfl (by kernel_rfl) (by kernel_rfl) (by go_simp) ?_
  apply Exists.intro
  refine ⟨fun W hW => ?_, fun K hK => ?_⟩
  · unfold effAt
    have r0 := hW.r.c0
    have r1 := hW.r.c1
    have hlt := hW.r.lt
    go_simp
    exact ⟨rfl, rfl⟩
  go_simp
  refine hK _ ?_
  clear hK K
  refine relR_pure 5 _ (by intro _ h; first | exact h | exact h.2) (by kernel_rfl) rfl (by kernel_rfl) (by kernel_rfl) (by go_simp) ?_
  apply Exists.intro
  refine ⟨fun W hW => ?_, fun K hK => ?_⟩
  · unfold effAt
    have r0 := hW.r.c0
    have r1 := hW.r.c1
    have hlt := hW.r.lt
    go_simp
    exact ⟨rfl, rfl⟩
  go_simp
  refine hK _ ?_
  clear hK K
  refine relR_pure 6 _ (by intro _ h; first | exact h | exact h.2) (by kernel_rfl) rfl (by kernel_rfl) (by kernel_rfl) (by go_simp) ?_
  apply Exists.intro
  refine ⟨fun W hW => ?_, fun K hK => ?_⟩
  · unfold effAt
    have r0 := hW.r.c0
    have r1 := hW.r.c1
    have hlt := hW.r.lt
    go_simp
    exact ⟨rfl, rfl⟩
  go_simp
  refine hK _ ?_
  clear hK K
  refine relR_pure 7 _ (by intro _ h; first | exact h | exact h.2) (by kernel_rfl) rfl (by kernel_rfl) (by kernel_rfl) (by go_simp) ?_
  apply Exists.intro
  refine ⟨fun W hW => ?_, fun K hK => ?_⟩
  · unfold effAt
    have r0 := hW.r.c0
    have r1 := hW.r.c1
    have hlt := hW.r.lt
    go_simp
    exact ⟨rfl, rfl⟩
  go_simp
  refine hK _ ?_
  clear hK K
  refine relR_pure 8 _ (by intro _ h; first | exact h | exact h.2) (by kernel_rfl) rfl (by kernel_rfl) (by kernel_rfl) (by go_simp) ?_
  apply Exists.intro
  refine ⟨fun W hW => ?_, fun K hK => ?_⟩
  · unfold effAt
    have r0 := hW.r.c0
    have r1 := hW.r.c1
    have hlt := hW.r.lt
    go_simp
    exact ⟨rfl, rfl⟩
  go_simp
  refine hK _ ?_
  clear hK K
  refine relR_pure 9 _ (by intro _ h; first | exact h | exact h.2) (by kernel_rfl) rfl (by kernel_rfl) (by kernel_rfl) (by go_simp) ?_
  apply Exists.intro
  refine ⟨fun W hW => ?_, fun K hK => ?_⟩
  · unfold effAt
    have r0 := hW.r.c0
    have r1 := hW.r.c1
    have hlt := hW.r.lt
    go_simp
    exact ⟨rfl, rfl⟩
  go_simp
  refine hK _ ?_
  clear hK K
  refine relR_pure 10 _ (by intro _ h; first | exact h | exact h.2) (by kernel_rfl) rfl (by kernel_rfl) (by kernel_rfl) (by go_simp) ?_
  apply Exists.intro
  refine ⟨fun W hW => ?_, fun K hK => ?_⟩
  · unfold effAt
    go_simp
    rw [if_pos (by omega), if_pos (by omega), show ((i : Int) + 1 + d).toNat - (i + 1) = d by omega, ← HA0.out]
    exact ⟨rfl, rfl⟩
  go_simp
  refine hK _ ?_
  clear hK K
  refine relR_call 0 _ rfl (by kernel_rfl) (by go_simp) Nat (fun g => .slice (some ⟨g, 0, none⟩) 0 0) (fun _ => RC w r (some ⟨bb, off, none⟩) n c (i + 1)) (fun g W => OwnB W (w.heap.size + 1) (some ⟨g, 0, none⟩) 0 0 []) (fun _ _ h => h) (fun W hW => ?_) (fun g K hK => ?_)
  · unfold effAt
    go_simp
    exact ⟨W.heap.size, rfl, (own_none W).le (by have := hW.s.lt; omega), hW.below ((Below.refl _ _).alloc (Nat.le_refl _) _)⟩
  go_simp
  refine hK _ ?_
  clear hK K
  refine relR_call 11 _ rfl (by kernel_rfl) (by go_simp) RowOf (fun q => .slice q.a q.n q.c) (fun _ => RC w r (some ⟨bb, off, none⟩) n c (i + 1)) (fun q W => OwnB W (w.heap.size + 1) q.a q.n q.c ((b.drop (i + 1)).take d)) (fun _ _ h => h) (fun W hW => ?_) (fun q K hK => ?_)
  · refine effAt_append_B (.tmp 177) (.tmp 187) rfl (w.heap.size + 1) (some ⟨g, 0, none⟩) 0 0 [] _ d _ ((b.drop (i + 1)).take d) hW.1 (HG.out.kept hW.2.k (fun b hb => by have : b < r := hb; omega)) rfl rfl HL.out HN.out (Sm.of (by omega)) (by have := hW.2.s.lt; omega) ?_
    intro ao' c' w' ho hg
    refine ⟨⟨ao', 0 + d, c'⟩, rfl, by simpa using ho, ?_⟩
    -- the class is kept: only the row of the call grew
    exact hW.2.grown hg hW.1 hlt
  go_simp
  refine hK _ ?_
  clear hK K
  refine relR_pure 12 _ (by intro _ h; first | exact h | exact h.2) (by kernel_rfl) rfl (by kernel_rfl) (by kernel_rfl) (by go_simp) ?_
  apply Exists.intro
  refine ⟨fun W hW => ?_, fun K hK => ?_⟩
  · unfold effAt
    go_simp
    exact ⟨rfl, rfl⟩
  go_simp
  refine hK _ ?_
  clear hK K
  refine relR_end (by kernel_rfl) (fun W hW => ?_)
  have HO := Lib.hid hW.1
  have HC := Lib.hid hW.2
  have r1 := hW.2.r.c1
  have rg := hW.2.r.f1
  have q0 := hW.2.s.c0
  have q1 := hW.2.s.c1
  have q2 := hW.2.s.c2
  have f0 := hW.2.s.f0
  have f1 := hW.2.s.f1
  have f2 := hW.2.s.f2
  have hs0 := hW.2.s.lt
  have hne : ¬ w.heap.size = r := by omega
  have hne2 : ¬ r = w.heap.size := by omega
  clear hW
  go_wp2
  refine bodyPost_ret (by simp [results, Tryd.results44, go_sem, q0, q1, q2, hne, hne2]; try rfl) rfl ?_
  skip
  refine RItemRet.fine ((((HC.out.k.set rfl _).setNew (Nat.le_refl _) _).setNew (Nat.le_refl _) _).setNew (Nat.le_refl _) _) (leaf_is (bs := (b.drop (i + 1)).take d) HO.out.len HO.out.cap.1 HO.out.cap.2.1 HO.out.cap.2.2 ?_ f) ((((HC.out.r.setAt (i + 1 + d) ((i : Int) + 1 + d) (by omega)).setOther (q := ⟨w.heap.size, 0, none⟩) hne _).setOther (q := ⟨w.heap.size, 1, none⟩) hne _).setOther (q := ⟨w.heap.size, 2, none⟩) hne _)
  exact ((((HO.out.setBelow (a := ⟨r, 1, none⟩) (by simp; omega) _).setBelow (a := ⟨w.heap.size, 0, none⟩) (by simp) _).setBelow (a := ⟨w.heap.size, 1, none⟩) (by simp) _).setBelow (a := ⟨w.heap.size, 2, none⟩) (by simp) _).bytes.move fun b hb hl => ⟨by omega, hl, rfl⟩
end Go.Proofs.YtgcpnhnckbgjmaaDoor
