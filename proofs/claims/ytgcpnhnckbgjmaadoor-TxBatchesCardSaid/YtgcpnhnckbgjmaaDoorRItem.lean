/-
  mootref03.Reader.item by its contract: the arms that read one head.
-/
import Derived.Test.YtgcpnhnckbgjmaaDoorRd
import Derived.Test.YtgcpnhnckbgjmaaDoorStr
set_option linter.unusedVariables false
set_option linter.unusedSimpArgs false
namespace Go.Proofs.YtgcpnhnckbgjmaaDoor
open Go.RowKit
/-- What the reader's item answers: an item, and what the reader holds then. -/
def RItemRet (w : World) (r : Nat) (a : Option Addr) (n c f : Nat) (res : Except (Nat × Nat) (Rlp.It × Nat)) (e : Ending) (w' : World) : Prop :=
  Keep r w w' ∧ ∃ x vl vb vi, e = .returned (.agg #[vl, vb, vi]) ∧ IsIt (fun b => w.heap.size ≤ b) w' (f + 1) x vl vb vi ∧ match res with
  | .ok (y, j) => x = y ∧ Rd w' r a n c j 0 0
  | .error (p, k) => k ≠ 0 ∧ ∃ j, Rd w' r a n c j k p
theorem zi_is (F : Nat → Prop) (w : World) (k : Nat) : IsIt F w (k + 1) (.mk false [] []) (.bool false) (.slice none 0 0) (.slice none 0 0) :=
  leaf_is (bs := []) rfl (Nat.le_refl _) (Nat.zero_le _) (fun _ => rfl) (fun i hi => by simp at hi) k
theorem RItemRet.err {w w' : World} {r : Nat} {a : Option Addr} {n c f p k j : Nat} (hk : Keep r w w') (h0 : k ≠ 0) (hr : Rd w' r a n c j k p) : RItemRet w r a n c f (.error (p, k)) (.returned ZI) w' :=
  ⟨hk, _, _, _, _, rfl, zi_is _ _ f, h0, j, hr⟩
theorem RItemRet.fine {w w' : World} {r : Nat} {a : Option Addr} {n c f j : Nat} {x : Rlp.It} {vl vb vi : Value} (hk : Keep r w w') (hx : IsIt (fun b => w.heap.size ≤ b) w' (f + 1) x vl vb vi) (hr : Rd w' r a n c j 0 0) : RItemRet w r a n c f (.ok (x, j)) (.returned (.agg #[vl, vb, vi])) w' :=
  ⟨hk, _, _, _, _, rfl, hx, rfl, hr⟩
theorem SlotI.newAt (w : World) (g : Nat) (hg : g = w.heap.size) (x y z : Value) : SlotI (w.alloc (.cells #[x, y, z] TI)) g x y z := by subst hg; exact SlotI.new w x y z
theorem bytes_at {F : Nat → Prop} {w : World} {bb off : Nat} {b : List UInt8} (hb : BytesF F w (some ⟨bb, off, none⟩) b) (i : Nat) (hi : i < b.length) : w.cell? ⟨bb, off + i, none⟩ = some (.int .u8 ((b.getD i 0).toNat : Int)) ∧ F bb := by
  obtain ⟨b', o', e, h1, _, h2⟩ := hb i hi
  injection e with e; injection e with e1 e2
  subst e1; subst e2
  exact ⟨h2, h1⟩
set_option maxRecDepth 100000 in
set_option maxHeartbeats 2000000 in
theorem ri_deep (f : Nat) (w : World) (r bb off n c : Nat) (b : List UInt8) (i s : Nat) (D : Int) (hl : b.length = n) (hc : n ≤ c) (hcm : c ≤ maxLen) (hn : n ≤ 4096) (his : i < s) (hsn : s ≤ n) (hR : Rd w r (some ⟨bb, off, none⟩) n c i 0 0) (hb : BytesF (fun b => b < r) w (some ⟨bb, off, none⟩) b) (hD : D = 16) :
    Calls Tryd.prog 44 #[.pointer (some ⟨r, 0, none⟩), .int .i64 s, .int .i64 D] w (RItemRet w r (some ⟨bb, off, none⟩) n c 0 (.error (i, 13))) := by
  unfold maxLen at hcm
  have H := Lib.hid hR
  have rc0 := hR.c0
  have rc1 := hR.c1
  have rc2 : w.cell? ⟨r, 2, none⟩ = some (.int .i64 0) := hR.c2
  have rf1 := hR.f1
  have hlt := hR.lt
  have HRW := Lib.hid (hR.below ((Below.refl _ _).alloc (Nat.le_refl _) (.cells #[.bool false, .slice none 0 0, .slice none 0 0] TI)))
  have HSW := Lib.hid (SlotI.newAt w w.heap.size rfl (.bool false) (.slice none 0 0) (.slice none 0 0))
  clear hR hb hl
  subst hD
  go_enter Tryd.func44, Tryd.ntmps44
  go_wp2_with (first
    | (go_at_call 45; (with_reducible refine (fail_V r _ n c i i 13 _ _ _ HRW.out rfl (by decide)).mono ?_); rintro e w1 ⟨rfl, hr1, hk1⟩; have HS : Hid (SlotI w1 w.heap.size (.bool false) (.slice none 0 0) (.slice none 0 0)) := ((HSW.out.below (by (repeat' (first | (with_reducible exact Below.refl _ _) | (with_reducible refine Below.alloc ?_ ?_ _) | (with_reducible refine Below.drew ?_) | (with_reducible refine Below.setCell ?_ ?_ _) | (with_reducible refine Below.thn (by assumption) ?_ ?_) | (with_reducible refine below_drewN ?_ _) | go_size)))).kept hk1 (by omega)); have q0 := HS.out.c0; have q1 := HS.out.c1; have q2 := HS.out.c2; have f0 := HS.out.f0; have f1 := HS.out.f1; have f2 := HS.out.f2; have HR1 := Lib.hid hr1; have HK1 := Lib.hid hk1; clear hr1 hk1))
  refine bodyPost_ret (by simp [results, Tryd.results44, go_sem, q0, q1, q2]; try rfl) rfl ?_
  exact RItemRet.err ((((((Keep.refl r w).alloc _).trans HK1.out).setNew (Nat.le_refl _) _).setNew (Nat.le_refl _) _).setNew (Nat.le_refl _) _) (by decide) (((HR1.out.setOther (by simp; omega) _).setOther (by simp; omega) _).setOther (by simp; omega) _)
set_option maxRecDepth 100000 in
set_option maxHeartbeats 2000000 in
theorem ri_one (f : Nat) (w : World) (r bb off n c : Nat) (b : List UInt8) (i s : Nat) (D : Int) (hl : b.length = n) (hc : n ≤ c) (hcm : c ≤ maxLen) (hn : n ≤ 4096) (his : i < s) (hsn : s ≤ n) (hR : Rd w r (some ⟨bb, off, none⟩) n c i 0 0) (hb : BytesF (fun b => b < r) w (some ⟨bb, off, none⟩) b) (hD0 : 0 ≤ D) (hD1 : D ≤ 15) (y : Nat) (hy : (b.getD i 0).toNat = y) (h : y < 128) :
    Calls Tryd.prog 44 #[.pointer (some ⟨r, 0, none⟩), .int .i64 s, .int .i64 D] w (RItemRet w r (some ⟨bb, off, none⟩) n c f (.ok (.mk false [b.getD i 0] [], i + 1))) := by
  unfold maxLen at hcm
  have H := Lib.hid hR
  have rc0 := hR.c0
  have rc1 := hR.c1
  have rc2 : w.cell? ⟨r, 2, none⟩ = some (.int .i64 0) := hR.c2
  have rf1 := hR.f1
  have hlt := hR.lt
  have c0 : w.cell? ⟨bb, off + i, none⟩ = some (.int .u8 ((b.getD i 0).toNat : Int)) := (bytes_at hb i (by omega)).1
  have hbr : bb < r := (bytes_at hb i (by omega)).2
  have hbw : bb < w.heap.size := by omega
  have hDn : (D == 16) = false := by simp; omega
  have hYl := (b.getD i 0).toNat_lt
  obtain ⟨Y, hY⟩ : ∃ Y : Int, Y = ((b.getD i 0).toNat : Int) := ⟨_, rfl⟩
  rw [← hY] at c0
  have y1 : 0 ≤ Y := by omega
  have y2 : Y < 128 := by omega
  have y3 : Y % 256 = Y := by omega
  have HYy := Lib.hid hY
  clear hR hb hl hY hYl hy h
  go_enter Tryd.func44, Tryd.ntmps44
  go_wp2
  go_returns
  refine RItemRet.fine ((((Keep.refl r w).set rfl _).alloc _).alloc _) ?_ (((H.out.setAt (i + 1) _ (by omega)).below ((Below.refl _ _).alloc (Nat.le_refl _) _)).below ((Below.refl _ _).alloc (Nat.le_refl _) _))
  refine leaf_is (n := 1) (c := 1) (bs := [b.getD i 0]) rfl (Nat.le_refl _) (by decide) (by simp) (fun j hj => ?_) f
  have hj : j = 0 := by simp at hj; exact hj
  subst hj
  refine ⟨w.heap.size + 1, 0, rfl, by simp, by simp, ?_⟩
  rw [show (([b.getD i 0] : List UInt8).getD 0 0).toNat = (b.getD i 0).toNat from rfl, ← HYy.out]
  go_cell
set_option maxRecDepth 100000 in
set_option maxHeartbeats 2000000 in
theorem ri_s128e (f : Nat) (w : World) (r bb off n c : Nat) (b : List UInt8) (i s : Nat) (D : Int) (hl : b.length = n) (hc : n ≤ c) (hcm : c ≤ maxLen) (hn : n ≤ 4096) (his : i < s) (hsn : s ≤ n) (hR : Rd w r (some ⟨bb, off, none⟩) n c i 0 0) (hb : BytesF (fun b => b < r) w (some ⟨bb, off, none⟩) b) (hD0 : 0 ≤ D) (hD1 : D ≤ 15) (d : Nat) (hy : (b.getD i 0).toNat = 128 + d) (hd : d < 56) (h : s - i - 1 < d) :
    Calls Tryd.prog 44 #[.pointer (some ⟨r, 0, none⟩), .int .i64 s, .int .i64 D] w (RItemRet w r (some ⟨bb, off, none⟩) n c f (.error (i, 11))) := by
  unfold maxLen at hcm
  have H := Lib.hid hR
  have rc0 := hR.c0
  have rc1 := hR.c1
  have rc2 : w.cell? ⟨r, 2, none⟩ = some (.int .i64 0) := hR.c2
  have rf1 := hR.f1
  have hlt := hR.lt
  have c0 : w.cell? ⟨bb, off + i, none⟩ = some (.int .u8 ((b.getD i 0).toNat : Int)) := (bytes_at hb i (by omega)).1
  have hbr : bb < r := (bytes_at hb i (by omega)).2
  have hbw : bb < w.heap.size := by omega
  have hDn : (D == 16) = false := by simp; omega
  have hYl := (b.getD i 0).toNat_lt
  obtain ⟨Y, hY⟩ : ∃ Y : Int, Y = ((b.getD i 0).toNat : Int) := ⟨_, rfl⟩
  rw [← hY] at c0
  have y1 : 128 ≤ Y := by omega
  have y2 : Y ≤ 255 := by omega
  have y3 : Y - 128 = (d : Int) := by omega
  have y4 : decide (Y ≥ 192) = false := by simp; omega
  have y5 : decide (192 ≤ Y) = false := by simp; omega
  have h1 : (s : Int) - (i + 1) < d := by omega
  have HRW := Lib.hid ((hR.setAt (i + 1) ((i : Int) + 1) (by omega)).below ((Below.refl _ _).alloc (Nat.le_refl _) (.cells #[.bool false, .slice none 0 0, .slice none 0 0] TI)))
  have HSW := Lib.hid (SlotI.newAt (w.setCell ⟨r, 1, none⟩ (.int .i64 ((i : Int) + 1))) w.heap.size (by simp) (.bool false) (.slice none 0 0) (.slice none 0 0))
  clear hR hb hl hY hYl hy h
  go_enter Tryd.func44, Tryd.ntmps44
  go_wp2_with (first
    | (go_at_call 45; (with_reducible refine (fail_V r _ n c (i + 1) i 11 _ _ _ HRW.out rfl (by decide)).mono ?_); rintro e w1 ⟨rfl, hr1, hk1⟩; have HS : Hid (SlotI w1 w.heap.size (.bool false) (.slice none 0 0) (.slice none 0 0)) := ((HSW.out.below (by (repeat' (first | (with_reducible exact Below.refl _ _) | (with_reducible refine Below.alloc ?_ ?_ _) | (with_reducible refine Below.drew ?_) | (with_reducible refine Below.setCell ?_ ?_ _) | (with_reducible refine Below.thn (by assumption) ?_ ?_) | (with_reducible refine below_drewN ?_ _) | go_size)))).kept hk1 (by omega)); have q0 := HS.out.c0; have q1 := HS.out.c1; have q2 := HS.out.c2; have f0 := HS.out.f0; have f1 := HS.out.f1; have f2 := HS.out.f2; have HR1 := Lib.hid hr1; have HK1 := Lib.hid hk1; clear hr1 hk1))
  refine bodyPost_ret (by simp [results, Tryd.results44, go_sem, q0, q1, q2]; try rfl) rfl ?_
  exact RItemRet.err (((((((Keep.refl r w).set rfl _).alloc _).trans HK1.out).setNew (Nat.le_refl _) _).setNew (Nat.le_refl _) _).setNew (Nat.le_refl _) _) (by decide) (((HR1.out.setOther (by simp; omega) _).setOther (by simp; omega) _).setOther (by simp; omega) _)
set_option maxRecDepth 100000 in
set_option maxHeartbeats 2000000 in
theorem ri_s128f (f : Nat) (w : World) (r bb off n c : Nat) (b : List UInt8) (i s : Nat) (D : Int) (hl : b.length = n) (hc : n ≤ c) (hcm : c ≤ maxLen) (hn : n ≤ 4096) (his : i < s) (hsn : s ≤ n) (hR : Rd w r (some ⟨bb, off, none⟩) n c i 0 0) (hb : BytesF (fun b => b < r) w (some ⟨bb, off, none⟩) b) (hD0 : 0 ≤ D) (hD1 : D ≤ 15) (d : Nat) (hy : (b.getD i 0).toNat = 128 + d) (hd : d < 56) (h : ¬ s - i - 1 < d) (h1 : d = 1) (h2 : (b.getD (i + 1) 0).toNat < 128) :
    Calls Tryd.prog 44 #[.pointer (some ⟨r, 0, none⟩), .int .i64 s, .int .i64 D] w (RItemRet w r (some ⟨bb, off, none⟩) n c f (.error (i, 12))) := by
  unfold maxLen at hcm
  have H := Lib.hid hR
  have rc0 := hR.c0
  have rc1 := hR.c1
  have rc2 : w.cell? ⟨r, 2, none⟩ = some (.int .i64 0) := hR.c2
  have rf1 := hR.f1
  have hlt := hR.lt
  have c0 : w.cell? ⟨bb, off + i, none⟩ = some (.int .u8 ((b.getD i 0).toNat : Int)) := (bytes_at hb i (by omega)).1
  have hbr : bb < r := (bytes_at hb i (by omega)).2
  have hbw : bb < w.heap.size := by omega
  have hDn : (D == 16) = false := by simp; omega
  have hYl := (b.getD i 0).toNat_lt
  obtain ⟨Y, hY⟩ : ∃ Y : Int, Y = ((b.getD i 0).toNat : Int) := ⟨_, rfl⟩
  rw [← hY] at c0
  subst h1
  have y1 : 128 ≤ Y := by omega
  have y2 : Y ≤ 255 := by omega
  have y3 : Y - 128 = 1 := by omega
  have y4 : decide (Y ≥ 192) = false := by simp; omega
  have y5 : decide (192 ≤ Y) = false := by simp; omega
  have h3 : i + 2 ≤ s := by omega
  have c1 := (bytes_at hb (i + 1) (by omega)).1
  obtain ⟨z, hz⟩ : ∃ z : Nat, z = (b.getD (i + 1) 0).toNat := ⟨_, rfl⟩
  rw [← hz] at c1 h2
  have HRW := Lib.hid ((hR.setAt (i + 1) ((i : Int) + 1) (by omega)).below ((Below.refl _ _).alloc (Nat.le_refl _) (.cells #[.bool false, .slice none 0 0, .slice none 0 0] TI)))
  have HSW := Lib.hid (SlotI.newAt (w.setCell ⟨r, 1, none⟩ (.int .i64 ((i : Int) + 1))) w.heap.size (by simp) (.bool false) (.slice none 0 0) (.slice none 0 0))
  clear hR hb hl hY hYl hy h hz hd
  go_enter Tryd.func44, Tryd.ntmps44
  go_wp2_with fail
  go_quiet (fail)
  go_wp2_with (first
    | (go_at_call 45; (with_reducible refine (fail_V r _ n c (i + 1) i 12 _ _ _ (HRW.out.below (by (repeat' (first | (with_reducible exact Below.refl _ _) | (with_reducible refine Below.alloc ?_ ?_ _) | (with_reducible refine Below.drew ?_) | (with_reducible refine Below.setCell ?_ ?_ _) | (with_reducible refine Below.thn (by assumption) ?_ ?_) | (with_reducible refine below_drewN ?_ _) | go_size)))) rfl (by decide)).mono ?_); rintro e w1 ⟨rfl, hr1, hk1⟩; have HS : Hid (SlotI w1 w.heap.size (.bool false) (.slice none 0 0) (.slice none 0 0)) := ((HSW.out.below (by (repeat' (first | (with_reducible exact Below.refl _ _) | (with_reducible refine Below.alloc ?_ ?_ _) | (with_reducible refine Below.drew ?_) | (with_reducible refine Below.setCell ?_ ?_ _) | (with_reducible refine Below.thn (by assumption) ?_ ?_) | (with_reducible refine below_drewN ?_ _) | go_size)))).kept hk1 (by omega)); have q0 := HS.out.c0; have q1 := HS.out.c1; have q2 := HS.out.c2; have f0 := HS.out.f0; have f1 := HS.out.f1; have f2 := HS.out.f2; have HR1 := Lib.hid hr1; have HK1 := Lib.hid hk1; clear hr1 hk1))
  refine bodyPost_ret (by simp [results, Tryd.results44, go_sem, q0, q1, q2]; try rfl) rfl ?_
  exact RItemRet.err ((((((((Keep.refl r w).set rfl _).alloc _).drewN _).trans HK1.out).setNew (Nat.le_refl _) _).setNew (Nat.le_refl _) _).setNew (Nat.le_refl _) _) (by decide) (((HR1.out.setOther (by simp; omega) _).setOther (by simp; omega) _).setOther (by simp; omega) _)
set_option maxRecDepth 100000 in
set_option maxHeartbeats 2000000 in
theorem ri_s192e (f : Nat) (w : World) (r bb off n c : Nat) (b : List UInt8) (i s : Nat) (D : Int) (hl : b.length = n) (hc : n ≤ c) (hcm : c ≤ maxLen) (hn : n ≤ 4096) (his : i < s) (hsn : s ≤ n) (hR : Rd w r (some ⟨bb, off, none⟩) n c i 0 0) (hb : BytesF (fun b => b < r) w (some ⟨bb, off, none⟩) b) (hD0 : 0 ≤ D) (hD1 : D ≤ 15) (d : Nat) (hy : (b.getD i 0).toNat = 192 + d) (hd : d < 56) (h : s - i - 1 < d) :
    Calls Tryd.prog 44 #[.pointer (some ⟨r, 0, none⟩), .int .i64 s, .int .i64 D] w (RItemRet w r (some ⟨bb, off, none⟩) n c f (.error (i, 11))) := by
  unfold maxLen at hcm
  have H := Lib.hid hR
  have rc0 := hR.c0
  have rc1 := hR.c1
  have rc2 : w.cell? ⟨r, 2, none⟩ = some (.int .i64 0) := hR.c2
  have rf1 := hR.f1
  have hlt := hR.lt
  have c0 : w.cell? ⟨bb, off + i, none⟩ = some (.int .u8 ((b.getD i 0).toNat : Int)) := (bytes_at hb i (by omega)).1
  have hbr : bb < r := (bytes_at hb i (by omega)).2
  have hbw : bb < w.heap.size := by omega
  have hDn : (D == 16) = false := by simp; omega
  have hYl := (b.getD i 0).toNat_lt
  obtain ⟨Y, hY⟩ : ∃ Y : Int, Y = ((b.getD i 0).toNat : Int) := ⟨_, rfl⟩
  rw [← hY] at c0
  have y1 : 128 ≤ Y := by omega
  have y2 : Y ≤ 255 := by omega
  have y3 : Y - 192 = (d : Int) := by omega
  have y4 : decide (Y ≥ 192) = true := by simp; omega
  have y5 : decide (192 ≤ Y) = true := by simp; omega
  have h1 : (s : Int) - (i + 1) < d := by omega
  have HRW := Lib.hid ((hR.setAt (i + 1) ((i : Int) + 1) (by omega)).below ((Below.refl _ _).alloc (Nat.le_refl _) (.cells #[.bool false, .slice none 0 0, .slice none 0 0] TI)))
  have HSW := Lib.hid (SlotI.newAt (w.setCell ⟨r, 1, none⟩ (.int .i64 ((i : Int) + 1))) w.heap.size (by simp) (.bool false) (.slice none 0 0) (.slice none 0 0))
  clear hR hb hl hY hYl hy h
  go_enter Tryd.func44, Tryd.ntmps44
  go_wp2_with (first
    | (go_at_call 45; (with_reducible refine (fail_V r _ n c (i + 1) i 11 _ _ _ HRW.out rfl (by decide)).mono ?_); rintro e w1 ⟨rfl, hr1, hk1⟩; have HS : Hid (SlotI w1 w.heap.size (.bool false) (.slice none 0 0) (.slice none 0 0)) := ((HSW.out.below (by (repeat' (first | (with_reducible exact Below.refl _ _) | (with_reducible refine Below.alloc ?_ ?_ _) | (with_reducible refine Below.drew ?_) | (with_reducible refine Below.setCell ?_ ?_ _) | (with_reducible refine Below.thn (by assumption) ?_ ?_) | (with_reducible refine below_drewN ?_ _) | go_size)))).kept hk1 (by omega)); have q0 := HS.out.c0; have q1 := HS.out.c1; have q2 := HS.out.c2; have f0 := HS.out.f0; have f1 := HS.out.f1; have f2 := HS.out.f2; have HR1 := Lib.hid hr1; have HK1 := Lib.hid hk1; clear hr1 hk1))
  refine bodyPost_ret (by simp [results, Tryd.results44, go_sem, q0, q1, q2]; try rfl) rfl ?_
  exact RItemRet.err (((((((Keep.refl r w).set rfl _).alloc _).trans HK1.out).setNew (Nat.le_refl _) _).setNew (Nat.le_refl _) _).setNew (Nat.le_refl _) _) (by decide) (((HR1.out.setOther (by simp; omega) _).setOther (by simp; omega) _).setOther (by simp; omega) _)
end Go.Proofs.YtgcpnhnckbgjmaaDoor
