/-
  rlp.item and rlp.Decode by their contracts.
-/
import Derived.Test.YtgcpnhnckbgjmaaDoorItem
set_option linter.unusedVariables false
set_option linter.unusedSimpArgs false
namespace Go.Proofs.YtgcpnhnckbgjmaaDoor
open Go.RowKit
variable {F : Nat → Prop}
theorem OwnI.grown {w w' : World} {g : Nat} {x y z : Value} {v : Value} {base k n : Nat} {its : List Rlp.It} (h : SlotI w g x y z) (ho : OwnI w base k v n its) (hb : g < base) (hg : w.grownBy w' v.ownBlock) : SlotI w' g x y z := by
  refine h.keep hg.size (hg.block g h.lt ?_)
  rcases ho.form with ⟨rfl, _⟩ | ⟨q, c, rfl, hq, _⟩
  · simp [Value.ownBlock]
  · simp [Value.ownBlock]; omega
theorem OwnI.other {w w2 : World} {base k k2 n : Nat} {v : Value} {its : List Rlp.It} {y : Rlp.It} {a b c : Value} (h : OwnI w base k v n its) (hy : IsIt (fun b => w.heap.size ≤ b) w2 k2 y a b c) (hb : base ≤ w.heap.size) : IsIt (fun b => base ≤ b ∧ v.ownBlock ≠ some b) w2 k2 y a b c :=
  hy.move fun b hF hl => ⟨⟨by omega, by
    rcases h.form with ⟨rfl, _⟩ | ⟨q, c, rfl, hq, hl, _⟩
    · simp [Value.ownBlock]
    · simp [Value.ownBlock]; omega⟩, hl, rfl⟩
theorem dList_step {step : Nat → Nat → Except (Nat × Nat) (Rlp.It × Nat)} {g i to : Nat} {acc : List Rlp.It} (h : i < to) (hg : to ≤ i + g) : ∃ g', g = g' + 1 ∧ Rlp.dList step g i to acc = match step i to with
      | .error e => .error e
      | .ok (y, nx) => Rlp.dList step g' nx to (acc ++ [y]) := by
  obtain ⟨g', rfl⟩ : ∃ g', g = g' + 1 := ⟨g - 1, by omega⟩
  exact ⟨g', rfl, by rw [Rlp.dList, if_pos h]; cases step i to <;> rfl⟩
theorem dList_end {step : Nat → Nat → Except (Nat × Nat) (Rlp.It × Nat)} {g i to : Nat} {acc : List Rlp.It} (h : ¬ i < to) : Rlp.dList step g i to acc = .ok acc := by
  cases g with
  | zero => rfl
  | succ g => rw [Rlp.dList, if_neg h]
theorem SlotI.set2 {w : World} {g : Nat} {x y z : Value} (h : SlotI w g x y z) (u : Value) : SlotI (w.setCell ⟨g, 2, none⟩ u) g x y u := by
  have c0 := h.c0
  have c1 := h.c1
  have c2 := h.c2
  exact ⟨by simpa using h.lt, by go_cell, by go_cell, by go_cell, by rw [World.frozen?_setCell]; exact h.f0, by rw [World.frozen?_setCell]; exact h.f1, by rw [World.frozen?_setCell]; exact h.f2⟩
/-- What the list's loop ends in. -/
def listEnd (r : Except (Nat × Nat) (List Rlp.It)) (to : Nat) : Except (Nat × Nat) (Rlp.It × Nat) := match r with
  | .error e => .error e
  | .ok its => .ok (.mk true [] its, to)
set_option maxRecDepth 100000 in
set_option maxHeartbeats 4000000 in
theorem item_list (f : Nat) (ih : ItemAt F f) (w : World) (bb off : Nat) (n c : Nat) (b : List UInt8) (i s : Nat) (D : Int) (hl : b.length = n) (hc : n ≤ c) (hcm : c ≤ maxLen) (hn : n ≤ 4096) (his : i < s) (hsn : s ≤ n) (hb : BytesF F w (some ⟨bb, off, none⟩) b) (hD : D = 16 - (f + 1 : Nat)) (hf : f ≤ 15) (k m : Nat) (h : Rlp.head b i s = .ok (true, k, m)) :
    Calls Tryd.prog 43 #[.slice (some ⟨bb, off, none⟩) n c, .int .i64 i, .int .i64 s, .int .i64 D] w (ItemRet w (f + 1) (listEnd (Rlp.dList (Rlp.dItem b f) m (i + k) (i + k + m) []) (i + k + m))) := by
  have hkm := (Rlp.head_back his (by omega) h).1
  have HC := Lib.hid (head_R (w.alloc (.cells #[.bool false, .slice none 0 0, .slice none 0 0] TI)) _ n c b i s hl hc hcm hn his hsn (hb.below ((Below.refl _ _).alloc (Nat.le_refl _) _)) _ h)
  have IH := Lib.hid ih
  have HY := Lib.hid hb
  have HL := Lib.hid hl
  have HM := Lib.hid hcm
  have HD := Lib.hid hD
  have hD0 : 0 ≤ D := by omega
  have hD1 : D ≤ 15 := by omega
  unfold maxLen at hcm
  obtain ⟨R, hR⟩ : ∃ R, R = Rlp.dList (Rlp.dItem b f) m (i + k) (i + k + m) [] := ⟨_, rfl⟩
  have HR := Lib.hid hR
  rw [← hR]
  clear hl hb h hD ih hR
  go_enter Tryd.func43, Tryd.ntmps43
  go_wp2_with (go_at_call 55; (with_reducible refine HC.out.mono ?_); rintro e w1 ⟨hb1, rfl⟩; have HB := Lib.hid hb1; have hz1 := hb1.size; (simp at hz1); have HS1 := Lib.hid ((SlotI.new w (.bool false) (.slice none 0 0) (.slice none 0 0)).below hb1); clear hb1)
  go_loopw [15, 18, 19, 20] (fun fr py nx er wr => ∃ (x g q cq : Nat) (ao : Option Addr) (its : List Rlp.It), fr = .int .i64 x ∧ x ≤ i + k + m ∧ i + k + m ≤ x + g ∧ q ≤ x ∧ Hid (Rlp.dList (Rlp.dItem b f) g x (i + k + m) its = R) ∧ Hid (SlotI wr w.heap.size (.bool false) (.slice none 0 0) (.slice none 0 0)) ∧ Hid (SlotI wr w1.heap.size (.bool true) (.slice none 0 0) (.slice ao q cq)) ∧ Hid (OwnI wr (w1.heap.size + 1) f (.slice ao q cq) q its) ∧ Below w.heap.size w wr ∧ w1.heap.size < wr.heap.size) (fun fr _ _ _ _ => i + k + m - (intOf fr).toNat)
  case atStart =>
    refine ⟨i + k, m, 0, 0, none, [], rfl, by omega, by omega, by omega, HR.out.symm, HS1.out.below ((Below.refl _ _).alloc (Nat.le_refl _) _), SlotI.new _ _ _ _, OwnI.nil _ _ _, (((Below.refl _ _).alloc (Nat.le_refl _) _).trans (HB.out.mono (by simp))).alloc (by omega) _, by simp⟩
  case round =>
    obtain ⟨x, g, q, cq, ao, its, rfl, hx, hg, hq, HRr, HS0, HS1r, HO, hbr, hsr⟩ := hrel
    have hzr := hbr.size
    by_cases hlt : x < i + k + m
    · have hxs : x < n := by omega
      obtain ⟨g', hg', HSt⟩ := dList_step (step := Rlp.dItem b f) (acc := its) hlt hg
      rw [HRr.out] at HSt
      have HST := Lib.hid HSt
      have q0 := HS0.out.c0
      have q1 := HS0.out.c1
      have q2 := HS0.out.c2
      clear HSt HRr
      rcases hr : Rlp.dItem b f x (i + k + m) with ⟨p, cc⟩ | ⟨y, j⟩
      · have HK := Lib.hid (IH.out.at wr _ n c b x (i + k + m) (D + 1) HL.out hc HM.out hn hlt (by omega) (HY.out.below hbr) (by have := HD.out; omega) (by omega) _ hr (i + k + m) (by omega) x rfl)
        have HE : Hid (R = .error (p, cc)) := by have := HST.out; rw [hr] at this; exact this
        clear hr HST
        go_wp2_with (go_at_call 43; (with_reducible refine HK.out.mono ?_); rintro e w2 ⟨hb2, p2, rfl, hfa, hp2⟩; have hz2 := hb2.size; have hs2 : w.heap.size < w2.heap.size := (by omega); have hs3 : w1.heap.size < w2.heap.size := (by omega); have HSw := Lib.hid (HS0.out.below hb2); have q0 := HSw.out.c0; have q1 := HSw.out.c1; have q2 := HSw.out.c2; have f0 := HSw.out.f0; have f1 := HSw.out.f1; have f2 := HSw.out.f2; have HF := Lib.hid hfa; have HB2 := Lib.hid hb2; clear hfa hb2)
        refine bodyPost_ret (by simp [results, Tryd.results43, go_sem, q0, q1, q2, hs2]; try rfl) rfl ?_
        rw [HE.out]
        exact ⟨(((hbr.trans (HB2.out.mono (by omega))).setCell (by simp) _).setCell (by simp) _ |>.setCell (by simp) _).alloc (by simp; omega) _, _, rfl, (FaultAt.set (FaultAt.set (FaultAt.set HF.out (q := ⟨w.heap.size, 0, none⟩) (by simp; omega) _) (q := ⟨w.heap.size, 1, none⟩) (by simp; omega) _) (q := ⟨w.heap.size, 2, none⟩) (by simp; omega) _).below ((Below.refl _ _).alloc (Nat.le_refl _) _), by omega⟩
      · have HK := Lib.hid (IH.out.at wr _ n c b x (i + k + m) (D + 1) HL.out hc HM.out hn hlt (by omega) (HY.out.below hbr) (by have := HD.out; omega) (by omega) _ hr (i + k + m) (by omega) x rfl)
        have hbk := Rlp.dItem_back b (by rw [HL.out]; exact hn) f x (i + k + m) y j hlt (by rw [HL.out]; omega) hr
        have hj1 := hbk.1.1
        have hj2 := hbk.2
        have HE : Hid (Rlp.dList (Rlp.dItem b f) g' j (i + k + m) (its ++ [y]) = R) := by have := HST.out; rw [hr] at this; exact this.symm
        clear hr HST hbk
        go_wp2_with (first
          | (go_at_call 43; (with_reducible refine HK.out.mono ?_); rintro e w2 ⟨hb2, yl, yb, yi, rfl, hit⟩; have hz2 := hb2.size; have hs2 : w.heap.size < w2.heap.size := (by omega); have hs3 : w1.heap.size < w2.heap.size := (by omega); obtain ⟨l1, a1, n1, c1, a2, n2, c2, rfl, rfl, rfl⟩ := hit.shape; have HI := Lib.hid (HO.out.other hit (by omega)); have HSw := Lib.hid (HS1r.out.below hb2); have q0 := HSw.out.c0; have q1 := HSw.out.c1; have q2 := HSw.out.c2; have HO2 := Lib.hid (HO.out.below hb2); have HB2 := Lib.hid hb2; clear hb2 hit)
          | (at_builtin; refine wpList_append_I rfl (.tmp 76) (.tmp 78) rfl (w1.heap.size + 1) f ao q cq its _ 1 y _ _ _ (HO2.out.below (by (repeat' (first | (with_reducible exact Below.refl _ _) | (with_reducible refine Below.alloc ?_ ?_ _) | (with_reducible refine Below.drew ?_) | (with_reducible refine Below.setCell ?_ ?_ _) | (with_reducible refine Below.thn (by assumption) ?_ ?_) | (with_reducible refine below_drewN ?_ _) | go_size)))) ((HI.out.below (by (repeat' (first | (with_reducible exact Below.refl _ _) | (with_reducible refine Below.alloc ?_ ?_ _) | (with_reducible refine Below.drew ?_) | (with_reducible refine Below.setCell ?_ ?_ _) | (with_reducible refine Below.thn (by assumption) ?_ ?_) | (with_reducible refine below_drewN ?_ _) | go_size))))) (by go_cell) (by go_cell) (by go_cell) rfl rfl (Sm.of (by omega)) (by simp; omega) ?_; intro ao' c' w3 ho hg3; have HSx := Lib.hid (OwnI.grown (SlotI.below HSw.out (by (repeat' (first | (with_reducible exact Below.refl _ _) | (with_reducible refine Below.alloc ?_ ?_ _) | (with_reducible refine Below.drew ?_) | (with_reducible refine Below.setCell ?_ ?_ _) | (with_reducible refine Below.thn (by assumption) ?_ ?_) | (with_reducible refine below_drewN ?_ _) | go_size)))) (OwnI.below HO2.out (by (repeat' (first | (with_reducible exact Below.refl _ _) | (with_reducible refine Below.alloc ?_ ?_ _) | (with_reducible refine Below.drew ?_) | (with_reducible refine Below.setCell ?_ ?_ _) | (with_reducible refine Below.thn (by assumption) ?_ ?_) | (with_reducible refine below_drewN ?_ _) | go_size)))) (Nat.lt_succ_self _) hg3); have HSr := Lib.hid (OwnI.grown (SlotI.below (HS0.out.below HB2.out) (by (repeat' (first | (with_reducible exact Below.refl _ _) | (with_reducible refine Below.alloc ?_ ?_ _) | (with_reducible refine Below.drew ?_) | (with_reducible refine Below.setCell ?_ ?_ _) | (with_reducible refine Below.thn (by assumption) ?_ ?_) | (with_reducible refine below_drewN ?_ _) | go_size)))) (OwnI.below HO2.out (by (repeat' (first | (with_reducible exact Below.refl _ _) | (with_reducible refine Below.alloc ?_ ?_ _) | (with_reducible refine Below.drew ?_) | (with_reducible refine Below.setCell ?_ ?_ _) | (with_reducible refine Below.thn (by assumption) ?_ ?_) | (with_reducible refine below_drewN ?_ _) | go_size)))) (by omega) hg3); have HB3 : Hid (Below w2.heap.size w2 w3 ∨ True) := (Or.inr trivial); have HG3 := Lib.hid (grownI_below (B := w.heap.size) hg3 (OwnI.below HO2.out (by (repeat' (first | (with_reducible exact Below.refl _ _) | (with_reducible refine Below.alloc ?_ ?_ _) | (with_reducible refine Below.drew ?_) | (with_reducible refine Below.setCell ?_ ?_ _) | (with_reducible refine Below.thn (by assumption) ?_ ?_) | (with_reducible refine below_drewN ?_ _) | go_size)))) (by omega) (by simp; omega)); have p2 := HSx.out.c2; have f2 := HSx.out.f2; have HO3 := Lib.hid ho; have hz3 := HSx.out.lt; clear ho hg3))
        go_roundw
        case rel =>
          refine ⟨j, g', q + 1, c', ao', its ++ [y], by go_num, by omega, by omega, by omega, HE, HSr.out.keep (by simp) (Below.heap_setCell _ _ _ _ (by simp; omega)), HSx.out.set2 _, HO3.out.setBelow (Nat.lt_succ_self _) _, ?_, by simpa using hz3⟩
          refine Below.setCell (Below.trans ?_ HG3.out) (by simp; omega) _
          exact ((hbr.trans (HB2.out.mono (by omega))).alloc (by omega) _).alloc (by simp; omega) _
        case measure => simp [intOf]; omega
    · have hE : R = .ok its := by rw [← HRr.out, dList_end hlt]
      have HE := Lib.hid hE
      have q0 := HS0.out.c0
      have q1 := HS0.out.c1
      have q2 := HS0.out.c2
      have f0 := HS0.out.f0
      have f1 := HS0.out.f1
      have f2 := HS0.out.f2
      have p0 := HS1r.out.c0
      have p1 := HS1r.out.c1
      have p2 := HS1r.out.c2
      have hxe : x = i + k + m := by omega
      clear hE HRr
      go_wp2
      refine bodyPost_ret (by simp [results, Tryd.results43, go_sem, q0, q1, q2]; try rfl) rfl ?_
      rw [HE.out]
      have hf : q ≤ cq ∧ cq ≤ maxLen := by
        rcases HO.out.form with ⟨e, e2⟩ | ⟨g2, c2, e, _, _, h1, h2⟩
        · injection e with e1 e2 e3; subst e3; omega
        · injection e with e1 e2 e3; subst e3; exact ⟨h1, h2⟩
      refine ⟨(hbr.setCell (by simp) _).setCell (by simp) _ |>.setCell (by simp) _, .bool true, .slice none 0 0, .slice ao q cq, by rw [show ((i + k + m : Nat) : Int) = (i : Int) + k + m by omega], rfl, ⟨none, 0, rfl, Nat.le_refl _, Nat.zero_le _, fun _ => rfl, fun i hi => by simp [Rlp.It.bytes] at hi⟩, ao, cq, ?_, ?_, hf.2, ?_⟩
      · show _ = Value.slice ao its.length cq
        rw [HO.out.len]
      · show its.length ≤ cq
        rw [HO.out.len]; exact hf.1
      · intro i hi
        have := ((((HO.out.setBelow (a := ⟨w.heap.size, 0, none⟩) (by simp; omega) (.bool true)).setBelow (a := ⟨w.heap.size, 1, none⟩) (by simp; omega) (.slice none 0 0)).setBelow (a := ⟨w.heap.size, 2, none⟩) (by simp; omega) (.slice ao q cq))).at i hi
        obtain ⟨b, off, u, v, z, e, hF, hl, c0, c1, c2, hx⟩ := this
        exact ⟨b, off, u, v, z, e, by omega, hl, c0, c1, c2, hx.move fun b hF hl => ⟨by omega, hl, rfl⟩⟩
theorem item_V : ∀ f, f ≤ 16 → ItemAt F f := by
  intro f
  induction f with
  | zero => intro _; exact item_zero
  | succ f ih =>
    intro hf w a n c b i s D hl hc hcm hn his hsn hb hD _
    obtain ⟨bb, off, rfl, _⟩ := hb 0 (by omega)
    rw [Rlp.dItem]
    cases hh : Rlp.head b i s with
    | error k => exact item_err f w _ n c b i s D hl hc hcm hn his hsn hb (by omega) (by omega) k hh
    | ok p =>
      obtain ⟨l, k, m⟩ := p
      cases l with
      | false => exact item_byt f w bb off n c b i s D hl hc hcm hn his hsn hb (by omega) (by omega) k m hh
      | true =>
        have h := item_list f (ih (by omega)) w bb off n c b i s D hl hc hcm hn his hsn hb hD (by omega) k m hh
        simp only [if_true]
        unfold listEnd at h
        cases hd : Rlp.dList (Rlp.dItem b f) m (i + k) (i + k + m) [] with
        | error e => rw [hd] at h; exact h
        | ok its => rw [hd] at h; exact h
end Go.Proofs.YtgcpnhnckbgjmaaDoor
