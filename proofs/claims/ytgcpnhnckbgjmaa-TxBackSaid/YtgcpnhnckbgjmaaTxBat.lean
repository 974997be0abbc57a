/-
  Rows of byte slices where they lie; tx.Batch by its contract.
-/
import Derived.Test.YtgcpnhnckbgjmaaTxUn
set_option linter.unusedVariables false
set_option linter.unusedSimpArgs false
namespace Go.Proofs.Ytgcpnhnckbgjmaa
open Go.RowKit
variable {F : Nat → Prop}
/-- Byte slices where they lie, in blocks of a class; s: where each slice's bytes are, and its capacity. -/
structure BsAt (F : Nat → Prop) (w : World) (a : Option Addr) (s : Nat → AC) (ls : List (List UInt8)) : Prop where
  row : ∀ i, i < ls.length → ∃ b off, a = some ⟨b, off, none⟩ ∧ b < w.heap.size ∧ w.cell? ⟨b, off + i, none⟩ = some (.slice (s i).a (ls.getD i []).length (s i).c)
  len : ∀ i, i < ls.length → (ls.getD i []).length ≤ (s i).c ∧ (s i).c ≤ maxLen ∧ ((s i).a = none → (s i).c = 0)
  byt : ∀ i, i < ls.length → BytesF F w (s i).a (ls.getD i [])
theorem BsAt.below {w w' : World} {a : Option Addr} {s : Nat → AC} {ls : List (List UInt8)} (h : BsAt F w a s ls) (hb : Below w.heap.size w w') : BsAt F w' a s ls :=
  ⟨fun i hi => by
    obtain ⟨b, off, e, hl, hc⟩ := h.row i hi
    exact ⟨b, off, e, by have := hb.size; omega, by rw [hb.cell (p := ⟨b, off + i, none⟩) hl]; exact hc⟩, h.len, fun i hi => (h.byt i hi).below hb⟩
/-- The item of byte slices. -/
def bItem (ls : List (List UInt8)) : Rlp.It := .mk true [] (ls.map fun l => .mk false l [])
/-- A batch's bytes, or what is wrong. -/
def bat (ls : List (List UInt8)) : Except Nat (List UInt8) := if 8 < ls.length then .error 5 else enc (bItem ls)
/-- One item's cells, and those of the first items. -/
def lf1 (s : Nat → AC) (ls : List (List UInt8)) (i : Nat) : List Value := [.bool false, .slice (s i).a (ls.getD i []).length (s i).c, .slice none 0 0]
def lfC (s : Nat → AC) (ls : List (List UInt8)) (j : Nat) : List Value := (List.range j).flatMap (lf1 s ls)
theorem lfC_succ (s : Nat → AC) (ls : List (List UInt8)) (j : Nat) : lfC s ls (j + 1) = lfC s ls j ++ lf1 s ls j := by simp [lfC, List.range_succ]
theorem lfC_len (s : Nat → AC) (ls : List (List UInt8)) (j : Nat) : (lfC s ls j).length = j * 3 := by
  induction j with
  | zero => rfl
  | succ j ih => rw [lfC_succ, List.length_append, ih]; simp [lf1]; omega
theorem lfC_get (s : Nat → AC) (ls : List (List UInt8)) (i k : Nat) (hk : k < 3) (j : Nat) (hj : i < j) : (lfC s ls j)[i * 3 + k]? = (lf1 s ls i)[k]? := by
  induction j with
  | zero => omega
  | succ j ih =>
    have hl := lfC_len s ls j
    rw [lfC_succ]
    by_cases h : i < j
    · rw [List.getElem?_append_left (by omega)]; exact ih h
    · have : i = j := by omega
      subst this
      rw [List.getElem?_append_right (by omega), hl, show i * 3 + k - i * 3 = k by omega]
theorem bItem_get (ls : List (List UInt8)) (i : Nat) (hi : i < ls.length) : (bItem ls).items.getD i default = .mk false (ls.getD i []) [] := by
  show (ls.map fun l => Rlp.It.mk false l []).getD i default = _
  rw [List.getD_eq_getElem?_getD, List.getElem?_map, List.getElem?_eq_getElem hi, List.getD_eq_getElem?_getD, List.getElem?_eq_getElem hi]; rfl
theorem cat_len (ls : List (List UInt8)) (M : Nat) (hM : ∀ i, i < ls.length → (ls.getD i []).length ≤ M) : allB M 2 (bItem ls) := by
  refine ⟨by simp [bItem, Rlp.It.bytes], fun i hi => ?_⟩
  have hi : i < ls.length := by simpa [bItem, Rlp.It.items] using hi
  rw [bItem_get ls i hi]
  exact ⟨hM i hi, fun i hi => by simp [Rlp.It.items] at hi⟩
/-- What lies there in the loop. -/
structure BL (w : World) (s : Nat → AC) (ls : List (List UInt8)) (j cq : Nat) (ao : Option Addr) (W : World) : Prop where
  b : Below w.heap.size w W
  x : SlotI W w.heap.size (.bool true) (.slice none 0 0) (.slice ao j cq)
  o : W.ownsRow (w.heap.size + 1) TI 3 (.slice ao j cq) j (lfC s ls j)
theorem BL.below {w : World} {s : Nat → AC} {ls : List (List UInt8)} {j cq : Nat} {ao : Option Addr} {W W' : World} (h : BL w s ls j cq ao W) (hb : Below W.heap.size W W') : BL w s ls j cq ao W' :=
  ⟨h.b.trans (hb.mono h.b.size), h.x.below hb, ownsRow_below h.o hb⟩
theorem BL.isIt {w : World} {s : Nat → AC} {ls : List (List UInt8)} {cq : Nat} {ao : Option Addr} {W : World} (h : BL w s ls ls.length cq ao W) {a : Option Addr} (hB : BsAt F w a s ls) : IsIt (fun _ => True) W 2 (bItem ls) (.bool true) (.slice none 0 0) (.slice ao ls.length cq) := by
  obtain ⟨a', c', e, h1, h2⟩ := ownsRow_shape h.o
  injection e with e1 e2 e3
  subst e3
  have hl : (bItem ls).items.length = ls.length := by simp [bItem, Rlp.It.items]
  refine ⟨rfl, ⟨none, 0, rfl, Nat.le_refl _, Nat.zero_le _, fun _ => rfl, fun i hi => by simp [bItem, Rlp.It.bytes] at hi⟩, ao, cq, by rw [hl], by rw [hl]; exact h1, h2, fun i hi => ?_⟩
  rw [hl] at hi
  obtain ⟨g, e, _, hg, c0⟩ := rowCell h.o (i * 3 + 0) (by omega)
  obtain ⟨_, e', _, _, c1⟩ := rowCell h.o (i * 3 + 1) (by omega)
  rw [e] at e'; injection e' with e'; injection e' with e'; subst e'
  obtain ⟨_, e', _, _, c2⟩ := rowCell h.o (i * 3 + 2) (by omega)
  rw [e] at e'; injection e' with e'; injection e' with e'; subst e'
  rw [lfC_get s ls i _ (by decide) _ hi] at c0 c1 c2
  obtain ⟨l1, l2, l3⟩ := hB.len i hi
  refine ⟨g, 0, _, _, _, e, trivial, hg, by rw [Nat.zero_add]; exact c0, by rw [Nat.zero_add]; exact c1, by rw [Nat.zero_add]; exact c2, ?_⟩
  rw [bItem_get ls i hi]
  exact leaf_is rfl l1 l2 l3 (((hB.byt i hi).below h.b).move fun b _ hl => ⟨trivial, hl, rfl⟩) 0
structure BL3 (w : World) (s : Nat → AC) (ls : List (List UInt8)) (j cq c' : Nat) (ao ao' : Option Addr) (W : World) : Prop where
  b : Below w.heap.size w W
  x : SlotI W w.heap.size (.bool true) (.slice none 0 0) (.slice ao j cq)
  o : W.ownsRow (w.heap.size + 1) TI 3 (.slice ao' (j + 1) c') (j + 1) (lfC s ls (j + 1))
theorem BL.app {w : World} {s : Nat → AC} {ls : List (List UInt8)} {j cq c' : Nat} {ao ao' : Option Addr} {W W' : World} {news : List Value} (h : BL w s ls j cq ao W) (hn : news = lf1 s ls j)
    (ho : W'.ownsRow (w.heap.size + 1) TI 3 (.slice ao' (j + 1) c') (j + 1) (lfC s ls j ++ news)) (hg : W.grownBy W' (Value.slice ao j cq).ownBlock) : BL3 w s ls j cq c' ao ao' W' := by
  have hl := h.x.lt
  have hb : Below (w.heap.size + 1) W W' := grownR_below hg h.o (Nat.le_refl _) (by omega)
  refine ⟨h.b.trans (hb.mono (by omega)), h.x.keep hb.size (hb.block _ (by omega)), ?_⟩
  rw [lfC_succ, ← hn]; exact ho
theorem BL3.store {w : World} {s : Nat → AC} {ls : List (List UInt8)} {j cq c' : Nat} {ao ao' : Option Addr} {W : World} (h : BL3 w s ls j cq c' ao ao' W) : BL w s ls (j + 1) c' ao' (W.setCell ⟨w.heap.size, 2, none⟩ (.slice ao' (j + 1) c')) :=
  ⟨h.b.setCell (Nat.le_refl _) _, h.x.set2 _, ownsRow_setCell_below h.o (Nat.lt_succ_self _) _⟩
set_option maxRecDepth 100000 in
set_option maxHeartbeats 8000000 in
theorem bat_V (w : World) (a : Option Addr) (n c : Nat) (s : Nat → AC) (ls : List (List UInt8)) (hn : ls.length = n) (hnm : n ≤ maxLen) (hB : BsAt F w a s ls) (M : Nat) (hM : ∀ i, i < ls.length → (ls.getD i []).length ≤ M) (hS : Room M 2) :
    Calls Try.prog 11 #[.slice a n c] w (EncRet w (bat ls)) := by
  have HB := Lib.hid hB
  have HN := Lib.hid hn
  have HM := Lib.hid hM
  have HS := Lib.hid hS
  clear hM hB hS
  unfold maxLen at hnm
  by_cases h8 : 8 < n
  · have E : Hid (bat ls = .error 5) := by show _ = _; unfold bat; rw [HN.out, if_pos h8]
    clear hn
    go_enter Try.func11, Try.ntmps11
    go_wp2
    go_returns
    rw [E.out]
    exact ⟨rfl, by (repeat' (first | (with_reducible exact Below.refl _ _) | (with_reducible refine Below.alloc ?_ ?_ _) | (with_reducible refine Below.drew ?_) | (with_reducible refine Below.setCell ?_ ?_ _) | (with_reducible refine Below.thn (by assumption) ?_ ?_) | (with_reducible refine below_drewN ?_ _) | go_size))⟩
  · have E : Hid (bat ls = enc (bItem ls)) := by show _ = _; unfold bat; rw [HN.out, if_neg h8]
    clear hn
    go_enter Try.func11, Try.ntmps11
    go_wp2
    go_loopw [6, 14] (fun bb idx wr => ∃ (j cq : Nat) (ao : Option Addr), j ≤ n ∧ idx = .int .i64 j ∧ Hid (BL w s ls j cq ao wr)) (fun _ idx _ => n - (intOf idx).toNat)
    case atStart => exact ⟨0, 0, none, by omega, rfl, (by (repeat' (first | (with_reducible exact Below.refl _ _) | (with_reducible refine Below.alloc ?_ ?_ _) | (with_reducible refine Below.drew ?_) | (with_reducible refine Below.setCell ?_ ?_ _) | (with_reducible refine Below.thn (by assumption) ?_ ?_) | (with_reducible refine below_drewN ?_ _) | go_size))), SlotI.new _ _ _ _, World.ownsRow_nil _ _ _ _⟩
    case round =>
      obtain ⟨j, cq, ao, hj, rfl, HR⟩ := hrel
      have hwr := HR.out.x.lt
      by_cases hlt : j < n
      · obtain ⟨b, off, rfl, hbl, hc⟩ := HB.out.row j (by rw [HN.out]; exact hlt)
        have hc2 := HR.out.b.cell (p := ⟨b, off + j, none⟩) hbl
        rw [hc] at hc2
        have hx2 := HR.out.x.c2
        clear hc
        obtain ⟨L, hL⟩ : ∃ L, ls.getD j [] = L := ⟨_, rfl⟩
        obtain ⟨m, hm⟩ : ∃ m, L.length = m := ⟨_, rfl⟩
        rw [hL, hm] at hc2
        have HL := Lib.hid hL
        have HMm := Lib.hid hm
        clear hL hm
        have HNw : Hid ([Value.bool false, .slice (s j).a m (s j).c, .slice none 0 0] = lf1 s ls j) := by show _ = _; unfold lf1; rw [HL.out, HMm.out]
        go_wp2_with (at_builtin; have HRx := Lib.hid (HR.out.below ((Below.refl _ _).alloc (Nat.le_refl _) (.cells #[.bool false, .slice (s j).a m (s j).c, .slice none 0 0] TI))); refine wpList_append_R rtI rfl (.tmp 19) (.tmp 22) rfl (w.heap.size + 1) ao j cq _ wr.heap.size 1 [.bool false, .slice (s j).a m (s j).c, .slice none 0 0] HRx.out.o rfl (newC rfl) (by simp [Value.oneCell']) (Sm.of (by omega)) (by unfold maxLen; omega) (by simp; omega) rfl rfl ?_; intro ao' c' w3 ho hg hw; have H3 := Lib.hid (HRx.out.app HNw.out ho hg); have p2 := H3.out.x.c2; have f2 := H3.out.x.f2; clear ho hg hw)
        go_roundw
        case rel => exact ⟨j + 1, c', ao', by omega, by go_num, H3.out.store⟩
        case measure => simp [intOf]; omega
      · have hjn : j = n := by omega
        subst hjn
        have p0 := HR.out.x.c0
        have p1 := HR.out.x.c1
        have p2 := HR.out.x.c2
        have HIt : Hid (IsIt (fun _ => True) wr 2 (bItem ls) (.bool true) (.slice none 0 0) (.slice ao j cq)) := by
          have h := HR.out
          have hj' := HN.out
          subst hj'
          exact h.isIt HB.out
        have HA := Lib.hid (cat_len ls M HM.out)
        cases hE : enc (bItem ls) with
        | error k =>
          have HE := Lib.hid hE
          go_wp2_with (go_at_call 17; (with_reducible refine (encode_V M 2 HS.out (bItem ls) _ _ _ _ HIt.out HA.out).mono ?_); rintro e w2 he; rw [HE.out] at he; obtain ⟨rfl, hb2⟩ := he; have HB2 := Lib.hid hb2; clear hb2)
          go_returns
          rw [E.out, HE.out]
          exact ⟨rfl, HR.out.b.trans (HB2.out.mono HR.out.b.size)⟩
        | ok bs =>
          have HE := Lib.hid hE
          go_wp2_with (go_at_call 17; (with_reducible refine (encode_V M 2 HS.out (bItem ls) _ _ _ _ HIt.out HA.out).mono ?_); rintro e w2 he; rw [HE.out] at he; obtain ⟨an, nn, cn, rfl, ho, hb2⟩ := he; have HB2 := Lib.hid hb2; have HO := Lib.hid ho; clear hb2 ho)
          go_returns
          rw [E.out, HE.out]
          exact ⟨_, _, _, rfl, HO.out.le HR.out.b.size, HR.out.b.trans (HB2.out.mono HR.out.b.size)⟩
end Go.Proofs.Ytgcpnhnckbgjmaa
