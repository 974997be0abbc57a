/-
  The walk of RlpDecodes: it returns true for every input.
-/
import Derived.Test.YtcblbmjcfckgjaaDoorRDec
import Derived.Test.YtcblbmjcfckgjaaDoorSame
import Derived.Test.YtcblbmjcfckgjaaDoorDecPl
import Derived.Test.YtcblbmjcfckgjaaDoorOpen
import Derived.Test.YtcblbmjcfckgjaaDoorLaid
set_option linter.unusedVariables false
set_option linter.unusedSimpArgs false
namespace Go.Proofs.YtcblbmjcfckgjaaDoor
open Go.RowKit Go.ChangeShapes Go.WideShapes
/-- A length that the claims' form reaches. -/
structure Reach (n : Nat) : Prop where
  le : n ≤ 140737488351232
theorem enc_V (x : Rlp.It) (bs : List UInt8) (hx : Rlp.decode bs = .ok x) {F : Nat → Prop} (vl vb vi : Value) (w : World) (h : IsIt F w 16 x vl vb vi) :
    Calls Tryd.prog 11 #[.agg #[vl, vb, vi]] w fun e w' => ∃ ao n c, e = .returned (.tuple #[.slice ao n c, .nilIface]) ∧ OwnB w' w.heap.size ao n c bs ∧ Below w.heap.size w w' := by
  have he := (decode_all hx).2
  have := encode_V 4096 16 ⟨Sm.of (by omega)⟩ x vl vb vi w h (decode_all hx).1
  rw [he] at this
  exact this
theorem same_it {F E : Nat → Prop} (k k' : Nat) (x : Rlp.It) (u v z u' v' z' : Value) (w : World) (h1 : IsIt F w k x u v z) (h2 : IsIt E w k' x u' v' z') :
    Calls Tryd.prog 10 #[.agg #[u, v, z], .agg #[u', v', z']] w fun e w' => e = .returned (.bool true) ∧ Below w.heap.size w w' :=
  same_V (k + k') x u v z u' v' z' w (h1.le (by omega)) (h2.le (by omega))
structure DW (w w1 : World) (b2 b3 : Nat) (ao : Option Addr) (n c : Nat) (us : List UInt8) (x : Rlp.It) (u v z u' v' z' : Value) (W : World) : Prop where
  b : Below w.heap.size w W
  m : OwnB W w.heap.size ao n c us
  s : SlotI W b2 u v z
  t : SlotI W b3 u' v' z'
  ix : IsIt (fun b => w1.heap.size ≤ b) W 16 x u v z
  iy : IsIt (fun b => w1.heap.size ≤ b) W 17 x u' v' z'
theorem DW.set {w w1 : World} {b2 b3 g n c : Nat} {us : List UInt8} {x : Rlp.It} {u v z u' v' z' : Value} {W : World} (h : DW w w1 b2 b3 (some ⟨g, 0, none⟩) n c us x u v z u' v' z' W) (hg : g < w1.heap.size) (h2 : w1.heap.size ≤ b2) (h3 : w1.heap.size ≤ b3) (j : Nat) (hj : j < n) : DW w w1 b2 b3 (some ⟨g, 0, none⟩) n c (us.set j 238) x u v z u' v' z' (W.setCell ⟨g, j, none⟩ (.int .u8 238)) := by
  have hb : w.heap.size ≤ g := by
    rcases h.m.form with ⟨e, _⟩ | ⟨g', e, hb, _⟩
    · cases e
    · injection e with e; injection e with e; subst e; exact hb
  exact ⟨h.b.setCell hb _, h.m.set j hj 238 238 rfl, h.s.keep (by simp) (Below.heap_setCell _ _ _ _ (by simp; omega)), h.t.keep (by simp) (Below.heap_setCell _ _ _ _ (by simp; omega)),
    h.ix.move fun b hF hl => ⟨hF, by simpa using hl, Below.heap_setCell _ _ _ _ (by simp; omega)⟩, h.iy.move fun b hF hl => ⟨hF, by simpa using hl, Below.heap_setCell _ _ _ _ (by simp; omega)⟩⟩
theorem smReach {n : Nat} (h : Reach n) : Sm (0 + n) := by have := h.le; unfold Sm; omega
set_option maxRecDepth 100000 in
set_option maxHeartbeats 8000000 in
theorem decodes_err (w : World) (a0 : Option Addr) (len0 cap0 : Nat) (bs : List UInt8) (hl : bs.length = len0) (hlc : len0 ≤ cap0) (hcm : cap0 ≤ maxLen) (hn : a0 = none → cap0 = 0) (hb : BytesF (fun _ => True) w a0 bs) (HE : Hid (ErrType w)) (hre : Reach len0) (p k : Nat) (h : Rlp.decode bs = .error (p, k)) :
    Calls Tryd.prog 3 #[.slice a0 len0 cap0] w fun e w' => e = .returned (.bool true) ∧ Below w.heap.size w w' := by
  have HDc := Lib.hid h
  have HL := Lib.hid hl
  have HY := Lib.hid hb
  have HCM := Lib.hid hcm
  have HN := Lib.hid hn
  have hkz : k ≠ 0 := decode_ne h
  have hk0 : ((k : Int) == 0) = false := by simp; omega
  have hk1 : ((k : Int) != 0) = true := by simp; omega
  have nn := run_guardn_str bs bs
  have ne := run_neq_str bs bs
  have nd : decide (bs ≠ bs) = false := by simp
  have gn := run_guard_str bs bs
  have eq := run_eql_str bs bs
  have ed : decide (bs = bs) = true := by simp
  unfold maxLen at hcm
  clear h hl hb hn
  go_enter Tryd.func3, Tryd.ntmps3
  go_wp2_with (first
    | (at_builtin; refine wpList_append_B rfl (.tmp 13) (.tmp 14) rfl w.heap.size (some ⟨w.heap.size, 0, none⟩) 0 0 [] a0 len0 cap0 bs (own_none w) (HY.out.below ((Below.refl _ _).alloc (Nat.le_refl _) _)) rfl rfl HL.out HN.out (smReach hre) (by simp) ?_; intro ao c1 w1 ho hg _; have hbb : Below w.heap.size w w1 := (((Below.refl _ _).alloc (Nat.le_refl _) _).trans (grown_below hg (own_none w) (Nat.le_refl _) (by simp))); have HM1 : Hid (OwnB w1 w.heap.size ao len0 c1 bs) := (by show OwnB _ _ _ _ _ _; simpa using ho); have HB1 := Lib.hid hbb; have HE1 : Hid (ErrType w1) := HE.out.below hbb; clear ho hg hbb)
    | (go_at_call 6; (with_reducible refine (dec_V _ ao len0 c1 bs HL.out HM1.out.cap.1 HM1.out.cap.2.1 HM1.out.bytes).mono ?_); rintro e w2 he; rw [HDc.out] at he; obtain ⟨hb2, q, rfl, hfa, hq⟩ := he; have hbz : Below w1.heap.size w1 (w2.alloc (.cells #[.bool false, .slice none 0 0, .slice none 0 0] TI)) := (hb2.alloc hb2.size _); have hw2z : w1.heap.size ≤ (w2.alloc (.cells #[.bool false, .slice none 0 0, .slice none 0 0] TI)).heap.size := hbz.size; have hw12 : w1.heap.size ≤ w2.heap.size := hb2.size; have HB2 : Hid (Below w.heap.size w (w2.alloc (.cells #[.bool false, .slice none 0 0, .slice none 0 0] TI))) := HB1.out.trans (hbz.mono HB1.out.size); have HM2 := Lib.hid (HM1.out.below hbz); have HY2 := Lib.hid (HY.out.below HB2.out); have HE2 : Hid (ErrType (w2.alloc (.cells #[.bool false, .slice none 0 0, .slice none 0 0] TI))) := HE.out.below HB2.out; have HS2 := Lib.hid (SlotI.new w2 (.bool false) (.slice none 0 0) (.slice none 0 0)); have HF2 := Lib.hid (hfa.below ((Below.refl _ _).alloc (Nat.le_refl _) (.cells #[.bool false, .slice none 0 0, .slice none 0 0] TI))); clear hfa hb2 hbz)
    | (go_at_call 7; (with_reducible refine (rdec_V _ a0 len0 cap0 bs HL.out hlc HCM.out HY2.out).mono ?_); rintro e w3 he; rw [HDc.out] at he; obtain ⟨hb3, rfl⟩ := he; have hbz : Below (w2.alloc (.cells #[.bool false, .slice none 0 0, .slice none 0 0] TI)).heap.size (w2.alloc (.cells #[.bool false, .slice none 0 0, .slice none 0 0] TI)) (w3.alloc (.cells #[.bool false, .slice none 0 0, .slice none 0 0] TI)) := (hb3.alloc hb3.size _); have hw23 : (w2.alloc (.cells #[.bool false, .slice none 0 0, .slice none 0 0] TI)).heap.size ≤ w3.heap.size := hb3.size; have HB3 : Hid (Below w.heap.size w (w3.alloc (.cells #[.bool false, .slice none 0 0, .slice none 0 0] TI))) := HB2.out.trans (hbz.mono HB2.out.size); have HM3 := Lib.hid (HM2.out.below hbz); have HY3 := Lib.hid (HY.out.below HB3.out); have HE3 : Hid (ErrType (w3.alloc (.cells #[.bool false, .slice none 0 0, .slice none 0 0] TI))) := HE.out.below HB3.out; have HS3 := Lib.hid (HS2.out.below hbz); have HT3 := Lib.hid (SlotI.new w3 (.bool false) (.slice none 0 0) (.slice none 0 0)); have HF3 := Lib.hid (HF2.out.below hbz); have p0 := HS3.out.c0; have p1 := HS3.out.c1; have p2 := HS3.out.c2; clear  hb3 hbz)
    | (go_at_call 8; (with_reducible refine (why_fault q 0 p k _ HE3 HF3.out.pl HF3.out.why).mono ?_); rintro e w4 ⟨rfl, hb4⟩; have HB4 : Hid (Below w.heap.size w w4) := HB3.out.trans (hb4.mono HB3.out.size); have HM4 := Lib.hid (HM3.out.below hb4); have HY4 := Lib.hid (HY.out.below HB4.out); have HE4 : Hid (ErrType w4) := HE.out.below HB4.out; have HS4 := Lib.hid (HS3.out.below hb4); have HT4 := Lib.hid (HT3.out.below hb4); have p0_4 := HS4.out.c0; have p1_4 := HS4.out.c1; have p2_4 := HS4.out.c2; have t0_4 := HT4.out.c0; have t1_4 := HT4.out.c1; have t2_4 := HT4.out.c2; clear hb4)
    | (go_at_call 9; (with_reducible refine (fixed3_V _ HE4).mono ?_); rintro e w5 ⟨rfl, hb5⟩; have HB5 : Hid (Below w.heap.size w w5) := HB4.out.trans (hb5.mono HB4.out.size); have HM5 := Lib.hid (HM4.out.below hb5); have HY5 := Lib.hid (HY.out.below HB5.out); have HE5 : Hid (ErrType w5) := HE.out.below HB5.out; have HS5 := Lib.hid (HS4.out.below hb5); have HT5 := Lib.hid (HT4.out.below hb5); have p0_5 := HS5.out.c0; have p1_5 := HS5.out.c1; have p2_5 := HS5.out.c2; have t0_5 := HT5.out.c0; have t1_5 := HT5.out.c1; have t2_5 := HT5.out.c2; clear hb5)
    | (go_at_call 10; (with_reducible refine (same_it 1 1 (.mk false [] []) _ _ _ _ _ _ _ (zi_is (fun _ => True) w5 0) (zi_is (fun _ => True) w5 0)).mono ?_); rintro e w6 ⟨rfl, hb6⟩; have HB6 : Hid (Below w.heap.size w w6) := HB5.out.trans (hb6.mono HB5.out.size); have HM6 := Lib.hid (HM5.out.below hb6); have HY6 := Lib.hid (HY.out.below HB6.out); have HE6 : Hid (ErrType w6) := HE.out.below HB6.out; have HS6 := Lib.hid (HS5.out.below hb6); have HT6 := Lib.hid (HT5.out.below hb6); have p0_6 := HS6.out.c0; have p1_6 := HS6.out.c1; have p2_6 := HS6.out.c2; have t0_6 := HT6.out.c0; have t1_6 := HT6.out.c1; have t2_6 := HT6.out.c2; clear hb6; have cv1 := HM6.out.str; have cv2 := str_V HL.out HN.out HY6.out))
  go_returns
  exact ⟨rfl, HB6.out⟩
set_option maxRecDepth 100000 in
set_option maxHeartbeats 8000000 in
theorem decodes_ok (w : World) (a0 : Option Addr) (len0 cap0 : Nat) (bs : List UInt8) (hl : bs.length = len0) (hlc : len0 ≤ cap0) (hcm : cap0 ≤ maxLen) (hn : a0 = none → cap0 = 0) (hb : BytesF (fun _ => True) w a0 bs) (HE : Hid (ErrType w)) (hre : Reach len0) (x : Rlp.It) (h : Rlp.decode bs = .ok x) :
    Calls Tryd.prog 3 #[.slice a0 len0 cap0] w fun e w' => e = .returned (.bool true) ∧ Below w.heap.size w w' := by
  have HDc := Lib.hid h
  have HL := Lib.hid hl
  have HY := Lib.hid hb
  have HCM := Lib.hid hcm
  have HN := Lib.hid hn
  skip
  have nn := run_guardn_str bs bs
  have ne := run_neq_str bs bs
  have nd : decide (bs ≠ bs) = false := by simp
  have gn := run_guard_str bs bs
  have eq := run_eql_str bs bs
  have ed : decide (bs = bs) = true := by simp
  unfold maxLen at hcm
  clear h hl hb hn
  go_enter Tryd.func3, Tryd.ntmps3
  go_wp2_with (first
    | (at_builtin; refine wpList_append_B rfl (.tmp 13) (.tmp 14) rfl w.heap.size (some ⟨w.heap.size, 0, none⟩) 0 0 [] a0 len0 cap0 bs (own_none w) (HY.out.below ((Below.refl _ _).alloc (Nat.le_refl _) _)) rfl rfl HL.out HN.out (smReach hre) (by simp) ?_; intro ao c1 w1 ho hg _; have hbb : Below w.heap.size w w1 := (((Below.refl _ _).alloc (Nat.le_refl _) _).trans (grown_below hg (own_none w) (Nat.le_refl _) (by simp))); have HM1 : Hid (OwnB w1 w.heap.size ao len0 c1 bs) := (by show OwnB _ _ _ _ _ _; simpa using ho); have HB1 := Lib.hid hbb; have HE1 : Hid (ErrType w1) := HE.out.below hbb; clear ho hg hbb)
    | (go_at_call 6; (with_reducible refine (dec_V _ ao len0 c1 bs HL.out HM1.out.cap.1 HM1.out.cap.2.1 HM1.out.bytes).mono ?_); rintro e w2 he; rw [HDc.out] at he; obtain ⟨hb2, vl, vb, vi, rfl, hit⟩ := he; obtain ⟨l1, a1, n1, c11, a2, n2, c2, rfl, rfl, rfl⟩ := hit.shape; have hbz : Below w1.heap.size w1 (w2.alloc (.cells #[.bool l1, .slice a1 n1 c11, .slice a2 n2 c2] TI)) := (hb2.alloc hb2.size _); have hw2z : w1.heap.size ≤ (w2.alloc (.cells #[.bool l1, .slice a1 n1 c11, .slice a2 n2 c2] TI)).heap.size := hbz.size; have hw12 : w1.heap.size ≤ w2.heap.size := hb2.size; have HB2 : Hid (Below w.heap.size w (w2.alloc (.cells #[.bool l1, .slice a1 n1 c11, .slice a2 n2 c2] TI))) := HB1.out.trans (hbz.mono HB1.out.size); have HM2 := Lib.hid (HM1.out.below hbz); have HY2 := Lib.hid (HY.out.below HB2.out); have HE2 : Hid (ErrType (w2.alloc (.cells #[.bool l1, .slice a1 n1 c11, .slice a2 n2 c2] TI))) := HE.out.below HB2.out; have HS2 := Lib.hid (SlotI.new w2 (.bool l1) (.slice a1 n1 c11) (.slice a2 n2 c2)); have HX2 := Lib.hid (hit.below ((Below.refl _ _).alloc (Nat.le_refl _) (.cells #[.bool l1, .slice a1 n1 c11, .slice a2 n2 c2] TI))); clear hit hb2 hbz)
    | (go_at_call 7; (with_reducible refine (rdec_V _ a0 len0 cap0 bs HL.out hlc HCM.out HY2.out).mono ?_); rintro e w3 he; rw [HDc.out] at he; obtain ⟨hb3, vl, vb, vi, rfl, hit⟩ := he; obtain ⟨l3, a3, n3, c3, a4, n4, c4, rfl, rfl, rfl⟩ := hit.shape; have hbz : Below (w2.alloc (.cells #[.bool l1, .slice a1 n1 c11, .slice a2 n2 c2] TI)).heap.size (w2.alloc (.cells #[.bool l1, .slice a1 n1 c11, .slice a2 n2 c2] TI)) (w3.alloc (.cells #[.bool l3, .slice a3 n3 c3, .slice a4 n4 c4] TI)) := (hb3.alloc hb3.size _); have hw23 : (w2.alloc (.cells #[.bool l1, .slice a1 n1 c11, .slice a2 n2 c2] TI)).heap.size ≤ w3.heap.size := hb3.size; have HB3 : Hid (Below w.heap.size w (w3.alloc (.cells #[.bool l3, .slice a3 n3 c3, .slice a4 n4 c4] TI))) := HB2.out.trans (hbz.mono HB2.out.size); have HM3 := Lib.hid (HM2.out.below hbz); have HY3 := Lib.hid (HY.out.below HB3.out); have HE3 : Hid (ErrType (w3.alloc (.cells #[.bool l3, .slice a3 n3 c3, .slice a4 n4 c4] TI))) := HE.out.below HB3.out; have HS3 := Lib.hid (HS2.out.below hbz); have HT3 := Lib.hid (SlotI.new w3 (.bool l3) (.slice a3 n3 c3) (.slice a4 n4 c4)); have HX3 := Lib.hid (HX2.out.below hbz); have HZ3 : Hid (IsIt (fun b => w1.heap.size ≤ b) (w3.alloc (.cells #[.bool l3, .slice a3 n3 c3, .slice a4 n4 c4] TI)) 17 x (.bool l3) (.slice a3 n3 c3) (.slice a4 n4 c4)) := (hit.below ((Below.refl _ _).alloc (Nat.le_refl _) (.cells #[.bool l3, .slice a3 n3 c3, .slice a4 n4 c4] TI))).move (fun b hF hl => ⟨Nat.le_trans hw2z hF, hl, rfl⟩); have p0 := HS3.out.c0; have p1 := HS3.out.c1; have p2 := HS3.out.c2; clear hit hb3 hbz)
    | (go_at_call 8; (with_reducible refine (why_nil _).mono ?_); rintro e w4 ⟨rfl, hb4⟩; have HB4 : Hid (Below w.heap.size w w4) := HB3.out.trans (hb4.mono HB3.out.size); have HM4 := Lib.hid (HM3.out.below hb4); have HY4 := Lib.hid (HY.out.below HB4.out); have HE4 : Hid (ErrType w4) := HE.out.below HB4.out; have HS4 := Lib.hid (HS3.out.below hb4); have HT4 := Lib.hid (HT3.out.below hb4); have p0_4 := HS4.out.c0; have p1_4 := HS4.out.c1; have p2_4 := HS4.out.c2; have t0_4 := HT4.out.c0; have t1_4 := HT4.out.c1; have t2_4 := HT4.out.c2; have HX4 := Lib.hid (HX3.out.below hb4); have HZ4 := Lib.hid (HZ3.out.below hb4); clear hb4)
    | (go_at_call 9; (with_reducible refine (fixed3_V _ HE4).mono ?_); rintro e w5 ⟨rfl, hb5⟩; have HB5 : Hid (Below w.heap.size w w5) := HB4.out.trans (hb5.mono HB4.out.size); have HM5 := Lib.hid (HM4.out.below hb5); have HY5 := Lib.hid (HY.out.below HB5.out); have HE5 : Hid (ErrType w5) := HE.out.below HB5.out; have HS5 := Lib.hid (HS4.out.below hb5); have HT5 := Lib.hid (HT4.out.below hb5); have p0_5 := HS5.out.c0; have p1_5 := HS5.out.c1; have p2_5 := HS5.out.c2; have t0_5 := HT5.out.c0; have t1_5 := HT5.out.c1; have t2_5 := HT5.out.c2; have HX5 := Lib.hid (HX4.out.below hb5); have HZ5 := Lib.hid (HZ4.out.below hb5); clear hb5)
    | (go_at_call 10; (with_reducible refine (same_it 16 17 x _ _ _ _ _ _ _ HX5.out HZ5.out).mono ?_); rintro e w6 ⟨rfl, hb6⟩; have HB6 : Hid (Below w.heap.size w w6) := HB5.out.trans (hb6.mono HB5.out.size); have HM6 := Lib.hid (HM5.out.below hb6); have HY6 := Lib.hid (HY.out.below HB6.out); have HE6 : Hid (ErrType w6) := HE.out.below HB6.out; have HS6 := Lib.hid (HS5.out.below hb6); have HT6 := Lib.hid (HT5.out.below hb6); have p0_6 := HS6.out.c0; have p1_6 := HS6.out.c1; have p2_6 := HS6.out.c2; have t0_6 := HT6.out.c0; have t1_6 := HT6.out.c1; have t2_6 := HT6.out.c2; have HX6 := Lib.hid (HX5.out.below hb6); have HZ6 := Lib.hid (HZ5.out.below hb6); clear hb6; have cv1 := HM6.out.str; have cv2 := str_V HL.out HN.out HY6.out))
  have hw13 : w1.heap.size ≤ w3.heap.size := Nat.le_trans hw2z hw23
  go_loopw [11, 65] (fun ii jj wr => ∃ (j : Nat) (us : List UInt8), j ≤ len0 ∧ jj = .int .i64 j ∧ Hid (DW w w1 w2.heap.size w3.heap.size ao len0 c1 us x (.bool l1) (.slice a1 n1 c11) (.slice a2 n2 c2) (.bool l3) (.slice a3 n3 c3) (.slice a4 n4 c4) wr)) (fun _ jj _ => len0 - (intOf jj).toNat)
  case atStart => exact ⟨0, bs, by omega, rfl, ⟨HB6.out, HM6.out, HS6.out, HT6.out, HX6.out, HZ6.out⟩⟩
  case round =>
    obtain ⟨j, us, hj, rfl, HD⟩ := hrel
    have hwr := HD.out.s.lt
    by_cases hlt : j < len0
    · obtain ⟨g, rfl, hgl⟩ : ∃ g, ao = some ⟨g, 0, none⟩ ∧ g < w1.heap.size := by
        rcases HM1.out.form with ⟨_, e, _⟩ | ⟨g, e, _, hl, _⟩
        · omega
        · exact ⟨g, e, hl⟩
      have m0 := HD.out.m.cellIs j hlt
      have mf := HD.out.m.free j
      have HDs := Lib.hid (HD.out.set hgl hw12 hw13 j hlt)
      go_wp2
      go_roundw
      case rel => exact ⟨j + 1, us.set j 238, by omega, by go_num, HDs⟩
      case measure => simp [intOf]; omega
    · have p0 := HD.out.s.c0
      have p1 := HD.out.s.c1
      have p2 := HD.out.s.c2
      go_wp2_with (first
        | (go_at_call 11; (with_reducible refine (enc_V x bs HDc.out _ _ _ _ HD.out.ix).mono ?_); rintro e w8 ⟨ab, nb, cb, rfl, ho, hb8⟩; have cv3 := ho.str; have HB8 : Hid (Below w.heap.size w w8) := HD.out.b.trans (hb8.mono HD.out.b.size); have cv4 := str_V HL.out HN.out (HY.out.below HB8.out); have HS8 := Lib.hid (HD.out.s.below hb8); have HT8 := Lib.hid (HD.out.t.below hb8); have HX8 := Lib.hid (HD.out.ix.below hb8); have HZ8 := Lib.hid (HD.out.iy.below hb8); have s0 := HS8.out.c0; have s1 := HS8.out.c1; have s2 := HS8.out.c2; have t0 := HT8.out.c0; have t1 := HT8.out.c1; have t2 := HT8.out.c2; clear ho hb8)
        | (go_at_call 10; (with_reducible refine (same_it 16 17 x _ _ _ _ _ _ _ HX8.out HZ8.out).mono ?_); rintro e w9 ⟨rfl, hb9⟩; have HB9 : Hid (Below w.heap.size w w9) := HB8.out.trans (hb9.mono HB8.out.size); clear hb9))
      go_returns
      exact ⟨rfl, HB9.out⟩
theorem rlpDecodes_walk (w : World) (a0 : Option Addr) (len0 cap0 : Nat) (z0 : List Int) (w0 : IsRow .u8 w a0 len0 cap0 z0) (reach0 : len0 ≤ 140737488351232) (laid : laidMetH Tryd.prog Rows.rlpDecodesRow.laid w) :
    Calls Tryd.prog 3 #[.slice a0 len0 cap0] w fun e w' => e = .returned (.bool true) ∧ Below w.heap.size w w' := by
  obtain ⟨h1, h2, h3, h4, h5⟩ := row_all w0
  have HE : Hid (ErrType w) := errType_of_laid laid
  cases h : Rlp.decode (rowB z0 len0) with
  | error e => exact decodes_err w a0 len0 cap0 _ h1 h2 h3 h4 h5 HE ⟨reach0⟩ e.1 e.2 h
  | ok x => exact decodes_ok w a0 len0 cap0 _ h1 h2 h3 h4 h5 HE ⟨reach0⟩ x h
end Go.Proofs.YtcblbmjcfckgjaaDoor
