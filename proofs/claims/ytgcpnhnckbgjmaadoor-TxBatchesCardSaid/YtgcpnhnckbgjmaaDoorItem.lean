/-
  rlp.item by its contract.
-/
import Derived.Test.YtgcpnhnckbgjmaaDoorOwnI
import Derived.Test.YtgcpnhnckbgjmaaDoorHd
set_option linter.unusedVariables false
set_option linter.unusedSimpArgs false
namespace Go.Proofs.YtgcpnhnckbgjmaaDoor
open Go.RowKit
variable {F : Nat → Prop}
/-- An item's three cells in a block of its own. -/
structure SlotI (w : World) (g : Nat) (x y z : Value) : Prop where
  lt : g < w.heap.size
  c0 : w.cell? ⟨g, 0, none⟩ = some x
  c1 : w.cell? ⟨g, 1, none⟩ = some y
  c2 : w.cell? ⟨g, 2, none⟩ = some z
  f0 : w.frozen? ⟨g, 0, none⟩ = false
  f1 : w.frozen? ⟨g, 1, none⟩ = false
  f2 : w.frozen? ⟨g, 2, none⟩ = false
theorem SlotI.keep {w w' : World} {g : Nat} {x y z : Value} (h : SlotI w g x y z) (hs : w.heap.size ≤ w'.heap.size) (hk : w'.heap[g]? = w.heap[g]?) : SlotI w' g x y z :=
  ⟨by have := h.lt; omega, by rw [World.cell?_of_block (a := ⟨g, 0, none⟩) hk]; exact h.c0, by rw [World.cell?_of_block (a := ⟨g, 1, none⟩) hk]; exact h.c1, by rw [World.cell?_of_block (a := ⟨g, 2, none⟩) hk]; exact h.c2, by rw [World.frozen?_of_block (a := ⟨g, 0, none⟩) hk]; exact h.f0, by rw [World.frozen?_of_block (a := ⟨g, 1, none⟩) hk]; exact h.f1, by rw [World.frozen?_of_block (a := ⟨g, 2, none⟩) hk]; exact h.f2⟩
theorem SlotI.below {w w' : World} {g : Nat} {x y z : Value} (h : SlotI w g x y z) (hb : Below w.heap.size w w') : SlotI w' g x y z := h.keep hb.size (hb.block g h.lt)
theorem SlotI.new (w : World) (x y z : Value) : SlotI (w.alloc (.cells #[x, y, z] TI)) w.heap.size x y z := ⟨by simp, by go_cell, by go_cell, by go_cell, by simp, by simp, by simp⟩
theorem FaultAt.set {w : World} {p a c : Nat} (h : FaultAt w p a c) {q : Addr} (hq : q.block < p) (u : Value) : FaultAt (w.setCell q u) p a c :=
  ⟨by simpa using h.lt, by rw [World.cell?_of_block (w := w) (a := ⟨p, 0, none⟩) (Below.heap_setCell _ _ _ _ (Nat.ne_of_gt hq))]; exact h.pl, by rw [World.cell?_of_block (w := w) (a := ⟨p, 1, none⟩) (Below.heap_setCell _ _ _ _ (Nat.ne_of_gt hq))]; exact h.why⟩
/-- What the item's call answers: the item that stands there and its end, or a fault. -/
def ItemRet (w : World) (f : Nat) (r : Except (Nat × Nat) (Rlp.It × Nat)) (e : Ending) (w' : World) : Prop :=
  Below w.heap.size w w' ∧ match r with
  | .error (p, c) => ∃ q, e = .returned (.tuple #[ZI, .int .i64 0, .iface TF (.pointer (some ⟨q, 0, none⟩))]) ∧ FaultAt w' q p c ∧ w.heap.size ≤ q
  | .ok (x, j) => ∃ vl vb vi, e = .returned (.tuple #[.agg #[vl, vb, vi], .int .i64 j, .nilIface]) ∧ IsIt (fun b => w.heap.size ≤ b) w' f x vl vb vi
def ItemAt (F : Nat → Prop) (f : Nat) : Prop := ∀ (w : World) (a : Option Addr) (n c : Nat) (b : List UInt8) (i s : Nat) (D : Int), b.length = n → n ≤ c → c ≤ maxLen → n ≤ 4096 → i < s → s ≤ n → BytesF F w a b → D = 16 - f → f ≤ 16 →
    Calls Tryd.prog 43 #[.slice a n c, .int .i64 i, .int .i64 s, .int .i64 D] w (ItemRet w f (Rlp.dItem b f i s))
theorem ItemAt.at {f : Nat} (h : ItemAt F f) (w : World) (a : Option Addr) (n c : Nat) (b : List UInt8) (i s : Nat) (D : Int) (h1 : b.length = n) (h2 : n ≤ c) (h3 : c ≤ maxLen) (h4 : n ≤ 4096) (h5 : i < s) (h6 : s ≤ n) (h7 : BytesF F w a b) (h8 : D = 16 - f) (h9 : f ≤ 16) (r : Except (Nat × Nat) (Rlp.It × Nat)) (hr : Rlp.dItem b f i s = r) (S : Int) (hS : S = (s : Int)) (I : Int) (hI : I = (i : Int)) :
    Calls Tryd.prog 43 #[.slice a n c, .int .i64 I, .int .i64 S, .int .i64 D] w (ItemRet w f r) := by subst hr; subst hS; subst hI; exact h w a n c b i s D h1 h2 h3 h4 h5 h6 h7 h8 h9
set_option maxRecDepth 100000 in
set_option maxHeartbeats 1000000 in
theorem item_zero : ItemAt F 0 := by
  intro w a n c b i s D hl hc hcm hn his hsn hb hD _
  unfold maxLen at hcm
  have hD2 : D = 16 := by omega
  clear hD
  subst hD2
  clear hl hb
  show Calls _ _ _ _ (ItemRet w 0 (.error (i, 13)))
  go_enter Tryd.func43, Tryd.ntmps43
  go_wp2_with (go_at_call 42; (with_reducible refine (fault_V i 13 _ 13 _ rfl (by decide)).mono ?_); rintro e w1 ⟨rfl, hfa, hb1, hz1⟩; rw [World.size_alloc] at hfa; have HS := Lib.hid ((SlotI.new w (.bool false) (.slice none 0 0) (.slice none 0 0)).below hb1); have q0 := HS.out.c0; have q1 := HS.out.c1; have q2 := HS.out.c2; have f0 := HS.out.f0; have f1 := HS.out.f1; have f2 := HS.out.f2; have HF := Lib.hid hfa; have HB := Lib.hid hb1; clear hfa hb1)
  refine bodyPost_ret (by simp [results, Tryd.results43, go_sem, q0, q1, q2]; try rfl) rfl ?_
  refine ⟨((((((Below.refl _ _).alloc (Nat.le_refl _) _).trans (HB.out.mono (by simp))).setCell (by simp) _).setCell (by simp) _).setCell (by simp) _), _, rfl, ?_, by simp⟩
  exact FaultAt.set (FaultAt.set (FaultAt.set HF.out (by simp) _) (by simp) _) (by simp) _
theorem head_R (w : World) (a : Option Addr) (n c : Nat) (b : List UInt8) (i s : Nat) (hl : b.length = n) (hc : n ≤ c) (hcm : c ≤ maxLen) (hn : n ≤ 4096) (his : i < s) (hsn : s ≤ n) (hb : BytesF F w a b) (r : Except Nat (Bool × Nat × Nat)) (hr : Rlp.head b i s = r) :
    Calls Tryd.prog 55 #[.slice a n c, .int .i64 i, .int .i64 s] w (HeadRet w i r) := by subst hr; exact head_V w a n c b i s hl hc hcm hn his hsn hb
set_option maxRecDepth 100000 in
set_option maxHeartbeats 1000000 in
theorem item_err (f : Nat) (w : World) (a : Option Addr) (n c : Nat) (b : List UInt8) (i s : Nat) (D : Int) (hl : b.length = n) (hc : n ≤ c) (hcm : c ≤ maxLen) (hn : n ≤ 4096) (his : i < s) (hsn : s ≤ n) (hb : BytesF F w a b) (hD0 : 0 ≤ D) (hD1 : D ≤ 15) (k : Nat) (h : Rlp.head b i s = .error k) :
    Calls Tryd.prog 43 #[.slice a n c, .int .i64 i, .int .i64 s, .int .i64 D] w (ItemRet w (f + 1) (.error (i, k))) := by
  have HC := Lib.hid (head_R (w.alloc (.cells #[.bool false, .slice none 0 0, .slice none 0 0] TI)) a n c b i s hl hc hcm hn his hsn (hb.below ((Below.refl _ _).alloc (Nat.le_refl _) _)) _ h)
  unfold maxLen at hcm
  clear hl hb h
  go_enter Tryd.func43, Tryd.ntmps43
  go_wp2_with (go_at_call 55; (with_reducible refine HC.out.mono ?_); rintro e w1 ⟨hb1, l, p, rfl, hfa, hp⟩; rw [World.size_alloc] at hp; have HS := Lib.hid ((SlotI.new w (.bool false) (.slice none 0 0) (.slice none 0 0)).below hb1); have q0 := HS.out.c0; have q1 := HS.out.c1; have q2 := HS.out.c2; have f0 := HS.out.f0; have f1 := HS.out.f1; have f2 := HS.out.f2; have HF := Lib.hid hfa; have HB := Lib.hid hb1; clear hfa hb1)
  refine bodyPost_ret (by simp [results, Tryd.results43, go_sem, q0, q1, q2]; try rfl) rfl ?_
  refine ⟨((((((Below.refl _ _).alloc (Nat.le_refl _) _).trans (HB.out.mono (by simp))).setCell (by simp) _).setCell (by simp) _).setCell (by simp) _), _, rfl, FaultAt.set (q := ⟨w.heap.size, 2, none⟩) (FaultAt.set (q := ⟨w.heap.size, 1, none⟩) (FaultAt.set (q := ⟨w.heap.size, 0, none⟩) HF.out hp _) hp _) hp _, by omega⟩
theorem bytesF_seg {w : World} {bb off : Nat} {b : List UInt8} (hb : BytesF F w (some ⟨bb, off, none⟩) b) (i m : Nat) (h : i + m ≤ b.length) : BytesF F w (some ⟨bb, off + i, none⟩) ((b.drop i).take m) := fun j hj => by
  have hj2 : j < m := by simp at hj; omega
  obtain ⟨b', o', e, h1, h2, h3⟩ := hb (i + j) (by omega)
  injection e with e; injection e with e1 e2
  subst e1; subst e2
  refine ⟨bb, off + i, rfl, h1, h2, ?_⟩
  rw [Nat.add_assoc, h3, List.getD_eq_getElem?_getD, List.getD_eq_getElem?_getD, List.getElem?_take_of_lt hj2, List.getElem?_drop]
set_option maxRecDepth 100000 in
set_option maxHeartbeats 1000000 in
theorem item_byt (f : Nat) (w : World) (bb off : Nat) (n c : Nat) (b : List UInt8) (i s : Nat) (D : Int) (hl : b.length = n) (hc : n ≤ c) (hcm : c ≤ maxLen) (hn : n ≤ 4096) (his : i < s) (hsn : s ≤ n) (hb : BytesF F w (some ⟨bb, off, none⟩) b) (hD0 : 0 ≤ D) (hD1 : D ≤ 15) (k m : Nat) (h : Rlp.head b i s = .ok (false, k, m)) :
    Calls Tryd.prog 43 #[.slice (some ⟨bb, off, none⟩) n c, .int .i64 i, .int .i64 s, .int .i64 D] w (ItemRet w (f + 1) (.ok (.mk false ((b.drop (i + k)).take m) [], i + k + m))) := by
  have hkm := (Rlp.head_back his (by omega) h).1
  have HC := Lib.hid (head_R (w.alloc (.cells #[.bool false, .slice none 0 0, .slice none 0 0] TI)) _ n c b i s hl hc hcm hn his hsn (hb.below ((Below.refl _ _).alloc (Nat.le_refl _) _)) _ h)
  have HG : Hid (BytesF F w (if c = i + k then some ⟨bb, off, none⟩ else some ⟨bb, off + (i + k), none⟩) ((b.drop (i + k)).take m)) := by
    show BytesF _ _ _ _
    split
    · intro j hj; simp at hj; omega
    · exact bytesF_seg hb (i + k) m (by omega)
  have HN : Hid ((if c = i + k then some (⟨bb, off, none⟩ : Addr) else some ⟨bb, off + (i + k), none⟩) = none → c - (i + k) = 0) := by
    show _ → _
    split <;> simp
  have HL : Hid (((b.drop (i + k)).take m).length = m) := by show _ = _; simp; omega
  unfold maxLen at hcm
  clear hl hb h
  go_enter Tryd.func43, Tryd.ntmps43
  go_wp2_with (first
   | (go_at_call 55; (with_reducible refine HC.out.mono ?_); rintro e w1 ⟨hb1, rfl⟩; have HB := Lib.hid hb1; clear hb1)
   | (go_at_call 52; (with_reducible refine (clone_V _ _ m (c - (i + k)) ((b.drop (i + k)).take m) HL.out (Sm.of (by omega)) HN.out (HG.out.below (((Below.refl _ _).alloc (Nat.le_refl _) _).trans (HB.out.mono (by simp))))).mono ?_); rintro e w2 ⟨ab, nb, cb, rfl, ho, hb2⟩; have hz1 := HB.out.size; (simp at hz1); have hz2 := hb2.size; have hs2 : w.heap.size < w2.heap.size := (by omega); have HS := Lib.hid (((SlotI.new w (.bool false) (.slice none 0 0) (.slice none 0 0)).below HB.out).below hb2); have q0 := HS.out.c0; have q1 := HS.out.c1; have q2 := HS.out.c2; have f0 := HS.out.f0; have f1 := HS.out.f1; have f2 := HS.out.f2; have HB2 := Lib.hid hb2; have hnm : nb = m := (by rw [← ho.len]; exact HL.out); have HO := Lib.hid ho; clear ho hb2))
  all_goals
    refine bodyPost_ret (by simp [results, Tryd.results43, go_sem, q0, q1, q2]; try rfl) rfl ?_
    have hs1 : w.heap.size < w1.heap.size := by omega
    refine ⟨((((((Below.refl _ _).alloc (Nat.le_refl _) _).trans (HB.out.mono (by simp))).trans (HB2.out.mono (by omega))).setCell (by simp) _).setCell (by simp) _).setCell (by simp) _, _, _, _, rfl, rfl, ⟨ab, cb, ?_, ?_, HO.out.cap.2.1, HO.out.cap.2.2, ?_⟩, none, 0, rfl, Nat.le_refl _, Nat.zero_le _, fun i hi => by simp [Rlp.It.items] at hi⟩
    · show _ = Value.slice ab ((b.drop (i + k)).take m).length cb
      first | (rw [HL.out]; done) | rw [HL.out, hnm]
    · show ((b.drop (i + k)).take m).length ≤ cb
      rw [HL.out]; have := HO.out.cap.1; omega
    · show BytesF _ _ ab ((b.drop (i + k)).take m)
      exact (((HO.out.setBelow (by simpa using hs1) _).setBelow (by simpa using hs1) _).setBelow (by simpa using hs1) _).bytes.move fun b hb hl => ⟨by omega, hl, rfl⟩
end Go.Proofs.YtgcpnhnckbgjmaaDoor
