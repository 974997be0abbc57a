/-
  Strings as bytes; what the closed statement's rows hold.
-/
import Derived.Test.YtcblbmjcfckgjaaDoorFix3
import Derived.Test.YtcblbmjcfckgjaaDoorRel
import Derived.Laws.MakeOwn
set_option linter.unusedVariables false
set_option linter.unusedSimpArgs false
namespace Go.Proofs.YtcblbmjcfckgjaaDoor
open Go.RowKit
/-- The world behind '[]byte(s)'. -/
def cvtW (l : List UInt8) (w : World) : World := w.drew.alloc (.cells (bytesRow ⟨l.toArray⟩ (grownCap w l.length 0 TU)) TU ((bytesRow ⟨l.toArray⟩ (grownCap w l.length 0 TU)).size, (bytesRow ⟨l.toArray⟩ (grownCap w l.length 0 TU)).size + 1))
theorem cvt_run (l : List UInt8) (w : World) : (convert TS TBS (strB l)).run Tryd.prog w = .ok (.slice (some ⟨w.heap.size, 0, none⟩) l.length (grownCap w l.length 0 TU)) (cvtW l w) := by
  have h := run_bytes_of_string (P := Tryd.prog) w TS TBS TU ⟨l.toArray⟩ Tryd.underlying9 Tryd.underlying22 Tryd.underlying5
  have e : (⟨l.toArray⟩ : ByteArray).size = l.length := by simp [ByteArray.size]
  rw [e] at h
  exact h
theorem cvt_below (l : List UInt8) (w : World) : Below w.heap.size w (cvtW l w) := ((Below.refl _ _).drew).alloc (Nat.le_refl _) _
theorem cvt_bytes (l : List UInt8) (w : World) : BytesF (fun b => w.heap.size ≤ b) (cvtW l w) (some ⟨w.heap.size, 0, none⟩) l := fun i hi => by
  refine ⟨w.heap.size, 0, rfl, Nat.le_refl _, by simp [cvtW], ?_⟩
  have h := World.cell?_alloc_mark w.drew (bytesRow ⟨l.toArray⟩ (grownCap w l.length 0 TU)) TU ((bytesRow ⟨l.toArray⟩ (grownCap w l.length 0 TU)).size, (bytesRow ⟨l.toArray⟩ (grownCap w l.length 0 TU)).size + 1) i
  rw [Nat.zero_add]
  refine h.trans ?_
  rw [bytesRow_at _ _ _ (by simpa using hi)]
  rw [List.getD_eq_getElem?_getD, List.getElem?_eq_getElem hi]
  simp
theorem cvt_cap (l : List UInt8) (w : World) (h : l.length ≤ 1000) : l.length ≤ grownCap w l.length 0 TU ∧ grownCap w l.length 0 TU ≤ maxLen :=
  ⟨grownCap_ge _ _ _ _, grownCap_le_maxLen _ _ _ _ (by unfold maxLen; omega)⟩
/-- Bytes that stand somewhere. -/
structure TextAt (W : World) (l : List UInt8) (a : Option Addr) (c : Nat) : Prop where
  b : BytesF (fun _ => True) W a l
  n : l.length ≤ c
  m : c ≤ maxLen
  z : a = none → c = 0
theorem TextAt.below {W W' : World} {l : List UInt8} {a : Option Addr} {c : Nat} (h : TextAt W l a c) (hb : Below W.heap.size W W') : TextAt W' l a c := ⟨h.b.below hb, h.n, h.m, h.z⟩
theorem TextAt.leaf {W : World} {l : List UInt8} {a : Option Addr} {c : Nat} (h : TextAt W l a c) (k : Nat) (n : Nat) (hn : l.length = n) : IsIt (fun _ => True) W (k + 1) (.mk false l []) (.bool false) (.slice a n c) (.slice none 0 0) := by
  subst hn; exact leaf_is rfl h.n h.m h.z h.b k
set_option maxRecDepth 100000 in
set_option maxHeartbeats 1000000 in
theorem text_V (l : List UInt8) (w : World) (hl : l.length ≤ 1000) :
    Calls Tryd.prog 12 #[strB l] w fun e w' => ∃ a c, e = .returned (.agg #[.bool false, .slice a l.length c, .slice none 0 0]) ∧ TextAt w' l a c ∧ Below w.heap.size w w' := by
  obtain ⟨W, hW⟩ : ∃ W, W = w.alloc (.cells #[.bool false, .slice none 0 0, .slice none 0 0] TI) := ⟨_, rfl⟩
  have hcv := cvt_run l W
  have HS := Lib.hid ((SlotI.new w (.bool false) (.slice none 0 0) (.slice none 0 0)))
  rw [← hW] at HS
  have HS2 := Lib.hid (HS.out.below (cvt_below l W))
  have q0 := HS2.out.c0
  have q1 := HS2.out.c1
  have q2 := HS2.out.c2
  have f0 := HS2.out.f0
  have f1 := HS2.out.f1
  have f2 := HS2.out.f2
  have HB := Lib.hid (cvt_bytes l W)
  have HC := Lib.hid (cvt_cap l W hl)
  have hb0 : Below w.heap.size w W := by rw [hW]; exact (Below.refl _ _).alloc (Nat.le_refl _) _
  have HL := Lib.hid (hb0.trans ((cvt_below l W).mono hb0.size))
  have hs : w.heap.size < W.heap.size := by rw [hW]; simp
  have HH := Lib.hid hs
  have HWW := Lib.hid hW
  clear hb0
  generalize hcp : grownCap W l.length 0 TU = cp at hcv HC
  generalize hwp : cvtW l W = W2 at *
  clear hcp hwp
  rw [hW] at hcv
  go_enter Tryd.func12, Tryd.ntmps12
  go_wp2
  refine bodyPost_ret (by simp [results, Tryd.results12, go_sem, q0, q1, q2]; try rfl) rfl ?_
  refine ⟨_, _, rfl, ⟨?_, HC.out.1, HC.out.2, by simp⟩, ((HL.out.setCell (Nat.le_refl _) _).setCell (Nat.le_refl _) _).setCell (Nat.le_refl _) _⟩
  have hb := HB.out
  have e : W.heap.size = w.heap.size + 1 := by rw [HWW.out]; simp
  rw [e] at hb
  exact hb.move fun b hF hl => ⟨trivial, by simpa using hl, by rw [Below.heap_setCell _ _ _ _ (by simp; omega), Below.heap_setCell _ _ _ _ (by simp; omega), Below.heap_setCell _ _ _ _ (by simp; omega)]⟩
/-- Cells in a row. -/
structure RowAt (W : World) (g : Nat) (vs : List Value) : Prop where
  lt : g < W.heap.size
  c : ∀ (i : Nat) (v : Value), vs[i]? = some v → W.cell? ⟨g, i, none⟩ = some v
theorem RowAt.below {W W' : World} {g : Nat} {vs : List Value} (h : RowAt W g vs) (hb : Below W.heap.size W W') : RowAt W' g vs :=
  ⟨by have := h.lt; have := hb.size; omega, fun i v hv => by rw [hb.cell (p := ⟨g, i, none⟩) h.lt]; exact h.c i v hv⟩
theorem RowAt.new (W : World) (vs : List Value) (t : TypeId) : RowAt (W.alloc (.cells vs.toArray t)) W.heap.size vs :=
  ⟨by simp, fun i v hv => by rw [World.cell?_alloc_at _ _ _ _ rfl]; simpa using hv⟩
/-- What the closed statement's worlds hold. -/
structure KS (w : World) (xs : List (List UInt8 × Option Addr × Nat)) (rs : List (Nat × List Value)) (W : World) : Prop where
  b : Below w.heap.size w W
  t : ∀ p ∈ xs, TextAt W p.1 p.2.1 p.2.2
  r : ∀ p ∈ rs, RowAt W p.1 p.2
theorem KS.below {w : World} {xs : List (List UInt8 × Option Addr × Nat)} {rs : List (Nat × List Value)} {W W' : World} (h : KS w xs rs W) (hb : Below W.heap.size W W') : KS w xs rs W' :=
  ⟨h.b.trans (hb.mono h.b.size), fun p hp => (h.t p hp).below hb, fun p hp => (h.r p hp).below hb⟩
theorem KS.text {w : World} {xs : List (List UInt8 × Option Addr × Nat)} {rs : List (Nat × List Value)} {W : World} (h : KS w xs rs W) {l : List UInt8} {a : Option Addr} {c : Nat} (ht : TextAt W l a c) : KS w ((l, a, c) :: xs) rs W :=
  ⟨h.b, fun p hp => by
    rcases List.mem_cons.1 hp with rfl | hp
    · exact ht
    · exact h.t p hp, h.r⟩
theorem KS.row {w : World} {xs : List (List UInt8 × Option Addr × Nat)} {rs : List (Nat × List Value)} {W : World} (h : KS w xs rs W) {g : Nat} {vs : List Value} (hr : RowAt W g vs) : KS w xs ((g, vs) :: rs) W :=
  ⟨h.b, h.t, fun p hp => by
    rcases List.mem_cons.1 hp with rfl | hp
    · exact hr
    · exact h.r p hp⟩
theorem KS.tail {w : World} {p : List UInt8 × Option Addr × Nat} {xs : List (List UInt8 × Option Addr × Nat)} {rs : List (Nat × List Value)} {W : World} (h : KS w (p :: xs) rs W) : KS w xs rs W := ⟨h.b, fun q hq => h.t q (List.mem_cons_of_mem _ hq), h.r⟩
theorem KS.tailr {w : World} {xs : List (List UInt8 × Option Addr × Nat)} {p : Nat × List Value} {rs : List (Nat × List Value)} {W : World} (h : KS w xs (p :: rs) W) : KS w xs rs W := ⟨h.b, h.t, fun q hq => h.r q (List.mem_cons_of_mem _ hq)⟩
/-- The world behind 'make([]byte, n)'. -/
def mkW (n : Nat) (w : World) : World := w.alloc (.cells (madeCells #[.int .u8 0] n) TU)
theorem mk_run (n : Nat) (h : n ≤ 1000) (w : World) : (Instr.makeSlice TBS (.int .i64 n) (.int .i64 n)).run Tryd.prog w = .ok (.slice (some ⟨w.heap.size, 0, none⟩) n n) (mkW n w) := by
  obtain ⟨i0, hi, hz0, hz1, hz2⟩ := info_parts infoU
  have h := run_make (P := Tryd.prog) w TBS TU i0 (.int .u8 0) Tryd.underlying22 hi hz0 .i64 .i64 (n : Int) (n : Int) (by omega) (Int.le_refl _) (by rw [hz2]; omega) (by omega)
  rw [hz1, Int.toNat_natCast, Nat.mul_one] at h
  exact h
theorem mk_below (n : Nat) (w : World) : Below w.heap.size w (mkW n w) := (Below.refl _ _).alloc (Nat.le_refl _) _
theorem mk_text (n : Nat) (h : n ≤ 1000) (w : World) : TextAt (mkW n w) (List.replicate n 0) (some ⟨w.heap.size, 0, none⟩) n := by
  refine ⟨fun i hi => ?_, by simp, by unfold maxLen; omega, by simp⟩
  have hi : i < n := by simpa using hi
  refine ⟨w.heap.size, 0, rfl, trivial, by simp [mkW], ?_⟩
  unfold mkW
  rw [Nat.zero_add, World.cell?_alloc_at _ _ _ _ rfl]
  simp [madeCells, hi]
  rw [Nat.mod_one]; rfl
theorem run_add_str (x y : List UInt8) (h : x.length + y.length ≤ 1000) (w : World) : (binOp .add TS (strB x) (strB y)).run Tryd.prog w = .ok (strB (x ++ y)) w := by
  simp [strB, binOp, Op.stringOp]
  rw [if_neg (by simp [ByteArray.size]; omega)]
  congr 2
structure AC where
  a : Option Addr
  c : Nat
end Go.Proofs.YtcblbmjcfckgjaaDoor
