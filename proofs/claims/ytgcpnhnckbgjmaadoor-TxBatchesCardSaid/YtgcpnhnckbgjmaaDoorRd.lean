/-
  mootref03.Reader where it lies; its fail by its contract.
-/
import Derived.Test.YtgcpnhnckbgjmaaDoorItem2
import Derived.Test.YtgcpnhnckbgjmaaDoorRel
import Derived.WalkSmall
set_option linter.unusedVariables false
set_option linter.unusedSimpArgs false
namespace Go.Proofs.YtgcpnhnckbgjmaaDoor
open Go.RowKit
variable {F : Nat → Prop}
abbrev TRD : TypeId := 98
/-- All blocks but one are as they were. -/
def Keep (r : Nat) (w w' : World) : Prop := w.grownBy w' (some r)
theorem Keep.size {r : Nat} {w w' : World} (h : Keep r w w') : w.heap.size ≤ w'.heap.size := World.grownBy.size h
theorem Keep.block {r : Nat} {w w' : World} (h : Keep r w w') (k : Nat) (hk : k < w.heap.size) (hr : k ≠ r) : w'.heap[k]? = w.heap[k]? := World.grownBy.block h k hk (by simpa using hr)
theorem Keep.refl (r : Nat) (w : World) : Keep r w w := ⟨rfl, rfl, rfl, Nat.le_refl _, fun _ _ _ => rfl⟩
theorem Keep.of {r : Nat} {w w' : World} (h : Below w.heap.size w w') : Keep r w w' := ⟨h.os, h.tape, h.output, h.size, fun k hk _ => h.block k hk⟩
theorem Keep.trans {r : Nat} {a b c : World} (h : Keep r a b) (k : Keep r b c) : Keep r a c := World.grownBy.trans h k
theorem Keep.thn {r : Nat} {a b c : World} (h : Keep r a b) (k : Below a.heap.size b c) : Keep r a c :=
  ⟨k.os.trans h.os, k.tape.trans h.tape, k.output.trans h.output, Nat.le_trans h.size k.size, fun i hi hr => (k.block i hi).trans (World.grownBy.block h i hi hr)⟩
theorem Keep.set {r : Nat} {a b : World} (h : Keep r a b) {q : Addr} (hq : q.block = r) (u : Value) : Keep r a (b.setCell q u) :=
  ⟨h.os, h.tape, h.output, by have := h.size; simpa using this, fun i hi hr => (Below.heap_setCell _ _ _ _ (by rw [hq]; simpa using hr)).trans (World.grownBy.block h i hi hr)⟩
theorem Keep.setNew {r : Nat} {a b : World} (h : Keep r a b) {q : Addr} (hq : a.heap.size ≤ q.block) (u : Value) : Keep r a (b.setCell q u) := h.thn ((Below.refl _ _).setCell hq u)
theorem Keep.alloc {r : Nat} {a b : World} (h : Keep r a b) (o : Obj) : Keep r a (b.alloc o) := h.thn ((Below.refl _ _).alloc h.size o)
theorem Keep.drew {r : Nat} {a b : World} (h : Keep r a b) : Keep r a b.drew := h.thn (Below.refl _ _).drew
theorem Keep.drewN {r : Nat} {a b : World} (h : Keep r a b) (n : Nat) : Keep r a (b.drewN n) := h.thn (below_drewN (Below.refl _ _) n)
theorem Keep.below {r : Nat} {w w' : World} (h : Keep r w w') (hs : r < w.heap.size) (B : Nat) (hB : B ≤ r) : Below B w w' := ⟨h.os, h.tape, h.output, h.size, fun k hk => h.block k (by omega) (by omega)⟩
theorem IsIt.kept {k : Nat} {x : Rlp.It} {vl vb vi : Value} {r : Nat} {w w' : World} (h : IsIt F w k x vl vb vi) (hk : Keep r w w') (hr : ∀ b, F b → b ≠ r) : IsIt F w' k x vl vb vi :=
  h.move fun b hF hl => ⟨hF, by have := hk.size; omega, hk.block b hl (hr b hF)⟩
theorem BytesF.kept {a : Option Addr} {bs : List UInt8} {r : Nat} {w w' : World} (h : BytesF F w a bs) (hk : Keep r w w') (hr : ∀ b, F b → b ≠ r) : BytesF F w' a bs :=
  h.move fun b hF hl => ⟨hF, by have := hk.size; omega, hk.block b hl (hr b hF)⟩
theorem SlotI.kept {r g : Nat} {w w' : World} {x y z : Value} (h : SlotI w g x y z) (hk : Keep r w w') (hr : g ≠ r) : SlotI w' g x y z := h.keep hk.size (hk.block g h.lt hr)
theorem OwnI.kept {r base k n : Nat} {w w' : World} {v : Value} {its : List Rlp.It} (h : OwnI w base k v n its) (hk : Keep r w w') (hr : r < base) : OwnI w' base k v n its :=
  h.keep fun b hb hl => ⟨by have := hk.size; omega, hk.block b hl (by omega)⟩
/-- A reader where it lies. -/
structure Rd (w : World) (r : Nat) (a : Option Addr) (n c at_ why bad : Nat) : Prop where
  lt : r < w.heap.size
  c0 : w.cell? ⟨r, 0, none⟩ = some (.slice a n c)
  c1 : w.cell? ⟨r, 1, none⟩ = some (.int .i64 at_)
  c2 : w.cell? ⟨r, 2, none⟩ = some (.int .i64 why)
  c3 : w.cell? ⟨r, 3, none⟩ = some (.int .i64 bad)
  f1 : w.frozen? ⟨r, 1, none⟩ = false
  f2 : w.frozen? ⟨r, 2, none⟩ = false
  f3 : w.frozen? ⟨r, 3, none⟩ = false
theorem Rd.keep {w w' : World} {r : Nat} {a : Option Addr} {n c i y b : Nat} (h : Rd w r a n c i y b) (hs : w.heap.size ≤ w'.heap.size) (hk : w'.heap[r]? = w.heap[r]?) : Rd w' r a n c i y b :=
  ⟨by have := h.lt; omega, by rw [World.cell?_of_block (a := ⟨r, 0, none⟩) hk]; exact h.c0, by rw [World.cell?_of_block (a := ⟨r, 1, none⟩) hk]; exact h.c1, by rw [World.cell?_of_block (a := ⟨r, 2, none⟩) hk]; exact h.c2, by rw [World.cell?_of_block (a := ⟨r, 3, none⟩) hk]; exact h.c3, by rw [World.frozen?_of_block (a := ⟨r, 1, none⟩) hk]; exact h.f1, by rw [World.frozen?_of_block (a := ⟨r, 2, none⟩) hk]; exact h.f2, by rw [World.frozen?_of_block (a := ⟨r, 3, none⟩) hk]; exact h.f3⟩
theorem Rd.below {w w' : World} {r : Nat} {a : Option Addr} {n c i y b : Nat} (h : Rd w r a n c i y b) (hb : Below w.heap.size w w') : Rd w' r a n c i y b := h.keep hb.size (hb.block r h.lt)
theorem Rd.setOther {w : World} {r : Nat} {a : Option Addr} {n c i y b : Nat} (h : Rd w r a n c i y b) {q : Addr} (hq : q.block ≠ r) (u : Value) : Rd (w.setCell q u) r a n c i y b :=
  h.keep (by simp) (Below.heap_setCell _ _ _ _ (fun e => hq e.symm))
theorem Rd.setAt {w : World} {r : Nat} {a : Option Addr} {n c i y b : Nat} (h : Rd w r a n c i y b) (j : Nat) (J : Int) (hJ : J = j) : Rd (w.setCell ⟨r, 1, none⟩ (.int .i64 J)) r a n c j y b := by
  subst hJ
  have c0 := h.c0
  have c1 := h.c1
  have c2 := h.c2
  have c3 := h.c3
  exact ⟨by simpa using h.lt, by go_cell, by go_cell, by go_cell, by go_cell, by rw [World.frozen?_setCell]; exact h.f1, by rw [World.frozen?_setCell]; exact h.f2, by rw [World.frozen?_setCell]; exact h.f3⟩
theorem Rd.setWhy {w : World} {r : Nat} {a : Option Addr} {n c i y b : Nat} (h : Rd w r a n c i y b) (j : Nat) (J : Int) (hJ : J = j) : Rd (w.setCell ⟨r, 2, none⟩ (.int .i64 J)) r a n c i j b := by
  subst hJ
  have c0 := h.c0
  have c1 := h.c1
  have c2 := h.c2
  have c3 := h.c3
  exact ⟨by simpa using h.lt, by go_cell, by go_cell, by go_cell, by go_cell, by rw [World.frozen?_setCell]; exact h.f1, by rw [World.frozen?_setCell]; exact h.f2, by rw [World.frozen?_setCell]; exact h.f3⟩
theorem Rd.setBad {w : World} {r : Nat} {a : Option Addr} {n c i y b : Nat} (h : Rd w r a n c i y b) (j : Nat) (J : Int) (hJ : J = j) : Rd (w.setCell ⟨r, 3, none⟩ (.int .i64 J)) r a n c i y j := by
  subst hJ
  have c0 := h.c0
  have c1 := h.c1
  have c2 := h.c2
  have c3 := h.c3
  exact ⟨by simpa using h.lt, by go_cell, by go_cell, by go_cell, by go_cell, by rw [World.frozen?_setCell]; exact h.f1, by rw [World.frozen?_setCell]; exact h.f2, by rw [World.frozen?_setCell]; exact h.f3⟩
set_option maxRecDepth 100000 in
set_option maxHeartbeats 1000000 in
theorem fail_V (r : Nat) (a : Option Addr) (n c i p k : Nat) (A K : Int) (w : World) (h : Rd w r a n c i 0 0) (hA : A = (p : Int)) (hK : K = (k : Int)) :
    Calls Tryd.prog 45 #[.pointer (some ⟨r, 0, none⟩), .int .i64 A, .int .i64 K] w fun e w' => e = .returned ZI ∧ Rd w' r a n c i k p ∧ Keep r w w' := by
  have HA := Lib.hid hA
  have HK := Lib.hid hK
  have H := Lib.hid h
  have c2 : w.cell? ⟨r, 2, none⟩ = some (.int .i64 0) := h.c2
  have c3 : w.cell? ⟨r, 3, none⟩ = some (.int .i64 0) := h.c3
  have f2 := h.f2
  have f3 := h.f3
  have hlt := h.lt
  clear h hA hK
  go_enter Tryd.func45, Tryd.ntmps45
  go_wp2
  go_returns
  exact ⟨rfl, ((H.out.setWhy k K HK.out).setBad p A HA.out).below ((Below.refl _ _).alloc (Nat.le_refl _) _), (((Keep.refl r w).set rfl _).set rfl _).alloc _⟩
end Go.Proofs.YtgcpnhnckbgjmaaDoor
