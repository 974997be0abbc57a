/-
  Bytes as strings; bytes that stand there, as an item.
-/
import Derived.Test.YtgcpnhnckbgjmaaDoorByt
import Derived.Laws.IdiomStrings
import Derived.Lib.BufferRead
set_option linter.unusedVariables false
set_option linter.unusedSimpArgs false
namespace Go.Proofs.YtgcpnhnckbgjmaaDoor
open Go.RowKit
variable {F : Nat → Prop}
abbrev TS : TypeId := 9
/-- Bytes as a string. -/
def strB (bs : List UInt8) : Value := .string ⟨bs.toArray⟩
theorem str_V {w : World} {a : Option Addr} {n c : Nat} {bs : List UInt8} (hl : bs.length = n) (hn : a = none → c = 0) (hb : BytesF F w a bs) : (convert TBS TS (.slice a n c)).run Tryd.prog w = .ok (strB bs) w := by
  subst hl
  cases a with
  | none =>
    have h0 : bs = [] := by
      cases bs with
      | nil => rfl
      | cons x xs => obtain ⟨_, _, e, _⟩ := hb 0 (by simp); cases e
    subst h0
    exact Lib.run_convert_nil_bytes (P := Tryd.prog) w TBS TS TU c Tryd.underlying25 Tryd.underlying5 Tryd.underlying9
  | some ad =>
    exact run_convert_bytes_back (P := Tryd.prog) w TBS TS TU ad c bs Tryd.underlying25 Tryd.underlying5 Tryd.underlying9 fun j hj => by
      obtain ⟨b, off, e, _, _, hc⟩ := hb j hj
      injection e with e
      subst e
      have ea : (⟨b, off, none⟩ : Addr).add j = ⟨b, off + j, none⟩ := by unfold Addr.add; split <;> simp_all
      rw [ea, hc, List.getD_eq_getElem?_getD, List.getElem?_eq_getElem hj]; rfl
theorem OwnB.str {w : World} {base : Nat} {ao : Option Addr} {n c : Nat} {bs : List UInt8} (h : OwnB w base ao n c bs) : (convert TBS TS (.slice ao n c)).run Tryd.prog w = .ok (strB bs) w := str_V h.len h.cap.2.2 h.bytes
theorem run_eql_str (x y : List UInt8) (w : World) : (binOp .eql TS (strB x) (strB y)).run Tryd.prog w = .ok (.bool (decide (x = y))) w := by
  simp [strB, binOp, Op.stringOp]
  rw [Bool.eq_iff_iff]; simp
theorem run_neq_str (x y : List UInt8) (w : World) : (binOp .neq TS (strB x) (strB y)).run Tryd.prog w = .ok (.bool (decide (x ≠ y))) w := by
  simp [strB, binOp, Op.stringOp]
  rw [Bool.eq_iff_iff]; simp
theorem run_guard_str (x y : List UInt8) (o1 o2 : Operand) (w : World) : (eqGuard .eql TS o1 o2 (strB x) (strB y)).run Tryd.prog w = .ok () w := by
  simp [strB, eqGuard]
theorem run_guardn_str (x y : List UInt8) (o1 o2 : Operand) (w : World) : (eqGuard .neq TS o1 o2 (strB x) (strB y)).run Tryd.prog w = .ok () w := by
  simp [strB, eqGuard]
/-- Bytes that stand there, as an item. -/
theorem leaf_is {w : World} {a : Option Addr} {n c : Nat} {bs : List UInt8} (hl : bs.length = n) (hc : n ≤ c) (hcm : c ≤ maxLen) (hn : a = none → c = 0) (hb : BytesF F w a bs) (k : Nat) : IsIt F w (k + 1) (.mk false bs []) (.bool false) (.slice a n c) (.slice none 0 0) := by
  subst hl
  exact ⟨rfl, ⟨a, c, rfl, hc, hcm, hn, hb⟩, none, 0, rfl, Nat.le_refl _, Nat.zero_le _, fun i hi => by simp [Rlp.It.items] at hi⟩
theorem bytes_new (w : World) (xs : List UInt8) (ys : Array Value) (h : ys = (xs.map B1).toArray) : BytesF (fun _ => True) (w.alloc (.cells ys TU)) (some ⟨w.heap.size, 0, none⟩) xs := by
  subst h
  intro i hi
  refine ⟨w.heap.size, 0, rfl, trivial, by simp, ?_⟩
  rw [World.cell?_alloc_at _ _ _ _ rfl]
  simp [B1, hi]
end Go.Proofs.YtgcpnhnckbgjmaaDoor
