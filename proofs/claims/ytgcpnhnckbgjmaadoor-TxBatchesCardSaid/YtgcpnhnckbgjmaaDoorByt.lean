/-
  Bytes that a call owns; appending bytes to them.
-/
import Derived.Test.YtgcpnhnckbgjmaaDoorApp
import Derived.Maps.AppendAt
import Derived.Laws.AppendOwnNone
import Derived.OwnWalk
set_option linter.unusedVariables false
set_option linter.unusedSimpArgs false
namespace Go.Proofs.YtgcpnhnckbgjmaaDoor
open Go.RowKit

abbrev TU : TypeId := 5
abbrev TBS : TypeId := 25
def B1 (u : UInt8) : Value := .int .u8 (u.toNat : Int)
/-- A length that memory has room for, behind a name. -/
def Sm (n : Nat) : Prop := n ≤ 140737488420864
theorem Sm.le {n m : Nat} (h : Sm n) (hm : m ≤ n) : Sm m := Nat.le_trans hm h
theorem Sm.of {n : Nat} (h : n ≤ 1000000000) : Sm n := by unfold Sm; omega
theorem infoU : (Tryd.prog.info? TU).map (fun i => (i.zero, i.size, i.bytes)) = some (some (.int .u8 0), 1, 1) := by kernel_rfl
/-- Bytes in a row of the call's own. -/
structure OwnB (w : World) (base : Nat) (ao : Option Addr) (n c : Nat) (bs : List UInt8) : Prop where
  len : bs.length = n
  own : w.ownsRow base TU 1 (.slice ao n c) n (bs.map B1)
theorem OwnB.nil (w : World) (base : Nat) : OwnB w base none 0 0 [] := ⟨rfl, World.ownsRow_nil _ _ _ _⟩
theorem OwnB.form {w : World} {base : Nat} {ao : Option Addr} {n c : Nat} {bs : List UInt8} (h : OwnB w base ao n c bs) : (ao = none ∧ n = 0 ∧ c = 0 ∧ bs = []) ∨ ∃ g, ao = some ⟨g, 0, none⟩ ∧ base ≤ g ∧ g < w.heap.size ∧ n ≤ c ∧ c ≤ maxLen := by
  rcases h.own.2 with ⟨e, _⟩ | ⟨g, cap, cur, e, hb, hh, h1, h2, _⟩
  · injection e with e1 e2 e3
    exact .inl ⟨e1, e2, e3, List.length_eq_zero_iff.1 (by rw [h.len, e2])⟩
  · injection e with e1 e2 e3
    subst e3
    exact .inr ⟨g, e1, hb, lt_of_block hh, h1, h2⟩
theorem OwnB.cap {w : World} {base : Nat} {ao : Option Addr} {n c : Nat} {bs : List UInt8} (h : OwnB w base ao n c bs) : n ≤ c ∧ c ≤ maxLen ∧ (ao = none → c = 0) := by
  rcases h.form with ⟨rfl, rfl, rfl, rfl⟩ | ⟨g, rfl, _, _, h1, h2⟩
  · exact ⟨Nat.le_refl _, Nat.zero_le _, fun _ => rfl⟩
  · exact ⟨h1, h2, fun e => by cases e⟩
theorem OwnB.bytes {w : World} {base : Nat} {ao : Option Addr} {n c : Nat} {bs : List UInt8} (h : OwnB w base ao n c bs) : BytesF (fun b => base ≤ b) w ao bs := fun i hi => by
  rcases h.form with ⟨rfl, rfl, rfl, rfl⟩ | ⟨g, rfl, hb, hl, h1, h2⟩
  · simp at hi
  · refine ⟨g, 0, rfl, hb, hl, ?_⟩
    have hn : i < n := by rw [← h.len]; exact hi
    have := h.own.cellAt (g := g) i (by omega)
    rw [Nat.zero_add, this, List.getElem?_map, List.getD_eq_getElem?_getD]
    rw [List.getElem?_eq_getElem hi]; rfl
theorem OwnB.below {w w' : World} {base : Nat} {ao : Option Addr} {n c : Nat} {bs : List UInt8} (h : OwnB w base ao n c bs) (hb : Below w.heap.size w w') : OwnB w' base ao n c bs := by
  refine ⟨h.len, h.own.1, ?_⟩
  rcases h.own.2 with h2 | ⟨g, cap, cur, e, hg, hh, r⟩
  · exact .inl h2
  · exact .inr ⟨g, cap, cur, e, hg, by rw [hb.block g (lt_of_block hh)]; exact hh, r⟩
theorem news_bytes {F : Nat → Prop} {w : World} {ad : Addr} {bs : List UInt8} (h : BytesF F w (some ad) bs) : ∀ j u, (bs.map B1)[j]? = some u → w.cell? (ad.add j) = some u := fun j u hj => by
  rw [List.getElem?_map] at hj
  cases hb : bs[j]? with
  | none => rw [hb] at hj; simp at hj
  | some x =>
    rw [hb] at hj
    simp at hj
    have hl : j < bs.length := by
      rcases Nat.lt_or_ge j bs.length with h | h
      · exact h
      · rw [List.getElem?_eq_none h] at hb; cases hb
    obtain ⟨b, off, e, _, _, hc⟩ := h j hl
    injection e with e
    subst e
    have ea : (⟨b, off, none⟩ : Addr).add j = ⟨b, off + j, none⟩ := by unfold Addr.add; split <;> simp_all
    rw [ea, hc, List.getD_eq_getElem?_getD, hb]
    simp [B1] at hj; simp [hj]
theorem run_append_B {F : Nat → Prop} (w : World) (ty : TypeId) (base : Nat) (ao : Option Addr) (n c : Nat) (bs : List UInt8) (hown : OwnB w base ao n c bs) (sa : Option Addr) (m cs : Nat) (xs : List UInt8) (hl : xs.length = m) (hb : BytesF F w sa xs) (hn : sa = none → cs = 0)
    (h40 : Sm (n + m)) (hbase : base ≤ w.heap.size) :
    ∃ ao' c' w', (Builtin.append_ #[TBS, TBS] ty #[.slice ao n c, .slice sa m cs]).run Tryd.prog w = .ok (.slice ao' (n + m) c') w' ∧ OwnB w' base ao' (n + m) c' (bs ++ xs) ∧ w.grownBy w' (Value.slice ao n c).ownBlock ∧
      ((Value.slice ao' (n + m) c').ownBlock = (Value.slice ao n c).ownBlock ∨ (Value.slice ao' (n + m) c').ownBlock = some w.heap.size) := by
  obtain ⟨i0, hi, hz0, hz1, hz2⟩ := info_parts infoU
  cases sa with
  | none =>
    have hm : m = 0 := by
      cases xs with
      | nil => exact hl.symm
      | cons x xs => obtain ⟨_, _, e, _⟩ := hb 0 (by simp); cases e
    subst hm
    have hx : xs = [] := List.length_eq_zero_iff.1 hl
    subst hx
    have := hn rfl
    subst this
    have hrun := run_append_owned_none (P := Tryd.prog) (w := w) base TBS ty TU i0 1 Tryd.underlying25 hi _ n _ hown.own
    refine ⟨ao, c, w, hrun, ?_, ⟨rfl, rfl, rfl, Nat.le_refl _, fun _ _ _ => rfl⟩, .inl rfl⟩
    simpa using hown
  | some ad =>
    obtain ⟨v', w', h1, h2, h3, h5⟩ := run_append_wide (P := Tryd.prog) w base TBS ty TU i0 (.int .u8 0) 1 1 Tryd.underlying25 hi hz0 hz1 hz2 rfl (by decide) (by decide) _ n _ hown.own ad m cs (xs.map B1) (by simp [hl]) (news_bytes hb) (fun u hu => by
      obtain ⟨x, _, rfl⟩ := List.mem_map.1 hu; rfl) (by unfold Sm at h40; unfold maxLen; omega) (by unfold Sm at h40; omega) hbase
    have hf : ∃ ao' c', v' = .slice ao' (n + m) c' := by
      rcases h2.2 with ⟨e, e2⟩ | ⟨g, cap, cur, e, _⟩
      · exact ⟨none, 0, by rw [e, e2]⟩
      · exact ⟨_, _, e⟩
    obtain ⟨ao', c', rfl⟩ := hf
    exact ⟨ao', c', w', h1, ⟨by simp [hown.len, hl], by simpa using h2⟩, h3, h5⟩
/-- At the list of a plain region's operations. -/
theorem wpList_append_B {F : Nat → Prop} {w : World} {ops : Array Oper} {rest : List Oper} {o : Oper} {a : Act} {Q : Exit → Act → World → Prop} (hgd : o.guard = none) (s x : Operand)
    (ho : o.op = .call { callee := .builtin .append, args := #[s, x], argTypes := #[TBS, TBS] }) (base : Nat) (ao : Option Addr) (n c : Nat) (bs : List UInt8) (sa : Option Addr) (m cs : Nat) (xs : List UInt8) (hown : OwnB w base ao n c bs) (hb : BytesF F w sa xs) (hs : a.eval s = .slice ao n c) (hx : a.eval x = .slice sa m cs) (hl : xs.length = m) (hn : sa = none → cs = 0)
    (h40 : Sm (n + m)) (hbase : base ≤ w.heap.size)
    (h : ∀ ao' c' w', OwnB w' base ao' (n + m) c' (bs ++ xs) → w.grownBy w' (Value.slice ao n c).ownBlock → ((Value.slice ao' (n + m) c').ownBlock = (Value.slice ao n c).ownBlock ∨ (Value.slice ao' (n + m) c').ownBlock = some w.heap.size) → wpList Tryd.prog ops Q rest (a.put o.dst (.slice ao' (n + m) c')) w') : wpList Tryd.prog ops Q (o :: rest) a w := by
  refine wpList_plain hgd fun K hK => ?_
  obtain ⟨ao', c', w', hr, h1, h2, h3⟩ := run_append_B w o.type base ao n c bs hown sa m cs xs hl hb hn h40 hbase
  unfold Oper.wp
  simp [execOp, ho, resolve, invoke, builtin, hs, hx, hr, Result.andThen]
  exact hK _ _ (h _ _ _ h1 h2 h3)
/-- What grew by an append to a row of the call's own. -/
theorem grown_below {w w' : World} {B base : Nat} {ao : Option Addr} {n c : Nat} {bs : List UInt8} (hg : w.grownBy w' (Value.slice ao n c).ownBlock) (h : OwnB w base ao n c bs) (hB : B ≤ base) (hs : B ≤ w.heap.size) : Below B w w' := by
  refine Below.grown (Below.refl _ _) hg hs ?_
  intro k hk
  rcases h.form with ⟨rfl, _⟩ | ⟨g, rfl, hg, _⟩
  · simp [Value.ownBlock] at hk
  · simp [Value.ownBlock] at hk; omega
end Go.Proofs.YtgcpnhnckbgjmaaDoor
