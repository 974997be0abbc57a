/-
  Items where they lie; rlp.nesting by its contract.
-/
import Derived.Test.YtgcpnhnckbgjmaaDoorRlp
import Derived.Test.YtgcpnhnckbgjmaaDoorHeld
set_option linter.unusedVariables false
set_option linter.unusedSimpArgs false
namespace Go.Proofs.YtgcpnhnckbgjmaaDoor
open Go.RowKit

abbrev TI : TypeId := 56
/-- Bytes where they lie, in blocks of a class. -/
def BytesF (F : Nat → Prop) (w : World) (a : Option Addr) (bs : List UInt8) : Prop :=
  ∀ i, i < bs.length → ∃ b off, a = some ⟨b, off, none⟩ ∧ F b ∧ b < w.heap.size ∧ w.cell? ⟨b, off + i, none⟩ = some (.int .u8 ((bs.getD i 0).toNat : Int))
/-- An item where it lies, of a depth below k, in blocks of a class. -/
def IsIt (F : Nat → Prop) (w : World) : Nat → Rlp.It → Value → Value → Value → Prop
  | 0, _, _, _, _ => False
  | k + 1, x, vl, vb, vi => vl = .bool x.list ∧ (∃ a c, vb = .slice a x.bytes.length c ∧ x.bytes.length ≤ c ∧ c ≤ maxLen ∧ (a = none → c = 0) ∧ BytesF F w a x.bytes) ∧
      ∃ a c, vi = .slice a x.items.length c ∧ x.items.length ≤ c ∧ c ≤ maxLen ∧ ∀ i, i < x.items.length → ∃ b off u v z, a = some ⟨b, off, none⟩ ∧ F b ∧ b < w.heap.size ∧
        w.cell? ⟨b, off + i * 3, none⟩ = some u ∧ w.cell? ⟨b, off + i * 3 + 1, none⟩ = some v ∧ w.cell? ⟨b, off + i * 3 + 2, none⟩ = some z ∧ IsIt F w k (x.items.getD i default) u v z
variable {F F' : Nat → Prop} {w w' : World}
theorem BytesF.move (h : ∀ b, F b → b < w.heap.size → F' b ∧ b < w'.heap.size ∧ w'.heap[b]? = w.heap[b]?) {a : Option Addr} {bs : List UInt8} (hb : BytesF F w a bs) : BytesF F' w' a bs := fun i hi => by
  obtain ⟨b, off, rfl, hF, hl, hc⟩ := hb i hi
  obtain ⟨h1, h2, h3⟩ := h b hF hl
  exact ⟨b, off, rfl, h1, h2, by rw [World.cell?_of_block (a := ⟨b, off + i, none⟩) (w := w) h3]; exact hc⟩
theorem IsIt.move (h : ∀ b, F b → b < w.heap.size → F' b ∧ b < w'.heap.size ∧ w'.heap[b]? = w.heap[b]?) : ∀ {k : Nat} {x : Rlp.It} {vl vb vi : Value}, IsIt F w k x vl vb vi → IsIt F' w' k x vl vb vi := by
  intro k
  induction k with
  | zero => intro x vl vb vi h; exact h.elim
  | succ k ih =>
    rintro x vl vb vi ⟨h1, ⟨a, c, h2, h3, h4, h40, h5⟩, a', c', h6, h7, h8, h9⟩
    refine ⟨h1, ⟨a, c, h2, h3, h4, h40, h5.move h⟩, a', c', h6, h7, h8, fun i hi => ?_⟩
    obtain ⟨b, off, u, v, z, rfl, hF, hl, c0, c1, c2, hx⟩ := h9 i hi
    obtain ⟨g1, g2, g3⟩ := h b hF hl
    exact ⟨b, off, u, v, z, rfl, g1, g2, by rw [World.cell?_of_block (a := ⟨b, off + i * 3, none⟩) (w := w) g3]; exact c0, by rw [World.cell?_of_block (a := ⟨b, off + i * 3 + 1, none⟩) (w := w) g3]; exact c1, by rw [World.cell?_of_block (a := ⟨b, off + i * 3 + 2, none⟩) (w := w) g3]; exact c2, ih hx⟩
theorem IsIt.below {k : Nat} {x : Rlp.It} {vl vb vi : Value} (h : IsIt F w k x vl vb vi) (hb : Below w.heap.size w w') : IsIt F w' k x vl vb vi :=
  h.move fun b hF hl => ⟨hF, by have := hb.size; omega, hb.block b hl⟩
theorem BytesF.below {a : Option Addr} {bs : List UInt8} (h : BytesF F w a bs) (hb : Below w.heap.size w w') : BytesF F w' a bs :=
  h.move fun b hF hl => ⟨hF, by have := hb.size; omega, hb.block b hl⟩
theorem IsIt.up {k : Nat} : ∀ {x : Rlp.It} {vl vb vi : Value}, IsIt F w k x vl vb vi → IsIt F w (k + 1) x vl vb vi := by
  induction k with
  | zero => intro x vl vb vi h; exact h.elim
  | succ k ih =>
    rintro x vl vb vi ⟨h1, h2, a', c', h6, h7, h8, h9⟩
    refine ⟨h1, h2, a', c', h6, h7, h8, fun i hi => ?_⟩
    obtain ⟨b, off, u, v, z, ha, hF, hl, c0, c1, c2, hx⟩ := h9 i hi
    exact ⟨b, off, u, v, z, ha, hF, hl, c0, c1, c2, ih hx⟩
theorem IsIt.le {k k' : Nat} (hk : k ≤ k') {x : Rlp.It} {vl vb vi : Value} (h : IsIt F w k x vl vb vi) : IsIt F w k' x vl vb vi := by
  induction hk with
  | refl => exact h
  | step _ ih => exact ih.up

theorem IsIt.shape {k : Nat} {x : Rlp.It} {u v z : Value} (h : IsIt F w k x u v z) : ∃ l a n c a' n' c', u = .bool l ∧ v = .slice a n c ∧ z = .slice a' n' c' := by
  cases k with
  | zero => exact h.elim
  | succ k =>
    obtain ⟨h1, ⟨a, c, h2, _⟩, a', c', h3, _⟩ := h
    exact ⟨_, _, _, _, _, _, _, h1, h2, h3⟩
theorem nestL_take (its : List Rlp.It) (n j : Nat) (hj : j < its.length) : Rlp.nestL (its.take (j + 1)) n = max (Rlp.nestL (its.take j) n) (Rlp.nest (its.getD j default) n) := by
  induction its generalizing j with
  | nil => simp at hj
  | cons x xs ih =>
    cases j with
    | zero => simp [Rlp.nestL]
    | succ j => simp only [List.take_succ_cons, Rlp.nestL]; rw [ih j (by simpa using hj)]; simp [Nat.max_assoc]
theorem nest_bd (n : Nat) : ∀ x : Rlp.It, Rlp.nest x n ≤ n + 1 := by
  induction n with
  | zero => intro ⟨_, _, _⟩; simp [Rlp.nest]
  | succ n ih => intro ⟨_, _, its⟩; rw [Rlp.nest]; have := Rlp.nestL_le its n (n + 1) (fun x _ => ih x); omega

set_option maxHeartbeats 2000000 in
theorem nesting_V (n : Nat) : ∀ (k : Nat) (x : Rlp.It) (vl vb vi : Value) (w : World) (N : Int), N = n → n ≤ 16 → IsIt F w k x vl vb vi →
    Calls Tryd.prog 36 #[.agg #[vl, vb, vi], .int .i64 N] w fun e w' => e = .returned (.int .i64 (Rlp.nest x n)) ∧ Below w.heap.size w w' := by
  induction n with
  | zero =>
    intro k x vl vb vi w N hN _ h
    subst hN
    obtain ⟨l, bs, its⟩ := x
    cases k with
    | zero => exact h.elim
    | succ k =>
      obtain ⟨rfl, ⟨a, c, rfl, _, _, _⟩, a', c', rfl, _, _, _⟩ := h
      go_enter Tryd.func36, Tryd.ntmps36
      go_wp2
      go_returns
      exact ⟨by simp [Rlp.nest], by (repeat' (first | (with_reducible exact Below.refl _ _) | (with_reducible refine Below.alloc ?_ ?_ _) | (with_reducible refine Below.drew ?_) | (with_reducible refine Below.setCell ?_ ?_ _) | (with_reducible refine Below.thn (by assumption) ?_ ?_) | (with_reducible refine below_drewN ?_ _) | go_size))⟩
  | succ n ih =>
    intro k x vl vb vi w N hN hn h
    have HN := Lib.hid hN
    have hN0 : 0 < N := by omega
    have hN1 : N ≤ 17 := by omega
    clear hN
    obtain ⟨l, bs, its⟩ := x
    cases k with
    | zero => exact h.elim
    | succ k =>
      obtain ⟨rfl, ⟨a, c, rfl, _, _, _⟩, a', c', rfl, hc1, hc2, h9⟩ := h
      unfold maxLen at hc2
      simp only [Rlp.It.items, Rlp.It.bytes, Rlp.It.list] at h9 hc1 ⊢
      have H9 := Lib.hid h9
      have IH := Lib.hid ih
      clear h9 ih
      go_enter Tryd.func36, Tryd.ntmps36
      go_wp2
      go_loopw [5, 7, 13] (fun m p i wr => ∃ j : Nat, j ≤ its.length ∧ i = .int .i64 j ∧ m = .int .i64 (Rlp.nestL (its.take j) n) ∧ Below w.heap.size w wr) (fun _ _ i _ => its.length - (intOf i).toNat)
      case atStart => exact ⟨0, by omega, rfl, by simp [Rlp.nestL], by (repeat' (first | (with_reducible exact Below.refl _ _) | (with_reducible refine Below.alloc ?_ ?_ _) | (with_reducible refine Below.drew ?_) | (with_reducible refine Below.setCell ?_ ?_ _) | (with_reducible refine Below.thn (by assumption) ?_ ?_) | (with_reducible refine below_drewN ?_ _) | go_size))⟩
      case round =>
        obtain ⟨j, hj, rfl, rfl, hbr⟩ := hrel
        have hzr := hbr.size
        by_cases hlt : j < its.length
        · obtain ⟨b, off, u, v, z, rfl, hF, hl, c0, c1, c2, hx⟩ := H9.out j hlt
          rw [← hbr.cell (p := ⟨b, off + j * 3, none⟩) hl] at c0
          rw [← hbr.cell (p := ⟨b, off + j * 3 + 1, none⟩) hl] at c1
          rw [← hbr.cell (p := ⟨b, off + j * 3 + 2, none⟩) hl] at c2
          obtain ⟨yl, ya, yn, yc, ya', yn', yc', rfl, rfl, rfl⟩ := hx.shape
          have HX := Lib.hid hx
          clear hx
          have et := nestL_take its n j hlt
          obtain ⟨m, hm⟩ : ∃ m, m = Rlp.nestL (its.take j) n := ⟨_, rfl⟩
          obtain ⟨y, hy⟩ : ∃ y, y = Rlp.nest (its.getD j default) n := ⟨_, rfl⟩
          have hyb : y ≤ n + 1 := by rw [hy]; exact nest_bd n _
          rw [← hm, ← hy] at et
          rw [← hm]
          have ET := Lib.hid et
          have HY := Lib.hid hy
          clear et hm hy
          rcases Nat.lt_or_ge m y with hmy | hmy
          · go_wp2_with (go_at_call 36; (with_reducible refine (IH.out k (its.getD j default) _ _ _ _ (N - 1) (by have := HN.out; omega) (by omega) (HX.out.below (hbr.alloc (by omega) _))).mono ?_); rintro e w2 ⟨rfl, hb2⟩; rw [← HY.out]; have hz2 := hb2.size; (try simp at hz2))
            go_roundw
            case rel => exact ⟨j + 1, by omega, by go_num, by rw [ET.out]; go_num, hbr.trans (by (repeat' (first | (with_reducible exact Below.refl _ _) | (with_reducible refine Below.alloc ?_ ?_ _) | (with_reducible refine Below.drew ?_) | (with_reducible refine Below.setCell ?_ ?_ _) | (with_reducible refine Below.thn (by assumption) ?_ ?_) | (with_reducible refine below_drewN ?_ _) | go_size)))⟩
            case measure => simp [intOf]; omega
          · go_wp2_with (go_at_call 36; (with_reducible refine (IH.out k (its.getD j default) _ _ _ _ (N - 1) (by have := HN.out; omega) (by omega) (HX.out.below (hbr.alloc (by omega) _))).mono ?_); rintro e w2 ⟨rfl, hb2⟩; rw [← HY.out]; have hz2 := hb2.size; (try simp at hz2))
            go_roundw
            case rel => exact ⟨j + 1, by omega, by go_num, by rw [ET.out]; go_num, hbr.trans (by (repeat' (first | (with_reducible exact Below.refl _ _) | (with_reducible refine Below.alloc ?_ ?_ _) | (with_reducible refine Below.drew ?_) | (with_reducible refine Below.setCell ?_ ?_ _) | (with_reducible refine Below.thn (by assumption) ?_ ?_) | (with_reducible refine below_drewN ?_ _) | go_size)))⟩
            case measure => simp [intOf]; omega
        · have hjn : its.length = j := by omega
          have E : Hid (its.take j = its) := by show _ = _; rw [← hjn, List.take_length]
          have hb := nest_bd (n + 1) (.mk l bs its)
          rw [E.out]
          simp only [Rlp.nest] at hb ⊢
          go_wp2
          go_returns
          exact ⟨by go_num, hbr⟩
end Go.Proofs.YtgcpnhnckbgjmaaDoor
