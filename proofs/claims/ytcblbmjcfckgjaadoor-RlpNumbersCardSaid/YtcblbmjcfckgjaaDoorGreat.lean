/-
  mootref03.rest and Great by their contracts: they answer something.
-/
import Derived.Test.YtcblbmjcfckgjaaDoorRight
set_option linter.unusedVariables false
set_option linter.unusedSimpArgs false
namespace Go.Proofs.YtcblbmjcfckgjaaDoor
open Go.RowKit
variable {F : Nat → Prop}
def RestAt (F : Nat → Prop) (k : Nat) : Prop := ∀ (x : Rlp.It) (vl vb vi : Value) (N : Int) (w : World), IsIt F w k x vl vb vi →
    Calls Tryd.prog 28 #[.agg #[vl, vb, vi], .int .i64 N] w fun e w' => (∃ r, e = .returned (.int .i64 r)) ∧ Below w.heap.size w w'
theorem RestAt.at {k : Nat} (h : RestAt F k) (x : Rlp.It) (vl vb vi : Value) (N : Int) (w : World) (hx : IsIt F w k x vl vb vi) :
    Calls Tryd.prog 28 #[.agg #[vl, vb, vi], .int .i64 N] w fun e w' => (∃ r, e = .returned (.int .i64 r)) ∧ Below w.heap.size w w' := h x vl vb vi N w hx
set_option maxRecDepth 100000 in
set_option maxHeartbeats 1000000 in
theorem rest_V : ∀ k : Nat, RestAt F k := by
  intro k
  induction k with
  | zero => intro x vl vb vi N w h; exact h.elim
  | succ k ih =>
    intro x vl vb vi N w h
    obtain ⟨l, bs, its⟩ := x
    obtain ⟨rfl, ⟨a, c, rfl, hb1, hb2, hn, hb⟩, a', c', rfl, hc1, hc2, h9⟩ := h
    simp only [Rlp.It.items, Rlp.It.bytes, Rlp.It.list] at hb1 hc1 hb h9 ⊢
    unfold maxLen at hc2
    have H9 : Hid (ItsAt F w k a' its) := h9
    have IH := Lib.hid ih
    obtain ⟨n, hn2⟩ : ∃ n, its.length = n := ⟨_, rfl⟩
    obtain ⟨m, hm⟩ : ∃ m, bs.length = m := ⟨_, rfl⟩
    rw [hn2] at hc1 ⊢
    rw [hm]
    have HN := Lib.hid hn2
    clear h9 hm hb hn hn2 ih hb1 hb2
    go_enter Tryd.func28, Tryd.ntmps28
    go_wp2
    go_loopw [1, 5] (fun v i wr => ∃ (j : Nat) (V : Int), j ≤ n ∧ i = .int .i64 j ∧ v = .int .i64 V ∧ Below w.heap.size w wr ∧ wr.cell? ⟨w.heap.size, 2, none⟩ = some (.slice a' n c') ∧ w.heap.size < wr.heap.size) (fun _ i _ => n - (intOf i).toNat)
    case atStart => exact ⟨0, _, by omega, rfl, rfl, by (repeat' (first | (with_reducible exact Below.refl _ _) | (with_reducible refine Below.alloc ?_ ?_ _) | (with_reducible refine Below.drew ?_) | (with_reducible refine Below.setCell ?_ ?_ _) | (with_reducible refine Below.thn (by assumption) ?_ ?_) | (with_reducible refine below_drewN ?_ _) | go_size)), by go_cell, by simp⟩
    case round =>
      obtain ⟨j, V, hj, rfl, rfl, hbr, hbx, hsr⟩ := hrel
      by_cases hlt : j < n
      · by_cases hV : 0 ≤ V
        · obtain ⟨b, off, u, v, z, rfl, hF, hbl, c0, c1, c2, hx⟩ := H9.out j (by rw [HN.out]; exact hlt)
          rw [← hbr.cell (p := ⟨b, off + j * 3, none⟩) hbl] at c0
          rw [← hbr.cell (p := ⟨b, off + j * 3 + 1, none⟩) hbl] at c1
          rw [← hbr.cell (p := ⟨b, off + j * 3 + 2, none⟩) hbl] at c2
          obtain ⟨yl, ya, yn, yc, ya', yn', yc', rfl, rfl, rfl⟩ := hx.shape
          have HX := Lib.hid (hx.below hbr)
          clear hx
          go_wp2_with (go_at_call 28; (with_reducible refine (IH.out.at (its.getD j default) _ _ _ V _ HX.out).mono ?_); rintro e w2 ⟨⟨r, rfl⟩, hb2⟩)
          go_roundw
          case rel => exact ⟨j + 1, r, by omega, by go_num, rfl, hbr.trans (hb2.mono (by omega)), by rw [hb2.cell (p := ⟨w.heap.size, 2, none⟩) hsr]; exact hbx, by have := hb2.size; omega⟩
          case measure => simp [intOf]; omega
        · have hv : decide (V ≥ 0) = false := by simp; omega
          go_wp2
          go_returns
          exact ⟨⟨V, rfl⟩, hbr⟩
      · go_wp2
        go_returns
        exact ⟨⟨V, rfl⟩, hbr⟩
theorem great_V (k : Nat) (x : Rlp.It) (vl vb vi : Value) (w : World) (h : IsIt F w k x vl vb vi) :
    Calls Tryd.prog 14 #[.agg #[vl, vb, vi]] w fun e w' => (∃ r, e = .returned (.bool r)) ∧ Below w.heap.size w w' := by
  obtain ⟨yl, ya, yn, yc, ya', yn', yc', rfl, rfl, rfl⟩ := h.shape
  have H := Lib.hid (h.below ((Below.refl _ _).alloc (Nat.le_refl _) (.cells #[.bool yl, .slice ya yn yc, .slice ya' yn' yc'] TI)))
  clear h
  go_enter Tryd.func14, Tryd.ntmps14
  go_wp2_with (go_at_call 28; (with_reducible refine ((rest_V k).at x _ _ _ 262144 _ H.out).mono ?_); rintro e w2 ⟨⟨r, rfl⟩, hb2⟩)
  go_returns
  exact ⟨⟨_, rfl⟩, ((Below.refl _ _).alloc (Nat.le_refl _) _).trans (hb2.mono (by simp))⟩
end Go.Proofs.YtcblbmjcfckgjaaDoor
