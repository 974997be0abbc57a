/-
  mootlaw01.number by its contracts: no error, a number.
-/
import Derived.Test.YtmjlifbnndmjoaaDoorAscE
import Derived.Deep.QuietTactic
import Derived.BigQuiet
import Derived.WalkSmall
set_option linter.unusedVariables false
namespace Go.Proofs.YtmjlifbnndmjoaaDoor
open Go.RowKit

/-- What the walks know of package errors' variable. -/
def ErrType (w : World) : Prop := w.cell? ⟨2, 0, none⟩ = some (.iface 76 (.agg #[.pointer (some ⟨6, 26, none⟩)]))
theorem ErrType.below {w w' : World} (h : ErrType w) (hb : Below w.heap.size w w') : ErrType w' := by
  have hl : 2 < w.heap.size := by
    rcases Nat.lt_or_ge 2 w.heap.size with h' | h'
    · exact h'
    · unfold ErrType at h; simp [World.cell?, Array.getElem?_eq_none h'] at h
  unfold ErrType at h ⊢
  rw [hb.cell (p := ⟨2, 0, none⟩) hl]; exact h
theorem ErrType.lt {w : World} (h : ErrType w) : 2 < w.heap.size := by
  rcases Nat.lt_or_ge 2 w.heap.size with h' | h'
  · exact h'
  · unfold ErrType at h; simp [World.cell?, Array.getElem?_eq_none h'] at h

/-- What errors.As leaves where it sets its target. -/
def AsSet (t : Addr) (v : Value) (w : World) (e : Ending) (w' : World) : Prop := e = .returned (.bool true) ∧ Below t.block w w' ∧ w'.cell? t = some v ∧ w'.frozen? t = false
theorem as_left {t : Addr} {v old : Value} {w : World} (ht0 : w.cell? t = some old) (hf0 : w.frozen? t = false) (c1 c2 c3 c4 : Array Value) (t1 t2 t3 t4 : TypeId) :
    AsSet t v w (.returned (.bool true)) ((((((w.alloc (.cells c1 t1)).alloc (.cells c2 t2)).alloc (.cells c3 t3)).alloc (.cells c4 t4))).setCell t v) := by
  have htl : t.block < w.heap.size := by
    rcases Nat.lt_or_ge t.block w.heap.size with h | h
    · exact h
    · simp [World.cell?, Array.getElem?_eq_none h] at ht0
  refine ⟨rfl, ?_, ?_, ?_⟩
  · exact (((((Below.refl _ _).alloc (by omega) _).alloc (by simp; omega) _).alloc (by simp; omega) _).alloc (by simp; omega) _).setCell (Nat.le_refl _) _
  · have h4 : ((((w.alloc (.cells c1 t1)).alloc (.cells c2 t2)).alloc (.cells c3 t3)).alloc (.cells c4 t4)).cell? t = some old := by
      rw [World.cell?_alloc_lt _ _ t (by simp; omega), World.cell?_alloc_lt _ _ t (by simp; omega), World.cell?_alloc_lt _ _ t (by simp; omega), World.cell?_alloc_lt _ _ t htl]; exact ht0
    obtain ⟨v', h5⟩ := cell?_setCell_some (w := ((((w.alloc (.cells c1 t1)).alloc (.cells c2 t2)).alloc (.cells c3 t3)).alloc (.cells c4 t4))) (p := t) (x := v) (q := t) (v := old) h4
    go_cell
  · rw [World.frozen?_setCell, frozen?_alloc_cells, frozen?_alloc_cells, frozen?_alloc_cells, frozen?_alloc_cells]; exact hf0
theorem asE_num (a : Int) (t : Addr) (old : Value) (w : World) (hg : ErrType w) (ht0 : w.cell? t = some old) (hf0 : w.frozen? t = false) :
    Calls Tryd.prog 22 #[.iface 43 (.int .i64 a), .iface 52 (.pointer (some t))] w (AsSet t (.int .i64 a) w) :=
  (as_EE a t old w hg.lt hg ht0 hf0).mono fun _ _ ⟨he, hw⟩ => by subst he; subst hw; exact as_left ht0 hf0 _ _ _ _ _ _ _ _
theorem ErrType.alloc {w : World} (h : ErrType w) (c : Array Value) (t : TypeId) : ErrType (w.alloc (.cells c t)) := h.below ((Below.refl _ _).alloc (Nat.le_refl _) _)

theorem number_nil (w : World) : Calls Tryd.prog 11 #[.nilIface] w fun e w' => e = .returned (.int .i64 0) ∧ Below w.heap.size w w' := by
  go_enter Tryd.func11, Tryd.ntmps11
  go_wp2
  go_returns
  exact ⟨rfl, by (repeat' (first | (with_reducible exact Below.refl _ _) | (with_reducible refine Below.alloc ?_ ?_ _) | (with_reducible refine Below.drew ?_) | (with_reducible refine Below.setCell ?_ ?_ _) | (with_reducible refine Below.thn (by assumption) ?_ ?_) | (with_reducible refine below_drewN ?_ _) | go_size))⟩
set_option maxHeartbeats 2000000 in
theorem number_num (a : Int) (w : World) (h : Hid (ErrType w)) :
    Calls Tryd.prog 11 #[.iface 43 (.int .i64 a)] w fun e w' => e = .returned (.int .i64 a) ∧ Below w.heap.size w w' := by
  go_enter Tryd.func11, Tryd.ntmps11
  go_wp2_with (first
    | (go_at_call 22; (with_reducible refine (asE_num a ⟨w.heap.size, 0, none⟩ (.int .i64 0) _ (h.out.alloc _ _) (by go_cell) (by simp)).mono ?_); rintro e1 w1 ⟨rfl, hb1, q1, f1⟩; have hz1 := hb1.size; (simp at hz1)))
  go_returns
  exact ⟨rfl, ((Below.refl _ _).alloc (Nat.le_refl _) _).trans hb1⟩
end Go.Proofs.YtmjlifbnndmjoaaDoor
