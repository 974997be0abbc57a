/-
  mootlaw03.Why by its contracts: no error, a number, a fault that wraps a number.
-/
import Derived.Test.YtgcpnhnckbgjmaaDoorAsc
import Derived.Deep.QuietTactic
import Derived.BigQuiet
import Derived.WalkSmall
set_option linter.unusedVariables false
namespace Go.Proofs.YtgcpnhnckbgjmaaDoor
open Go.RowKit

/-- What the walks know of package errors' variable. -/
def ErrType (w : World) : Prop := w.cell? ⟨0, 0, none⟩ = some (.iface 115 (.agg #[.pointer (some ⟨1, 27, none⟩)]))
theorem ErrType.below {w w' : World} (h : ErrType w) (hb : Below w.heap.size w w') : ErrType w' := by
  have hl : 0 < w.heap.size := by
    rcases Nat.lt_or_ge 0 w.heap.size with h' | h'
    · exact h'
    · unfold ErrType at h; simp [World.cell?, Array.getElem?_eq_none h'] at h
  unfold ErrType at h ⊢
  rw [hb.cell (p := ⟨0, 0, none⟩) hl]; exact h
theorem ErrType.lt {w : World} (h : ErrType w) : 0 < w.heap.size := by
  rcases Nat.lt_or_ge 0 w.heap.size with h' | h'
  · exact h'
  · unfold ErrType at h; simp [World.cell?, Array.getElem?_eq_none h'] at h

/-- What errors.As leaves where it sets its target. -/
def AsSet (t : Addr) (v : Value) (w : World) (e : Ending) (w' : World) : Prop := e = .returned (.bool true) ∧ Below t.block w w' ∧ w'.cell? t = some v ∧ w'.frozen? t = false
theorem as_left {t : Addr} {v old : Value} {w : World} (ht0 : w.cell? t = some old) (hf0 : w.frozen? t = false) (c1 c2 c3 c4 : Array Value) (t1 t2 t3 t4 : TypeId) :
    AsSet t v w (.returned (.bool true)) ((((((w.alloc (.cells c1 t1)).alloc (.cells c2 t2)).alloc (.cells c3 t3)).alloc (.cells c4 t4))).setCell t v) := by
  have htl : t.block < w.heap.size := by
    rcases Nat.lt_or_ge t.block w.heap.size with h | h
    · exact h
    · simp [World.cell?, Array.getElem?_eq_none h] at ht0
  refine ⟨rfl, ?_, ?_, ?_⟩
  · exact (((((Below.refl _ _).alloc (by omega) _).alloc (by simp; omega) _).alloc (by simp; omega) _).alloc (by simp; omega) _).setCell (Nat.le_refl _) _
  · have h4 : ((((w.alloc (.cells c1 t1)).alloc (.cells c2 t2)).alloc (.cells c3 t3)).alloc (.cells c4 t4)).cell? t = some old := by
      rw [World.cell?_alloc_lt _ _ t (by simp; omega), World.cell?_alloc_lt _ _ t (by simp; omega), World.cell?_alloc_lt _ _ t (by simp; omega), World.cell?_alloc_lt _ _ t htl]; exact ht0
    obtain ⟨v', h5⟩ := cell?_setCell_some (w := ((((w.alloc (.cells c1 t1)).alloc (.cells c2 t2)).alloc (.cells c3 t3)).alloc (.cells c4 t4))) (p := t) (x := v) (q := t) (v := old) h4
    go_cell
  · rw [World.frozen?_setCell, frozen?_alloc_cells, frozen?_alloc_cells, frozen?_alloc_cells, frozen?_alloc_cells]; exact hf0
theorem asE_num (a : Int) (t : Addr) (old : Value) (w : World) (hg : ErrType w) (ht0 : w.cell? t = some old) (hf0 : w.frozen? t = false) :
    Calls Tryd.prog 48 #[.iface 62 (.int .i64 a), .iface 105 (.pointer (some t))] w (AsSet t (.int .i64 a) w) :=
  (as_EE a t old w hg.lt hg ht0 hf0).mono fun _ _ ⟨he, hw⟩ => by subst he; subst hw; exact as_left ht0 hf0 _ _ _ _ _ _ _ _
theorem asE_fault (pb po : Nat) (a : Int) (t : Addr) (old : Value) (w : World) (hg : ErrType w) (hp : w.cell? ⟨pb, po + 1, none⟩ = some (.iface 62 (.int .i64 a))) (ht0 : w.cell? t = some old) (hf0 : w.frozen? t = false) :
    Calls Tryd.prog 48 #[.iface 74 (.pointer (some ⟨pb, po, none⟩)), .iface 105 (.pointer (some t))] w (AsSet t (.int .i64 a) w) :=
  (as_FE pb po a t old w hg.lt hg hp ht0 hf0).mono fun _ _ ⟨he, hw⟩ => by subst he; subst hw; exact as_left ht0 hf0 _ _ _ _ _ _ _ _
theorem asF_fault (p : Addr) (t : Addr) (old : Value) (w : World) (hg : ErrType w) (ht0 : w.cell? t = some old) (hf0 : w.frozen? t = false) :
    Calls Tryd.prog 48 #[.iface 74 (.pointer (some p)), .iface 106 (.pointer (some t))] w (AsSet t (.pointer (some p)) w) :=
  (as_FF p t old w hg.lt hg ht0 hf0).mono fun _ _ ⟨he, hw⟩ => by subst he; subst hw; exact as_left ht0 hf0 _ _ _ _ _ _ _ _
theorem asF_num (a : Int) (t : Addr) (w : World) (hg : ErrType w) :
    Calls Tryd.prog 48 #[.iface 62 (.int .i64 a), .iface 106 (.pointer (some t))] w fun e w' => e = .returned (.bool false) ∧ Below w.heap.size w w' :=
  (as_EF a t w hg.lt hg).mono fun _ _ ⟨he, hw⟩ => ⟨he, by subst hw; exact ((((Below.refl _ _).alloc (by omega) _).alloc (by simp) _).alloc (by simp; omega) _)⟩

theorem why_nil (w : World) : Calls Tryd.prog 32 #[.nilIface] w fun e w' => e = .returned (.tuple #[.int .i64 0, .int .i64 (-1)]) ∧ Below w.heap.size w w' := by
  go_enter Tryd.func32, Tryd.ntmps32
  go_wp2
  go_returns
  exact ⟨rfl, by (repeat' (first | (with_reducible exact Below.refl _ _) | (with_reducible refine Below.alloc ?_ ?_ _) | (with_reducible refine Below.drew ?_) | (with_reducible refine Below.setCell ?_ ?_ _) | (with_reducible refine Below.thn (by assumption) ?_ ?_) | (with_reducible refine below_drewN ?_ _) | go_size))⟩

theorem ErrType.alloc {w : World} (h : ErrType w) (c : Array Value) (t : TypeId) : ErrType (w.alloc (.cells c t)) := h.below ((Below.refl _ _).alloc (Nat.le_refl _) _)

set_option maxHeartbeats 2000000 in
theorem why_num (a : Int) (w : World) (h : Hid (ErrType w)) :
    Calls Tryd.prog 32 #[.iface 62 (.int .i64 a)] w fun e w' => e = .returned (.tuple #[.int .i64 a, .int .i64 (-1)]) ∧ Below w.heap.size w w' := by
  go_enter Tryd.func32, Tryd.ntmps32
  go_wp2_with (first
    | (go_at_call 48; (with_reducible refine (asE_num a ⟨w.heap.size, 0, none⟩ (.int .i64 0) _ (h.out.alloc _ _) (by go_cell) (by simp)).mono ?_); rintro e1 w1 ⟨rfl, hb1, q1, f1⟩; have hz1 := hb1.size; (simp at hz1); have hs1 : w.heap.size < w1.heap.size := (by omega); have h1 : Hid (ErrType w1) := (h.out.below (((Below.refl _ _).alloc (Nat.le_refl _) _).trans hb1)))
    | (go_at_call 48; (with_reducible refine (asF_num a _ _ (h1.out.alloc _ _)).mono ?_); rintro e2 w2 ⟨rfl, hb2⟩; obtain ⟨hc2, hf2⟩ := bcell hb2; have hz2 := hb2.size; (try simp at hz2); have hs2_w0 : w.heap.size < w2.heap.size := (by omega)))
  go_returns
  exact ⟨rfl, (((Below.refl _ _).alloc (Nat.le_refl _) _).trans hb1).trans (((Below.refl _ _).alloc (Nat.le_refl _) _ |>.trans (hb2.mono (by simp))).mono (by omega))⟩

set_option maxHeartbeats 2000000 in
theorem why_fault (pb po : Nat) (at0 a : Int) (w : World) (h : Hid (ErrType w)) (ha : w.cell? ⟨pb, po, none⟩ = some (.int .i64 at0)) (hw : w.cell? ⟨pb, po + 1, none⟩ = some (.iface 62 (.int .i64 a))) :
    Calls Tryd.prog 32 #[.iface 74 (.pointer (some ⟨pb, po, none⟩))] w fun e w' => e = .returned (.tuple #[.int .i64 a, .int .i64 at0]) ∧ Below w.heap.size w w' := by
  have hpl : pb < w.heap.size := by
    rcases Nat.lt_or_ge pb w.heap.size with h | h
    · exact h
    · simp [World.cell?, Array.getElem?_eq_none h] at ha
  go_enter Tryd.func32, Tryd.ntmps32
  go_wp2_with (first
    | (go_at_call 48; (with_reducible refine (asE_fault pb po a ⟨w.heap.size, 0, none⟩ (.int .i64 0) _ (h.out.alloc _ _) (by rw [World.cell?_alloc_lt _ _ ⟨pb, po + 1, none⟩ hpl]; exact hw) (by go_cell) (by simp)).mono ?_); rintro e1 w1 ⟨rfl, hb1, q1, f1⟩; have hz1 := hb1.size; (simp at hz1); have hs1 : w.heap.size < w1.heap.size := (by omega); have h1 : Hid (ErrType w1) := (h.out.below (((Below.refl _ _).alloc (Nat.le_refl _) _).trans hb1)); have ha1 : w1.cell? ⟨pb, po, none⟩ = some (.int .i64 at0) := (by rw [hb1.cell (p := ⟨pb, po, none⟩) hpl, World.cell?_alloc_lt _ _ ⟨pb, po, none⟩ hpl]; exact ha))
    | (go_at_call 48; (with_reducible refine (asF_fault ⟨pb, po, none⟩ ⟨w1.heap.size, 0, none⟩ (.pointer none) _ (h1.out.alloc _ _) (by go_cell) (by simp)).mono ?_); rintro e2 w2 ⟨rfl, hb2, q2, f2⟩; have q1' : w2.cell? ⟨w.heap.size, 0, none⟩ = some (.int .i64 a) := (by rw [hb2.cell (p := ⟨w.heap.size, 0, none⟩) hs1, World.cell?_alloc_lt _ _ ⟨w.heap.size, 0, none⟩ hs1]; exact q1); have ha2 : w2.cell? ⟨pb, po, none⟩ = some (.int .i64 at0) := (by rw [hb2.cell (p := ⟨pb, po, none⟩) (Nat.lt_trans hpl hs1), World.cell?_alloc_lt _ _ ⟨pb, po, none⟩ (Nat.lt_trans hpl hs1)]; exact ha1)))
  go_quiet (fail)
  go_wp2
  go_returns
  exact ⟨rfl, below_drewN ((((Below.refl _ _).alloc (Nat.le_refl _) _).trans hb1).trans (((Below.refl _ _).alloc (Nat.le_refl _) _ |>.trans hb2).mono (by omega))) _⟩
end Go.Proofs.YtgcpnhnckbgjmaaDoor
