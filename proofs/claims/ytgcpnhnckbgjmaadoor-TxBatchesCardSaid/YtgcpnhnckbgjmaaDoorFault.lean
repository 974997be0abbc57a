/-
  rlp.fault by its contract.
-/
import Derived.Test.YtgcpnhnckbgjmaaDoorVal2
set_option linter.unusedVariables false
set_option linter.unusedSimpArgs false
namespace Go.Proofs.YtgcpnhnckbgjmaaDoor
open Go.RowKit
abbrev TF : TypeId := 74
/-- An error at a place, where it lies. -/
structure FaultAt (w : World) (p at_ c : Nat) : Prop where
  lt : p < w.heap.size
  pl : w.cell? ⟨p, 0, none⟩ = some (.int .i64 at_)
  why : w.cell? ⟨p, 1, none⟩ = some (.iface TE (.int .i64 c))
theorem FaultAt.below {w w' : World} {p at_ c : Nat} (h : FaultAt w p at_ c) (hb : Below w.heap.size w w') : FaultAt w' p at_ c :=
  ⟨by have := hb.size; have := h.lt; omega, by rw [hb.cell (p := ⟨p, 0, none⟩) h.lt]; exact h.pl, by rw [hb.cell (p := ⟨p, 1, none⟩) h.lt]; exact h.why⟩
set_option maxRecDepth 100000 in
theorem fault_V (at_ c : Nat) (A C : Int) (w : World) (hA : A = (at_ : Int)) (hC : C = (c : Int)) :
    Calls Tryd.prog 42 #[.int .i64 A, .iface TE (.int .i64 C)] w fun e w' => e = .returned (.iface TF (.pointer (some ⟨w.heap.size, 0, none⟩))) ∧ FaultAt w' w.heap.size at_ c ∧ Below w.heap.size w w' ∧ w'.heap.size = w.heap.size + 1 := by
  subst hA; subst hC
  go_enter Tryd.func42, Tryd.ntmps42
  go_wp2
  go_returns
  exact ⟨rfl, ⟨by simp, by go_cell, by go_cell⟩, by (repeat' (first | (with_reducible exact Below.refl _ _) | (with_reducible refine Below.alloc ?_ ?_ _) | (with_reducible refine Below.drew ?_) | (with_reducible refine Below.setCell ?_ ?_ _) | (with_reducible refine Below.thn (by assumption) ?_ ?_) | (with_reducible refine below_drewN ?_ _) | go_size)), by simp⟩
end Go.Proofs.YtgcpnhnckbgjmaaDoor
