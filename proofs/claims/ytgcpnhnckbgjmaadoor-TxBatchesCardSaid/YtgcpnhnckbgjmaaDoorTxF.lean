/-
  tx.fields and tx.within by their contracts.
-/
import Derived.Test.YtgcpnhnckbgjmaaDoorRound
import Derived.Test.YtgcpnhnckbgjmaaDoorStr
import Derived.Test.YtgcpnhnckbgjmaaDoorDec
import Derived.Test.YtgcpnhnckbgjmaaDoorRel
set_option linter.unusedVariables false
set_option linter.unusedSimpArgs false
namespace Go.Proofs.YtgcpnhnckbgjmaaDoor
open Go.RowKit
abbrev TTX : TypeId := 24
/-- May a number stand at a place? -/
def inn (i v : Nat) : Bool := if i < 2 then decide (v < 64) else if i = 4 then decide (v ≤ 96) else true
set_option maxHeartbeats 1000000 in
theorem within_V (i v : Nat) (hi : i < 6) (P : Int) (hP : P = (i : Int)) (w : World) :
    Calls Tryd.prog 20 #[.int .i64 P, .int .u64 v] w fun e w' => e = .returned (.bool (inn i v)) ∧ w = w' := by
  subst hP
  rcases (by omega : i = 0 ∨ i = 1 ∨ i = 2 ∨ i = 3 ∨ i = 4 ∨ i = 5) with rfl | rfl | rfl | rfl | rfl | rfl
  all_goals
    go_enter Tryd.func20, Tryd.ntmps20
    go_wp2
    go_returns
    exact ⟨by simp [inn] <;> omega, rfl⟩
/-- The six fields' addresses. -/
def flds (b : Nat) : Value := .agg #[.pointer (some ⟨b, 0, none⟩), .pointer (some ⟨b, 1, none⟩), .pointer (some ⟨b, 2, none⟩), .pointer (some ⟨b, 3, none⟩), .pointer (some ⟨b, 4, none⟩), .pointer (some ⟨b, 5, none⟩)]
/-- The six cells of a call's own result. -/
structure Six (w W : World) (v0 v1 v2 v3 v4 v5 : Value) : Prop where
  b : Below w.heap.size w W
  lt : w.heap.size < W.heap.size
  c0 : W.cell? ⟨w.heap.size, 0, none⟩ = some v0
  c1 : W.cell? ⟨w.heap.size, 1, none⟩ = some v1
  c2 : W.cell? ⟨w.heap.size, 2, none⟩ = some v2
  c3 : W.cell? ⟨w.heap.size, 3, none⟩ = some v3
  c4 : W.cell? ⟨w.heap.size, 4, none⟩ = some v4
  c5 : W.cell? ⟨w.heap.size, 5, none⟩ = some v5
  f0 : W.frozen? ⟨w.heap.size, 0, none⟩ = false
  f1 : W.frozen? ⟨w.heap.size, 1, none⟩ = false
  f2 : W.frozen? ⟨w.heap.size, 2, none⟩ = false
  f3 : W.frozen? ⟨w.heap.size, 3, none⟩ = false
  f4 : W.frozen? ⟨w.heap.size, 4, none⟩ = false
  f5 : W.frozen? ⟨w.heap.size, 5, none⟩ = false
theorem Six.below {w W W' : World} {v0 v1 v2 v3 v4 v5 : Value} (h : Six w W v0 v1 v2 v3 v4 v5) (hb : Below W.heap.size W W') : Six w W' v0 v1 v2 v3 v4 v5 :=
  ⟨h.b.trans (hb.mono h.b.size), by have := h.lt; have := hb.size; omega, by rw [hb.cell (p := ⟨w.heap.size, 0, none⟩) h.lt]; exact h.c0, by rw [hb.cell (p := ⟨w.heap.size, 1, none⟩) h.lt]; exact h.c1, by rw [hb.cell (p := ⟨w.heap.size, 2, none⟩) h.lt]; exact h.c2, by rw [hb.cell (p := ⟨w.heap.size, 3, none⟩) h.lt]; exact h.c3, by rw [hb.cell (p := ⟨w.heap.size, 4, none⟩) h.lt]; exact h.c4, by rw [hb.cell (p := ⟨w.heap.size, 5, none⟩) h.lt]; exact h.c5, by rw [hb.frozen (p := ⟨w.heap.size, 0, none⟩) h.lt]; exact h.f0, by rw [hb.frozen (p := ⟨w.heap.size, 1, none⟩) h.lt]; exact h.f1, by rw [hb.frozen (p := ⟨w.heap.size, 2, none⟩) h.lt]; exact h.f2, by rw [hb.frozen (p := ⟨w.heap.size, 3, none⟩) h.lt]; exact h.f3, by rw [hb.frozen (p := ⟨w.heap.size, 4, none⟩) h.lt]; exact h.f4, by rw [hb.frozen (p := ⟨w.heap.size, 5, none⟩) h.lt]; exact h.f5⟩
theorem Six.store {w W : World} {v0 v1 v2 v3 v4 v5 : Value} (h : Six w W v0 v1 v2 v3 v4 v5) (u0 u1 u2 u3 u4 u5 : Value) : Six w ((((((W.setCell ⟨w.heap.size, 0, none⟩ u0).setCell ⟨w.heap.size, 1, none⟩ u1).setCell ⟨w.heap.size, 2, none⟩ u2).setCell ⟨w.heap.size, 3, none⟩ u3).setCell ⟨w.heap.size, 4, none⟩ u4).setCell ⟨w.heap.size, 5, none⟩ u5) u0 u1 u2 u3 u4 u5 := by
  have c0 := h.c0
  have c1 := h.c1
  have c2 := h.c2
  have c3 := h.c3
  have c4 := h.c4
  have c5 := h.c5
  refine ⟨((((((h.b.setCell (Nat.le_refl _) _).setCell (Nat.le_refl _) _).setCell (Nat.le_refl _) _).setCell (Nat.le_refl _) _).setCell (Nat.le_refl _) _).setCell (Nat.le_refl _) _), by simpa using h.lt, by go_cell, by go_cell, by go_cell, by go_cell, by go_cell, by go_cell, by simp only [World.frozen?_setCell]; exact h.f0, by simp only [World.frozen?_setCell]; exact h.f1, by simp only [World.frozen?_setCell]; exact h.f2, by simp only [World.frozen?_setCell]; exact h.f3, by simp only [World.frozen?_setCell]; exact h.f4, by simp only [World.frozen?_setCell]; exact h.f5⟩
set_option maxRecDepth 100000 in
set_option maxHeartbeats 4000000 in
theorem fields_V (b : Nat) (w : World) :
    Calls Tryd.prog 19 #[.pointer (some ⟨b, 0, none⟩)] w fun e w' => e = .returned (flds b) ∧ Below w.heap.size w w' := by
  go_enter Tryd.func19, Tryd.ntmps19
  go_wp2_with fail
  refine wp_region_relG (fun _ => True) (fun W => Six w W (.pointer none) (.pointer none) (.pointer none) (.pointer none) (.pointer none) (.pointer none)) (by kernel_rfl) ⟨by (repeat' (first | (with_reducible exact Below.refl _ _) | (with_reducible refine Below.alloc ?_ ?_ _) | (with_reducible refine Below.drew ?_) | (with_reducible refine Below.setCell ?_ ?_ _) | (with_reducible refine Below.thn (by assumption) ?_ ?_) | (with_reducible refine below_drewN ?_ _) | go_size)), by simp, by go_cell, by go_cell, by go_cell, by go_cell, by go_cell, by go_cell, by simp, by simp, by simp, by simp, by simp, by simp⟩ ?_
  refine relR_pure 0 _ (by intro _ _; trivial) (by kernel_rfl) rfl (by kernel_rfl) (by kernel_rfl) (by go_simp) ?_
  apply Exists.intro
  refine ⟨fun W hW => ?_, fun K hK => ?_⟩
  · unfold effAt
    go_simp
    exact ⟨rfl, rfl⟩
  go_simp
  refine hK _ ?_
  clear hK K
  refine relR_pure 1 _ (by intro _ _; trivial) (by kernel_rfl) rfl (by kernel_rfl) (by kernel_rfl) (by go_simp) ?_
  apply Exists.intro
  refine ⟨fun W hW => ?_, fun K hK => ?_⟩
  · unfold effAt
    go_simp
    exact ⟨rfl, rfl⟩
  go_simp
  refine hK _ ?_
  clear hK K
  refine relR_pure 2 _ (by intro _ _; trivial) (by kernel_rfl) rfl (by kernel_rfl) (by kernel_rfl) (by go_simp) ?_
  apply Exists.intro
  refine ⟨fun W hW => ?_, fun K hK => ?_⟩
  · unfold effAt
    go_simp
    exact ⟨rfl, rfl⟩
  go_simp
  refine hK _ ?_
  clear hK K
  refine relR_pure 3 _ (by intro _ _; trivial) (by kernel_rfl) rfl (by kernel_rfl) (by kernel_rfl) (by go_simp) ?_
  apply Exists.intro
  refine ⟨fun W hW => ?_, fun K hK => ?_⟩
  · unfold effAt
    go_simp
    exact ⟨rfl, rfl⟩
  go_simp
  refine hK _ ?_
  clear hK K
  refine relR_pure 4 _ (by intro _ _; trivial) (by kernel_rfl) rfl (by kernel_rfl) (by kernel_rfl) (by go_simp) ?_
  apply Exists.intro
  refine ⟨fun W hW => ?_, fun K hK => ?_⟩
  · unfold effAt
    go_simp
    exact ⟨rfl, rfl⟩
  go_simp
  refine hK _ ?_
  clear hK K
  refine relR_pure 5 _ (by intro _ _; trivial) (by kernel_rfl) rfl (by kernel_rfl) (by kernel_rfl) (by go_simp) ?_
  apply Exists.intro
  refine ⟨fun W hW => ?_, fun K hK => ?_⟩
  · unfold effAt
    go_simp
    exact ⟨rfl, rfl⟩
  go_simp
  refine hK _ ?_
  clear hK K
  refine relR_pure 6 _ (by intro _ _; trivial) (by kernel_rfl) rfl (by kernel_rfl) (by kernel_rfl) (by go_simp) ?_
  apply Exists.intro
  refine ⟨fun W hW => ?_, fun K hK => ?_⟩
  · unfold effAt
    go_simp
    exact ⟨rfl, rfl⟩
  go_simp
  refine hK _ ?_
  clear hK K
  refine relR_pure 7 _ (by intro _ _; trivial) (by kernel_rfl) rfl (by kernel_rfl) (by kernel_rfl) (by go_simp) ?_
  apply Exists.intro
  refine ⟨fun W hW => ?_, fun K hK => ?_⟩
  · unfold effAt
    go_simp
    exact ⟨rfl, rfl⟩
  go_simp
  refine hK _ ?_
  clear hK K
  refine relR_pure 8 _ (by intro _ _; trivial) (by kernel_rfl) rfl (by kernel_rfl) (by kernel_rfl) (by go_simp) ?_
  apply Exists.intro
  refine ⟨fun W hW => ?_, fun K hK => ?_⟩
  · unfold effAt
    go_simp
    exact ⟨rfl, rfl⟩
  go_simp
  refine hK _ ?_
  clear hK K
  refine relR_pure 9 _ (by intro _ _; trivial) (by kernel_rfl) rfl (by kernel_rfl) (by kernel_rfl) (by go_simp) ?_
  apply Exists.intro
  refine ⟨fun W hW => ?_, fun K hK => ?_⟩
  · unfold effAt
    go_simp
    exact ⟨rfl, rfl⟩
  go_simp
  refine hK _ ?_
  clear hK K
  refine relR_pure 10 _ (by intro _ _; trivial) (by kernel_rfl) rfl (by kernel_rfl) (by kernel_rfl) (by go_simp) ?_
  apply Exists.intro
  refine ⟨fun W hW => ?_, fun K hK => ?_⟩
  · unfold effAt
    go_simp
    exact ⟨rfl, rfl⟩
  go_simp
  refine hK _ ?_
  clear hK K
  refine relR_pure 11 _ (by intro _ _; trivial) (by kernel_rfl) rfl (by kernel_rfl) (by kernel_rfl) (by go_simp) ?_
  apply Exists.intro
  refine ⟨fun W hW => ?_, fun K hK => ?_⟩
  · unfold effAt
    go_simp
    exact ⟨rfl, rfl⟩
  go_simp
  refine hK _ ?_
  clear hK K
  refine relR_pure 12 _ (by intro _ _; trivial) (by kernel_rfl) rfl (by kernel_rfl) (by kernel_rfl) (by go_simp) ?_
  apply Exists.intro
  refine ⟨fun W hW => ?_, fun K hK => ?_⟩
  · unfold effAt
    go_simp
    exact ⟨rfl, rfl⟩
  go_simp
  refine hK _ ?_
  clear hK K
  refine relR_pure 13 _ (by intro _ _; trivial) (by kernel_rfl) rfl (by kernel_rfl) (by kernel_rfl) (by go_simp) ?_
  apply Exists.intro
  refine ⟨fun W hW => ?_, fun K hK => ?_⟩
  · unfold effAt
    go_simp
    exact ⟨rfl, rfl⟩
  go_simp
  refine hK _ ?_
  clear hK K
  refine relR_pure 14 _ (by intro _ _; trivial) (by kernel_rfl) rfl (by kernel_rfl) (by kernel_rfl) (by go_simp) ?_
  apply Exists.intro
  refine ⟨fun W hW => ?_, fun K hK => ?_⟩
  · unfold effAt
    go_simp
    exact ⟨rfl, rfl⟩
  go_simp
  refine hK _ ?_
  clear hK K
  refine relR_pure 15 _ (by intro _ _; trivial) (by kernel_rfl) rfl (by kernel_rfl) (by kernel_rfl) (by go_simp) ?_
  apply Exists.intro
  refine ⟨fun W hW => ?_, fun K hK => ?_⟩
  · unfold effAt
    go_simp
    exact ⟨rfl, rfl⟩
  go_simp
  refine hK _ ?_
  clear hK K
  refine relR_pure 16 _ (by intro _ _; trivial) (by kernel_rfl) rfl (by kernel_rfl) (by kernel_rfl) (by go_simp) ?_
  apply Exists.intro
  refine ⟨fun W hW => ?_, fun K hK => ?_⟩
  · unfold effAt
    go_simp
    exact ⟨rfl, rfl⟩
  go_simp
  refine hK _ ?_
  clear hK K
  refine relR_pure 17 _ (by intro _ _; trivial) (by kernel_rfl) rfl (by kernel_rfl) (by kernel_rfl) (by go_simp) ?_
  apply Exists.intro
  refine ⟨fun W hW => ?_, fun K hK => ?_⟩
  · unfold effAt
    go_simp
    exact ⟨rfl, rfl⟩
  go_simp
  refine hK _ ?_
  clear hK K
  refine relR_pure 18 _ (by intro _ _; trivial) (by kernel_rfl) rfl (by kernel_rfl) (by kernel_rfl) (by go_simp) ?_
  apply Exists.intro
  refine ⟨fun W hW => ?_, fun K hK => ?_⟩
  · unfold effAt
    go_simp
    exact ⟨rfl, rfl⟩
  go_simp
  refine hK _ ?_
  clear hK K
  refine relR_call 19 _ rfl (by kernel_rfl) (by go_simp) Unit (fun _ => undef) (fun _ _ => True) (fun _ W => Six w W (.pointer (some ⟨b, 0, none⟩)) (.pointer (some ⟨b, 1, none⟩)) (.pointer (some ⟨b, 2, none⟩)) (.pointer (some ⟨b, 3, none⟩)) (.pointer (some ⟨b, 4, none⟩)) (.pointer (some ⟨b, 5, none⟩))) (fun _ _ _ => trivial) (fun W hW => ?_) (fun _ K hK => ?_)
  · have hs := hW.store (.pointer (some ⟨b, 0, none⟩)) (.pointer (some ⟨b, 1, none⟩)) (.pointer (some ⟨b, 2, none⟩)) (.pointer (some ⟨b, 3, none⟩)) (.pointer (some ⟨b, 4, none⟩)) (.pointer (some ⟨b, 5, none⟩))
    have c0 := hW.c0
    have c1 := hW.c1
    have c2 := hW.c2
    have c3 := hW.c3
    have c4 := hW.c4
    have c5 := hW.c5
    have f0 := hW.f0
    have f1 := hW.f1
    have f2 := hW.f2
    have f3 := hW.f3
    have f4 := hW.f4
    have f5 := hW.f5
    unfold effAt
    go_simp
    first | exact hs | exact ⟨rfl, hs⟩ | exact ⟨hs, trivial⟩ | exact ⟨(), rfl, hs, trivial⟩
  go_simp
  refine hK _ ?_
  clear hK K
  refine relR_end (by kernel_rfl) (fun W hW => ?_)
  have HF := Lib.hid hW.1
  have z0 := hW.1.c0
  have z1 := hW.1.c1
  have z2 := hW.1.c2
  have z3 := hW.1.c3
  have z4 := hW.1.c4
  have z5 := hW.1.c5
  clear hW
  go_wp2_with fail
  refine bodyPost_ret (by simp [results, Tryd.results19, go_sem, z0, z1, z2, z3, z4, z5]; try rfl) rfl ?_
  exact ⟨rfl, HF.out.b⟩
end Go.Proofs.YtgcpnhnckbgjmaaDoor
