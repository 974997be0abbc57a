/-
  rlp.Number and rlp.Value by their contracts.
-/
import Derived.Test.YtgcpnhnckbgjmaaDoorEnc
set_option linter.unusedVariables false
set_option linter.unusedSimpArgs false
namespace Go.Proofs.YtgcpnhnckbgjmaaDoor
open Go.RowKit
variable {F : Nat → Prop}
theorem OwnB.setBelow {w : World} {base : Nat} {ao : Option Addr} {n c : Nat} {bs : List UInt8} (h : OwnB w base ao n c bs) {a : Addr} (ha : a.block < base) (u : Value) : OwnB (w.setCell a u) base ao n c bs := ⟨h.len, ownsRow_setCell_below h.own ha u⟩
set_option maxRecDepth 100000 in
set_option maxHeartbeats 4000000 in
theorem number_V (V : Nat) (w : World) (hV : Hid (V < 18446744073709551616)) :
    Calls Tryd.prog 21 #[.int .u64 V] w fun e w' => ∃ ao n c, e = .returned (.agg #[.bool false, .slice ao n c, .slice none 0 0]) ∧ OwnB w' w.heap.size ao n c (Rlp.big V) ∧ Below w.heap.size w w' := by
  go_enter Tryd.func21, Tryd.ntmps21
  go_wp2_with (go_at_call 35; (with_reducible refine (big_V V _ hV).mono ?_); rintro e w2 ⟨ab, k, cb, rfl, ho, hb2⟩; have HO := Lib.hid ho; have HB2 := Lib.hid hb2; have hz2 := hb2.size; (try simp at hz2); have hz2' : w.heap.size < w2.heap.size := (by omega); have q0 : w2.cell? ⟨w.heap.size, 0, none⟩ = some (.bool false) := (by rw [hb2.cell (p := ⟨w.heap.size, 0, none⟩) (by simp)]; go_cell); have q1 : w2.cell? ⟨w.heap.size, 1, none⟩ = some (.slice none 0 0) := (by rw [hb2.cell (p := ⟨w.heap.size, 1, none⟩) (by simp)]; go_cell); have q2 : w2.cell? ⟨w.heap.size, 2, none⟩ = some (.slice none 0 0) := (by rw [hb2.cell (p := ⟨w.heap.size, 2, none⟩) (by simp)]; go_cell); have f0 : w2.frozen? ⟨w.heap.size, 0, none⟩ = false := (by rw [hb2.frozen (p := ⟨w.heap.size, 0, none⟩) (by simp)]; simp); have f1 : w2.frozen? ⟨w.heap.size, 1, none⟩ = false := (by rw [hb2.frozen (p := ⟨w.heap.size, 1, none⟩) (by simp)]; simp); have f2 : w2.frozen? ⟨w.heap.size, 2, none⟩ = false := (by rw [hb2.frozen (p := ⟨w.heap.size, 2, none⟩) (by simp)]; simp); clear ho hb2)
  refine bodyPost_ret (by simp [results, Tryd.results21, go_sem, q0, q1, q2]; try rfl) rfl ?_
  refine ⟨_, _, _, rfl, ?_, ?_⟩
  · exact (((HO.out.setBelow (by simp) _).setBelow (by simp) _).setBelow (by simp) _).le (by simp)
  · exact (((((Below.refl _ _).alloc (Nat.le_refl _) _).trans (HB2.out.mono (by simp))).setCell (by simp) _).setCell (by simp) _).setCell (by simp) _
end Go.Proofs.YtgcpnhnckbgjmaaDoor
