/-
  octets.Put by its contract: eight bytes of a row.
-/
import Derived.Test.YtgcpnhnckbgjmaaDoorTxF
import Derived.Laws.Rows
set_option linter.unusedVariables false
set_option linter.unusedSimpArgs false
namespace Go.Proofs.YtgcpnhnckbgjmaaDoor
open Go.RowKit
/-- A number's byte. -/
def byt (v i : Nat) : Nat := v / 2 ^ (56 - 8 * i) % 256
/-- The world with the first bytes laid. -/
def putN (w : World) (B o v : Nat) : Nat → World
  | 0 => w
  | j + 1 => (putN w B o v j).setCell ⟨B, o + j, none⟩ (.int .u8 (byt v j))
theorem putN_size (w : World) (B o v j : Nat) : (putN w B o v j).heap.size = w.heap.size := by
  induction j with
  | zero => rfl
  | succ j ih => simp [putN, ih]
theorem putN_frozen (w : World) (B o v j : Nat) (a : Addr) : (putN w B o v j).frozen? a = w.frozen? a := by
  induction j with
  | zero => rfl
  | succ j ih => simp [putN, ih]
theorem putN_cell (w : World) (B o v j k : Nat) (h : ∀ i, i < j → (w.cell? ⟨B, o + i, none⟩).isSome = true) : (putN w B o v j).cell? ⟨B, k, none⟩ = if o ≤ k ∧ k < o + j then some (.int .u8 (byt v (k - o))) else w.cell? ⟨B, k, none⟩ := by
  induction j with
  | zero => rw [if_neg (by omega)]; rfl
  | succ j ih =>
    have ih := ih fun i hi => h i (by omega)
    show ((putN w B o v j).setCell ⟨B, o + j, none⟩ _).cell? _ = _
    by_cases e : k = o + j
    · subst e
      rw [if_pos (by omega), show o + j - o = j by omega]
      refine World.cell?_setCell_same' _ _ _ ?_
      rw [ih, if_neg (by omega)]
      exact h j (by omega)
    · rw [World.cell?_setCell_other _ _ _ _ (fun h2 => e (by injection h2 with _ h2; exact h2.symm)), ih]
      by_cases h2 : o ≤ k ∧ k < o + j
      · rw [if_pos h2, if_pos (by omega)]
      · rw [if_neg h2, if_neg (by omega)]
theorem putN_below (w W : World) (n B o v j : Nat) (h : Below n w W) (hB : n ≤ B) : Below n w (putN W B o v j) := by
  induction j with
  | zero => exact h
  | succ j ih => exact ih.setCell hB _
theorem putN_heap (w : World) (B o v j k : Nat) (h : k ≠ B) : (putN w B o v j).heap[k]? = w.heap[k]? := by
  induction j with
  | zero => rfl
  | succ j ih =>
    show ((putN w B o v j).setCell ⟨B, o + j, none⟩ _).heap[k]? = _
    rw [Below.heap_setCell _ _ _ _ (by simpa using h), ih]
set_option maxRecDepth 100000 in
set_option maxHeartbeats 1000000 in
theorem put_V (w : World) (B o n c v : Nat) (h8 : 8 ≤ n) (hv : Hid (v < 18446744073709551616)) (hc : ∀ i, i < 8 → (w.cell? ⟨B, o + i, none⟩).isSome = true) (hf : ∀ i, i < 8 → w.frozen? ⟨B, o + i, none⟩ = false) :
    Calls Tryd.prog 33 #[.slice (some ⟨B, o, none⟩) n c, .int .u64 v] w fun e w' => e = .returned (.tuple #[]) ∧ w' = putN w B o v 8 := by
  have HC := Lib.hid hc
  have HF := Lib.hid hf
  clear hc hf
  go_enter Tryd.func33, Tryd.ntmps33
  go_wp2
  go_loopw [4, 5] (fun ii idx wr => ∃ j : Nat, j ≤ 8 ∧ idx = .int .i64 j ∧ Hid (wr = putN w B o v j)) (fun _ idx _ => 8 - (intOf idx).toNat)
  case atStart => exact ⟨0, by omega, rfl, rfl⟩
  case round =>
    obtain ⟨j, hj, rfl, HW⟩ := hrel
    by_cases hlt : j < 8
    · have hjn : j < n := by omega
      obtain ⟨x, hx⟩ := Option.isSome_iff_exists.1 (HC.out j hlt)
      have hcell : wr.cell? ⟨B, o + j, none⟩ = some x := by rw [HW.out, putN_cell _ _ _ _ _ _ (fun i hi => HC.out i (by omega)), if_neg (by omega)]; exact hx
      have hfr : wr.frozen? ⟨B, o + j, none⟩ = false := by rw [HW.out, putN_frozen]; exact HF.out j hlt
      clear hx
      go_wp2
      go_roundw
      case rel =>
        refine ⟨j + 1, by omega, by go_num, ?_⟩
        show _ = (putN w B o v j).setCell _ _
        rw [← HW.out]
        have e : ((v : Int) / 2 ^ (56 - 8 * j) % 256) = ((byt v j : Nat) : Int) := by unfold byt; simp
        rw [e]
      case measure => simp [intOf]; omega
    · have hj8 : j = 8 := by omega
      subst hj8
      go_wp2
      go_returns
      exact ⟨rfl, HW.out⟩
end Go.Proofs.YtgcpnhnckbgjmaaDoor
