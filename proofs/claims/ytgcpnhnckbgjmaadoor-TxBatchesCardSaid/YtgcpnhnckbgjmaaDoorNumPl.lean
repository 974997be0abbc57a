/-
  A number's bytes lead back to it.
-/
import Derived.Test.YtgcpnhnckbgjmaaDoorVal2
set_option linter.unusedVariables false
set_option linter.unusedSimpArgs false
namespace Go.Proofs.YtgcpnhnckbgjmaaDoor
open Go.RowKit
theorem lows_num (g v : Nat) (h : v < 256 ^ g) : Rlp.numR (Rlp.lows g v) = v := by
  induction g generalizing v with
  | zero => simp at h; subst h; rfl
  | succ g ih =>
    rw [Rlp.lows]
    by_cases h0 : v = 0
    · rw [if_pos h0, h0]; rfl
    · rw [if_neg h0, Rlp.numR, ih (v / 256) (by rw [Nat.pow_succ] at h; exact Nat.div_lt_of_lt_mul (by omega))]
      simp
      omega
theorem lows_last (g v : Nat) (h : v < 256 ^ g) (hn : Rlp.lows g v ≠ []) : ((Rlp.lows g v).reverse.getD 0 0).toNat ≠ 0 := by
  induction g generalizing v with
  | zero => exact absurd rfl hn
  | succ g ih =>
    rw [Rlp.lows] at hn ⊢
    by_cases h0 : v = 0
    · rw [if_pos h0] at hn; exact absurd rfl hn
    · rw [if_neg h0]
      have hv : v / 256 < 256 ^ g := by rw [Nat.pow_succ] at h; exact Nat.div_lt_of_lt_mul (by omega)
      rw [List.reverse_cons]
      by_cases h1 : Rlp.lows g (v / 256) = []
      · rw [h1]
        have hz := lows_num g (v / 256) hv
        rw [h1] at hz
        have hz : 0 = v / 256 := hz
        simp
        omega
      · have hi := ih (v / 256) hv h1
        have hl : 0 < (Rlp.lows g (v / 256)).reverse.length := by
          rw [List.length_reverse]; exact List.length_pos_iff.2 h1
        rw [List.getD_eq_getElem?_getD, List.getElem?_append_left hl, ← List.getD_eq_getElem?_getD]
        exact hi
theorem num_big (v : Nat) (h : v < 18446744073709551616) : Rlp.num (Rlp.big v) = v := by
  unfold Rlp.big
  rw [Rlp.num_numR, lows_num 8 v (by have : (256 : Nat) ^ 8 = 18446744073709551616 := by decide
                                     omega)]
theorem lows_le (g v : Nat) : (Rlp.lows g v).length ≤ g := by
  induction g generalizing v with
  | zero => exact Nat.le_refl _
  | succ g ih =>
    rw [Rlp.lows]
    split
    · exact Nat.zero_le _
    · have := ih (v / 256); simp; omega
theorem big_le (v : Nat) : (Rlp.big v).length ≤ 8 := by unfold Rlp.big; rw [List.length_reverse]; exact lows_le 8 v
theorem val_big (v : Nat) (h : v < 18446744073709551616) : val (.mk false (Rlp.big v) []) = (v, 0) := by
  have h1 := big_le v
  have h2 : ¬ (0 < (Rlp.big v).length ∧ ((Rlp.big v).getD 0 0).toNat = 0) := by
    rintro ⟨h3, h4⟩
    refine lows_last 8 v (by have : (256 : Nat) ^ 8 = 18446744073709551616 := by decide
                             omega) ?_ h4
    intro e
    unfold Rlp.big at h3
    rw [e] at h3
    simp at h3
  simp only [val, Rlp.It.list, Rlp.It.bytes, Bool.false_eq_true, if_false]
  have e : (if 8 < (Rlp.big v).length ∨ 0 < (Rlp.big v).length ∧ ((Rlp.big v).getD 0 0).toNat = 0 then (0, 12) else (Rlp.num (Rlp.big v), 0)) = ((v, 0) : Nat × Nat) := by
    rw [if_neg (by omega), num_big v h]
  exact e
end Go.Proofs.YtgcpnhnckbgjmaaDoor
