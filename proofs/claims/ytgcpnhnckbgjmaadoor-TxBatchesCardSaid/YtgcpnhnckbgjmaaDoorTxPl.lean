/-
  Transactions' bytes, plain: they lead back.
-/
import Derived.Test.YtgcpnhnckbgjmaaDoorTxDecL
set_option linter.unusedVariables false
set_option linter.unusedSimpArgs false
namespace Go.Proofs.YtgcpnhnckbgjmaaDoor
open Go.RowKit
theorem leafs_get (vs : Nat → Nat) (k : Nat) (hk : k < 6) : (leafs vs 6).getD k default = .mk false (Rlp.big (vs k)) [] := by
  unfold leafs
  rw [List.getD_eq_getElem?_getD, List.getElem?_map, List.getElem?_range hk]; rfl
theorem leafs_len (vs : Nat → Nat) : (leafs vs 6).length = 6 := by simp [leafs]
def bigs (vs : Nat → Nat) : List (List UInt8) := (List.range 6).map fun k => Rlp.big (vs k)
theorem tItem_bigs (vs : Nat → Nat) : tItem vs = .mk true [] ((bigs vs).map fun l => .mk false l []) := by
  unfold tItem leafs bigs
  rw [List.map_map]; rfl
theorem leafs_bigs (vs : Nat → Nat) : leafs vs 6 = (bigs vs).map fun l => .mk false l [] := by
  unfold leafs bigs
  rw [List.map_map]; rfl
theorem tForm_len (vs : Nat → Nat) : (Rlp.form (tItem vs)).length ≤ 55 := by
  have h1 := leafs_form vs 6
  rw [tForm]
  unfold Rlp.headed
  rw [if_pos (by omega)]
  simp; omega
theorem decode_t (vs : Nat → Nat) : Rlp.decode (Rlp.form (tItem vs)) = .ok (tItem vs) := by
  have h := tForm_len vs
  have h2 := leafs_form vs 6
  rw [tItem_bigs] at h ⊢
  rw [leafs_bigs] at h2
  refine list_back (bigs vs) (by omega) (by omega) (fun l hl => ?_)
  unfold bigs at hl
  rw [List.mem_map] at hl
  obtain ⟨k, _, rfl⟩ := hl
  have := big_le (vs k)
  omega
def wide (vs : Nat → Nat) : Prop := ∀ k, k < 6 → vs k < 18446744073709551616
theorem tNum_t (vs : Nat → Nat) (hw : wide vs) (k : Nat) (hk : k < 6) : tNum (tItem vs) k = vs k := by
  unfold tNum
  show (val ((leafs vs 6).getD k default)).1 = _
  rw [leafs_get vs k hk, val_big _ (hw k hk)]
theorem tScan_all (its : List Rlp.It) (g : Nat) : ∀ j, (∀ k, j ≤ k → k < j + g → tBad its k = none) → tScan its g j = none := by
  induction g with
  | zero => intro j _; rfl
  | succ g ih =>
    intro j h
    rw [tScan, h j (Nat.le_refl _) (by omega)]
    exact ih (j + 1) fun k h1 h2 => h k (by omega) (by omega)
theorem tScan_none (its : List Rlp.It) (g : Nat) : ∀ j, tScan its g j = none → ∀ k, j ≤ k → k < j + g → tBad its k = none := by
  induction g with
  | zero => intro j _ k h1 h2; omega
  | succ g ih =>
    intro j h k h1 h2
    rw [tScan] at h
    cases hb : tBad its j with
    | some c => rw [hb] at h; cases h
    | none =>
      rw [hb] at h
      by_cases e : k = j
      · subst e; exact hb
      · exact ih (j + 1) h k (by omega) (by omega)
theorem tdec_back (vs : Nat → Nat) (hw : wide vs) (ho : okTx vs) : tDec (Rlp.form (tItem vs)) = .ok (tNum (tItem vs)) := by
  unfold tDec
  rw [decode_t]
  simp only
  have h1 : ¬((tItem vs).list = false ∨ (tItem vs).items.length ≠ 6) := by
    rintro (h | h)
    · cases h
    · exact h (leafs_len vs)
  rw [if_neg h1]
  have h2 : tScan (tItem vs).items 6 0 = none := by
    refine tScan_all _ _ _ fun k _ hk => ?_
    unfold tBad
    show (if (val ((leafs vs 6).getD k default)).2 ≠ 0 then _ else if inn k (val ((leafs vs 6).getD k default)).1 = false then _ else _) = _
    rw [leafs_get vs k (by omega), val_big _ (hw k (by omega)), if_neg (by simp), if_neg (by rw [ho k (by omega)]; decide)]
  rw [h2]
theorem form_inj (vs us : Nat → Nat) (hv : wide vs) (hu : wide us) (h : Rlp.form (tItem vs) = Rlp.form (tItem us)) (k : Nat) (hk : k < 6) : vs k = us k := by
  have h1 := decode_t vs
  rw [h, decode_t] at h1
  injection h1 with h1
  rw [← tNum_t vs hv k hk, ← tNum_t us hu k hk, h1]
theorem val_lt (x : Rlp.It) : (val x).1 < 18446744073709551616 := by
  unfold val
  split
  · simp
  · split
    · simp
    · rename_i h
      have h8 : x.bytes.length ≤ 8 := by
        refine Decidable.byContradiction fun h8 => h (.inl (by omega))
      have := num_lt x.bytes x.bytes.length
      rw [List.take_length] at this
      have h2 : 256 ^ x.bytes.length ≤ 256 ^ 8 := Nat.pow_le_pow_right (by decide) h8
      have e : (256 : Nat) ^ 8 = 18446744073709551616 := by decide
      show Rlp.num x.bytes < _
      omega
theorem tdec_ok {b : List UInt8} {vs : Nat → Nat} (h : tDec b = .ok vs) : wide vs ∧ okTx vs := by
  unfold tDec at h
  split at h
  · cases h
  · rename_i x hx
    split at h
    · cases h
    · split at h
      · cases h
      · rename_i hs
        injection h with h
        subst h
        refine ⟨fun k _ => val_lt _, fun k hk => ?_⟩
        have := tScan_none _ _ _ hs k (Nat.zero_le _) (by omega)
        unfold tBad at this
        split at this
        · cases this
        · split at this
          · cases this
          · rename_i h2
            unfold tNum
            simpa using h2
def fx (k : Nat) : Nat := [1, 2, 0, 300, 9, 0].getD k 0
theorem fx_wide : wide fx := fun k hk => by
  rcases (by omega : k = 0 ∨ k = 1 ∨ k = 2 ∨ k = 3 ∨ k = 4 ∨ k = 5) with rfl | rfl | rfl | rfl | rfl | rfl <;> decide
theorem fx_ok : okTx fx := fun k hk => by
  rcases (by omega : k = 0 ∨ k = 1 ∨ k = 2 ∨ k = 3 ∨ k = 4 ∨ k = 5) with rfl | rfl | rfl | rfl | rfl | rfl <;> decide
theorem fx_form : Rlp.form (tItem fx) = [200, 1, 2, 128, 130, 1, 44, 9, 128] := by kernel_rfl
def gx (k : Nat) : Nat := [64, 0, 0, 0, 0, 0].getD k 0
theorem gx_wide : wide gx := fun k hk => by
  rcases (by omega : k = 0 ∨ k = 1 ∨ k = 2 ∨ k = 3 ∨ k = 4 ∨ k = 5) with rfl | rfl | rfl | rfl | rfl | rfl <;> decide
theorem gx_bad : ¬ okTx gx := fun h => absurd (h 0 (by decide)) (by decide)
end Go.Proofs.YtgcpnhnckbgjmaaDoor
