/-
  A slice of bools that came in, as a walk is told of it.
-/
import Derived.Test.YtaogiclcgdpcmaaAid
import Derived.Deep.Grids
namespace Go.Proofs.Ytaogiclcgdpcmaa
open Go.RowKit
/-- Each element that is there lies at its place, in memory that was there. -/
def IsBools (w : World) (a : Option Addr) (len : Nat) (B : Nat → Bool) : Prop :=
  len ≤ 9223372036854775807 ∧ ∀ i, i < len → ∃ b off, a = some ⟨b, off, none⟩ ∧ b < w.heap.size ∧ w.cell? ⟨b, off + i, none⟩ = some (.bool (B i))
theorem isBools_nil (w : World) : IsBools w none 0 (fun _ => false) := ⟨by omega, fun i hi => by omega⟩
theorem isBools_mk {w : World} {x : Addr} {len cap : Nat} {B : Nat → Bool} (hl : len ≤ cap) (hm : cap ≤ maxLen) (hc : ∀ i, i < cap → w.cell? (x.add i) = some (.bool (B i))) : IsBools w (some x) len B := by
  refine ⟨by unfold maxLen at hm; omega, fun i hi => ?_⟩
  obtain ⟨b, off, sp⟩ := x
  have h0 := hc 0 (by omega)
  have e0 : Addr.add ⟨b, off, sp⟩ 0 = ⟨b, off, sp⟩ := by simp [Addr.add]
  rw [e0] at h0
  have hs : sp = none := World.cell?_spot h0
  subst hs
  have hx := hc i (by omega)
  have e : Addr.add ⟨b, off, none⟩ i = ⟨b, off + i, none⟩ := by
    unfold Addr.add; split
    · simp_all
    · rfl
  rw [e] at hx
  refine ⟨b, off, rfl, ?_, hx⟩
  rcases Nat.lt_or_ge b w.heap.size with h | h
  · exact h
  · simp [World.cell?, Array.getElem?_eq_none h] at hx
end Go.Proofs.Ytaogiclcgdpcmaa
