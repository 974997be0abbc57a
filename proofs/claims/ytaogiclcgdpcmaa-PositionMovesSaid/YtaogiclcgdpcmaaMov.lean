/-
  The moves of PositionMoves, plain: no program.
-/
set_option linter.unusedVariables false
namespace Go.Proofs.Ytaogiclcgdpcmaa.Mov
/-- The trace index of p at depth i, of D. -/
def T (D i : Nat) (p : Int) : Int := (p - 2 ^ i + 1) * 2 ^ (D - i) - 1
/-- What holds ahead of move i: p lies at depth i, low and high bound what is left. -/
structure MV (D i : Nat) (p low high : Int) : Prop where
  hi : i ≤ D
  h1 : 2 ^ i ≤ p
  h2 : p < 2 ^ (i + 1)
  l0 : 0 ≤ low
  l1 : low ≤ (p - 2 ^ i) * 2 ^ (D - i)
  hh : high ≤ 16777216
  g : p - 2 ^ i = 2 ^ i - 1 ∨ (p - 2 ^ i + 2) * 2 ^ (D - i) - 1 ≤ high
theorem pow_s (d : Nat) : (2 : Int) ^ (d + 1) = 2 * 2 ^ d := by rw [Int.pow_succ]; omega
theorem parts {D i : Nat} {p low high : Int} (h : MV D i p low high) (hlt : i < D) :
    ∃ X S : Int, 1 ≤ S ∧ (p - 2 ^ i) * 2 ^ (D - i) = 2 * X ∧ T D i p = 2 * X + 2 * S - 1 ∧ (p - 2 ^ i + 2) * 2 ^ (D - i) = 2 * X + 4 * S ∧ 0 ≤ X ∧
    2 ^ (D - (i + 1)) = S ∧ (p - 2 ^ i) * 2 ^ (D - (i + 1)) = X := by
  refine ⟨(p - 2 ^ i) * 2 ^ (D - (i + 1)), 2 ^ (D - (i + 1)), ?_, ?_, ?_, ?_, ?_, rfl, rfl⟩
  · have : (0 : Int) < 2 ^ (D - (i + 1)) := Int.pow_pos (by omega)
    omega
  all_goals
    have e : (2 : Int) ^ (D - i) = 2 * 2 ^ (D - (i + 1)) := by rw [show D - i = (D - (i + 1)) + 1 by omega]; exact pow_s _
  · rw [e, Int.mul_left_comm]
  · unfold T; rw [e, Int.add_mul, Int.mul_left_comm]; omega
  · rw [e, Int.add_mul, Int.mul_left_comm]; omega
  · exact Int.mul_nonneg (by have := h.h1; omega) (Int.le_of_lt (Int.pow_pos (by omega)))
theorem attack {D i : Nat} {p low high : Int} (h : MV D i p low high) (hlt : i < D) (hT : T D i p ≤ 16777216) :
    MV D (i + 1) (2 * p) low (T D i p) ∧ T D (i + 1) (2 * p) < T D i p ∧ low ≤ T D (i + 1) (2 * p) := by
  obtain ⟨X, S, hS, e1, e2, e3, hX, e4, e5⟩ := parts h hlt
  have e6 : (2 * p - 2 ^ (i + 1)) = 2 * (p - 2 ^ i) := by rw [pow_s]; omega
  have e7 : T D (i + 1) (2 * p) = 2 * X + S - 1 := by
    unfold T; rw [e6, Int.add_mul, Int.mul_assoc, e5, e4]; omega
  have := h.l1; have := h.l0; have hh1 := h.h1; have hh2 := h.h2
  refine ⟨⟨by omega, ?_, ?_, h.l0, ?_, hT, .inr ?_⟩, by omega, by omega⟩
  · rw [pow_s]; omega
  · rw [pow_s]; omega
  · rw [e6, Int.mul_assoc, e5]; omega
  · rw [e6, Int.add_mul, Int.mul_assoc, e5, e4]; omega
theorem defend {D i : Nat} {p low high : Int} (h : MV D i p low high) (hlt : i < D) (hne : p - 2 ^ i ≠ 2 ^ i - 1) :
    MV D (i + 1) (2 * p + 2) (T D i p + 1) high ∧ T D i p < T D (i + 1) (2 * p + 2) ∧ T D (i + 1) (2 * p + 2) ≤ high := by
  obtain ⟨X, S, hS, e1, e2, e3, hX, e4, e5⟩ := parts h hlt
  have e6 : (2 * p + 2 - 2 ^ (i + 1)) = 2 * (p - 2 ^ i) + 2 := by rw [pow_s]; omega
  have e7 : T D (i + 1) (2 * p + 2) = 2 * X + 3 * S - 1 := by
    unfold T; rw [e6, Int.add_mul, Int.add_mul, Int.mul_assoc, e5, e4]; omega
  have := h.l1; have := h.l0; have hh1 := h.h1; have hh2 := h.h2
  have hg : (p - 2 ^ i + 2) * 2 ^ (D - i) - 1 ≤ high := h.g.resolve_left hne
  rw [e3] at hg
  refine ⟨⟨by omega, ?_, ?_, by omega, ?_, h.hh, .inr ?_⟩, by omega, by omega⟩
  · rw [pow_s]; omega
  · have := pow_s (i + 1); have := pow_s i; omega
  · rw [e6, Int.add_mul, Int.mul_assoc, e5, e4]; omega
  · rw [e6, Int.add_mul, Int.add_mul, Int.mul_assoc, e5, e4]; omega
end Go.Proofs.Ytaogiclcgdpcmaa.Mov
