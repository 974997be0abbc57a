/-
  One step of the division of two words by one, plain: no program.
-/
set_option linter.unusedVariables false
namespace Go.Proofs.YtmjlifbnndmjoaaDoor.Dv
/-- One step of Knuth's division: B = 2^32, Y = y1 * B + y0 normalised; u < Y; q the true quotient of u * B + d by Y. -/
structure Norm (y1 y0 u d : Nat) : Prop where
  h1 : 2147483648 ≤ y1
  h2 : y1 < 4294967296
  h3 : y0 < 4294967296
  h4 : u < y1 * 4294967296 + y0
  h5 : d < 4294967296
def Y (y1 y0 : Nat) : Nat := y1 * 4294967296 + y0
def Q (y1 y0 u d : Nat) : Nat := (u * 4294967296 + d) / Y y1 y0
/-- Ahead of a round: the guess and what it leaves. -/
structure Inv (y1 y0 u d q r : Nat) : Prop where
  e : q * y1 + r = u
  hi : Q y1 y0 u d ≤ q
  q1 : q ≤ 4294967297
  r1 : r < 4294967296
variable {y1 y0 u d q r : Nat}
theorem y_pos (h : Norm y1 y0 u d) : 0 < Y y1 y0 := by have := h.h1; unfold Y; omega
theorem q_lt (h : Norm y1 y0 u d) : Q y1 y0 u d < 4294967296 := by
  unfold Q
  rw [Nat.div_lt_iff_lt_mul (y_pos h)]
  have h4 := h.h4; have h5 := h.h5
  unfold Y
  have : (u + 1) * 4294967296 ≤ (y1 * 4294967296 + y0) * 4294967296 := Nat.mul_le_mul_right _ h4
  rw [Nat.add_mul] at this
  rw [Nat.mul_comm 4294967296]
  omega
theorem qy_eq (e : q * y1 + r = u) : q * Y y1 y0 + r * 4294967296 = u * 4294967296 + q * y0 := by
  unfold Y
  rw [← e, Nat.mul_add, Nat.add_mul, Nat.mul_assoc]
  omega
theorem le_Q_iff (h : Norm y1 y0 u d) : q ≤ Q y1 y0 u d ↔ q * Y y1 y0 ≤ u * 4294967296 + d := by
  unfold Q; exact Nat.le_div_iff_mul_le (y_pos h)
theorem start (h : Norm y1 y0 u d) : Inv y1 y0 u d (u / y1) (u % y1) := by
  have h1 := h.h1; have h2 := h.h2; have h3 := h.h3; have h4 := h.h4; have h5 := h.h5
  have e : u / y1 * y1 + u % y1 = u := by rw [Nat.mul_comm]; exact Nat.div_add_mod _ _
  have hr : u % y1 < y1 := Nat.mod_lt _ (by omega)
  refine ⟨e, ?_, ?_, by omega⟩
  · apply Nat.le_of_lt_succ
    unfold Q
    rw [Nat.div_lt_iff_lt_mul (y_pos h)]
    have := qy_eq (y0 := y0) e
    have e2 : (u / y1).succ * Y y1 y0 = u / y1 * Y y1 y0 + Y y1 y0 := by rw [Nat.succ_mul]
    rw [e2]
    have h7 : (u % y1 + 1) * 4294967296 ≤ y1 * 4294967296 := Nat.mul_le_mul_right _ hr
    have h8 : Y y1 y0 = y1 * 4294967296 + y0 := rfl
    omega
  · apply Nat.le_of_lt_succ
    rw [Nat.div_lt_iff_lt_mul (by omega)]
    show u < 4294967298 * y1
    omega
/-- The guess is too great: one less. -/
theorem step (h : Norm y1 y0 u d) (i : Inv y1 y0 u d q r) (hc : 4294967296 ≤ q ∨ 4294967296 * r + d < q * y0) : 1 ≤ q ∧ q - 1 ≤ 4294967296 ∧ (q - 1) * y1 + (r + y1) = u ∧ Q y1 y0 u d ≤ q - 1 := by
  have hgt : Q y1 y0 u d < q := by
    rcases hc with hc | hc
    · exact Nat.lt_of_lt_of_le (q_lt h) hc
    · rcases Nat.lt_or_ge (Q y1 y0 u d) q with h' | h'
      · exact h'
      · have := (le_Q_iff h).1 h'
        have e2 := qy_eq (y0 := y0) i.e
        omega
  have := i.q1
  refine ⟨by omega, by omega, ?_, by omega⟩
  obtain ⟨p, rfl⟩ : ∃ p, q = p + 1 := ⟨q - 1, by omega⟩
  have e := i.e
  rw [Nat.add_mul] at e
  rw [Nat.add_sub_cancel]; omega
theorem out (h : Norm y1 y0 u d) (i : Inv y1 y0 u d q r) (hc : q * y0 ≤ 4294967296 * r + d) : q = Q y1 y0 u d := by
  have := (le_Q_iff h (q := q)).2 (by have e2 := qy_eq (y0 := y0) i.e; omega)
  have := i.hi; omega
theorem broke (h : Norm y1 y0 u d) (e : q * y1 + r = u) (hi : Q y1 y0 u d ≤ q) (hq : q ≤ 4294967296) (hr : 4294967296 ≤ r) : q = Q y1 y0 u d := by
  have h3 := h.h3
  have : q * y0 ≤ 4294967296 * 4294967295 := Nat.mul_le_mul hq (by omega)
  have := (le_Q_iff h (q := q)).2 (by have e2 := qy_eq (y0 := y0) e; omega)
  omega
/-- What is left behind it: below Y, as it stands modulo 2^64. -/
theorem left (h : Norm y1 y0 u d) : Q y1 y0 u d * Y y1 y0 ≤ u * 4294967296 + d ∧ u * 4294967296 + d - Q y1 y0 u d * Y y1 y0 < Y y1 y0 ∧ u * 4294967296 + d - Q y1 y0 u d * Y y1 y0 = (u * 4294967296 + d) % Y y1 y0 := by
  have e := Nat.div_add_mod (u * 4294967296 + d) (Y y1 y0)
  have hl := Nat.mod_lt (u * 4294967296 + d) (y_pos h)
  have : Q y1 y0 u d * Y y1 y0 = Y y1 y0 * ((u * 4294967296 + d) / Y y1 y0) := Nat.mul_comm _ _
  omega
/-- Both steps: the quotient of u * 2^64 + d1 * 2^32 + d0 by Y. -/
theorem both {d1 d0 : Nat} (h : Norm y1 y0 u d1) (hd : d0 < 4294967296) :
    Norm y1 y0 ((u * 4294967296 + d1) % Y y1 y0) d0 ∧ Q y1 y0 u d1 * 4294967296 + Q y1 y0 ((u * 4294967296 + d1) % Y y1 y0) d0 = ((u * 4294967296 + d1) * 4294967296 + d0) / Y y1 y0 ∧
    (((u * 4294967296 + d1) % Y y1 y0) * 4294967296 + d0) % Y y1 y0 = ((u * 4294967296 + d1) * 4294967296 + d0) % Y y1 y0 := by
  have hl := Nat.mod_lt (u * 4294967296 + d1) (y_pos h)
  have n2 : Norm y1 y0 ((u * 4294967296 + d1) % Y y1 y0) d0 := ⟨h.h1, h.h2, h.h3, hl, hd⟩
  refine ⟨n2, ?_⟩
  have hp := y_pos h
  have e0 : ∀ N, N * 4294967296 + d0 = ((N % Y y1 y0) * 4294967296 + d0) + Y y1 y0 * (N / Y y1 y0 * 4294967296) := by
    intro N
    have e2 := Nat.div_add_mod N (Y y1 y0)
    have e3 : Y y1 y0 * (N / Y y1 y0) * 4294967296 = Y y1 y0 * (N / Y y1 y0 * 4294967296) := Nat.mul_assoc (Y y1 y0) (N / Y y1 y0) 4294967296
    rw [← e3]
    have e4 : (Y y1 y0 * (N / Y y1 y0) + N % Y y1 y0) * 4294967296 = N * 4294967296 := by rw [e2]
    rw [← e4, Nat.add_mul]
    exact (by intro a b c; omega : ∀ a b c : Nat, a + b + c = b + c + a) _ _ _
  rw [e0, Nat.add_mul_div_left _ _ hp, Nat.add_mul_mod_self_left]
  exact ⟨Nat.add_comm _ _, rfl⟩
end Go.Proofs.YtmjlifbnndmjoaaDoor.Dv
