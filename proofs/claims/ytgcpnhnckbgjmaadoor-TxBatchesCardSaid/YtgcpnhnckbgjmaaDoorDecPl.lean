/-
  What the item of bytes is, plain: its bytes are few; its faults are none of number 0.
-/
import Derived.Test.YtgcpnhnckbgjmaaDoorEnc
set_option linter.unusedVariables false
set_option linter.unusedSimpArgs false
namespace Go.Proofs.YtgcpnhnckbgjmaaDoor
open Go.RowKit
theorem head_ne {b : List UInt8} {i s c : Nat} (h : Rlp.head b i s = .error c) : c ≠ 0 := by
  unfold Rlp.head at h
  simp only at h
  repeat' split at h
  all_goals (first | (injection h with h; subst h; decide) | (cases h))
theorem dList_ne {step : Nat → Nat → Except (Nat × Nat) (Rlp.It × Nat)} (hs : ∀ i to p k, step i to = .error (p, k) → k ≠ 0) (g : Nat) : ∀ (i to : Nat) (acc : List Rlp.It) (p k : Nat), Rlp.dList step g i to acc = .error (p, k) → k ≠ 0 := by
  induction g with
  | zero => intro i to acc p k h; simp [Rlp.dList] at h
  | succ g ih =>
    intro i to acc p k h
    rw [Rlp.dList] at h
    by_cases hlt : i < to
    · rw [if_pos hlt] at h
      cases hst : step i to with
      | error e => rw [hst] at h; injection h with h; subst h; exact hs i to _ _ hst
      | ok q => obtain ⟨y, nx⟩ := q; rw [hst] at h; exact ih _ _ _ _ _ h
    · rw [if_neg hlt] at h; cases h
theorem dItem_ne (b : List UInt8) (f : Nat) : ∀ i s p k, Rlp.dItem b f i s = .error (p, k) → k ≠ 0 := by
  induction f with
  | zero => intro i s p k h; simp [Rlp.dItem] at h; omega
  | succ f ih =>
    intro i s p k h
    rw [Rlp.dItem] at h
    cases hh : Rlp.head b i s with
    | error c => rw [hh] at h; simp at h; have := head_ne hh; omega
    | ok q =>
      obtain ⟨l, kk, m⟩ := q
      rw [hh] at h
      simp only at h
      cases l with
      | false => simp at h
      | true =>
        simp only [if_true] at h
        cases hd : Rlp.dList (Rlp.dItem b f) m (i + kk) (i + kk + m) [] with
        | error e => rw [hd] at h; injection h with h; subst h; exact dList_ne ih _ _ _ _ _ _ hd
        | ok its => rw [hd] at h; cases h
theorem decode_ne {b : List UInt8} {p k : Nat} (h : Rlp.decode b = .error (p, k)) : k ≠ 0 := by
  unfold Rlp.decode at h
  by_cases c1 : 4096 < b.length
  · rw [if_pos c1] at h; injection h with h; injection h with _ h; omega
  rw [if_neg c1] at h
  by_cases c2 : b.length = 0
  · rw [if_pos c2] at h; injection h with h; injection h with _ h; omega
  rw [if_neg c2] at h
  cases hd : Rlp.dItem b 16 0 b.length with
  | error e => rw [hd] at h; injection h with h; subst h; exact dItem_ne b 16 _ _ _ _ hd
  | ok q =>
    obtain ⟨y, stop⟩ := q
    rw [hd] at h
    simp only at h
    by_cases c3 : stop < b.length
    · rw [if_pos c3] at h; injection h with h; injection h with _ h; omega
    · rw [if_neg c3] at h; cases h
theorem dList_all {k M : Nat} {step : Nat → Nat → Except (Nat × Nat) (Rlp.It × Nat)} (hs : ∀ i to x j, step i to = .ok (x, j) → allB M k x) (g : Nat) : ∀ (i to : Nat) (acc its : List Rlp.It), (∀ x ∈ acc, allB M k x) → Rlp.dList step g i to acc = .ok its → ∀ x ∈ its, allB M k x := by
  induction g with
  | zero => intro i to acc its ha h; simp [Rlp.dList] at h; subst h; exact ha
  | succ g ih =>
    intro i to acc its ha h
    rw [Rlp.dList] at h
    by_cases hlt : i < to
    · rw [if_pos hlt] at h
      cases hst : step i to with
      | error e => rw [hst] at h; cases h
      | ok q =>
        obtain ⟨y, nx⟩ := q
        rw [hst] at h
        refine ih _ _ _ _ (fun x hx => ?_) h
        rcases List.mem_append.1 hx with hx | hx
        · exact ha x hx
        · rw [List.mem_singleton] at hx; subst hx; exact hs _ _ _ _ hst
    · rw [if_neg hlt] at h; injection h with h; subst h; exact ha
theorem dItem_all (b : List UInt8) (f : Nat) : ∀ i s x j, Rlp.dItem b f i s = .ok (x, j) → allB b.length f x := by
  induction f with
  | zero => intro i s x j h; simp [Rlp.dItem] at h
  | succ f ih =>
    intro i s x j h
    rw [Rlp.dItem] at h
    cases hh : Rlp.head b i s with
    | error c => rw [hh] at h; cases h
    | ok q =>
      obtain ⟨l, kk, m⟩ := q
      rw [hh] at h
      simp only at h
      cases l with
      | false =>
        simp only [Bool.false_eq_true, if_false] at h
        injection h with h; injection h with h _; subst h
        exact ⟨by simp [Rlp.It.bytes]; omega, fun i hi => by simp [Rlp.It.items] at hi⟩
      | true =>
        simp only [if_true] at h
        cases hd : Rlp.dList (Rlp.dItem b f) m (i + kk) (i + kk + m) [] with
        | error e => rw [hd] at h; cases h
        | ok its =>
          rw [hd] at h
          injection h with h; injection h with h _; subst h
          have ha := dList_all ih _ _ _ _ _ (by simp) hd
          refine ⟨by simp [Rlp.It.bytes], fun i hi => ?_⟩
          have hi : i < its.length := hi
          have e : (Rlp.It.mk true [] its).items.getD i default = its[i] := by
            show its.getD i default = _
            rw [List.getD_eq_getElem?_getD, List.getElem?_eq_getElem hi]; rfl
          rw [e]
          exact ha _ (List.getElem_mem hi)
theorem allB_le {M M' : Nat} (hM : M ≤ M') {k : Nat} : ∀ {x : Rlp.It}, allB M k x → allB M' k x := by
  induction k with
  | zero => intro x h; exact h
  | succ k ih => intro x h; exact ⟨Nat.le_trans h.1 hM, fun i hi => ih (h.2 i hi)⟩
theorem decode_all {b : List UInt8} {x : Rlp.It} (h : Rlp.decode b = .ok x) : allB 4096 16 x ∧ enc x = .ok b := by
  obtain ⟨h1, h2, h3, h4⟩ := Rlp.decode_back b x h
  refine ⟨?_, ?_⟩
  · unfold Rlp.decode at h
    rw [if_neg (by omega)] at h
    by_cases c2 : b.length = 0
    · rw [if_pos c2] at h; cases h
    rw [if_neg c2] at h
    cases hd : Rlp.dItem b 16 0 b.length with
    | error e => rw [hd] at h; cases h
    | ok q =>
      obtain ⟨y, stop⟩ := q
      rw [hd] at h
      simp only at h
      by_cases c3 : stop < b.length
      · rw [if_pos c3] at h; cases h
      · rw [if_neg c3] at h
        injection h with h; subst h
        exact allB_le h4 (dItem_all b 16 _ _ _ _ hd)
  · unfold enc
    have := h3 16
    rw [if_neg (by omega), h2, if_neg (by decide), h1, if_neg (by omega)]
end Go.Proofs.YtgcpnhnckbgjmaaDoor
