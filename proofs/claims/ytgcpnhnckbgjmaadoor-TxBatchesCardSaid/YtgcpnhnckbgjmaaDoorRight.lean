/-
  rlp.right by its contract, with slices.ContainsFunc and the closure that it hands on.
-/
import Derived.Test.YtgcpnhnckbgjmaaDoorIt
set_option linter.unusedVariables false
set_option linter.unusedSimpArgs false
namespace Go.Proofs.YtgcpnhnckbgjmaaDoor
open Go.RowKit
variable {F : Nat → Prop}
theorem rightL_take (its : List Rlp.It) (j : Nat) (hj : j < its.length) : Rlp.rightL (its.take (j + 1)) = (Rlp.rightL (its.take j) && Rlp.right (its.getD j default)) := by
  induction its generalizing j with
  | nil => simp at hj
  | cons x xs ih =>
    cases j with
    | zero => simp [Rlp.rightL]
    | succ j => simp only [List.take_succ_cons, Rlp.rightL]; rw [ih j (by simpa using hj)]; simp [Bool.and_assoc]
theorem rightL_false (its : List Rlp.It) (j : Nat) (hj : j < its.length) (h : Rlp.right (its.getD j default) = false) : Rlp.rightL its = false := by
  induction its generalizing j with
  | nil => simp at hj
  | cons x xs ih =>
    cases j with
    | zero => simp at h; simp [Rlp.rightL, h]
    | succ j => rw [Rlp.rightL, ih j (by simpa using hj) (by simpa using h)]; simp
/-- The items of a list where they lie. -/
def ItsAt (F : Nat → Prop) (w : World) (k : Nat) (a : Option Addr) (its : List Rlp.It) : Prop :=
  ∀ i, i < its.length → ∃ b off u v z, a = some ⟨b, off, none⟩ ∧ F b ∧ b < w.heap.size ∧
        w.cell? ⟨b, off + i * 3, none⟩ = some u ∧ w.cell? ⟨b, off + i * 3 + 1, none⟩ = some v ∧ w.cell? ⟨b, off + i * 3 + 2, none⟩ = some z ∧ IsIt F w k (its.getD i default) u v z
theorem ItsAt.below {w w' : World} {k : Nat} {a : Option Addr} {its : List Rlp.It} (h : ItsAt F w k a its) (hb : Below w.heap.size w w') : ItsAt F w' k a its := fun i hi => by
  obtain ⟨b, off, u, v, z, e, hF, hl, c0, c1, c2, hx⟩ := h i hi
  have hs := hb.size
  exact ⟨b, off, u, v, z, e, hF, by omega, by rw [hb.cell (p := ⟨b, off + i * 3, none⟩) hl]; exact c0, by rw [hb.cell (p := ⟨b, off + i * 3 + 1, none⟩) hl]; exact c1, by rw [hb.cell (p := ⟨b, off + i * 3 + 2, none⟩) hl]; exact c2, hx.below hb⟩
/-- What the induction hands on. -/
def RightAt (F : Nat → Prop) (k : Nat) : Prop := ∀ (x : Rlp.It) (vl vb vi : Value) (w : World), IsIt F w k x vl vb vi →
    Calls Tryd.prog 37 #[.agg #[vl, vb, vi]] w fun e w' => e = .returned (.bool (Rlp.right x)) ∧ Below w.heap.size w w'
theorem RightAt.at {k : Nat} (h : RightAt F k) (x : Rlp.It) (vl vb vi : Value) (w : World) (hx : IsIt F w k x vl vb vi) :
    Calls Tryd.prog 37 #[.agg #[vl, vb, vi]] w fun e w' => e = .returned (.bool (Rlp.right x)) ∧ Below w.heap.size w w' := h x vl vb vi w hx
theorem lam_V {k : Nat} (ih : RightAt F k) (x : Rlp.It) (vl vb vi : Value) (w : World) (h : IsIt F w k x vl vb vi) :
    Calls Tryd.prog 51 #[.agg #[vl, vb, vi]] w fun e w' => e = .returned (.bool (!Rlp.right x)) ∧ Below w.heap.size w w' := by
  obtain ⟨yl, ya, yn, yc, ya', yn', yc', rfl, rfl, rfl⟩ := h.shape
  have H := Lib.hid h
  have IH := Lib.hid ih
  clear h ih
  go_enter Tryd.func51, Tryd.ntmps51
  go_wp2_with (go_at_call 37; (with_reducible refine (IH.out.at x _ _ _ _ (H.out.below ((Below.refl _ _).alloc (Nat.le_refl _) _))).mono ?_); rintro e w2 ⟨rfl, hb2⟩; have hz2 := hb2.size; (try simp at hz2))
  go_returns
  exact ⟨rfl, by (repeat' (first | (with_reducible exact Below.refl _ _) | (with_reducible refine Below.alloc ?_ ?_ _) | (with_reducible refine Below.drew ?_) | (with_reducible refine Below.setCell ?_ ?_ _) | (with_reducible refine Below.thn (by assumption) ?_ ?_) | (with_reducible refine below_drewN ?_ _) | go_size))⟩
set_option maxHeartbeats 2000000 in
theorem index_V {k : Nat} (ih : RightAt F k) (a : Option Addr) (its : List Rlp.It) (n c : Nat) (w : World) (hn : its.length = n) (hc : n ≤ c) (hm : c ≤ maxLen) (h : ItsAt F w k a its) :
    Calls Tryd.prog 60 #[.slice a n c, .func (.func 51) #[] #[]] w fun e w' => (∃ r : Int, e = .returned (.int .i64 r) ∧ (decide (0 ≤ r)) = !Rlp.rightL its) ∧ Below w.heap.size w w' := by
  unfold maxLen at hm
  have H := Lib.hid h
  have IH := Lib.hid ih
  have HN := Lib.hid hn
  clear h ih hn
  go_enter Tryd.func60, Tryd.ntmps60
  go_wp2
  go_loopw [8] (fun i wr => ∃ j : Nat, j ≤ n ∧ i = .int .i64 j ∧ Hid (Rlp.rightL (its.take j) = true) ∧ Below w.heap.size w wr) (fun i _ => n - (intOf i).toNat)
  case atStart => exact ⟨0, by omega, rfl, by show _ = _; simp [Rlp.rightL], by (repeat' (first | (with_reducible exact Below.refl _ _) | (with_reducible refine Below.alloc ?_ ?_ _) | (with_reducible refine Below.drew ?_) | (with_reducible refine Below.setCell ?_ ?_ _) | (with_reducible refine Below.thn (by assumption) ?_ ?_) | (with_reducible refine below_drewN ?_ _) | go_size))⟩
  case round =>
    obtain ⟨j, hj, rfl, HR, hbr⟩ := hrel
    have hzr := hbr.size
    by_cases hlt : j < n
    · have hl : j < its.length := by rw [HN.out]; exact hlt
      obtain ⟨b, off, u, v, z, rfl, hF, hbl, c0, c1, c2, hx⟩ := H.out j hl
      rw [← hbr.cell (p := ⟨b, off + j * 3, none⟩) hbl] at c0
      rw [← hbr.cell (p := ⟨b, off + j * 3 + 1, none⟩) hbl] at c1
      rw [← hbr.cell (p := ⟨b, off + j * 3 + 2, none⟩) hbl] at c2
      obtain ⟨yl, ya, yn, yc, ya', yn', yc', rfl, rfl, rfl⟩ := hx.shape
      have HX := Lib.hid (hx.below hbr)
      have et := rightL_take its j hl
      rw [HR.out] at et
      clear hx
      obtain ⟨y, hy⟩ : ∃ y, y = Rlp.right (its.getD j default) := ⟨_, rfl⟩
      rw [← hy] at et
      have HY := Lib.hid hy
      have ET := Lib.hid et
      clear hy et
      cases y
      · go_wp2_with (go_at_call 51; (with_reducible refine (lam_V IH.out (its.getD j default) _ _ _ _ HX.out).mono ?_); rintro e w2 ⟨rfl, hb2⟩; rw [← HY.out])
        go_returns
        refine ⟨⟨j, rfl, ?_⟩, hbr.trans (hb2.mono (by omega))⟩
        rw [rightL_false its j hl HY.out.symm]; simp
      · go_wp2_with (go_at_call 51; (with_reducible refine (lam_V IH.out (its.getD j default) _ _ _ _ HX.out).mono ?_); rintro e w2 ⟨rfl, hb2⟩; rw [← HY.out])
        go_roundw
        case rel => exact ⟨j + 1, by omega, by go_num, by rw [ET.out]; rfl, hbr.trans (hb2.mono (by omega))⟩
        case measure => simp [intOf]; omega
    · have hjn : n = j := by omega
      have E : Rlp.rightL its = true := by have := HR.out; rw [← hjn, ← HN.out, List.take_length] at this; exact this
      go_wp2
      go_returns
      exact ⟨⟨-1, rfl, by rw [E]; rfl⟩, hbr⟩
set_option maxHeartbeats 2000000 in
theorem contains_V {k : Nat} (ih : RightAt F k) (a : Option Addr) (its : List Rlp.It) (n c : Nat) (w : World) (hn : its.length = n) (hc : n ≤ c) (hm : c ≤ maxLen) (h : ItsAt F w k a its) :
    Calls Tryd.prog 50 #[.slice a n c, .func (.func 51) #[] #[]] w fun e w' => e = .returned (.bool (!Rlp.rightL its)) ∧ Below w.heap.size w w' := by
  have H := Lib.hid h
  have IH := Lib.hid ih
  have HN := Lib.hid hn
  clear h ih hn
  go_enter Tryd.func50, Tryd.ntmps50
  go_wp2_with (go_at_call 60; (with_reducible refine (index_V IH.out a its n c _ HN.out hc hm H.out).mono ?_); rintro e w2 ⟨⟨r, rfl, hr⟩, hb2⟩; have HR := Lib.hid hr; clear hr)
  go_returns
  exact ⟨by rw [← HR.out]; rfl, hb2⟩
set_option maxHeartbeats 4000000 in
theorem right_V : ∀ k : Nat, RightAt F k := by
  intro k
  induction k with
  | zero => intro x vl vb vi w h; exact h.elim
  | succ k ih =>
    intro x vl vb vi w h
    obtain ⟨l, bs, its⟩ := x
    obtain ⟨rfl, ⟨a, c, rfl, hb1, hb2, _⟩, a', c', rfl, hc1, hc2, h9⟩ := h
    have hm := hc2
    unfold maxLen at hc2 hb2
    simp only [Rlp.It.items, Rlp.It.bytes, Rlp.It.list] at h9 hc1 hb1 ⊢
    have H9 : Hid (ItsAt F w k a' its) := h9
    have IH := Lib.hid ih
    have HM := Lib.hid hm
    obtain ⟨n, hn⟩ : ∃ n, its.length = n := ⟨_, rfl⟩
    obtain ⟨m, hm⟩ : ∃ m, bs.length = m := ⟨_, rfl⟩
    rw [hn] at hc1
    rw [hm] at hb1
    rw [hn, hm]
    have HN := Lib.hid hn
    have HB := Lib.hid hm
    clear h9 ih hm hn
    cases l
    · by_cases h0 : n = 0
      · have E : Rlp.right (.mk false bs its) = true := by
          have : its = [] := List.length_eq_zero_iff.1 (by rw [HN.out]; exact h0)
          simp [Rlp.right, this]
        rw [E]
        subst h0
        go_enter Tryd.func37, Tryd.ntmps37
        go_wp2
        go_returns
        exact ⟨rfl, by (repeat' (first | (with_reducible exact Below.refl _ _) | (with_reducible refine Below.alloc ?_ ?_ _) | (with_reducible refine Below.drew ?_) | (with_reducible refine Below.setCell ?_ ?_ _) | (with_reducible refine Below.thn (by assumption) ?_ ?_) | (with_reducible refine below_drewN ?_ _) | go_size))⟩
      · have E : Rlp.right (.mk false bs its) = false := by
          have : its ≠ [] := fun e => h0 (by rw [← HN.out, e]; rfl)
          simp [Rlp.right, this]
        rw [E]
        have c0 : ((n : Int) == 0) = false := by simp; omega
        go_enter Tryd.func37, Tryd.ntmps37
        go_wp2
        go_returns
        exact ⟨rfl, by (repeat' (first | (with_reducible exact Below.refl _ _) | (with_reducible refine Below.alloc ?_ ?_ _) | (with_reducible refine Below.drew ?_) | (with_reducible refine Below.setCell ?_ ?_ _) | (with_reducible refine Below.thn (by assumption) ?_ ?_) | (with_reducible refine below_drewN ?_ _) | go_size))⟩
    · by_cases h0 : m = 0
      · have E : Rlp.right (.mk true bs its) = Rlp.rightL its := by
          have : bs = [] := List.length_eq_zero_iff.1 (by rw [HB.out]; exact h0)
          simp [Rlp.right, this]
        rw [E]
        subst h0
        go_enter Tryd.func37, Tryd.ntmps37
        go_wp2_with (go_at_call 50; (with_reducible refine (contains_V IH.out a' its n c' _ HN.out hc1 HM.out (H9.out.below ((Below.refl _ _).alloc (Nat.le_refl _) _))).mono ?_); rintro e w2 ⟨rfl, hb2⟩; have hz2 := hb2.size; (try simp at hz2))
        go_returns
        exact ⟨by simp, by (repeat' (first | (with_reducible exact Below.refl _ _) | (with_reducible refine Below.alloc ?_ ?_ _) | (with_reducible refine Below.drew ?_) | (with_reducible refine Below.setCell ?_ ?_ _) | (with_reducible refine Below.thn (by assumption) ?_ ?_) | (with_reducible refine below_drewN ?_ _) | go_size))⟩
      · have E : Rlp.right (.mk true bs its) = false := by
          have : bs ≠ [] := fun e => h0 (by rw [← HB.out, e]; rfl)
          simp [Rlp.right, this]
        rw [E]
        have c0 : ((m : Int) == 0) = false := by simp; omega
        go_enter Tryd.func37, Tryd.ntmps37
        go_wp2
        go_returns
        exact ⟨rfl, by (repeat' (first | (with_reducible exact Below.refl _ _) | (with_reducible refine Below.alloc ?_ ?_ _) | (with_reducible refine Below.drew ?_) | (with_reducible refine Below.setCell ?_ ?_ _) | (with_reducible refine Below.thn (by assumption) ?_ ?_) | (with_reducible refine below_drewN ?_ _) | go_size))⟩
end Go.Proofs.YtgcpnhnckbgjmaaDoor
