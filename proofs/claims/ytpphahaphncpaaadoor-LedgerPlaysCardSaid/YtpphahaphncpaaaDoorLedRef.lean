/-
  mootref18's Sum and Balance by their contracts: a list of all that happened.
-/
import Derived.Test.YtpphahaphncpaaaDoorLedBonds
import Derived.Test.YtpphahaphncpaaaDoorHeld
set_option linter.unusedVariables false
set_option linter.unusedSimpArgs false
namespace Go.Proofs.YtpphahaphncpaaaDoor
open Go.RowKit

structure Ev where
  k : Int
  p : Int
  b : Int
  v : Int
abbrev TEV : TypeId := 46
abbrev TRL : TypeId := 28
def Ev.cells (e : Ev) : List Value := [.int .i64 e.k, .int .i64 e.p, .int .i64 e.b, .int .u64 e.v]
def flatE (es : List Ev) : List Value := es.flatMap Ev.cells
def ev0 : Ev := ⟨0, 0, 0, 0⟩
theorem flatE_len (es : List Ev) : (flatE es).length = es.length * 4 := by
  induction es with
  | nil => rfl
  | cons x xs ih => simp [flatE, Ev.cells] at ih ⊢; omega
theorem flatE_append (es : List Ev) (x : Ev) : flatE (es ++ [x]) = flatE es ++ x.cells := by simp [flatE]
theorem flatE_get (es : List Ev) (n i : Nat) (hn : n < es.length) (hi : i < 4) : (flatE es)[n * 4 + i]? = (es.getD n ev0).cells[i]? := by
  induction es generalizing n with
  | nil => simp at hn
  | cons x xs ih =>
    cases n with
    | zero =>
      rcases (by omega : i = 0 ∨ i = 1 ∨ i = 2 ∨ i = 3) with rfl | rfl | rfl | rfl <;> rfl
    | succ n =>
      have := ih n (by simpa using hn)
      rw [show (n + 1) * 4 + i = (n * 4 + i) + 1 + 1 + 1 + 1 by omega]
      exact this
/-- Is the event one of a kind, of a player (-1: of all)? -/
def hit (e : Ev) (k p : Int) : Bool := e.k == k && (decide (p < 0) || e.p == p)
def sumE : List Ev → Int → Int → Int
  | [], _, _ => 0
  | e :: es, k, p => (if hit e k p then e.v else 0) + sumE es k p
theorem sumE_snoc (es : List Ev) (e : Ev) (k p : Int) : sumE (es ++ [e]) k p = sumE es k p + (if hit e k p then e.v else 0) := by
  induction es with
  | nil => simp [sumE]
  | cons x xs ih => simp only [List.cons_append, sumE, ih]; omega
theorem sumE_take (es : List Ev) (j : Nat) (hj : j < es.length) (k p : Int) : sumE (es.take (j + 1)) k p = sumE (es.take j) k p + (if hit (es.getD j ev0) k p then (es.getD j ev0).v else 0) := by
  rw [List.take_succ_eq_append_getElem hj, sumE_snoc, List.getD_eq_getElem?_getD, List.getElem?_eq_getElem hj]; rfl
/-- The events that a script of 150 acts can leave. -/
structure Evs (es : List Ev) : Prop where
  n : es.length ≤ 150
  b : ∀ e ∈ es, 0 ≤ e.v ∧ e.v ≤ 281474976710656
theorem Evs.at {es : List Ev} (h : Evs es) (j : Nat) : 0 ≤ (es.getD j ev0).v ∧ (es.getD j ev0).v ≤ 281474976710656 := by
  rcases Nat.lt_or_ge j es.length with hj | hj
  · rw [List.getD_eq_getElem?_getD, List.getElem?_eq_getElem hj]; exact h.b _ (List.getElem_mem _)
  · rw [List.getD_eq_getElem?_getD, List.getElem?_eq_none hj]; decide
theorem Evs.take {es : List Ev} (h : Evs es) (j : Nat) : Evs (es.take j) := ⟨by have := h.n; simp; omega, fun e he => h.b e (List.mem_of_mem_take he)⟩
theorem sumE_bd (es : List Ev) (h : ∀ e ∈ es, 0 ≤ e.v ∧ e.v ≤ 281474976710656) (k p : Int) : 0 ≤ sumE es k p ∧ sumE es k p ≤ es.length * 281474976710656 := by
  induction es with
  | nil => simp [sumE]
  | cons x xs ih =>
    have := ih (fun e he => h e (List.mem_cons_of_mem _ he))
    have hx := h x (List.mem_cons_self ..)
    simp only [sumE, List.length_cons, Int.natCast_add, Int.add_mul]
    split <;> omega
theorem Evs.sum {es : List Ev} (h : Evs es) (k p : Int) : 0 ≤ sumE es k p ∧ sumE es k p ≤ 42221246506598400 := by
  have := sumE_bd es h.b k p
  have h2 : (es.length : Int) * 281474976710656 ≤ 150 * 281474976710656 := Int.mul_le_mul_of_nonneg_right (by have := h.n; omega) (by decide)
  omega
theorem rowE_form {w : World} {base n : Nat} {v : Value} {es : List Ev} (h : w.ownsRow base TEV 4 v n (flatE es)) (hn : 0 < n) : ∃ g cp, v = .slice (some ⟨g, 0, none⟩) n cp ∧ g < w.heap.size ∧ base ≤ g := by
  rcases h.2 with ⟨_, h0⟩ | ⟨g, cap, cur, rfl, hb, hh, _⟩
  · omega
  · exact ⟨_, _, rfl, lt_of_block hh, hb⟩
theorem rowE_cell {w : World} {base n : Nat} {es : List Ev} {g cp : Nat} (h : w.ownsRow base TEV 4 (.slice (some ⟨g, 0, none⟩) n cp) n (flatE es)) (hl : es.length = n) (j i : Nat) (hj : j < n) (hi : i < 4) : w.cell? ⟨g, j * 4 + i, none⟩ = (es.getD j ev0).cells[i]? := by
  rw [h.cellAt (j * 4 + i) (by omega)]; exact flatE_get es j i (by omega) hi
set_option maxHeartbeats 4000000 in
theorem sum_V (base n : Nat) (v : Value) (es : List Ev) (k p s : Int) (w : World) (hv : w.ownsRow base TEV 4 v n (flatE es)) (hl : es.length = n) (he : Evs es) (hs : sumE es k p = s) :
    Calls Tryd.prog 17 #[.agg #[v], .int .i64 k, .int .i64 p] w fun e w' => e = .returned (.int .u64 s) ∧ Below w.heap.size w w' := by
  have hn : n ≤ 150 := by rw [← hl]; exact he.n
  rcases Nat.eq_zero_or_pos n with h0 | h0
  · obtain ⟨ao, cp, rfl⟩ := row_form hv
    subst h0
    have : es = [] := List.length_eq_zero_iff.1 hl
    subst this
    have hs0 : s = 0 := by rw [← hs]; rfl
    subst hs0
    clear hs hv he hl
    go_enter Tryd.func17, Tryd.ntmps17
    go_wp2
    refine wp_loop_rounds 1 ?_
    rw [rounds_succ]
    go_wp2
    go_returns
    exact ⟨rfl, by (repeat' (first | (with_reducible exact Below.refl _ _) | (with_reducible refine Below.alloc ?_ ?_ _) | (with_reducible refine Below.drew ?_) | (with_reducible refine Below.setCell ?_ ?_ _) | (with_reducible refine Below.thn (by assumption) ?_ ?_) | (with_reducible refine below_drewN ?_ _) | go_size))⟩
  · obtain ⟨g, cp, rfl, hg, _⟩ := rowE_form hv h0
    have HV := Lib.hid hv
    have HE := Lib.hid he
    have HS := Lib.hid hs
    have HL := Lib.hid hl
    clear hv he hs hl
    go_enter Tryd.func17, Tryd.ntmps17
    go_wp2
    go_loop [7, 8] (fun t i => ∃ j : Nat, j ≤ n ∧ i = .int .i64 j ∧ t = .int .u64 (sumE (es.take j) k p)) (fun _ i => n - (intOf i).toNat)
    case atStart => exact ⟨0, by omega, rfl, by simp [sumE]⟩
    case round =>
      obtain ⟨j, hj, rfl, rfl⟩ := hrel
      by_cases hlt : j < n
      · have q0 := (rowE_cell HV.out HL.out j 0 hlt (by decide))
        have q1 := (rowE_cell HV.out HL.out j 1 hlt (by decide))
        have q3 := (rowE_cell HV.out HL.out j 3 hlt (by decide))
        have vb := HE.out.at j
        have st := sumE_take es j (by rw [HL.out]; exact hlt) k p
        have sb := (HE.out.take j).sum k p
        obtain ⟨e, hee⟩ : ∃ e, e = es.getD j ev0 := ⟨_, rfl⟩
        rw [← hee] at q0 q1 q3 vb st
        simp only [Ev.cells, List.getElem?_cons_zero, List.getElem?_cons_succ, Nat.add_zero] at q0 q1 q3
        obtain ⟨ek, ep, eb, ev⟩ := e
        simp only at q0 q1 q3 vb
        obtain ⟨sj, hsj⟩ : ∃ sj, sj = sumE (es.take j) k p := ⟨_, rfl⟩
        rw [← hsj] at st sb ⊢
        clear hsj hee
        by_cases c1 : ek = k
        · subst c1
          by_cases c2 : p < 0
          · have ST : Hid (sumE (es.take (j + 1)) ek p = sj + ev) := by show _ = _; rw [st]; simp [hit, c2]
            clear st
            go_wp2
            go_round
            case rel => exact ⟨j + 1, by omega, by go_num, by rw [ST.out]⟩
            case measure => simp [intOf]; omega
          · by_cases c3 : ep = p
            · subst c3
              have ST : Hid (sumE (es.take (j + 1)) ek ep = sj + ev) := by show _ = _; rw [st]; simp [hit]
              clear st
              go_wp2
              go_round
              case rel => exact ⟨j + 1, by omega, by go_num, by rw [ST.out]⟩
              case measure => simp [intOf]; omega
            · have c4 : (ep == p) = false := by simpa using c3
              have ST : Hid (sumE (es.take (j + 1)) ek p = sj) := by show _ = _; rw [st]; simp [hit, c2, c3]
              clear st c3
              go_wp2
              go_round
              case rel => exact ⟨j + 1, by omega, by go_num, by rw [ST.out]⟩
              case measure => simp [intOf]; omega
        · have c4 : (ek == k) = false := by simpa using c1
          have ST : Hid (sumE (es.take (j + 1)) k p = sj) := by show _ = _; rw [st]; simp [hit, c1]
          clear st c1
          go_wp2
          go_round
          case rel => exact ⟨j + 1, by omega, by go_num, by rw [ST.out]⟩
          case measure => simp [intOf]; omega
      · have hjn : n = j := by omega
        subst hjn
        have E : Hid (sumE (es.take n) k p = s) := by show _ = _; rw [← HL.out, List.take_length]; exact HS.out
        clear hlt hj
        go_wp2
        go_returns
        exact ⟨by rw [← E.out]; rfl, by (repeat' (first | (with_reducible exact Below.refl _ _) | (with_reducible refine Below.alloc ?_ ?_ _) | (with_reducible refine Below.drew ?_) | (with_reducible refine Below.setCell ?_ ?_ _) | (with_reducible refine Below.thn (by assumption) ?_ ?_) | (with_reducible refine below_drewN ?_ _) | go_size))⟩
end Go.Proofs.YtpphahaphncpaaaDoor
