/-
  position.Highest by its contracts.
-/
import Derived.Test.YtaogiclcgdpcmaaDoorPos
import Derived.WalkSmall
set_option linter.unusedVariables false
namespace Go.Proofs.YtaogiclcgdpcmaaDoor
open Go.RowKit

/-- q lies above p, or is p, and has its trace index. -/
def Top (d dep : Nat) (p q : Int) : Prop := ∃ e : Nat, e ≤ d ∧ 2 ^ e ≤ q ∧ q < 2 ^ (e + 1) ∧ (q - 2 ^ e + 1) * 2 ^ (dep - e) = (p - 2 ^ d + 1) * 2 ^ (dep - d) ∧ q ≤ p
theorem Top.self {d dep : Nat} {p : Int} (h1 : 2 ^ d ≤ p) (h2 : p < 2 ^ (d + 1)) : Top d dep p p := ⟨d, Nat.le_refl _, h1, h2, rfl, Int.le_refl _⟩
theorem Top.half {d dep : Nat} {p q : Int} (hd : d ≤ dep) (h : Top d dep p q) (h1 : 1 < q) (h2 : q % 2 = 1) : Top d dep p (q / 2) := by
  obtain ⟨e, he, a, b, c, f⟩ := h
  cases e with
  | zero => simp at b; omega
  | succ e =>
    refine ⟨e, by omega, ?_, ?_, ?_, by omega⟩
    · have := pow_succ' e; omega
    · have := pow_succ' (e + 1); omega
    · rw [← c]
      have e1 := pow_succ' e
      have e2 : (2 : Int) ^ (dep - e) = 2 * 2 ^ (dep - (e + 1)) := by rw [show dep - e = (dep - (e + 1)) + 1 by omega]; exact pow_succ' _
      rw [e2, ← Int.mul_assoc]
      congr 1
      omega
/-- What Highest answers where it answers. -/
def HighPost (d dep : Nat) (p : Int) (w : World) (e : Ending) (w' : World) : Prop := ∃ q, Top d dep p q ∧ 1 ≤ q ∧ (q = 1 ∨ q % 2 = 0) ∧ e = .returned (.tuple #[.int .u64 q, .nilIface]) ∧ Below w.heap.size w w'

set_option maxHeartbeats 1000000 in
theorem highest_ok (d dep : Nat) (p : Int) (w : World) (hd : d ≤ dep) (hp : dep ≤ 24) (h1 : 2 ^ d ≤ p) (h2 : p < 2 ^ (d + 1)) :
    Calls Tryd.prog 16 #[.int .u64 p, .int .i64 dep] w (HighPost d dep p w) := by
  have hb := (pow_bounds (d + 1) (by omega)).2
  have ha := (pow_bounds d (by omega)).1
  have p0 : 1 ≤ p := by omega
  have p1 : p ≤ 33554432 := by omega
  have HT : Hid (Top d dep p p) := Top.self h1 h2
  have H1 := Lib.hid h1
  have H2 := Lib.hid h2
  clear h1 h2 ha hb
  go_enter Tryd.func16, Tryd.ntmps16
  go_wp2_with (go_at_call 10; refine (trace_ok d dep p _ hd hp H1.out H2.out).mono ?_; rintro e1 w1 ⟨rfl, hb1⟩; obtain ⟨hc1, hf1⟩ := bcell hb1; have hz1 := hb1.size; (try simp at hz1))
  go_loop [0] (fun v => ∃ q : Int, v = .int .u64 q ∧ Hid (Top d dep p q) ∧ 1 ≤ q ∧ q ≤ 33554432) (fun v => (intOf v).toNat)
  case atStart => exact ⟨p, rfl, HT, p0, p1⟩
  case round =>
    obtain ⟨q, rfl, ht, q0, q1⟩ := hrel
    have ea := and_one_u64 q (by omega) (by omega)
    by_cases hq : 1 < q
    · by_cases ho : q % 2 = 1
      · have hb1 : (q % 2 == 1) = true := by simp; omega
        have HO := Lib.hid ho
        clear ho
        go_wp2
        go_round
        case rel => exact ⟨q / 2, by go_num, ht.out.half hd hq HO.out, by omega, by omega⟩
        case measure => simp [intOf]; omega
      · have hb1 : (q % 2 == 1) = false := by simp; omega
        go_wp2
        go_returns
        exact ⟨q, ht, q0, .inr (by omega), rfl, by (repeat' (first | (with_reducible exact Below.refl _ _) | (with_reducible refine Below.alloc ?_ ?_ _) | (with_reducible refine Below.drew ?_) | (with_reducible refine Below.setCell ?_ ?_ _) | (with_reducible refine Below.thn (by assumption) ?_ ?_) | (with_reducible refine below_drewN ?_ _) | go_size))⟩
    · go_wp2
      go_returns
      exact ⟨q, ht, q0, .inl (by omega), rfl, by (repeat' (first | (with_reducible exact Below.refl _ _) | (with_reducible refine Below.alloc ?_ ?_ _) | (with_reducible refine Below.drew ?_) | (with_reducible refine Below.setCell ?_ ?_ _) | (with_reducible refine Below.thn (by assumption) ?_ ?_) | (with_reducible refine below_drewN ?_ _) | go_size))⟩
theorem highest_badP (p dep : Int) (w : World) (h0 : 0 ≤ p) (h : p = 0 ∨ 33554432 ≤ p) :
    Calls Tryd.prog 16 #[.int .u64 p, .int .i64 dep] w fun e w' => e = .returned (.tuple #[.int .u64 0, .iface 40 (.int .i64 2)]) ∧ Below w.heap.size w w' := by
  have H := Lib.hid h
  clear h
  go_enter Tryd.func16, Tryd.ntmps16
  go_wp2_with (go_at_call 10; refine (trace_badP p dep _ h0 H.out).mono ?_; rintro e1 w1 ⟨rfl, hb1⟩; obtain ⟨hc1, hf1⟩ := bcell hb1; have hz1 := hb1.size; (try simp at hz1))
  go_returns
  exact ⟨rfl, by (repeat' (first | (with_reducible exact Below.refl _ _) | (with_reducible refine Below.alloc ?_ ?_ _) | (with_reducible refine Below.drew ?_) | (with_reducible refine Below.setCell ?_ ?_ _) | (with_reducible refine Below.thn (by assumption) ?_ ?_) | (with_reducible refine below_drewN ?_ _) | go_size))⟩
theorem highest_badD (d : Nat) (p dep : Int) (w : World) (hd : d ≤ 24) (h1 : 2 ^ d ≤ p) (h2 : p < 2 ^ (d + 1)) (h : dep < d ∨ 24 < dep) :
    Calls Tryd.prog 16 #[.int .u64 p, .int .i64 dep] w fun e w' => e = .returned (.tuple #[.int .u64 0, .iface 40 (.int .i64 2)]) ∧ Below w.heap.size w w' := by
  have H := Lib.hid h
  have H1 := Lib.hid h1
  have H2 := Lib.hid h2
  clear h h1 h2
  go_enter Tryd.func16, Tryd.ntmps16
  go_wp2_with (go_at_call 10; refine (trace_badD d p dep _ hd H1.out H2.out H.out).mono ?_; rintro e1 w1 ⟨rfl, hb1⟩; obtain ⟨hc1, hf1⟩ := bcell hb1; have hz1 := hb1.size; (try simp at hz1))
  go_returns
  exact ⟨rfl, by (repeat' (first | (with_reducible exact Below.refl _ _) | (with_reducible refine Below.alloc ?_ ?_ _) | (with_reducible refine Below.drew ?_) | (with_reducible refine Below.setCell ?_ ?_ _) | (with_reducible refine Below.thn (by assumption) ?_ ?_) | (with_reducible refine below_drewN ?_ _) | go_size))⟩
end Go.Proofs.YtaogiclcgdpcmaaDoor
