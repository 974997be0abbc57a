/-
  The walk of ClockSides: it returns true for every input.
-/
import Derived.Test.YtjjnbkgmagkpgaaClockKnownWalk
set_option linter.unusedVariables false
namespace Go.Proofs.Ytjjnbkgmagkpgaa
open Go.RowKit

/-- What holds of the numbers ahead of round k: t ticks have gone, lu and b were used by the two sides, m answers were made. -/
structure SidesNum (L G D : Int) (len k : Nat) (t m b lu : Int) : Prop where
  k1 : k ≤ len
  k2 : k ≤ 60
  t0 : 0 ≤ t
  t1 : t ≤ 1000 * (k : Int)
  u0 : 0 ≤ lu
  u1 : lu ≤ L - G
  b0 : 0 ≤ b
  b1 : b ≤ L - G
  m0 : 2 * m ≤ (k : Int) + 1
  m1 : (k : Int) ≤ 2 * m
  e : (k : Int) % 2 = 0 → b ≤ m * D
  o : (k : Int) % 2 = 1 → lu ≤ m * D

theorem SidesNum.mine {L G D : Int} {len k : Nat} {t m b lu x n : Int} (h : SidesNum L G D len k t m b lu) (hk : k < len) (hk2 : k < 60) (hp : (k : Int) % 2 = 0) (hx0 : 0 ≤ x) (hx1 : x ≤ D) (hD : D ≤ 19) (hn0 : 0 ≤ n) (hn1 : n ≤ L - G) (hn : n ≤ b + x) :
    SidesNum L G D len (k + 1) (t + x) (m + 1) lu n := by
  have := h.m0; have := h.m1; have := h.t0; have := h.t1; have := h.e hp
  have e2 : (m + 1) * D = m * D + D := by rw [Int.add_mul]; omega
  refine ⟨by omega, by omega, by omega, by omega, hn0, hn1, h.u0, h.u1, by omega, by omega, fun h2 => by omega, fun _ => by omega⟩
theorem SidesNum.theirs {L G D : Int} {len k : Nat} {t m b lu x n : Int} (h : SidesNum L G D len k t m b lu) (hk : k < len) (hk2 : k < 60) (hp : (k : Int) % 2 = 1) (hx0 : 0 ≤ x) (hx1 : x ≤ 1000) (hn0 : 0 ≤ n) (hn1 : n ≤ L - G) :
    SidesNum L G D len (k + 1) (t + x) m lu n := by
  have := h.m0; have := h.m1; have := h.t0; have := h.t1; have := h.o hp
  refine ⟨by omega, by omega, by omega, by omega, hn0, hn1, h.u0, h.u1, by omega, by omega, fun _ => by omega, fun h2 => by omega⟩

set_option maxRecDepth 100000 in
set_option maxHeartbeats 4000000 in
theorem clockSides_walk (w : World) (a0 : Int) (w0 : (Lit.int .u64 a0).wf = true) (a1 : Int) (w1 : (Lit.int .u64 a1).wf = true) (a2 : Option Addr) (len2 cap2 : Nat) (z2 : List Int) (w2 : IsRow .u64 w a2 len2 cap2 z2) (a3 : Int) (w3 : (Lit.int .u64 a3).wf = true) :
    Calls Try.prog 3 #[.int .u64 a0, .int .u64 a1, .slice a2 len2 cap2, .int .u64 a3] w fun e w' => e = .returned (.bool true) ∧ Below w.heap.size w w' := by
  have ⟨b0, b0'⟩ := u64_wf w0
  have ⟨b1, b1'⟩ := u64_wf w1
  have ⟨b3, b3'⟩ := u64_wf w3
  clear w0 w1 w3 b0' b1' b3'
  have hlen := (row_len w2).1
  have hcap := (row_len w2).2
  have HR := Lib.hid w2
  clear w2
  have g0 : 0 ≤ a1 % (1 + a0 % 1000 + 1) := Int.emod_nonneg _ (by omega)
  have g1 : a1 % (1 + a0 % 1000 + 1) < 1 + a0 % 1000 + 1 := Int.emod_lt_of_pos _ (by omega)
  go_enter Try.func3, Try.ntmps3
  go_wp2_with (go_at_call 6; (with_reducible refine (fixed_calls _).mono ?_); rintro e1 w1 ⟨rfl, hb1⟩; obtain ⟨hc1, hf1⟩ := bcell hb1; have hz1 := hb1.size; (try simp at hz1))
  have Hc := Lib.hid hc1
  have Hf := Lib.hid hf1
  clear hc1 hf1
  go_loopw [12, 13, 11, 36] (fun t m b i wr => ∃ (k : Nat) (tv mv bv lu : Int), t = .int .u64 tv ∧ m = .int .u64 mv ∧ b = .int .u64 bv ∧ i = .int .i64 k ∧ Hid (SidesNum (1 + a0 % 1000) (a1 % (1 + a0 % 1000 + 1)) (a3 % 20) len2 k tv mv bv lu) ∧ Below w1.heap.size w1 wr ∧ w1.heap.size + 1 < wr.heap.size ∧
      wr.cell? ⟨w1.heap.size, 0, none⟩ = some (.int .u64 (1 + a0 % 1000)) ∧ wr.cell? ⟨w1.heap.size, 1, none⟩ = some (.int .u64 (a1 % (1 + a0 % 1000 + 1))) ∧ wr.cell? ⟨w1.heap.size + 1, 0, none⟩ = some (.int .u64 lu) ∧ wr.cell? ⟨w1.heap.size + 1, 1, none⟩ = some (.int .u64 tv) ∧
      wr.frozen? ⟨w1.heap.size + 1, 0, none⟩ = false ∧ wr.frozen? ⟨w1.heap.size + 1, 1, none⟩ = false) (fun _ _ _ i _ => len2 - (intOf i).toNat)
  case atStart => exact ⟨0, 0, 0, 0, 0, rfl, rfl, rfl, rfl, ⟨by omega, by omega, by omega, by omega, by omega, by omega, by omega, by omega, by omega, by omega, fun _ => by omega, fun _ => by omega⟩, by (repeat' (first | (with_reducible exact Below.refl _ _) | (with_reducible refine Below.alloc ?_ ?_ _) | (with_reducible refine Below.drew ?_) | (with_reducible refine Below.setCell ?_ ?_ _) | (with_reducible refine Below.thn (by assumption) ?_ ?_) | go_size)), by simp, by go_cell, by go_cell, by go_cell, by go_cell, by simp, by simp⟩
  case round =>
    obtain ⟨k, tv, mv, bv, lu, rfl, rfl, rfl, rfl, HN, hbr, hsr, q0, q1, q2, q3, f2, f3⟩ := hrel
    have hsr0 : w1.heap.size < wr.heap.size := by omega
    have n1 := HN.out.k1; have n2 := HN.out.k2; have n3 := HN.out.t0; have n4 := HN.out.t1; have n5 := HN.out.u0; have n6 := HN.out.u1; have n7 := HN.out.b0; have n8 := HN.out.b1; have n9 := HN.out.m0; have n10 := HN.out.m1
    by_cases hlt : k < len2
    · by_cases hk6 : 60 ≤ k
      · obtain ⟨xb, xo, rfl, hxb, hx, _⟩ := row_cell HR.out k hlt
        have hxr : wr.cell? ⟨xb, xo + k, none⟩ = some (.int .u64 (z2.getD k 0)) := by
          rw [hbr.cell (p := ⟨xb, xo + k, none⟩) (by have := hb1.size; show xb < _; omega), Hc.out _ _ hxb]; exact hx
        go_wp2
        go_returns
        exact ⟨rfl, (hb1.trans (hbr.mono (by omega)))⟩
      · obtain ⟨xb, xo, rfl, hxb, hx, hwf⟩ := row_cell HR.out k hlt
        have hxr : wr.cell? ⟨xb, xo + k, none⟩ = some (.int .u64 (z2.getD k 0)) := by
          rw [hbr.cell (p := ⟨xb, xo + k, none⟩) (by have := hb1.size; show xb < _; omega), Hc.out _ _ hxb]; exact hx
        have y0 := (u64_wf hwf).1
        clear hx hwf
        generalize z2.getD k 0 = y at hxr y0
        have p0 : 0 ≤ mv * (a3 % 20) := Int.mul_nonneg (by omega) (by omega)
        have p1 : (mv + 1) * (a3 % 20) ≤ mv * (a3 % 20) + (a3 % 20) := by rw [Int.add_mul]; omega
        have p2 : mv * (a3 % 20) + (a3 % 20) ≤ (mv + 1) * (a3 % 20) := by rw [Int.add_mul]; omega
        have p3 : (mv + 1) * (a3 % 20) ≤ 31 * 20 := Int.mul_le_mul (by omega) (by omega) (by omega) (by omega)
        have x0 : 0 ≤ y % ((a3 % 20) + 1) := Int.emod_nonneg _ (by omega)
        have x1 : y % ((a3 % 20) + 1) < (a3 % 20) + 1 := Int.emod_lt_of_pos _ (by omega)
        by_cases hp : (k : Int) % 2 = 0
        · have pe := HN.out.e hp
          have hp1 : ((k : Int) % 2 == 0) = true := by simp; omega
          have HP := Lib.hid hp; clear hp
          by_cases hl : (1 + a0 % 1000) ≤ bv + (tv + y % ((a3 % 20) + 1)) - tv
          · go_wp2_with (first | (go_at_call 7; (with_reducible refine (next_late (1 + a0 % 1000) (a1 % (1 + a0 % 1000 + 1)) lu tv bv (tv + y % ((a3 % 20) + 1)) _ (by omega) (by omega) (by omega) (by omega) (by omega) (by omega) (by omega) (by omega) (by omega) (by omega) (by omega) (by omega)).mono ?_); rintro e2 w2 ⟨rfl, hb2⟩; obtain ⟨hc2, hf2⟩ := bcell hb2; have hz2 := hb2.size; (try simp at hz2); have hs2_w10 : w1.heap.size < w2.heap.size := (by omega); have hs2_w11 : w1.heap.size + 1 < w2.heap.size := (by omega)) | (go_at_call 8; refine (is_num _ _ _).mono ?_; rintro e w' ⟨rfl, rfl⟩))
            go_returns
            exact ⟨rfl, (hb1.trans (hbr.mono (by omega))).trans (hb2.mono (by omega) |>.alloc (by omega) _)⟩
          · obtain ⟨n, hn⟩ : ∃ n, n = min (bv + (tv + y % ((a3 % 20) + 1)) - tv) ((1 + a0 % 1000) - (a1 % (1 + a0 % 1000 + 1))) := ⟨_, rfl⟩
            have n1' : n ≤ bv + y % ((a3 % 20) + 1) := by omega
            have n2' : n ≤ (1 + a0 % 1000) - (a1 % (1 + a0 % 1000 + 1)) := by omega
            have n0' : 0 ≤ n := by omega
            have Hn := Lib.hid hn; clear hn
            by_cases ht : (mv + 1) * (a3 % 20) < (1 + a0 % 1000)
            all_goals
              go_wp2_with (first | (go_at_call 7; (with_reducible refine (next_ok (1 + a0 % 1000) (a1 % (1 + a0 % 1000 + 1)) lu tv bv (tv + y % ((a3 % 20) + 1)) n _ (by omega) (by omega) (by omega) (by omega) (by omega) (by omega) (by omega) (by omega) (by omega) (by omega) (by omega) (by omega) Hn.out).mono ?_); rintro e2 w2 ⟨rfl, hb2⟩; obtain ⟨hc2, hf2⟩ := bcell hb2; have hz2 := hb2.size; (try simp at hz2); have hs2_w10 : w1.heap.size < w2.heap.size := (by omega); have hs2_w11 : w1.heap.size + 1 < w2.heap.size := (by omega)) | (go_at_call 8; refine (is_num _ _ _).mono ?_; rintro e w' ⟨rfl, rfl⟩))
              go_roundw
              case rel =>
                have h2s := hb2.size
                refine ⟨k + 1, tv + y % ((a3 % 20) + 1), mv + 1, lu, n, rfl, rfl, rfl, by go_num, HN.out.mine hlt (by omega) HP.out x0 (by omega) (by omega) n0' n2' n1', ?_, ?_, ?_, ?_, ?_, ?_, ?_, ?_⟩
                · exact hbr.trans (by (repeat' (first | (with_reducible exact Below.refl _ _) | (with_reducible refine Below.alloc ?_ ?_ _) | (with_reducible refine Below.drew ?_) | (with_reducible refine Below.setCell ?_ ?_ _) | (with_reducible refine Below.thn (by assumption) ?_ ?_) | go_size)))
                · simp; omega
                · go_cell
                · go_cell
                · go_cell
                · go_cell
                · rw [frozen?_alloc_cells, World.frozen?_setCell, World.frozen?_setCell, hf2 _ _ (by omega)]; exact f2
                · rw [frozen?_alloc_cells, World.frozen?_setCell, World.frozen?_setCell, hf2 _ _ (by omega)]; exact f3
              case measure => simp [intOf]; omega
        · have hp1 : (k : Int) % 2 = 1 := by omega
          have po := HN.out.o hp1
          have hp2 : ((k : Int) % 2 == 0) = false := by simp; omega
          have HP := Lib.hid hp1; clear hp hp1
          have x2 : 0 ≤ y % 1000 := Int.emod_nonneg _ (by omega)
          have x3 : y % 1000 < 1000 := Int.emod_lt_of_pos _ (by omega)
          by_cases hl : (1 + a0 % 1000) ≤ bv + (tv + y % 1000) - tv
          · go_wp2_with (first | (go_at_call 7; (with_reducible refine (next_late (1 + a0 % 1000) (a1 % (1 + a0 % 1000 + 1)) lu tv bv (tv + y % 1000) _ (by omega) (by omega) (by omega) (by omega) (by omega) (by omega) (by omega) (by omega) (by omega) (by omega) (by omega) (by omega)).mono ?_); rintro e2 w2 ⟨rfl, hb2⟩; obtain ⟨hc2, hf2⟩ := bcell hb2; have hz2 := hb2.size; (try simp at hz2); have hs2_w10 : w1.heap.size < w2.heap.size := (by omega); have hs2_w11 : w1.heap.size + 1 < w2.heap.size := (by omega)) | (go_at_call 8; refine (is_num _ _ _).mono ?_; rintro e w' ⟨rfl, rfl⟩))
            go_returns
            exact ⟨rfl, (hb1.trans (hbr.mono (by omega))).trans (hb2.mono (by omega) |>.alloc (by omega) _)⟩
          · obtain ⟨n, hn⟩ : ∃ n, n = min (bv + (tv + y % 1000) - tv) ((1 + a0 % 1000) - (a1 % (1 + a0 % 1000 + 1))) := ⟨_, rfl⟩
            have n2' : n ≤ (1 + a0 % 1000) - (a1 % (1 + a0 % 1000 + 1)) := by omega
            have n0' : 0 ≤ n := by omega
            have Hn := Lib.hid hn; clear hn
            go_wp2_with (first | (go_at_call 7; (with_reducible refine (next_ok (1 + a0 % 1000) (a1 % (1 + a0 % 1000 + 1)) lu tv bv (tv + y % 1000) n _ (by omega) (by omega) (by omega) (by omega) (by omega) (by omega) (by omega) (by omega) (by omega) (by omega) (by omega) (by omega) Hn.out).mono ?_); rintro e2 w2 ⟨rfl, hb2⟩; obtain ⟨hc2, hf2⟩ := bcell hb2; have hz2 := hb2.size; (try simp at hz2); have hs2_w10 : w1.heap.size < w2.heap.size := (by omega); have hs2_w11 : w1.heap.size + 1 < w2.heap.size := (by omega)) | (go_at_call 8; refine (is_num _ _ _).mono ?_; rintro e w' ⟨rfl, rfl⟩))
            go_roundw
            case rel =>
              have h2s := hb2.size
              refine ⟨k + 1, tv + y % 1000, mv, lu, n, rfl, rfl, rfl, by go_num, HN.out.theirs hlt (by omega) HP.out x2 (by omega) n0' n2', ?_, ?_, ?_, ?_, ?_, ?_, ?_, ?_⟩
              · exact hbr.trans (by (repeat' (first | (with_reducible exact Below.refl _ _) | (with_reducible refine Below.alloc ?_ ?_ _) | (with_reducible refine Below.drew ?_) | (with_reducible refine Below.setCell ?_ ?_ _) | (with_reducible refine Below.thn (by assumption) ?_ ?_) | go_size)))
              · simp; omega
              · go_cell
              · go_cell
              · go_cell
              · go_cell
              · rw [frozen?_alloc_cells, World.frozen?_setCell, World.frozen?_setCell, hf2 _ _ (by omega)]; exact f2
              · rw [frozen?_alloc_cells, World.frozen?_setCell, World.frozen?_setCell, hf2 _ _ (by omega)]; exact f3
            case measure => simp [intOf]; omega
    · go_wp2
      go_returns
      exact ⟨rfl, (hb1.trans (hbr.mono (by omega)))⟩
end Go.Proofs.Ytjjnbkgmagkpgaa
