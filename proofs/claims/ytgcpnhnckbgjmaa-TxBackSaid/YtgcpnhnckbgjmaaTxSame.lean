/-
  mootlaw04.same by its contract.
-/
import Derived.Test.YtgcpnhnckbgjmaaTxUn
set_option linter.unusedVariables false
set_option linter.unusedSimpArgs false
namespace Go.Proofs.Ytgcpnhnckbgjmaa
open Go.RowKit
variable {F F' : Nat → Prop}
/-- Are the first transactions of two lists the same? -/
def sameF (xs ys : List (Nat → Nat)) (j : Nat) : Prop := ∀ i, i < j → sameT (xs.getD i (fun _ => 0)) (ys.getD i (fun _ => 0)) = true
/-- The lists are the same. -/
def sameL (xs ys : List (Nat → Nat)) : Prop := xs.length = ys.length ∧ sameF xs ys xs.length
theorem TxsAt.cells {w : World} {a : Option Addr} {ts : List (Nat → Nat)} (h : TxsAt F w a ts) (i : Nat) (hi : i < ts.length) : ∃ b off, a = some ⟨b, off, none⟩ ∧ b < w.heap.size ∧
    w.cell? ⟨b, off + i * 6, none⟩ = some (.int .u64 (ts.getD i (fun _ => 0) 0)) ∧ w.cell? ⟨b, off + i * 6 + 1, none⟩ = some (.int .u64 (ts.getD i (fun _ => 0) 1)) ∧ w.cell? ⟨b, off + i * 6 + 2, none⟩ = some (.int .u64 (ts.getD i (fun _ => 0) 2)) ∧ w.cell? ⟨b, off + i * 6 + 3, none⟩ = some (.int .u64 (ts.getD i (fun _ => 0) 3)) ∧ w.cell? ⟨b, off + i * 6 + 4, none⟩ = some (.int .u64 (ts.getD i (fun _ => 0) 4)) ∧ w.cell? ⟨b, off + i * 6 + 5, none⟩ = some (.int .u64 (ts.getD i (fun _ => 0) 5)) := by
  obtain ⟨b, off, e, _, hl, hc⟩ := h i hi
  exact ⟨b, off, e, hl, hc 0 (by decide), hc 1 (by decide), hc 2 (by decide), hc 3 (by decide), hc 4 (by decide), hc 5 (by decide)⟩
set_option maxRecDepth 100000 in
set_option maxHeartbeats 4000000 in
theorem same4_V (w : World) (a : Option Addr) (n ca : Nat) (b : Option Addr) (m cb : Nat) (xs ys : List (Nat → Nat)) (hn : xs.length = n) (hm : ys.length = m) (hnm : n ≤ maxLen) (hmm : m ≤ maxLen) (hx : TxsAt F w a xs) (hy : TxsAt F' w b ys) :
    Calls Try.prog 12 #[.slice a n ca, .slice b m cb] w fun e w' => (∃ q, e = .returned (.bool q) ∧ (q = true ↔ sameL xs ys)) ∧ Below w.heap.size w w' := by
  have HX := Lib.hid hx
  have HY := Lib.hid hy
  have HN := Lib.hid hn
  have HM := Lib.hid hm
  clear hx hy hn hm
  unfold maxLen at hnm hmm
  by_cases e : n = m
  · subst e
    have hnn : (decide ((n : Int) = (n : Int))) = true := by simp
    go_enter Try.func12, Try.ntmps12
    go_wp2
    go_loopw [5, 13] (fun ii idx wr => ∃ j : Nat, j ≤ n ∧ idx = .int .i64 j ∧ sameF xs ys j ∧ Below w.heap.size w wr) (fun _ idx _ => n - (intOf idx).toNat)
    case atStart => exact ⟨0, by omega, rfl, fun i hi => by omega, Below.refl _ _⟩
    case round =>
      obtain ⟨j, hj, rfl, hs, hb⟩ := hrel
      have HS := Lib.hid hs
      have HB := Lib.hid hb
      clear hs
      by_cases hlt : j < n
      · obtain ⟨b1, o1, rfl, hl1, x0, x1, x2, x3, x4, x5⟩ := HX.out.cells j (by rw [HN.out]; exact hlt)
        obtain ⟨b2, o2, rfl, hl2, y0, y1, y2, y3, y4, y5⟩ := HY.out.cells j (by rw [HM.out]; exact hlt)
        obtain ⟨vs, hvs⟩ : ∃ vs, xs.getD j (fun _ => 0) = vs := ⟨_, rfl⟩
        obtain ⟨us, hus⟩ : ∃ us, ys.getD j (fun _ => 0) = us := ⟨_, rfl⟩
        rw [hvs] at x0 x1 x2 x3 x4 x5
        rw [hus] at y0 y1 y2 y3 y4 y5
        have HV := Lib.hid hvs
        have HU := Lib.hid hus
        clear hvs hus
        obtain ⟨q, hq⟩ : ∃ q, sameT vs us = q := ⟨_, rfl⟩
        have eqt := fun W => (neq_tx vs us W).trans (by rw [hq])
        have gt := fun (o : BinOp) (x y : Operand) (xs ys : Array Value) (W : World) => guard_tx o x y xs ys W
        have HQ := Lib.hid hq
        clear hq
        have hne : Nonempty (Held (fun W => Below w.heap.size w W)) := ⟨⟨wr, HB.out⟩⟩
        have i0 : ∀ t : Held (fun W => Below w.heap.size w W), t.w.cell? ⟨b1, o1 + j * 6, none⟩ = some (.int .u64 (vs 0)) := fun t => (t.ok.cell (p := ⟨b1, o1 + j * 6, none⟩) hl1).trans x0
        have i1 : ∀ t : Held (fun W => Below w.heap.size w W), t.w.cell? ⟨b1, o1 + j * 6 + 1, none⟩ = some (.int .u64 (vs 1)) := fun t => (t.ok.cell (p := ⟨b1, o1 + j * 6 + 1, none⟩) hl1).trans x1
        have i2 : ∀ t : Held (fun W => Below w.heap.size w W), t.w.cell? ⟨b1, o1 + j * 6 + 2, none⟩ = some (.int .u64 (vs 2)) := fun t => (t.ok.cell (p := ⟨b1, o1 + j * 6 + 2, none⟩) hl1).trans x2
        have i3 : ∀ t : Held (fun W => Below w.heap.size w W), t.w.cell? ⟨b1, o1 + j * 6 + 3, none⟩ = some (.int .u64 (vs 3)) := fun t => (t.ok.cell (p := ⟨b1, o1 + j * 6 + 3, none⟩) hl1).trans x3
        have i4 : ∀ t : Held (fun W => Below w.heap.size w W), t.w.cell? ⟨b1, o1 + j * 6 + 4, none⟩ = some (.int .u64 (vs 4)) := fun t => (t.ok.cell (p := ⟨b1, o1 + j * 6 + 4, none⟩) hl1).trans x4
        have i5 : ∀ t : Held (fun W => Below w.heap.size w W), t.w.cell? ⟨b1, o1 + j * 6 + 5, none⟩ = some (.int .u64 (vs 5)) := fun t => (t.ok.cell (p := ⟨b1, o1 + j * 6 + 5, none⟩) hl1).trans x5
        have k0 : ∀ t : Held (fun W => Below w.heap.size w W), t.w.cell? ⟨b2, o2 + j * 6, none⟩ = some (.int .u64 (us 0)) := fun t => (t.ok.cell (p := ⟨b2, o2 + j * 6, none⟩) hl2).trans y0
        have k1 : ∀ t : Held (fun W => Below w.heap.size w W), t.w.cell? ⟨b2, o2 + j * 6 + 1, none⟩ = some (.int .u64 (us 1)) := fun t => (t.ok.cell (p := ⟨b2, o2 + j * 6 + 1, none⟩) hl2).trans y1
        have k2 : ∀ t : Held (fun W => Below w.heap.size w W), t.w.cell? ⟨b2, o2 + j * 6 + 2, none⟩ = some (.int .u64 (us 2)) := fun t => (t.ok.cell (p := ⟨b2, o2 + j * 6 + 2, none⟩) hl2).trans y2
        have k3 : ∀ t : Held (fun W => Below w.heap.size w W), t.w.cell? ⟨b2, o2 + j * 6 + 3, none⟩ = some (.int .u64 (us 3)) := fun t => (t.ok.cell (p := ⟨b2, o2 + j * 6 + 3, none⟩) hl2).trans y3
        have k4 : ∀ t : Held (fun W => Below w.heap.size w W), t.w.cell? ⟨b2, o2 + j * 6 + 4, none⟩ = some (.int .u64 (us 4)) := fun t => (t.ok.cell (p := ⟨b2, o2 + j * 6 + 4, none⟩) hl2).trans y4
        have k5 : ∀ t : Held (fun W => Below w.heap.size w W), t.w.cell? ⟨b2, o2 + j * 6 + 5, none⟩ = some (.int .u64 (us 5)) := fun t => (t.ok.cell (p := ⟨b2, o2 + j * 6 + 5, none⟩) hl2).trans y5
        cases q
        all_goals
          go_wp2_with fail
          refine wp_region_held (S := fun W => Below w.heap.size w W) (by kernel_rfl) (by kernel_rfl) (HB.out.drew) ?_
          repeat (go_big_quiet_step (fail))
          refine wpQuiet_nil ?_
          intro _ hw'
          obtain ⟨s6, hw''⟩ := hw'
          subst hw''
          go_wp2
        · go_returns
          refine ⟨⟨_, rfl, ?_⟩, s6.ok⟩
          simp only [Bool.false_eq_true, false_iff]
          rintro ⟨_, h⟩
          have := h j (by rw [HN.out]; exact hlt)
          rw [HV.out, HU.out, HQ.out] at this
          cases this
        · go_roundw
          case rel => exact ⟨j + 1, by omega, by go_num, fun i hi => (by
            by_cases h : i < j
            · exact HS.out i h
            · have : i = j := by omega
              subst this
              rw [HV.out, HU.out]; exact HQ.out), s6.ok⟩
          case measure => simp [intOf]; omega
      · have hjn : j = n := by omega
        subst hjn
        go_wp2
        go_returns
        refine ⟨⟨_, rfl, ?_⟩, hb⟩
        unfold sameL
        rw [HN.out, HM.out]
        simp only [true_and, true_iff]
        exact HS.out
  · go_enter Try.func12, Try.ntmps12
    go_wp2
    go_returns
    refine ⟨⟨_, rfl, ?_⟩, Below.refl _ _⟩
    unfold sameL
    rw [HN.out, HM.out]
    simp [e]
end Go.Proofs.Ytgcpnhnckbgjmaa
