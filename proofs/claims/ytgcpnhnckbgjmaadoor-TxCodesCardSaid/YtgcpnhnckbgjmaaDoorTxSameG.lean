/-
  Several texts in one (merge.py): TxSame, TxWrong, TxFix, Laid.
-/
import Derived.Test.YtgcpnhnckbgjmaaDoorTxEqG
import Derived.Test.YtgcpnhnckbgjmaaDoorWhy
import Derived.Test.YtgcpnhnckbgjmaaDoorTxPl
import Derived.Test.YtgcpnhnckbgjmaaDoorErrs
import Derived.Test.YtgcpnhnckbgjmaaDoorRows
/-
  mootlaw04.same by its contract.
-/
set_option linter.unusedVariables false
set_option linter.unusedSimpArgs false
namespace Go.Proofs.YtgcpnhnckbgjmaaDoor
open Go.RowKit
variable {F F' : Nat → Prop}
/-- Are the first transactions of two lists the same? -/
def sameF (xs ys : List (Nat → Nat)) (j : Nat) : Prop := ∀ i, i < j → sameT (xs.getD i (fun _ => 0)) (ys.getD i (fun _ => 0)) = true
/-- The lists are the same. -/
def sameL (xs ys : List (Nat → Nat)) : Prop := xs.length = ys.length ∧ sameF xs ys xs.length
theorem TxsAt.cells {w : World} {a : Option Addr} {ts : List (Nat → Nat)} (h : TxsAt F w a ts) (i : Nat) (hi : i < ts.length) : ∃ b off, a = some ⟨b, off, none⟩ ∧ b < w.heap.size ∧
    w.cell? ⟨b, off + i * 6, none⟩ = some (.int .u64 (ts.getD i (fun _ => 0) 0)) ∧ w.cell? ⟨b, off + i * 6 + 1, none⟩ = some (.int .u64 (ts.getD i (fun _ => 0) 1)) ∧ w.cell? ⟨b, off + i * 6 + 2, none⟩ = some (.int .u64 (ts.getD i (fun _ => 0) 2)) ∧ w.cell? ⟨b, off + i * 6 + 3, none⟩ = some (.int .u64 (ts.getD i (fun _ => 0) 3)) ∧ w.cell? ⟨b, off + i * 6 + 4, none⟩ = some (.int .u64 (ts.getD i (fun _ => 0) 4)) ∧ w.cell? ⟨b, off + i * 6 + 5, none⟩ = some (.int .u64 (ts.getD i (fun _ => 0) 5)) := by
  obtain ⟨b, off, e, _, hl, hc⟩ := h i hi
  exact ⟨b, off, e, hl, hc 0 (by decide), hc 1 (by decide), hc 2 (by decide), hc 3 (by decide), hc 4 (by decide), hc 5 (by decide)⟩
set_option maxRecDepth 100000 in
set_option maxHeartbeats 4000000 in
theorem same4_V (w : World) (a : Option Addr) (n ca : Nat) (b : Option Addr) (m cb : Nat) (xs ys : List (Nat → Nat)) (hn : xs.length = n) (hm : ys.length = m) (hnm : n ≤ maxLen) (hmm : m ≤ maxLen) (hx : TxsAt F w a xs) (hy : TxsAt F' w b ys) :
    Calls Tryd.prog 17 #[.slice a n ca, .slice b m cb] w fun e w' => (∃ q, e = .returned (.bool q) ∧ (q = true ↔ sameL xs ys)) ∧ Below w.heap.size w w' := by
  have HX := Lib.hid hx
  have HY := Lib.hid hy
  have HN := Lib.hid hn
  have HM := Lib.hid hm
  clear hx hy hn hm
  unfold maxLen at hnm hmm
  by_cases e : n = m
  · subst e
    have hnn : (decide ((n : Int) = (n : Int))) = true := by simp
    go_enter Tryd.func17, Tryd.ntmps17
    go_wp2
    go_loopw [5, 13] (fun ii idx wr => ∃ j : Nat, j ≤ n ∧ idx = .int .i64 j ∧ sameF xs ys j ∧ Below w.heap.size w wr) (fun _ idx _ => n - (intOf idx).toNat)
    case atStart => exact ⟨0, by omega, rfl, fun i hi => by omega, Below.refl _ _⟩
    case round =>
      obtain ⟨j, hj, rfl, hs, hb⟩ := hrel
      have HS := Lib.hid hs
      have HB := Lib.hid hb
      clear hs
      by_cases hlt : j < n
      · obtain ⟨b1, o1, rfl, hl1, x0, x1, x2, x3, x4, x5⟩ := HX.out.cells j (by rw [HN.out]; exact hlt)
        obtain ⟨b2, o2, rfl, hl2, y0, y1, y2, y3, y4, y5⟩ := HY.out.cells j (by rw [HM.out]; exact hlt)
        obtain ⟨vs, hvs⟩ : ∃ vs, xs.getD j (fun _ => 0) = vs := ⟨_, rfl⟩
        obtain ⟨us, hus⟩ : ∃ us, ys.getD j (fun _ => 0) = us := ⟨_, rfl⟩
        rw [hvs] at x0 x1 x2 x3 x4 x5
        rw [hus] at y0 y1 y2 y3 y4 y5
        have HV := Lib.hid hvs
        have HU := Lib.hid hus
        clear hvs hus
        obtain ⟨q, hq⟩ : ∃ q, sameT vs us = q := ⟨_, rfl⟩
        have eqt := fun W => (neq_tx vs us W).trans (by rw [hq])
        have gt := fun (o : BinOp) (x y : Operand) (xs ys : Array Value) (W : World) => guard_tx o x y xs ys W
        have HQ := Lib.hid hq
        clear hq
        have hne : Nonempty (Held (fun W => Below w.heap.size w W)) := ⟨⟨wr, HB.out⟩⟩
        have i0 : ∀ t : Held (fun W => Below w.heap.size w W), t.w.cell? ⟨b1, o1 + j * 6, none⟩ = some (.int .u64 (vs 0)) := fun t => (t.ok.cell (p := ⟨b1, o1 + j * 6, none⟩) hl1).trans x0
        have i1 : ∀ t : Held (fun W => Below w.heap.size w W), t.w.cell? ⟨b1, o1 + j * 6 + 1, none⟩ = some (.int .u64 (vs 1)) := fun t => (t.ok.cell (p := ⟨b1, o1 + j * 6 + 1, none⟩) hl1).trans x1
        have i2 : ∀ t : Held (fun W => Below w.heap.size w W), t.w.cell? ⟨b1, o1 + j * 6 + 2, none⟩ = some (.int .u64 (vs 2)) := fun t => (t.ok.cell (p := ⟨b1, o1 + j * 6 + 2, none⟩) hl1).trans x2
        have i3 : ∀ t : Held (fun W => Below w.heap.size w W), t.w.cell? ⟨b1, o1 + j * 6 + 3, none⟩ = some (.int .u64 (vs 3)) := fun t => (t.ok.cell (p := ⟨b1, o1 + j * 6 + 3, none⟩) hl1).trans x3
        have i4 : ∀ t : Held (fun W => Below w.heap.size w W), t.w.cell? ⟨b1, o1 + j * 6 + 4, none⟩ = some (.int .u64 (vs 4)) := fun t => (t.ok.cell (p := ⟨b1, o1 + j * 6 + 4, none⟩) hl1).trans x4
        have i5 : ∀ t : Held (fun W => Below w.heap.size w W), t.w.cell? ⟨b1, o1 + j * 6 + 5, none⟩ = some (.int .u64 (vs 5)) := fun t => (t.ok.cell (p := ⟨b1, o1 + j * 6 + 5, none⟩) hl1).trans x5
        have k0 : ∀ t : Held (fun W => Below w.heap.size w W), t.w.cell? ⟨b2, o2 + j * 6, none⟩ = some (.int .u64 (us 0)) := fun t => (t.ok.cell (p := ⟨b2, o2 + j * 6, none⟩) hl2).trans y0
        have k1 : ∀ t : Held (fun W => Below w.heap.size w W), t.w.cell? ⟨b2, o2 + j * 6 + 1, none⟩ = some (.int .u64 (us 1)) := fun t => (t.ok.cell (p := ⟨b2, o2 + j * 6 + 1, none⟩) hl2).trans y1
        have k2 : ∀ t : Held (fun W => Below w.heap.size w W), t.w.cell? ⟨b2, o2 + j * 6 + 2, none⟩ = some (.int .u64 (us 2)) := fun t => (t.ok.cell (p := ⟨b2, o2 + j * 6 + 2, none⟩) hl2).trans y2
        have k3 : ∀ t : Held (fun W => Below w.heap.size w W), t.w.cell? ⟨b2, o2 + j * 6 + 3, none⟩ = some (.int .u64 (us 3)) := fun t => (t.ok.cell (p := ⟨b2, o2 + j * 6 + 3, none⟩) hl2).trans y3
        have k4 : ∀ t : Held (fun W => Below w.heap.size w W), t.w.cell? ⟨b2, o2 + j * 6 + 4, none⟩ = some (.int .u64 (us 4)) := fun t => (t.ok.cell (p := ⟨b2, o2 + j * 6 + 4, none⟩) hl2).trans y4
        have k5 : ∀ t : Held (fun W => Below w.heap.size w W), t.w.cell? ⟨b2, o2 + j * 6 + 5, none⟩ = some (.int .u64 (us 5)) := fun t => (t.ok.cell (p := ⟨b2, o2 + j * 6 + 5, none⟩) hl2).trans y5
        cases q
        all_goals
          go_wp2_with fail
          refine wp_region_held (S := fun W => Below w.heap.size w W) (by kernel_rfl) (by kernel_rfl) (HB.out.drew) ?_
          repeat (go_big_quiet_step (fail))
          refine wpQuiet_nil ?_
          intro _ hw'
          obtain ⟨s6, hw''⟩ := hw'
          subst hw''
          go_wp2
        · go_returns
          refine ⟨⟨_, rfl, ?_⟩, s6.ok⟩
          simp only [Bool.false_eq_true, false_iff]
          rintro ⟨_, h⟩
          have := h j (by rw [HN.out]; exact hlt)
          rw [HV.out, HU.out, HQ.out] at this
          cases this
        · go_roundw
          case rel => exact ⟨j + 1, by omega, by go_num, fun i hi => (by
            by_cases h : i < j
            · exact HS.out i h
            · have : i = j := by omega
              subst this
              rw [HV.out, HU.out]; exact HQ.out), s6.ok⟩
          case measure => simp [intOf]; omega
      · have hjn : j = n := by omega
        subst hjn
        go_wp2
        go_returns
        refine ⟨⟨_, rfl, ?_⟩, hb⟩
        unfold sameL
        rw [HN.out, HM.out]
        simp only [true_and, true_iff]
        exact HS.out
  · go_enter Tryd.func17, Tryd.ntmps17
    go_wp2
    go_returns
    refine ⟨⟨_, rfl, ?_⟩, Below.refl _ _⟩
    unfold sameL
    rw [HN.out, HM.out]
    simp [e]
end Go.Proofs.YtgcpnhnckbgjmaaDoor
/-
  mootlaw04.wrong and ints by their contracts.
-/
set_option linter.unusedVariables false
set_option linter.unusedSimpArgs false
namespace Go.Proofs.YtgcpnhnckbgjmaaDoor
open Go.RowKit
variable {F F' : Nat → Prop}
theorem wrong_nil (w : World) (p : Int) : Calls Tryd.prog 10 #[.nilIface, .int .i64 p, .int .i64 0] w fun e w' => e = .returned (.bool true) ∧ Below w.heap.size w w' := by
  go_enter Tryd.func10, Tryd.ntmps10
  go_wp2_with (go_at_call 32; (with_reducible refine (why_nil _).mono ?_); rintro e w1 ⟨rfl, hb1⟩; have HB := Lib.hid hb1; clear hb1)
  go_returns
  exact ⟨rfl, HB.out⟩
theorem wrong_num (w : World) (a : Int) (h0 : (a == 0) = false) (h : Hid (ErrType w)) : Calls Tryd.prog 10 #[.iface TE (.int .i64 a), .int .i64 (-1), .int .i64 a] w fun e w' => e = .returned (.bool true) ∧ Below w.heap.size w w' := by
  go_enter Tryd.func10, Tryd.ntmps10
  go_wp2_with (go_at_call 32; (with_reducible refine (why_num a _ h).mono ?_); rintro e w1 ⟨rfl, hb1⟩; have HB := Lib.hid hb1; clear hb1)
  go_returns
  exact ⟨by simp, HB.out⟩
theorem wrong_fault (w : World) (q p k : Nat) (P K : Int) (hP : P = p) (hK : K = k) (h0 : (K == 0) = false) (h : Hid (ErrType w)) (hf : FaultAt w q p k) : Calls Tryd.prog 10 #[.iface TF (.pointer (some ⟨q, 0, none⟩)), .int .i64 P, .int .i64 K] w fun e w' => e = .returned (.bool true) ∧ Below w.heap.size w w' := by
  subst hP; subst hK
  have hpl := hf.pl
  have hwh := hf.why
  go_enter Tryd.func10, Tryd.ntmps10
  go_wp2_with (go_at_call 32; (with_reducible refine (why_fault q 0 p k _ h hpl hwh).mono ?_); rintro e w1 ⟨rfl, hb1⟩; have HB := Lib.hid hb1; clear hb1)
  go_returns
  exact ⟨by simp, HB.out⟩
end Go.Proofs.YtgcpnhnckbgjmaaDoor
/-
  mootlaw04.fixed: it returns true.
-/
set_option linter.unusedVariables false
set_option linter.unusedSimpArgs false
namespace Go.Proofs.YtgcpnhnckbgjmaaDoor
open Go.RowKit
variable {F : Nat → Prop}
theorem enc_fx (w : World) : Calls Tryd.prog 5 #[.agg #[.int .u64 1, .int .u64 2, .int .u64 0, .int .u64 300, .int .u64 9, .int .u64 0]] w fun e w' => ∃ ao c, e = .returned (.tuple #[.slice ao 9 c, .nilIface]) ∧ OwnB w' w.heap.size ao 9 c [200, 1, 2, 128, 130, 1, 44, 9, 128] ∧ Below w.heap.size w w' := by
  have h := tenc_V fx w (fun k hk => fx_wide k hk)
  refine Calls.mono (show Calls Tryd.prog 5 #[.agg #[.int .u64 1, .int .u64 2, .int .u64 0, .int .u64 300, .int .u64 9, .int .u64 0]] w (TEnc w fx) from h) ?_
  rintro e w' ⟨hb, ⟨_, ao, n, c, rfl, ho⟩ | ⟨hn, _⟩⟩
  · rw [fx_form] at ho
    have : n = 9 := ho.len.symm
    subst this
    exact ⟨_, _, rfl, ho, hb⟩
  · exact absurd fx_ok hn
theorem enc_gx (w : World) : Calls Tryd.prog 5 #[.agg #[.int .u64 64, .int .u64 0, .int .u64 0, .int .u64 0, .int .u64 0, .int .u64 0]] w fun e w' => e = .returned (.tuple #[.slice none 0 0, .iface TE (.int .i64 2)]) ∧ Below w.heap.size w w' := by
  have h := tenc_V gx w (fun k hk => gx_wide k hk)
  refine Calls.mono (show Calls Tryd.prog 5 #[.agg #[.int .u64 64, .int .u64 0, .int .u64 0, .int .u64 0, .int .u64 0, .int .u64 0]] w (TEnc w gx) from h) ?_
  rintro e w' ⟨hb, ⟨ho, _⟩ | ⟨_, rfl⟩⟩
  · exact absurd ho gx_bad
  · exact ⟨rfl, hb⟩
theorem dec_fx (w : World) (a : Option Addr) (c : Nat) (hc : 9 ≤ c) (hcm : c ≤ maxLen) (hb : BytesF F w a [200, 1, 2, 128, 130, 1, 44, 9, 128]) : Calls Tryd.prog 7 #[.slice a 9 c] w fun e w' => e = .returned (.tuple #[.agg #[.int .u64 1, .int .u64 2, .int .u64 0, .int .u64 300, .int .u64 9, .int .u64 0], .nilIface]) ∧ Below w.heap.size w w' := by
  refine (tdec_V w a 9 c _ rfl hc hcm hb).mono ?_
  have E := tdec_back fx fx_wide fx_ok
  rw [fx_form] at E
  rw [E]
  rintro e w' ⟨hb2, rfl⟩
  refine ⟨?_, hb2⟩
  rw [tNum_t fx fx_wide 0 (by decide), tNum_t fx fx_wide 1 (by decide), tNum_t fx fx_wide 2 (by decide), tNum_t fx fx_wide 3 (by decide), tNum_t fx fx_wide 4 (by decide), tNum_t fx fx_wide 5 (by decide)]
  rfl
set_option maxRecDepth 100000 in
set_option maxHeartbeats 1000000 in
theorem fixed4_V (w : World) :
    Calls Tryd.prog 9 #[] w fun e w' => e = .returned (.bool true) ∧ Below w.heap.size w w' := by
  go_enter Tryd.func9, Tryd.ntmps9
  go_wp2_with (first
    | (go_at_call 5; (with_reducible refine (enc_fx _).mono ?_); rintro e w1 ⟨ao, c, rfl, ho, hb1⟩; have HO := Lib.hid ho; have HB := Lib.hid hb1; clear ho hb1)
    | (go_at_call 7; (with_reducible refine (dec_fx w1 ao c HO.out.cap.1 HO.out.cap.2.1 HO.out.bytes).mono ?_); rintro e w2 ⟨rfl, hb2⟩; have HB2 : Hid (Below w.heap.size w w2) := (HB.out.trans (hb2.mono HB.out.size)); have HO2 := Lib.hid (HO.out.below hb2); clear hb2)
    | (go_at_call 5; (with_reducible refine (enc_gx _).mono ?_); rintro e w3 ⟨rfl, hb3⟩; have HB3 : Hid (Below w.heap.size w w3) := ((HB2.out.alloc HB2.out.size _).trans (hb3.mono (by simp; have := HB2.out.size; omega))); have HO3 := Lib.hid ((HO2.out.below ((Below.refl _ _).alloc (Nat.le_refl _) _)).below hb3); have HS := Lib.hid ((Six.new w2 (.int .u64 1) (.int .u64 2) (.int .u64 0) (.int .u64 300) (.int .u64 9) (.int .u64 0) TTX).below hb3); have q0 := HS.out.c0; have q1 := HS.out.c1; have q2 := HS.out.c2; have q3 := HS.out.c3; have q4 := HS.out.c4; have q5 := HS.out.c5; have hcv : (convert TBS TS (.slice ao 9 c)).run Tryd.prog w3 = .ok (.string ⟨#[200, 1, 2, 128, 130, 1, 44, 9, 128]⟩) w3 := HO3.out.str; clear hb3)
    | (go_at_call 31; (with_reducible refine (is_num 2 2 _).mono ?_); rintro e w4 ⟨rfl, rfl⟩))
  go_returns
  exact ⟨rfl, HB3.out⟩
end Go.Proofs.YtgcpnhnckbgjmaaDoor
/-
  What the row's list gives: package errors' variable.
-/
set_option linter.unusedVariables false
namespace Go.Proofs.YtgcpnhnckbgjmaaDoor
open Go.RowKit

/-- What the row's list gives: package errors' variable. -/
theorem errType_of_laid {w : World} (h : laidMetH Tryd.prog [("errors.errorType", Rows.laid_errors_errorType)] w) : ErrType w := by
  have h' : laidMet Tryd.prog [] w ∧ handlesMet Tryd.prog [("errors.errorType", Rows.laid_errors_errorType)] w := h
  obtain ⟨name, u, ty, e1, e2, e3, e4, e5⟩ := h'.2 _ (List.mem_singleton.2 rfl)
  have en : name = [101, 114, 114, 111, 114] := (Option.some.inj e1).symm
  subst en
  have rt : (Tryd.prog.cutTypes.find? (·.1 == "internal/reflectlite.rtype")).map (·.2) = some 115 := by kernel_rfl
  obtain rfl := Option.some.inj (rt.symm.trans e2)
  have sz : Tryd.prog.types.size = 171 := by kernel_rfl
  have one : ((List.range 171).filter fun t => Tryd.prog.rowNamed t [101, 114, 114, 111, 114]) = [27] := by kernel_rfl
  have hm : ty ∈ (List.range 171).filter fun t => Tryd.prog.rowNamed t [101, 114, 114, 111, 114] := List.mem_filter.2 ⟨List.mem_range.2 (by rw [← sz]; exact e3), e4⟩
  rw [one] at hm
  obtain rfl := List.mem_singleton.1 hm
  have hh : typeHandle Tryd.prog 27 = .pointer (some ⟨1, 27, none⟩) := by kernel_rfl
  rw [hh] at e5
  have et : Tryd.prog.globalNamed "errors.errorType" = some 0 := by kernel_rfl
  simpa [ErrType] using World.var?_cell et e5 0

end Go.Proofs.YtgcpnhnckbgjmaaDoor
