/-
  Several texts in one (merge.py): TxSame, RBat, BsOpen, TxWrong, TxFix, Laid.
-/
import Derived.Test.YtgcpnhnckbgjmaaDoorTxEqG
import Derived.Test.YtgcpnhnckbgjmaaDoorRBigG
import Derived.Test.YtgcpnhnckbgjmaaDoorWhy
import Derived.Test.YtgcpnhnckbgjmaaDoorTxPl
import Derived.Test.YtgcpnhnckbgjmaaDoorErrs
import Derived.Test.YtgcpnhnckbgjmaaDoorRows
/-
  mootlaw04.same by its contract.
-/
set_option linter.unusedVariables false
set_option linter.unusedSimpArgs false
namespace Go.Proofs.YtgcpnhnckbgjmaaDoor
open Go.RowKit
variable {F F' : Nat → Prop}
/-- Are the first transactions of two lists the same? -/
def sameF (xs ys : List (Nat → Nat)) (j : Nat) : Prop := ∀ i, i < j → sameT (xs.getD i (fun _ => 0)) (ys.getD i (fun _ => 0)) = true
/-- The lists are the same. -/
def sameL (xs ys : List (Nat → Nat)) : Prop := xs.length = ys.length ∧ sameF xs ys xs.length
theorem TxsAt.cells {w : World} {a : Option Addr} {ts : List (Nat → Nat)} (h : TxsAt F w a ts) (i : Nat) (hi : i < ts.length) : ∃ b off, a = some ⟨b, off, none⟩ ∧ b < w.heap.size ∧
    w.cell? ⟨b, off + i * 6, none⟩ = some (.int .u64 (ts.getD i (fun _ => 0) 0)) ∧ w.cell? ⟨b, off + i * 6 + 1, none⟩ = some (.int .u64 (ts.getD i (fun _ => 0) 1)) ∧ w.cell? ⟨b, off + i * 6 + 2, none⟩ = some (.int .u64 (ts.getD i (fun _ => 0) 2)) ∧ w.cell? ⟨b, off + i * 6 + 3, none⟩ = some (.int .u64 (ts.getD i (fun _ => 0) 3)) ∧ w.cell? ⟨b, off + i * 6 + 4, none⟩ = some (.int .u64 (ts.getD i (fun _ => 0) 4)) ∧ w.cell? ⟨b, off + i * 6 + 5, none⟩ = some (.int .u64 (ts.getD i (fun _ => 0) 5)) := by
  obtain ⟨b, off, e, _, hl, hc⟩ := h i hi
  exact ⟨b, off, e, hl, hc 0 (by decide), hc 1 (by decide), hc 2 (by decide), hc 3 (by decide), hc 4 (by decide), hc 5 (by decide)⟩
set_option maxRecDepth 100000 in
set_option maxHeartbeats 4000000 in
theorem same4_V (w : World) (a : Option Addr) (n ca : Nat) (b : Option Addr) (m cb : Nat) (xs ys : List (Nat → Nat)) (hn : xs.length = n) (hm : ys.length = m) (hnm : n ≤ maxLen) (hmm : m ≤ maxLen) (hx : TxsAt F w a xs) (hy : TxsAt F' w b ys) :
    Calls Tryd.prog 17 #[.slice a n ca, .slice b m cb] w fun e w' => (∃ q, e = .returned (.bool q) ∧ (q = true ↔ sameL xs ys)) ∧ Below w.heap.size w w' := by
  have HX := Lib.hid hx
  have HY := Lib.hid hy
  have HN := Lib.hid hn
  have HM := Lib.hid hm
  clear hx hy hn hm
  unfold maxLen at hnm hmm
  by_cases e : n = m
  · subst e
    have hnn : (decide ((n : Int) = (n : Int))) = true := by simp
    go_enter Tryd.func17, Tryd.ntmps17
    go_wp2
    go_loopw [5, 13] (fun ii idx wr => ∃ j : Nat, j ≤ n ∧ idx = .int .i64 j ∧ sameF xs ys j ∧ Below w.heap.size w wr) (fun _ idx _ => n - (intOf idx).toNat)
    case atStart => exact ⟨0, by omega, rfl, fun i hi => by omega, Below.refl _ _⟩
    case round =>
      obtain ⟨j, hj, rfl, hs, hb⟩ := hrel
      have HS := Lib.hid hs
      have HB := Lib.hid hb
      clear hs
      by_cases hlt : j < n
      · obtain ⟨b1, o1, rfl, hl1, x0, x1, x2, x3, x4, x5⟩ := HX.out.cells j (by rw [HN.out]; exact hlt)
        obtain ⟨b2, o2, rfl, hl2, y0, y1, y2, y3, y4, y5⟩ := HY.out.cells j (by rw [HM.out]; exact hlt)
        obtain ⟨vs, hvs⟩ : ∃ vs, xs.getD j (fun _ => 0) = vs := ⟨_, rfl⟩
        obtain ⟨us, hus⟩ : ∃ us, ys.getD j (fun _ => 0) = us := ⟨_, rfl⟩
        rw [hvs] at x0 x1 x2 x3 x4 x5
        rw [hus] at y0 y1 y2 y3 y4 y5
        have HV := Lib.hid hvs
        have HU := Lib.hid hus
        clear hvs hus
        obtain ⟨q, hq⟩ : ∃ q, sameT vs us = q := ⟨_, rfl⟩
        have eqt := fun W => (neq_tx vs us W).trans (by rw [hq])
        have gt := fun (o : BinOp) (x y : Operand) (xs ys : Array Value) (W : World) => guard_tx o x y xs ys W
        have HQ := Lib.hid hq
        clear hq
        have hne : Nonempty (Held (fun W => Below w.heap.size w W)) := ⟨⟨wr, HB.out⟩⟩
        have i0 : ∀ t : Held (fun W => Below w.heap.size w W), t.w.cell? ⟨b1, o1 + j * 6, none⟩ = some (.int .u64 (vs 0)) := fun t => (t.ok.cell (p := ⟨b1, o1 + j * 6, none⟩) hl1).trans x0
        have i1 : ∀ t : Held (fun W => Below w.heap.size w W), t.w.cell? ⟨b1, o1 + j * 6 + 1, none⟩ = some (.int .u64 (vs 1)) := fun t => (t.ok.cell (p := ⟨b1, o1 + j * 6 + 1, none⟩) hl1).trans x1
        have i2 : ∀ t : Held (fun W => Below w.heap.size w W), t.w.cell? ⟨b1, o1 + j * 6 + 2, none⟩ = some (.int .u64 (vs 2)) := fun t => (t.ok.cell (p := ⟨b1, o1 + j * 6 + 2, none⟩) hl1).trans x2
        have i3 : ∀ t : Held (fun W => Below w.heap.size w W), t.w.cell? ⟨b1, o1 + j * 6 + 3, none⟩ = some (.int .u64 (vs 3)) := fun t => (t.ok.cell (p := ⟨b1, o1 + j * 6 + 3, none⟩) hl1).trans x3
        have i4 : ∀ t : Held (fun W => Below w.heap.size w W), t.w.cell? ⟨b1, o1 + j * 6 + 4, none⟩ = some (.int .u64 (vs 4)) := fun t => (t.ok.cell (p := ⟨b1, o1 + j * 6 + 4, none⟩) hl1).trans x4
        have i5 : ∀ t : Held (fun W => Below w.heap.size w W), t.w.cell? ⟨b1, o1 + j * 6 + 5, none⟩ = some (.int .u64 (vs 5)) := fun t => (t.ok.cell (p := ⟨b1, o1 + j * 6 + 5, none⟩) hl1).trans x5
        have k0 : ∀ t : Held (fun W => Below w.heap.size w W), t.w.cell? ⟨b2, o2 + j * 6, none⟩ = some (.int .u64 (us 0)) := fun t => (t.ok.cell (p := ⟨b2, o2 + j * 6, none⟩) hl2).trans y0
        have k1 : ∀ t : Held (fun W => Below w.heap.size w W), t.w.cell? ⟨b2, o2 + j * 6 + 1, none⟩ = some (.int .u64 (us 1)) := fun t => (t.ok.cell (p := ⟨b2, o2 + j * 6 + 1, none⟩) hl2).trans y1
        have k2 : ∀ t : Held (fun W => Below w.heap.size w W), t.w.cell? ⟨b2, o2 + j * 6 + 2, none⟩ = some (.int .u64 (us 2)) := fun t => (t.ok.cell (p := ⟨b2, o2 + j * 6 + 2, none⟩) hl2).trans y2
        have k3 : ∀ t : Held (fun W => Below w.heap.size w W), t.w.cell? ⟨b2, o2 + j * 6 + 3, none⟩ = some (.int .u64 (us 3)) := fun t => (t.ok.cell (p := ⟨b2, o2 + j * 6 + 3, none⟩) hl2).trans y3
        have k4 : ∀ t : Held (fun W => Below w.heap.size w W), t.w.cell? ⟨b2, o2 + j * 6 + 4, none⟩ = some (.int .u64 (us 4)) := fun t => (t.ok.cell (p := ⟨b2, o2 + j * 6 + 4, none⟩) hl2).trans y4
        have k5 : ∀ t : Held (fun W => Below w.heap.size w W), t.w.cell? ⟨b2, o2 + j * 6 + 5, none⟩ = some (.int .u64 (us 5)) := fun t => (t.ok.cell (p := ⟨b2, o2 + j * 6 + 5, none⟩) hl2).trans y5
        cases q
        all_goals
          go_wp2_with fail
          refine wp_region_held (S := fun W => Below w.heap.size w W) (by kernel_rfl) (by kernel_rfl) (HB.out.drew) ?_
          repeat (go_big_quiet_step (fail))
          refine wpQuiet_nil ?_
          intro _ hw'
          obtain ⟨s6, hw''⟩ := hw'
          subst hw''
          go_wp2
        · go_returns
          refine ⟨⟨_, rfl, ?_⟩, s6.ok⟩
          simp only [Bool.false_eq_true, false_iff]
          rintro ⟨_, h⟩
          have := h j (by rw [HN.out]; exact hlt)
          rw [HV.out, HU.out, HQ.out] at this
          cases this
        · go_roundw
          case rel => exact ⟨j + 1, by omega, by go_num, fun i hi => (by
            by_cases h : i < j
            · exact HS.out i h
            · have : i = j := by omega
              subst this
              rw [HV.out, HU.out]; exact HQ.out), s6.ok⟩
          case measure => simp [intOf]; omega
      · have hjn : j = n := by omega
        subst hjn
        go_wp2
        go_returns
        refine ⟨⟨_, rfl, ?_⟩, hb⟩
        unfold sameL
        rw [HN.out, HM.out]
        simp only [true_and, true_iff]
        exact HS.out
  · go_enter Tryd.func17, Tryd.ntmps17
    go_wp2
    go_returns
    refine ⟨⟨_, rfl, ?_⟩, Below.refl _ _⟩
    unfold sameL
    rw [HN.out, HM.out]
    simp [e]
end Go.Proofs.YtgcpnhnckbgjmaaDoor
/-
  mootref04.Batch and mootlaw04.ints by their contracts.
-/
set_option linter.unusedVariables false
set_option linter.unusedSimpArgs false
namespace Go.Proofs.YtgcpnhnckbgjmaaDoor
open Go.RowKit
variable {F F' : Nat → Prop}
/-- Are the first places of two lists the same? -/
def intsF (xs ys : List Nat) (j : Nat) : Prop := ∀ i, i < j → xs.getD i 0 = ys.getD i 0
set_option maxRecDepth 100000 in
set_option maxHeartbeats 4000000 in
theorem ints4_V (w : World) (a : Option Addr) (n ca : Nat) (b : Option Addr) (cb : Nat) (xs : List Nat) (hn : xs.length = n) (hnm : n ≤ maxLen) (hx : NsAt F w a xs) (hy : NsAt F' w b xs) :
    Calls Tryd.prog 18 #[.slice a n ca, .slice b n cb] w fun e w' => e = .returned (.bool true) ∧ Below w.heap.size w w' := by
  have HX := Lib.hid hx
  have HY := Lib.hid hy
  have HN := Lib.hid hn
  clear hx hy hn
  unfold maxLen at hnm
  go_enter Tryd.func18, Tryd.ntmps18
  go_wp2
  go_loopw [5, 13] (fun ii idx wr => ∃ j : Nat, j ≤ n ∧ idx = .int .i64 j ∧ Below w.heap.size w wr) (fun _ idx _ => n - (intOf idx).toNat)
  case atStart => exact ⟨0, by omega, rfl, Below.refl _ _⟩
  case round =>
    obtain ⟨j, hj, rfl, hb⟩ := hrel
    have HB := Lib.hid hb
    by_cases hlt : j < n
    · obtain ⟨b1, o1, rfl, _, hl1, x0⟩ := HX.out j (by rw [HN.out]; exact hlt)
      obtain ⟨b2, o2, rfl, _, hl2, y0⟩ := HY.out j (by rw [HN.out]; exact hlt)
      obtain ⟨v, hv⟩ : ∃ v : Int, ((xs.getD j 0 : Nat) : Int) = v := ⟨_, rfl⟩
      rw [hv] at x0 y0
      clear hv
      have hne : Nonempty (Held (fun W => Below w.heap.size w W)) := ⟨⟨wr, HB.out⟩⟩
      have i0 : ∀ t : Held (fun W => Below w.heap.size w W), t.w.cell? ⟨b1, o1 + j, none⟩ = some (.int .i64 v) := fun t => (t.ok.cell (p := ⟨b1, o1 + j, none⟩) hl1).trans x0
      have k0 : ∀ t : Held (fun W => Below w.heap.size w W), t.w.cell? ⟨b2, o2 + j, none⟩ = some (.int .i64 v) := fun t => (t.ok.cell (p := ⟨b2, o2 + j, none⟩) hl2).trans y0
      go_wp2_with fail
      refine wp_region_held (S := fun W => Below w.heap.size w W) (by kernel_rfl) (by kernel_rfl) (HB.out.drew) ?_
      repeat (go_big_quiet_step (fail))
      refine wpQuiet_nil ?_
      intro _ hw'
      obtain ⟨s6, hw''⟩ := hw'
      subst hw''
      go_wp2
      go_roundw
      case rel => exact ⟨j + 1, by omega, by go_num, s6.ok⟩
      case measure => simp [intOf]; omega
    · have hjn : j = n := by omega
      subst hjn
      go_wp2
      go_returns
      exact ⟨rfl, hb⟩
theorem BL.eff {w : World} {s : Nat → AC} {ls : List (List UInt8)} {j cq : Nat} {ao : Option Addr} {W : World} {news : List Value} {q : Nat} (h : BL w s ls j cq ao W) (hj : j ≤ 8) (hn : news = lf1 s ls j) (hq : ∀ k u, news[k]? = some u → W.cell? ⟨q, k, none⟩ = some u)
    {o : Oper} {A : Act} (t y : Operand) (ho : o.op = .call { callee := .builtin .append, args := #[t, y], argTypes := #[TIS, TIS] }) (hs : A.eval t = .slice ao j cq) (hx : A.eval y = .slice (some ⟨q, 0, none⟩) 1 1) :
    effAt Tryd.prog o A W (fun u w' => ∃ z : AC, u = .slice z.a (j + 1) z.c ∧ BL3 w s ls j cq z.c ao z.a w' ∧ Below w.heap.size w w') := by
  obtain ⟨ao', c', w', hr, h1, h2, h3⟩ := run_append_R rtI W o.type (w.heap.size + 1) ao j cq _ h.o q 1 news (by rw [hn]; rfl) hq (by rw [hn]; simp [lf1, Value.oneCell']) (Sm.of (by omega)) (by unfold maxLen; omega) (by have := h.x.lt; omega)
  unfold effAt
  simp [execOp, ho, resolve, invoke, builtin, hs, hx, hr, effUpon]
  have h4 := h.app hn h1 h2
  exact ⟨⟨ao', c'⟩, ⟨rfl, rfl⟩, h4, h4.b⟩
set_option maxRecDepth 100000 in
set_option maxHeartbeats 8000000 in
theorem rbat_V (w : World) (a : Option Addr) (n c : Nat) (s : Nat → AC) (ls : List (List UInt8)) (hn : ls.length = n) (hnm : n ≤ maxLen) (hB : BsAt F w a s ls) (M : Nat) (hM : ∀ i, i < ls.length → (ls.getD i []).length ≤ M) (hS : Sm (4096 + (M + 9))) :
    Calls Tryd.prog 14 #[.slice a n c] w (REnc w (bat ls)) := by
  have HB := Lib.hid hB
  have HN := Lib.hid hn
  have HM := Lib.hid hM
  have HS := Lib.hid hS
  clear hM hB hS
  unfold maxLen at hnm
  by_cases h8 : 8 < n
  · have E : Hid (bat ls = .error 5) := by show _ = _; unfold bat; rw [HN.out, if_pos h8]
    clear hn
    go_enter Tryd.func14, Tryd.ntmps14
    go_wp2
    go_returns
    rw [E.out]
    exact ⟨by (repeat' (first | (with_reducible exact Below.refl _ _) | (with_reducible refine Below.alloc ?_ ?_ _) | (with_reducible refine Below.drew ?_) | (with_reducible refine Below.setCell ?_ ?_ _) | (with_reducible refine Below.thn (by assumption) ?_ ?_) | (with_reducible refine below_drewN ?_ _) | go_size)), rfl⟩
  · have E : Hid (bat ls = enc (bItem ls)) := by show _ = _; unfold bat; rw [HN.out, if_neg h8]
    clear hn
    go_enter Tryd.func14, Tryd.ntmps14
    go_wp2
    go_loopw [5] (fun idx wr => ∃ (j cq : Nat) (ao : Option Addr), j ≤ n ∧ idx = .int .i64 j ∧ Hid (BL w s ls j cq ao wr)) (fun idx _ => n - (intOf idx).toNat)
    case atStart => exact ⟨0, 0, none, by omega, rfl, (by (repeat' (first | (with_reducible exact Below.refl _ _) | (with_reducible refine Below.alloc ?_ ?_ _) | (with_reducible refine Below.drew ?_) | (with_reducible refine Below.setCell ?_ ?_ _) | (with_reducible refine Below.thn (by assumption) ?_ ?_) | (with_reducible refine below_drewN ?_ _) | go_size))), SlotI.new _ _ _ _, World.ownsRow_nil _ _ _ _⟩
    case round =>
      obtain ⟨j, cq, ao, hj, rfl, HR⟩ := hrel
      have hwr := HR.out.x.lt
      by_cases hlt : j < n
      · obtain ⟨b, off, rfl, hbl, hc⟩ := HB.out.row j (by rw [HN.out]; exact hlt)
        have hc2 := HR.out.b.cell (p := ⟨b, off + j, none⟩) hbl
        rw [hc] at hc2
        have hx2 := HR.out.x.c2
        obtain ⟨L, hL⟩ : ∃ L, ls.getD j [] = L := ⟨_, rfl⟩
        obtain ⟨m, hm⟩ : ∃ m, L.length = m := ⟨_, rfl⟩
        rw [hL, hm] at hc2 hc
        have HL := Lib.hid hL
        have HMm := Lib.hid hm
        clear hL hm
        have HNw : Hid ([Value.bool false, .slice (s j).a m (s j).c, .slice none 0 0] = lf1 s ls j) := by show _ = _; unfold lf1; rw [HL.out, HMm.out]
        have hj8 : j ≤ 8 := by omega
        have HC := Lib.hid hc
        clear hc2 hx2
        go_wp2
        refine wp_region_relG (fun W => Below w.heap.size w W) (BL w s ls j cq ao) (by kernel_rfl) (HR.out.below (by (repeat' (first | (with_reducible exact Below.refl _ _) | (with_reducible refine Below.alloc ?_ ?_ _) | (with_reducible refine Below.drew ?_) | (with_reducible refine Below.setCell ?_ ?_ _) | (with_reducible refine Below.thn (by assumption) ?_ ?_) | (with_reducible refine below_drewN ?_ _) | go_size)))) ?_
        refine relR_pure 0 _ (by intro _ h; first | exact h | exact h.2 | exact h.b) (by kernel_rfl) rfl (by kernel_rfl) (by kernel_rfl) (by go_simp) ?_
        apply Exists.intro
        refine ⟨fun W hW => ?_, fun K hK => ?_⟩
        · unfold effAt
          go_simp
          exact ⟨rfl, rfl⟩
        go_simp
        refine hK _ ?_
        clear hK K
        refine relR_pure 2 _ (by intro _ h; first | exact h | exact h.2 | exact h.b) (by kernel_rfl) rfl (by kernel_rfl) (by kernel_rfl) (by go_simp) ?_
        apply Exists.intro
        refine ⟨fun W hW => ?_, fun K hK => ?_⟩
        · unfold effAt
          go_simp
          exact ⟨rfl, rfl⟩
        go_simp
        refine hK _ ?_
        clear hK K
        refine relR_pure 3 _ (by intro _ h; first | exact h | exact h.2 | exact h.b) (by kernel_rfl) rfl (by kernel_rfl) (by kernel_rfl) (by go_simp) ?_
        apply Exists.intro
        refine ⟨fun W hW => ?_, fun K hK => ?_⟩
        · unfold effAt
          go_simp
          exact ⟨rfl, rfl⟩
        go_simp
        refine hK _ ?_
        clear hK K
        refine relR_pure 4 _ (by intro _ h; first | exact h | exact h.2 | exact h.b) (by kernel_rfl) rfl (by kernel_rfl) (by kernel_rfl) (by go_simp) ?_
        apply Exists.intro
        refine ⟨fun W hW => ?_, fun K hK => ?_⟩
        · unfold effAt
          go_simp
          exact ⟨rfl, rfl⟩
        go_simp
        refine hK _ ?_
        clear hK K
        refine relR_pure 5 _ (by intro _ h; first | exact h | exact h.2 | exact h.b) (by kernel_rfl) rfl (by kernel_rfl) (by kernel_rfl) (by go_simp) ?_
        apply Exists.intro
        refine ⟨fun W hW => ?_, fun K hK => ?_⟩
        · unfold effAt
          have c := (Below.cell hW (p := ⟨b, off + j, none⟩) hbl).trans HC.out
          go_simp
          exact ⟨rfl, rfl⟩
        go_simp
        refine hK _ ?_
        clear hK K
        refine relR_pure 6 _ (by intro _ h; first | exact h | exact h.2 | exact h.b) (by kernel_rfl) rfl (by kernel_rfl) (by kernel_rfl) (by go_simp) ?_
        apply Exists.intro
        refine ⟨fun W hW => ?_, fun K hK => ?_⟩
        · unfold effAt
          go_simp
          exact ⟨rfl, rfl⟩
        go_simp
        refine hK _ ?_
        clear hK K
        refine relR_pair 1 7 (by kernel_rfl) ?_ ?_
        · skip
          refine relOp_call 1 _ rfl (by go_simp) Unit (fun _ => .slice ao j cq) (fun _ => (fun W => Below w.heap.size w W)) (fun _ => BL w s ls j cq ao) (fun _ _ h => h) (fun W hW => ?_) (fun _ K hK => ?_)
          · have hx2 := hW.x.c2
            unfold effAt
            go_simp
            first | exact ⟨(), rfl, hW.1, hW.2⟩ | exact ⟨(), rfl, hW, hW.b⟩ | exact ⟨rfl, hW.1, hW.2⟩ | exact ⟨rfl, hW, hW.b⟩ | exact ⟨hW.1, hW.2⟩ | exact ⟨hW, hW.b⟩
          go_simp
          refine hK _ ?_
          clear hK K
          refine relR_call 7 _ rfl (by kernel_rfl) (by go_simp) Nat (fun q => .slice (some ⟨q, 0, none⟩) 1 1) (fun _ => (fun W => Below w.heap.size w W)) (fun q W => BL w s ls j cq ao W ∧ ∀ k u, [Value.bool false, .slice (s j).a m (s j).c, .slice none 0 0][k]? = some u → W.cell? ⟨q, k, none⟩ = some u) (fun _ _ h => h) (fun W hW => ?_) (fun q K hK => ?_)
          · have h7 : BL w s ls j cq ao (W.alloc (.cells #[.bool false, .slice (s j).a m (s j).c, .slice none 0 0] TI)) ∧ ∀ k u, [Value.bool false, .slice (s j).a m (s j).c, .slice none 0 0][k]? = some u → (W.alloc (.cells #[.bool false, .slice (s j).a m (s j).c, .slice none 0 0] TI)).cell? ⟨W.heap.size, k, none⟩ = some u := ⟨BL.below hW.1 ((Below.refl _ _).alloc (Nat.le_refl _) _), newC (xs := [Value.bool false, .slice (s j).a m (s j).c, .slice none 0 0]) rfl⟩
            unfold effAt
            go_simp
            exact ⟨W.heap.size, rfl, h7, h7.1.b⟩
          go_simp
          refine hK _ ?_
          clear hK K
          refine relR_call 8 _ rfl (by kernel_rfl) (by go_simp) AC (fun z => .slice z.a (j + 1) z.c) (fun _ => (fun W => Below w.heap.size w W)) (fun z => BL3 w s ls j cq z.c ao z.a) (fun _ _ h => h) (fun W hW => ?_) (fun z K hK => ?_)
          · exact BL.eff hW.1.1 hj8 HNw.out hW.1.2 (.tmp 17) (.tmp 23) rfl rfl rfl
          go_simp
          refine hK _ ?_
          clear hK K
          refine relR_pure 9 _ (by intro _ h; first | exact h | exact h.2 | exact h.b) (by kernel_rfl) rfl (by kernel_rfl) (by kernel_rfl) (by go_simp) ?_
          apply Exists.intro
          refine ⟨fun W hW => ?_, fun K hK => ?_⟩
          · unfold effAt
            go_simp
            exact ⟨rfl, rfl⟩
          go_simp
          refine hK _ ?_
          clear hK K
          refine relR_call 10 _ rfl (by kernel_rfl) (by go_simp) Unit (fun _ => undef) (fun _ => (fun W => Below w.heap.size w W)) (fun _ => BL w s ls (j + 1) z.c z.a) (fun _ _ h => h) (fun W hW => ?_) (fun _ K hK => ?_)
          · have hx2 := hW.1.x.c2
            have hxf := hW.1.x.f2
            have h9 := hW.1.store
            unfold effAt
            go_simp
            first | exact ⟨rfl, h9, h9.b⟩ | exact ⟨h9, h9.b⟩ | exact ⟨(), rfl, h9, h9.b⟩
          go_simp
          refine hK _ ?_
          clear hK K
          refine relR_end (by kernel_rfl) (fun W hW => ?_)
          have H9 := Lib.hid hW.1
          clear hW
          go_wp2
          go_roundw
          case rel => exact ⟨j + 1, z.c, z.a, by omega, by go_num, H9⟩
          case measure => simp [intOf]; omega
        · skip
          refine relOp_call 7 _ rfl (by go_simp) Nat (fun q => .slice (some ⟨q, 0, none⟩) 1 1) (fun _ => (fun W => Below w.heap.size w W)) (fun q W => BL w s ls j cq ao W ∧ ∀ k u, [Value.bool false, .slice (s j).a m (s j).c, .slice none 0 0][k]? = some u → W.cell? ⟨q, k, none⟩ = some u) (fun _ _ h => h) (fun W hW => ?_) (fun q K hK => ?_)
          · have h7 : BL w s ls j cq ao (W.alloc (.cells #[.bool false, .slice (s j).a m (s j).c, .slice none 0 0] TI)) ∧ ∀ k u, [Value.bool false, .slice (s j).a m (s j).c, .slice none 0 0][k]? = some u → (W.alloc (.cells #[.bool false, .slice (s j).a m (s j).c, .slice none 0 0] TI)).cell? ⟨W.heap.size, k, none⟩ = some u := ⟨BL.below hW ((Below.refl _ _).alloc (Nat.le_refl _) _), newC (xs := [Value.bool false, .slice (s j).a m (s j).c, .slice none 0 0]) rfl⟩
            unfold effAt
            go_simp
            exact ⟨W.heap.size, rfl, h7, h7.1.b⟩
          go_simp
          refine hK _ ?_
          clear hK K
          refine relR_call 1 _ rfl (by kernel_rfl) (by go_simp) Unit (fun _ => .slice ao j cq) (fun _ => (fun W => Below w.heap.size w W)) (fun _ => (fun W => BL w s ls j cq ao W ∧ ∀ k u, [Value.bool false, .slice (s j).a m (s j).c, .slice none 0 0][k]? = some u → W.cell? ⟨q, k, none⟩ = some u)) (fun _ _ h => h) (fun W hW => ?_) (fun _ K hK => ?_)
          · have hx2 := hW.1.1.x.c2
            unfold effAt
            go_simp
            first | exact ⟨(), rfl, hW.1, hW.2⟩ | exact ⟨(), rfl, hW, hW.b⟩ | exact ⟨rfl, hW.1, hW.2⟩ | exact ⟨rfl, hW, hW.b⟩ | exact ⟨hW.1, hW.2⟩ | exact ⟨hW, hW.b⟩
          go_simp
          refine hK _ ?_
          clear hK K
          refine relR_call 8 _ rfl (by kernel_rfl) (by go_simp) AC (fun z => .slice z.a (j + 1) z.c) (fun _ => (fun W => Below w.heap.size w W)) (fun z => BL3 w s ls j cq z.c ao z.a) (fun _ _ h => h) (fun W hW => ?_) (fun z K hK => ?_)
          · exact BL.eff hW.1.1 hj8 HNw.out hW.1.2 (.tmp 17) (.tmp 23) rfl rfl rfl
          go_simp
          refine hK _ ?_
          clear hK K
          refine relR_pure 9 _ (by intro _ h; first | exact h | exact h.2 | exact h.b) (by kernel_rfl) rfl (by kernel_rfl) (by kernel_rfl) (by go_simp) ?_
          apply Exists.intro
          refine ⟨fun W hW => ?_, fun K hK => ?_⟩
          · unfold effAt
            go_simp
            exact ⟨rfl, rfl⟩
          go_simp
          refine hK _ ?_
          clear hK K
          refine relR_call 10 _ rfl (by kernel_rfl) (by go_simp) Unit (fun _ => undef) (fun _ => (fun W => Below w.heap.size w W)) (fun _ => BL w s ls (j + 1) z.c z.a) (fun _ _ h => h) (fun W hW => ?_) (fun _ K hK => ?_)
          · have hx2 := hW.1.x.c2
            have hxf := hW.1.x.f2
            have h9 := hW.1.store
            unfold effAt
            go_simp
            first | exact ⟨rfl, h9, h9.b⟩ | exact ⟨h9, h9.b⟩ | exact ⟨(), rfl, h9, h9.b⟩
          go_simp
          refine hK _ ?_
          clear hK K
          refine relR_end (by kernel_rfl) (fun W hW => ?_)
          have H9 := Lib.hid hW.1
          clear hW
          go_wp2
          go_roundw
          case rel => exact ⟨j + 1, z.c, z.a, by omega, by go_num, H9⟩
          case measure => simp [intOf]; omega
      · have hjn : j = n := by omega
        subst hjn
        have p0 := HR.out.x.c0
        have p1 := HR.out.x.c1
        have p2 := HR.out.x.c2
        have HIt : Hid (IsIt (fun _ => True) wr 2 (bItem ls) (.bool true) (.slice none 0 0) (.slice ao j cq)) := by
          have h := HR.out
          have hj' := HN.out
          subst hj'
          exact h.isIt HB.out
        cases hE : enc (bItem ls) with
        | error k =>
          have HE := Lib.hid hE
          go_wp2_with (go_at_call 26; (with_reducible refine (rencode_b _ 0 ls (by rw [HN.out]; omega) _ _ _ HIt.out M HM.out HS.out).mono ?_); rintro e w2 ⟨hb2, he⟩; rw [HE.out] at he; subst he; have HB2 := Lib.hid hb2; clear hb2)
          go_returns
          rw [E.out, HE.out]
          exact ⟨HR.out.b.trans (HB2.out.mono HR.out.b.size), rfl⟩
        | ok bs =>
          have HE := Lib.hid hE
          go_wp2_with (go_at_call 26; (with_reducible refine (rencode_b _ 0 ls (by rw [HN.out]; omega) _ _ _ HIt.out M HM.out HS.out).mono ?_); rintro e w2 ⟨hb2, he⟩; rw [HE.out] at he; obtain ⟨an, nn, cn, rfl, ho⟩ := he; have HB2 := Lib.hid hb2; have HO := Lib.hid ho; clear hb2 ho)
          go_returns
          rw [E.out, HE.out]
          exact ⟨HR.out.b.trans (HB2.out.mono HR.out.b.size), _, _, _, rfl, HO.out.le HR.out.b.size⟩
end Go.Proofs.YtgcpnhnckbgjmaaDoor
/-
  Byte slices as they come in, each of a length that memory reaches; lists held against themselves.
-/
set_option linter.unusedVariables false
set_option linter.unusedSimpArgs false
namespace Go.Proofs.YtgcpnhnckbgjmaaDoor
open Go.RowKit Go.ChangeShapes Go.WideShapes Go.Deep
theorem weights_mem {H : Type} {P : Program} {e : TypeId} {k : Nat} : ∀ {ds : List (DataW H)}, (DataW.weightsAll P e ds).all (· ≤ k) = true → ∀ d ∈ ds, (d.weights P e).all (· ≤ k) = true
  | [], _, d, hd => by cases hd
  | x :: xs, h, d, hd => by
    simp only [DataW.weightsAll, List.all_append, Bool.and_eq_true] at h
    rcases List.mem_cons.1 hd with rfl | hd
    · exact h.1
    · exact weights_mem h.2 d hd
set_option maxRecDepth 100000 in
theorem bs_openR {H : Type} {enc : TypeId × Value → H} {w : World} {base fuel : Nat} {held : Bool} {a : Option Addr} {len cap : Nat} {d : DataW H} {p : List MemPlace}
    (h : DataW.trod enc Tryd.prog w base (fun _ => true) held fuel TBB [.slice a len cap] = some (d, p)) (hre : (d.weights Tryd.prog TBB).all (· ≤ reachBytes) = true) : len ≤ cap ∧ cap ≤ maxLen ∧ ∃ s ls, List.length ls = len ∧ BsAt (fun _ => True) w a s ls ∧ ∀ i, i < ls.length → (ls.getD i []).length ≤ 140737488351232 := by
  have ce : Tryd.prog.cellsOf TBS = 1 := by kernel_rfl
  rcases open_slice Tryd.underlying42 h with ⟨h0, _⟩ | ⟨a', len', cap', m, n, D, Pl, hcs, _, hl, hm, hmm, hxd, hx⟩
  · simp at h0
    obtain ⟨rfl, rfl, rfl⟩ := h0
    exact ⟨Nat.le_refl _, Nat.zero_le _, fun _ => ⟨none, 0⟩, [], rfl, ⟨fun i hi => by simp at hi, fun i hi => by simp at hi, fun i hi => by simp at hi⟩, fun i hi => by simp at hi⟩
  · simp at hcs
    obtain ⟨rfl, rfl, rfl⟩ := hcs
    refine ⟨hl, hm, ?_⟩
    have hwe : ∀ i, i < len → ((D i).weights Tryd.prog TBS).all (· ≤ reachBytes) = true := by
      intro i hi
      obtain ⟨hd, _⟩ := Prod.mk.inj hxd
      have hu : Tryd.prog.underlying TBB = some (.slice TBS) := Tryd.underlying42
      rw [hd] at hre
      simp only [DataW.weights, hu, List.all_cons, List.all_append, Bool.and_eq_true] at hre
      exact weights_mem hre.2.1 (D i) (List.mem_map.2 ⟨i, List.mem_range.2 hi, rfl⟩)
    have hlm : len ≤ m := by rw [hmm]; simp; exact hl
    obtain ⟨b, off, sp⟩ := a'
    have one : ∀ {n : Nat} {cs : List Value} {y : DataW H} {q : List MemPlace}, DataW.trod enc Tryd.prog w base (fun _ => true) held n TBS cs = some (y, q) → (y.weights Tryd.prog TBS).all (· ≤ reachBytes) = true → ∃ (p : AC) (l : List UInt8), cs = [.slice p.a l.length p.c] ∧ l.length ≤ p.c ∧ p.c ≤ maxLen ∧ (p.a = none → p.c = 0) ∧ BytesF (fun _ => True) w p.a l ∧ l.length ≤ 140737488351232 := by
      intro n cs y q hy hr
      rcases open_ints Tryd.underlying25 Tryd.underlying5 (by kernel_rfl) hy with ⟨hcs, _⟩ | ⟨x, l, c, zs, hcs, _, hl, hm, hz, hd, hcell, hwz⟩
      · exact ⟨⟨none, 0⟩, [], hcs, Nat.le_refl _, Nat.zero_le _, fun _ => rfl, fun i hi => by simp at hi, Nat.zero_le _⟩
      · have hz' : zs.length = c := by simpa using hz
        have hrow : IsRow .u8 w (some x) l c zs := .inr ⟨_, rfl, hl, hm, hz', hcell, hwz⟩
        obtain ⟨r1, r2, r3, r4, r5⟩ := row_all hrow
        refine ⟨⟨some x, c⟩, rowB zs l, by rw [r1]; exact hcs, by rw [r1]; exact r2, r3, r4, r5, ?_⟩
        obtain ⟨hd1, _⟩ := Prod.mk.inj hd
        have hu : Tryd.prog.underlying TBS = some (.slice TU) := Tryd.underlying25
        have hb : Tryd.prog.bytesOf TU = 1 := by kernel_rfl
        rw [hd1] at hr
        simp only [DataW.weights, hu, List.all_cons, Bool.and_eq_true, decide_eq_true_eq, hb, Nat.mul_one] at hr
        have := hr.1
        simp only [lits, List.length_map, List.length_take, List.length_drop] at this
        rw [r1]
        unfold reachBytes at this
        omega
    have hs : 0 < len → sp = none := by
      intro h0
      obtain ⟨cs', h1, h2⟩ := hx 0 (by omega)
      rw [ce] at h1
      obtain ⟨p, l, rfl, _⟩ := one h2 (hwe 0 h0)
      obtain ⟨_, _, hcell⟩ := World.cells?_some h1
      have c0 := hcell 0 (by omega)
      have e0 : ∀ q : Addr, q.add 0 = q := fun q => by simp [Addr.add]
      rw [Nat.zero_mul, e0, e0] at c0
      exact World.cell?_spot c0
    have each : ∀ i, i < len → ∃ e : AC × List UInt8, sp = none ∧ b < w.heap.size ∧ w.cell? ⟨b, off + i, none⟩ = some (.slice e.1.a e.2.length e.1.c) ∧ e.2.length ≤ e.1.c ∧ e.1.c ≤ maxLen ∧ (e.1.a = none → e.1.c = 0) ∧ BytesF (fun _ => True) w e.1.a e.2 ∧ e.2.length ≤ 140737488351232 := by
      intro i hi
      have hs := hs (by omega)
      subst hs
      obtain ⟨cs', h1, h2⟩ := hx i (by omega)
      rw [ce] at h1
      obtain ⟨p, l, rfl, g1, g2, g3, g4, g5⟩ := one h2 (hwe i hi)
      obtain ⟨_, _, hcell⟩ := World.cells?_some h1
      have hc := hcell 0 (by omega)
      have ea : ((⟨b, off, none⟩ : Addr).add (i * 1)).add 0 = ⟨b, off + i, none⟩ := by rw [add_add, add_plain, Nat.mul_one, Nat.add_zero]
      rw [ea] at hc
      refine ⟨(p, l), rfl, ?_, hc, g1, g2, g3, g4, g5⟩
      rcases Nat.lt_or_ge b w.heap.size with h | h
      · exact h
      · simp [World.cell?, Array.getElem?_eq_none h] at hc
    have : Inhabited (AC × List UInt8) := ⟨(⟨none, 0⟩, [])⟩
    obtain ⟨z, hz⟩ := choose_lt each
    have gl : ∀ i, i < len → ((List.range len).map fun i => (z i).2).getD i [] = (z i).2 := fun i hi => by
      rw [List.getD_eq_getElem?_getD, List.getElem?_map, List.getElem?_range hi]; rfl
    refine ⟨fun i => (z i).1, (List.range len).map fun i => (z i).2, by simp, ⟨fun i hi => ?_, fun i hi => ?_, fun i hi => ?_⟩, fun i hi => ?_⟩
    all_goals
      have hi : i < len := by simpa using hi
      obtain ⟨h1, h2, h3, h4, h5, h6, h7, h8⟩ := hz i hi
      rw [gl i hi]
    · subst h1; exact ⟨b, off, rfl, h2, h3⟩
    · exact ⟨h4, h5, h6⟩
    · exact h7
    · exact h8
theorem sameT_self (vs : Nat → Nat) : sameT vs vs = true := (sameT_iff vs vs).2 fun _ _ => rfl
theorem same4_T {F F' : Nat → Prop} (w : World) (a : Option Addr) (n ca : Nat) (b : Option Addr) (cb : Nat) (xs : List (Nat → Nat)) (hn : xs.length = n) (hnm : n ≤ maxLen) (hx : TxsAt F w a xs) (hy : TxsAt F' w b xs) :
    Calls Tryd.prog 17 #[.slice a n ca, .slice b n cb] w fun e w' => e = .returned (.bool true) ∧ Below w.heap.size w w' := by
  refine (same4_V w a n ca b n cb xs xs hn hn hnm hnm hx hy).mono ?_
  rintro e w' ⟨⟨q, rfl, hq⟩, hb⟩
  have : q = true := hq.2 ⟨rfl, fun i _ => sameT_self _⟩
  subst this
  exact ⟨rfl, hb⟩
end Go.Proofs.YtgcpnhnckbgjmaaDoor
/-
  mootlaw04.wrong and ints by their contracts.
-/
set_option linter.unusedVariables false
set_option linter.unusedSimpArgs false
namespace Go.Proofs.YtgcpnhnckbgjmaaDoor
open Go.RowKit
variable {F F' : Nat → Prop}
theorem wrong_nil (w : World) (p : Int) : Calls Tryd.prog 10 #[.nilIface, .int .i64 p, .int .i64 0] w fun e w' => e = .returned (.bool true) ∧ Below w.heap.size w w' := by
  go_enter Tryd.func10, Tryd.ntmps10
  go_wp2_with (go_at_call 32; (with_reducible refine (why_nil _).mono ?_); rintro e w1 ⟨rfl, hb1⟩; have HB := Lib.hid hb1; clear hb1)
  go_returns
  exact ⟨rfl, HB.out⟩
theorem wrong_num (w : World) (a : Int) (h0 : (a == 0) = false) (h : Hid (ErrType w)) : Calls Tryd.prog 10 #[.iface TE (.int .i64 a), .int .i64 (-1), .int .i64 a] w fun e w' => e = .returned (.bool true) ∧ Below w.heap.size w w' := by
  go_enter Tryd.func10, Tryd.ntmps10
  go_wp2_with (go_at_call 32; (with_reducible refine (why_num a _ h).mono ?_); rintro e w1 ⟨rfl, hb1⟩; have HB := Lib.hid hb1; clear hb1)
  go_returns
  exact ⟨by simp, HB.out⟩
theorem wrong_fault (w : World) (q p k : Nat) (P K : Int) (hP : P = p) (hK : K = k) (h0 : (K == 0) = false) (h : Hid (ErrType w)) (hf : FaultAt w q p k) : Calls Tryd.prog 10 #[.iface TF (.pointer (some ⟨q, 0, none⟩)), .int .i64 P, .int .i64 K] w fun e w' => e = .returned (.bool true) ∧ Below w.heap.size w w' := by
  subst hP; subst hK
  have hpl := hf.pl
  have hwh := hf.why
  go_enter Tryd.func10, Tryd.ntmps10
  go_wp2_with (go_at_call 32; (with_reducible refine (why_fault q 0 p k _ h hpl hwh).mono ?_); rintro e w1 ⟨rfl, hb1⟩; have HB := Lib.hid hb1; clear hb1)
  go_returns
  exact ⟨by simp, HB.out⟩
end Go.Proofs.YtgcpnhnckbgjmaaDoor
/-
  mootlaw04.fixed: it returns true.
-/
set_option linter.unusedVariables false
set_option linter.unusedSimpArgs false
namespace Go.Proofs.YtgcpnhnckbgjmaaDoor
open Go.RowKit
variable {F : Nat → Prop}
theorem enc_fx (w : World) : Calls Tryd.prog 5 #[.agg #[.int .u64 1, .int .u64 2, .int .u64 0, .int .u64 300, .int .u64 9, .int .u64 0]] w fun e w' => ∃ ao c, e = .returned (.tuple #[.slice ao 9 c, .nilIface]) ∧ OwnB w' w.heap.size ao 9 c [200, 1, 2, 128, 130, 1, 44, 9, 128] ∧ Below w.heap.size w w' := by
  have h := tenc_V fx w (fun k hk => fx_wide k hk)
  refine Calls.mono (show Calls Tryd.prog 5 #[.agg #[.int .u64 1, .int .u64 2, .int .u64 0, .int .u64 300, .int .u64 9, .int .u64 0]] w (TEnc w fx) from h) ?_
  rintro e w' ⟨hb, ⟨_, ao, n, c, rfl, ho⟩ | ⟨hn, _⟩⟩
  · rw [fx_form] at ho
    have : n = 9 := ho.len.symm
    subst this
    exact ⟨_, _, rfl, ho, hb⟩
  · exact absurd fx_ok hn
theorem enc_gx (w : World) : Calls Tryd.prog 5 #[.agg #[.int .u64 64, .int .u64 0, .int .u64 0, .int .u64 0, .int .u64 0, .int .u64 0]] w fun e w' => e = .returned (.tuple #[.slice none 0 0, .iface TE (.int .i64 2)]) ∧ Below w.heap.size w w' := by
  have h := tenc_V gx w (fun k hk => gx_wide k hk)
  refine Calls.mono (show Calls Tryd.prog 5 #[.agg #[.int .u64 64, .int .u64 0, .int .u64 0, .int .u64 0, .int .u64 0, .int .u64 0]] w (TEnc w gx) from h) ?_
  rintro e w' ⟨hb, ⟨ho, _⟩ | ⟨_, rfl⟩⟩
  · exact absurd ho gx_bad
  · exact ⟨rfl, hb⟩
theorem dec_fx (w : World) (a : Option Addr) (c : Nat) (hc : 9 ≤ c) (hcm : c ≤ maxLen) (hb : BytesF F w a [200, 1, 2, 128, 130, 1, 44, 9, 128]) : Calls Tryd.prog 7 #[.slice a 9 c] w fun e w' => e = .returned (.tuple #[.agg #[.int .u64 1, .int .u64 2, .int .u64 0, .int .u64 300, .int .u64 9, .int .u64 0], .nilIface]) ∧ Below w.heap.size w w' := by
  refine (tdec_V w a 9 c _ rfl hc hcm hb).mono ?_
  have E := tdec_back fx fx_wide fx_ok
  rw [fx_form] at E
  rw [E]
  rintro e w' ⟨hb2, rfl⟩
  refine ⟨?_, hb2⟩
  rw [tNum_t fx fx_wide 0 (by decide), tNum_t fx fx_wide 1 (by decide), tNum_t fx fx_wide 2 (by decide), tNum_t fx fx_wide 3 (by decide), tNum_t fx fx_wide 4 (by decide), tNum_t fx fx_wide 5 (by decide)]
  rfl
set_option maxRecDepth 100000 in
set_option maxHeartbeats 1000000 in
theorem fixed4_V (w : World) :
    Calls Tryd.prog 9 #[] w fun e w' => e = .returned (.bool true) ∧ Below w.heap.size w w' := by
  go_enter Tryd.func9, Tryd.ntmps9
  go_wp2_with (first
    | (go_at_call 5; (with_reducible refine (enc_fx _).mono ?_); rintro e w1 ⟨ao, c, rfl, ho, hb1⟩; have HO := Lib.hid ho; have HB := Lib.hid hb1; clear ho hb1)
    | (go_at_call 7; (with_reducible refine (dec_fx w1 ao c HO.out.cap.1 HO.out.cap.2.1 HO.out.bytes).mono ?_); rintro e w2 ⟨rfl, hb2⟩; have HB2 : Hid (Below w.heap.size w w2) := (HB.out.trans (hb2.mono HB.out.size)); have HO2 := Lib.hid (HO.out.below hb2); clear hb2)
    | (go_at_call 5; (with_reducible refine (enc_gx _).mono ?_); rintro e w3 ⟨rfl, hb3⟩; have HB3 : Hid (Below w.heap.size w w3) := ((HB2.out.alloc HB2.out.size _).trans (hb3.mono (by simp; have := HB2.out.size; omega))); have HO3 := Lib.hid ((HO2.out.below ((Below.refl _ _).alloc (Nat.le_refl _) _)).below hb3); have HS := Lib.hid ((Six.new w2 (.int .u64 1) (.int .u64 2) (.int .u64 0) (.int .u64 300) (.int .u64 9) (.int .u64 0) TTX).below hb3); have q0 := HS.out.c0; have q1 := HS.out.c1; have q2 := HS.out.c2; have q3 := HS.out.c3; have q4 := HS.out.c4; have q5 := HS.out.c5; have hcv : (convert TBS TS (.slice ao 9 c)).run Tryd.prog w3 = .ok (.string ⟨#[200, 1, 2, 128, 130, 1, 44, 9, 128]⟩) w3 := HO3.out.str; clear hb3)
    | (go_at_call 31; (with_reducible refine (is_num 2 2 _).mono ?_); rintro e w4 ⟨rfl, rfl⟩))
  go_returns
  exact ⟨rfl, HB3.out⟩
end Go.Proofs.YtgcpnhnckbgjmaaDoor
/-
  What the row's list gives: package errors' variable.
-/
set_option linter.unusedVariables false
namespace Go.Proofs.YtgcpnhnckbgjmaaDoor
open Go.RowKit

/-- What the row's list gives: package errors' variable. -/
theorem errType_of_laid {w : World} (h : laidMetH Tryd.prog [("errors.errorType", Rows.laid_errors_errorType)] w) : ErrType w := by
  have h' : laidMet Tryd.prog [] w ∧ handlesMet Tryd.prog [("errors.errorType", Rows.laid_errors_errorType)] w := h
  obtain ⟨name, u, ty, e1, e2, e3, e4, e5⟩ := h'.2 _ (List.mem_singleton.2 rfl)
  have en : name = [101, 114, 114, 111, 114] := (Option.some.inj e1).symm
  subst en
  have rt : (Tryd.prog.cutTypes.find? (·.1 == "internal/reflectlite.rtype")).map (·.2) = some 115 := by kernel_rfl
  obtain rfl := Option.some.inj (rt.symm.trans e2)
  have sz : Tryd.prog.types.size = 171 := by kernel_rfl
  have one : ((List.range 171).filter fun t => Tryd.prog.rowNamed t [101, 114, 114, 111, 114]) = [27] := by kernel_rfl
  have hm : ty ∈ (List.range 171).filter fun t => Tryd.prog.rowNamed t [101, 114, 114, 111, 114] := List.mem_filter.2 ⟨List.mem_range.2 (by rw [← sz]; exact e3), e4⟩
  rw [one] at hm
  obtain rfl := List.mem_singleton.1 hm
  have hh : typeHandle Tryd.prog 27 = .pointer (some ⟨1, 27, none⟩) := by kernel_rfl
  rw [hh] at e5
  have et : Tryd.prog.globalNamed "errors.errorType" = some 0 := by kernel_rfl
  simpa [ErrType] using World.var?_cell et e5 0

end Go.Proofs.YtgcpnhnckbgjmaaDoor
