/-
  Several texts in one (merge.py): Val, RTDec, RRec.
-/
import Derived.Test.YtgcpnhnckbgjmaaDoorValPl
import Derived.Test.YtgcpnhnckbgjmaaDoorTxEqG
import Derived.Test.YtgcpnhnckbgjmaaDoorRDec
import Derived.Test.YtgcpnhnckbgjmaaDoorDecPl
import Derived.Test.YtgcpnhnckbgjmaaDoorRBigG
/-
  mootref03.Value by its contract.
-/
set_option linter.unusedVariables false
set_option linter.unusedSimpArgs false
namespace Go.Proofs.YtgcpnhnckbgjmaaDoor
open Go.RowKit
variable {F : Nat → Prop}
set_option maxRecDepth 100000 in
set_option maxHeartbeats 1000000 in
theorem rvalue_V (k : Nat) (x : Rlp.It) (vl vb vi : Value) (w : World) (h : IsIt F w k x vl vb vi) :
    Calls Tryd.prog 30 #[.agg #[vl, vb, vi]] w fun e w' => e = .returned (.tuple #[.int .u64 (val x).1, .int .i64 (val x).2]) ∧ Below w.heap.size w w' := by
  cases k with
  | zero => exact h.elim
  | succ k =>
    obtain ⟨l, bs, its⟩ := x
    obtain ⟨rfl, ⟨a, c, rfl, hb1, hb2, hn, hb⟩, a', c', rfl, hc1, hc2, h9⟩ := h
    simp only [Rlp.It.items, Rlp.It.bytes, Rlp.It.list] at hb1 hc1 hb ⊢
    unfold maxLen at hb2 hc2
    obtain ⟨n, hn2⟩ : ∃ n, its.length = n := ⟨_, rfl⟩
    obtain ⟨m, hm⟩ : ∃ m, bs.length = m := ⟨_, rfl⟩
    rw [hn2] at hc1 ⊢
    rw [hm] at hb1 ⊢
    have HM := Lib.hid hm
    have HB := Lib.hid hb
    have AL : Below w.heap.size w (w.alloc (.cells #[.bool l, .slice a m c, .slice a' n c'] TI)) := (Below.refl _ _).alloc (Nat.le_refl _) _
    clear h9 hm hb hn hn2
    cases l
    · by_cases h8 : 8 < m
      · have E : Hid (val (.mk false bs its) = (0, 12)) := by show _ = _; simp [val, Rlp.It.list, Rlp.It.bytes, HM.out, h8]
        rw [E.out]
        go_enter Tryd.func30, Tryd.ntmps30
        go_wp2
        go_returns
        exact ⟨rfl, AL⟩
      · have h8' : m ≤ 8 := by omega
        by_cases h0 : 0 < m ∧ (bs.getD 0 0).toNat = 0
        · have E : Hid (val (.mk false bs its) = (0, 12)) := by
            show _ = _
            simp only [val, Rlp.It.list, Rlp.It.bytes, Bool.false_eq_true, if_false]
            exact if_pos (Or.inr ⟨by rw [HM.out]; exact h0.1, h0.2⟩)
          rw [E.out]
          obtain ⟨b, off, rfl, hF, hl, hc⟩ := HB.out 0 (by rw [HM.out]; exact h0.1)
          rw [h0.2, Nat.add_zero, ← AL.cell (p := ⟨b, off, none⟩) hl] at hc
          have hm0 := h0.1
          clear h0 h8
          go_enter Tryd.func30, Tryd.ntmps30
          go_wp2
          go_returns
          exact ⟨rfl, AL⟩
        · have E : Hid (val (.mk false bs its) = (Rlp.num bs, 0)) := by
            show _ = _
            simp only [val, Rlp.It.list, Rlp.It.bytes, Bool.false_eq_true, if_false]
            exact if_neg (by rw [HM.out]; omega)
          rw [E.out]
          have hq : 0 < m → ∃ b off y, a = some ⟨b, off, none⟩ ∧ (w.alloc (.cells #[.bool false, .slice a m c, .slice a' n c'] TI)).cell? ⟨b, off, none⟩ = some (.int .u8 (y : Nat)) ∧ 0 < y := by
            intro hm0
            obtain ⟨b, off, rfl, hF, hl, hc⟩ := HB.out 0 (by rw [HM.out]; exact hm0)
            rw [Nat.add_zero, ← AL.cell (p := ⟨b, off, none⟩) hl] at hc
            exact ⟨b, off, _, rfl, hc, by omega⟩
          clear h0
          rcases Nat.eq_zero_or_pos m with hm0 | hm0
          · subst hm0
            have e0 : bs = [] := List.length_eq_zero_iff.1 HM.out
            subst e0
            clear hq
            go_enter Tryd.func30, Tryd.ntmps30
            go_wp2
            refine wp_loop_rounds 1 ?_
            rw [rounds_succ]
            go_wp2
            go_returns
            exact ⟨rfl, AL⟩
          · obtain ⟨b, off, y, rfl, hc, hy⟩ := hq hm0
            clear hq
            have hy2 : ((y : Int) == 0) = false := by simp; omega
            have hm2 : decide ((m : Int) > 8) = false := by simp; omega
            have hm3 : decide ((m : Int) > 0) = true := by simp; omega
            go_enter Tryd.func30, Tryd.ntmps30
            go_wp2
            go_loop [4, 5] (fun v i => ∃ (j : Nat) (V : Int), j ≤ m ∧ i = .int .i64 j ∧ v = .int .u64 V ∧ Hid (V = (Rlp.num (bs.take j) : Nat))) (fun _ i => m - (intOf i).toNat)
            case atStart => exact ⟨0, 0, by omega, rfl, rfl, by show _ = _; simp [Rlp.num]⟩
            case round =>
              obtain ⟨j, V, hj, rfl, rfl, HV⟩ := hrel
              by_cases hlt : j < m
              · have hjl : j < bs.length := by rw [HM.out]; exact hlt
                obtain ⟨b', off', e, hF, hl, hcj⟩ := HB.out j hjl
                injection e with e
                injection e with e1 e2
                subst e1; subst e2
                rw [← AL.cell (p := ⟨b, off + j, none⟩) hl] at hcj
                have hv := num_56 bs j (by omega)
                have et := num_take bs j hjl
                have hV0 : 0 ≤ V := by have := HV.out; omega
                have hV1 : V ≤ 72057594037927935 := by have := HV.out; omega
                obtain ⟨x, hx⟩ : ∃ x, x = (bs.getD j 0).toNat := ⟨_, rfl⟩
                have hx2 : x ≤ 255 := by have := (bs.getD j 0).toNat_lt; omega
                rw [← hx] at hcj et
                have ET : Hid (V * 256 + x = (Rlp.num (bs.take (j + 1)) : Nat)) := by have := HV.out; show _ = _; omega
                clear et hv hx hjl
                go_wp2
                go_round
                case rel => exact ⟨j + 1, V * 256 + x, by omega, by go_num, by go_num, ET⟩
                case measure => simp [intOf]; omega
              · have hjm : m = j := by omega
                have EV : Hid (V = (Rlp.num bs : Nat)) := by have := HV.out; rw [← hjm, ← HM.out, List.take_length] at this; exact this
                have hjm' : j = m := hjm.symm
                subst hjm'
                clear hjm
                go_wp2
                go_returns
                exact ⟨by rw [← EV.out]; rfl, AL⟩
    · have E : Hid (val (.mk true bs its) = (0, 3)) := by show _ = _; simp [val, Rlp.It.list]
      rw [E.out]
      go_enter Tryd.func30, Tryd.ntmps30
      go_wp2
      go_returns
      exact ⟨rfl, AL⟩
end Go.Proofs.YtgcpnhnckbgjmaaDoor
/-
  mootref04.Decode by its contract.
-/
set_option linter.unusedVariables false
set_option linter.unusedSimpArgs false
namespace Go.Proofs.YtgcpnhnckbgjmaaDoor
open Go.RowKit
variable {F : Nat → Prop}
/-- What mootref04.Decode answers. -/
def RTDec (w : World) (r : Except (Option Nat × Nat) (Nat → Nat)) (e : Ending) (w' : World) : Prop :=
  Below w.heap.size w w' ∧ match r with
  | .error (some p, c) => e = .returned (.tuple #[ZT, .int .i64 p, .int .i64 c])
  | .error (none, c) => e = .returned (.tuple #[ZT, .int .i64 (-1), .int .i64 c])
  | .ok vs => e = .returned (.tuple #[.agg #[.int .u64 (vs 0), .int .u64 (vs 1), .int .u64 (vs 2), .int .u64 (vs 3), .int .u64 (vs 4), .int .u64 (vs 5)], .int .i64 (-1), .int .i64 0])
set_option maxRecDepth 100000 in
set_option maxHeartbeats 1000000 in
theorem rtdec_err (w : World) (a : Option Addr) (n c : Nat) (b : List UInt8) (hl : b.length = n) (hc : n ≤ c) (hcm : c ≤ maxLen) (hb : BytesF F w a b) (p k : Nat) (h : Rlp.decode b = .error (p, k)) :
    Calls Tryd.prog 8 #[.slice a n c] w (RTDec w (.error (some p, k))) := by
  have HC := Lib.hid (rdec_V (w.alloc (.cells #[.int .u64 0, .int .u64 0, .int .u64 0, .int .u64 0, .int .u64 0, .int .u64 0] TTX)) a n c b hl hc hcm (hb.below ((Below.refl _ _).alloc (Nat.le_refl _) _)))
  have HD := Lib.hid h
  have hkz : k ≠ 0 := decode_ne h
  have hk1 : ((k : Int) != 0) = true := by simp; omega
  clear hl hb h
  go_enter Tryd.func8, Tryd.ntmps8
  go_wp2_with (first
    | (go_at_call 29; (with_reducible refine HC.out.mono ?_); rintro e w2 he; rw [HD.out] at he; obtain ⟨hb2, rfl⟩ := he; have HS := Lib.hid ((Six.new w (.int .u64 0) (.int .u64 0) (.int .u64 0) (.int .u64 0) (.int .u64 0) (.int .u64 0) TTX).below hb2); have q0 := HS.out.c0; have q1 := HS.out.c1; have q2 := HS.out.c2; have q3 := HS.out.c3; have q4 := HS.out.c4; have q5 := HS.out.c5; have f0 := HS.out.f0; have f1 := HS.out.f1; have f2 := HS.out.f2; have f3 := HS.out.f3; have f4 := HS.out.f4; have f5 := HS.out.f5; have hs := HS.out.lt; clear hb2)
    | ((with_reducible refine bodyPost_ret (by simp [results, Tryd.results8, go_sem, q0, q1, q2, q3, q4, q5, hs]; try rfl) rfl ?_); exact ⟨(below_set6 HS.out.b (Nat.le_refl _) _ _ _ _ _ _).alloc (by simp; omega) _, rfl⟩))
set_option maxRecDepth 100000 in
set_option maxHeartbeats 1000000 in
theorem rtdec_shape (w : World) (a : Option Addr) (n c : Nat) (b : List UInt8) (hl : b.length = n) (hc : n ≤ c) (hcm : c ≤ maxLen) (hb : BytesF F w a b) (x : Rlp.It) (h : Rlp.decode b = .ok x) (hx : x.list = false ∨ x.items.length ≠ 6) :
    Calls Tryd.prog 8 #[.slice a n c] w (RTDec w (.error (none, 3))) := by
  have HC := Lib.hid (rdec_V (w.alloc (.cells #[.int .u64 0, .int .u64 0, .int .u64 0, .int .u64 0, .int .u64 0, .int .u64 0] TTX)) a n c b hl hc hcm (hb.below ((Below.refl _ _).alloc (Nat.le_refl _) _)))
  have HD := Lib.hid h
  have HX := Lib.hid hx
  clear hl hb h hx
  have took : ∀ e w2, RDecRet (w.alloc (.cells #[.int .u64 0, .int .u64 0, .int .u64 0, .int .u64 0, .int .u64 0, .int .u64 0] TTX)) (.ok x) e w2 → ∃ l a1 n1 c1 a2 n2 c2, e = .returned (.tuple #[.agg #[.bool l, .slice a1 n1 c1, .slice a2 n2 c2], .int .i64 0, .int .i64 0]) ∧ Six w w2 (.int .u64 0) (.int .u64 0) (.int .u64 0) (.int .u64 0) (.int .u64 0) (.int .u64 0) ∧ (l = false ∨ (l = true ∧ ((n2 : Int) != 6) = true)) := by
    rintro e w2 ⟨hb2, vl, vb, vi, rfl, hit⟩
    obtain ⟨h1, ⟨a1, c1, h2, _⟩, a2, c2, h3, _⟩ := hit
    subst h1; subst h2; subst h3
    refine ⟨_, _, _, _, _, _, _, rfl, (Six.new w (.int .u64 0) (.int .u64 0) (.int .u64 0) (.int .u64 0) (.int .u64 0) (.int .u64 0) TTX).below hb2, ?_⟩
    cases hl : x.list with
    | false => exact .inl rfl
    | true =>
      right
      refine ⟨rfl, ?_⟩
      rcases HX.out with h | h
      · rw [hl] at h; cases h
      · simp; omega
  have HT := Lib.hid took
  clear took
  go_enter Tryd.func8, Tryd.ntmps8
  go_wp2_with (first
    | (go_at_call 29; (with_reducible refine HC.out.mono ?_); rintro e w2 he; rw [HD.out] at he; obtain ⟨l, a1, n1, c1, a2, n2, c2, rfl, hS, hor⟩ := HT.out _ _ he; clear he; have HS := Lib.hid hS; have q0 := HS.out.c0; have q1 := HS.out.c1; have q2 := HS.out.c2; have q3 := HS.out.c3; have q4 := HS.out.c4; have q5 := HS.out.c5; have f0 := HS.out.f0; have f1 := HS.out.f1; have f2 := HS.out.f2; have f3 := HS.out.f3; have f4 := HS.out.f4; have f5 := HS.out.f5; have hs := HS.out.lt; rcases hor with rfl | ⟨rfl, hn6⟩; clear hS)
    | ((with_reducible refine bodyPost_ret (by simp [results, Tryd.results8, go_sem, q0, q1, q2, q3, q4, q5, hs]; try rfl) rfl ?_); exact ⟨(below_set6 HS.out.b (Nat.le_refl _) _ _ _ _ _ _).alloc (by simp; omega) _, rfl⟩))
/-! ### The loop -/
/-- What lies there in the loop. -/
structure DM (w : World) (X : Nat) (its : List Rlp.It) (vs : Nat → Nat) (b1 : Value) (a2 : Option Addr) (c2 : Nat) (W : World) : Prop where
  r : Six w W (.int .u64 0) (.int .u64 0) (.int .u64 0) (.int .u64 0) (.int .u64 0) (.int .u64 0)
  hX : w.heap.size < X ∧ X + 1 < W.heap.size
  xi : SlotI W X (.bool true) b1 (.slice a2 6 c2)
  t : ∀ k, k < 6 → W.cell? ⟨X + 1, k, none⟩ = some (.int .u64 (vs k))
  f : ∀ k, k < 6 → W.frozen? ⟨X + 1, k, none⟩ = false
  i : ItsAt (fun b => w.heap.size < b ∧ b < X) W 16 a2 its
theorem DM.below {w : World} {X : Nat} {its : List Rlp.It} {vs : Nat → Nat} {b1 : Value} {a2 : Option Addr} {c2 : Nat} {W W' : World} (h : DM w X its vs b1 a2 c2 W) (hb : Below W.heap.size W W') : DM w X its vs b1 a2 c2 W' :=
  ⟨h.r.below hb, ⟨h.hX.1, by have := h.hX.2; have := hb.size; omega⟩, h.xi.below hb, fun k hk => by rw [hb.cell (p := ⟨X + 1, k, none⟩) h.hX.2]; exact h.t k hk, fun k hk => by rw [hb.frozen (p := ⟨X + 1, k, none⟩) h.hX.2]; exact h.f k hk, h.i.move fun b hF hl => ⟨hF, by have := hb.size; omega, hb.block b hl⟩⟩
theorem DM.store {w : World} {X : Nat} {its : List Rlp.It} {vs : Nat → Nat} {b1 : Value} {a2 : Option Addr} {c2 : Nat} {W : World} (h : DM w X its vs b1 a2 c2 W) (j v : Nat) (hj : j < 6) : DM w X its (fun k => if k = j then v else vs k) b1 a2 c2 (W.setCell ⟨X + 1, j, none⟩ (.int .u64 v)) := by
  have hB : Below (X + 1) W (W.setCell ⟨X + 1, j, none⟩ (.int .u64 v)) := by refine (Below.refl _ _).setCell ?_ _; exact Nat.le_refl _
  have hx := h.hX
  refine ⟨h.r.at (by omega) hB, ⟨hx.1, by simpa using hx.2⟩, h.xi.keep (by simp) (hB.block _ (by omega)), fun k hk => ?_, fun k hk => by rw [World.frozen?_setCell]; exact h.f k hk, h.i.move fun b hF hl => ⟨hF, by simpa using hl, hB.block _ (by omega)⟩⟩
  by_cases e : k = j
  · subst e
    simp only [if_true]
    exact World.cell?_setCell_same _ _ _ (h.t k hk)
  · rw [if_neg e, World.cell?_setCell_other _ _ _ _ (fun h2 => e (by injection h2 with _ h2; exact h2.symm))]
    exact h.t k hk
abbrev TUS : TypeId := 66
abbrev TU64 : TypeId := 22
theorem infoU64 : (Tryd.prog.info? TU64).map (fun i => (i.zero, i.size, i.bytes)) = some (some (.int .u64 0), 1, 8) := by kernel_rfl
/-- 'make([]uint64, 6)'. -/
theorem wpList_make6 {w : World} {ops : Array Oper} {rest : List Oper} {o : Oper} {a : Act} {Q : Exit → Act → World → Prop} (hg : o.guard = none) (l c : Operand) (hop : o.op = Op.makeSlice TUS l c) (hl : a.eval l = .int .i64 6) (hc : a.eval c = .int .i64 6)
    (hK : ∀ w', (∀ k, k < 6 → w'.cell? ⟨w.heap.size, k, none⟩ = some (.int .u64 0)) → (∀ k, k < 6 → w'.frozen? ⟨w.heap.size, k, none⟩ = false) → w.heap.size < w'.heap.size → Below w.heap.size w w' → wpList Tryd.prog ops Q rest (a.put o.dst (.slice (some ⟨w.heap.size, 0, none⟩) 6 6)) w') : wpList Tryd.prog ops Q (o :: rest) a w := by
  obtain ⟨i0, hi, hz0, hz1, hz2⟩ := info_parts infoU64
  refine wpList_make_full w hg l c TUS hop w.heap.size TU64 i0 (.int .u64 0) 1 Tryd.underlying66 hi hz0 hz1 .i64 .i64 6 6 6 hl hc rfl rfl (by rw [hz2]; decide) (by decide) (Nat.le_refl _) fun w' ho hgr => ?_
  refine hK w' (fun k hk => ?_) (fun k hk => ho.frozenAt k) ?_ (Below.grown (Below.refl _ _) hgr (Nat.le_refl _) (fun k hk => by cases hk))
  · rw [ho.cellAt k (by omega)]
    rcases (by omega : k = 0 ∨ k = 1 ∨ k = 2 ∨ k = 3 ∨ k = 4 ∨ k = 5) with rfl | rfl | rfl | rfl | rfl | rfl <;> simp [madeCells, Value.cells]
  · exact (World.ownsRow.lt ho w.heap.size rfl).2
theorem st6 {g b : Nat} {vs : Nat → Nat} {W : World} (h : TXC g vs W) (hn : g ≠ b) (u0 u1 u2 u3 u4 u5 : Value) : TXC g vs ((((((W.setCell ⟨b, 0, none⟩ u0).setCell ⟨b, 1, none⟩ u1).setCell ⟨b, 2, none⟩ u2).setCell ⟨b, 3, none⟩ u3).setCell ⟨b, 4, none⟩ u4).setCell ⟨b, 5, none⟩ u5) := by
  have one : ∀ (W : World) (k : Nat) (u : Value), TXC g vs W → TXC g vs (W.setCell ⟨b, k, none⟩ u) := fun W k u h => h.keep (by simp) (Below.heap_setCell _ _ _ _ (fun e => hn e))
  exact one _ _ _ (one _ _ _ (one _ _ _ (one _ _ _ (one _ _ _ (one _ _ _ h)))))
theorem RTDec.okR {w W : World} {x : Rlp.It} {e : Ending} (hb : Below w.heap.size w W) (h : tRes x = .ok (tNum x)) (he : e = .returned (.tuple #[.agg #[.int .u64 (tNum x 0), .int .u64 (tNum x 1), .int .u64 (tNum x 2), .int .u64 (tNum x 3), .int .u64 (tNum x 4), .int .u64 (tNum x 5)], .int .i64 (-1), .int .i64 0])) : RTDec w (tRes x) e W := by
  rw [h]; exact ⟨hb, he⟩
theorem RTDec.errR {w W : World} {x : Rlp.It} {e : Ending} {j c : Nat} (hb : Below w.heap.size w W) (h : tRes x = .error (some j, c)) (he : e = .returned (.tuple #[ZT, .int .i64 j, .int .i64 c])) : RTDec w (tRes x) e W := by
  rw [h]; exact ⟨hb, he⟩
set_option maxRecDepth 100000 in
set_option maxHeartbeats 4000000 in
theorem rtdec_list (w : World) (a : Option Addr) (n c : Nat) (b : List UInt8) (hl : b.length = n) (hc : n ≤ c) (hcm : c ≤ maxLen) (hb : BytesF F w a b) (x : Rlp.It) (h : Rlp.decode b = .ok x) (hx : x.list = true) (hx6 : x.items.length = 6) :
    Calls Tryd.prog 8 #[.slice a n c] w (RTDec w (tRes x)) := by
  have HC := Lib.hid (rdec_V (w.alloc (.cells #[.int .u64 0, .int .u64 0, .int .u64 0, .int .u64 0, .int .u64 0, .int .u64 0] TTX)) a n c b hl hc hcm (hb.below ((Below.refl _ _).alloc (Nat.le_refl _) _)))
  have HD := Lib.hid h
  have HX := Lib.hid hx
  have H6 := Lib.hid hx6
  clear hl hb h hx hx6
  have took : ∀ e w2, RDecRet (w.alloc (.cells #[.int .u64 0, .int .u64 0, .int .u64 0, .int .u64 0, .int .u64 0, .int .u64 0] TTX)) (.ok x) e w2 → ∃ a1 n1 c1 a2 c2, e = .returned (.tuple #[.agg #[.bool true, .slice a1 n1 c1, .slice a2 6 c2], .int .i64 0, .int .i64 0]) ∧ Six w w2 (.int .u64 0) (.int .u64 0) (.int .u64 0) (.int .u64 0) (.int .u64 0) (.int .u64 0) ∧ ItsAt (fun b => w.heap.size < b ∧ b < w2.heap.size) w2 16 a2 x.items := by
    rintro e w2 ⟨hb2, vl, vb, vi, rfl, hit⟩
    obtain ⟨h1, ⟨a1, c1, h2, _⟩, a2, c2, h3, _, _, h9⟩ := hit
    subst h1; subst h2; subst h3
    rw [HX.out, H6.out]
    refine ⟨_, _, _, a2, _, rfl, (Six.new w (.int .u64 0) (.int .u64 0) (.int .u64 0) (.int .u64 0) (.int .u64 0) (.int .u64 0) TTX).below hb2, ?_⟩
    have h9' : ItsAt (fun b => (w.alloc (.cells #[.int .u64 0, .int .u64 0, .int .u64 0, .int .u64 0, .int .u64 0, .int .u64 0] TTX)).heap.size ≤ b) w2 16 a2 x.items := h9
    exact h9'.move fun b hF hl => ⟨⟨by simp at hF; omega, hl⟩, hl, rfl⟩
  have HT := Lib.hid took
  clear took
  go_enter Tryd.func8, Tryd.ntmps8
  go_wp2_with (first
    | (go_at_call 29; (with_reducible refine HC.out.mono ?_); rintro e w2 he; rw [HD.out] at he; obtain ⟨a1, n1, c1, a2, c2, rfl, hS, hI⟩ := HT.out _ _ he; clear he; have HS := Lib.hid hS; have HI := Lib.hid hI; have hs2 := hS.lt; clear hS hI)
    | (at_make; refine wpList_make6 rfl _ _ rfl rfl rfl ?_; intro w3 hc0 hf0 hs3 hb3; have HC0 := Lib.hid hc0; have HF0 := Lib.hid hf0; have HS3 := Lib.hid hs3; have HB3 := Lib.hid hb3; clear hc0 hf0 hs3 hb3))
  have HDM : Hid (DM w w2.heap.size x.items (tPart x 0) (.slice a1 n1 c1) a2 c2 w3) := by
    have hs3 := HS3.out
    have hc0 := HC0.out
    have hf0 := HF0.out
    rw [World.size_alloc] at hs3 hc0 hf0
    refine ⟨(HS.out.below ((Below.refl _ _).alloc (Nat.le_refl _) _)).below HB3.out, ⟨hs2, hs3⟩, (SlotI.new w2 (.bool true) (.slice a1 n1 c1) (.slice a2 6 c2)).below HB3.out, fun k hk => ?_, hf0, HI.out.move fun b hF hl => ⟨hF, by omega, ?_⟩⟩
    · have e : tPart x 0 k = 0 := by unfold tPart; rw [if_neg (by omega)]
      rw [e]; exact hc0 k hk
    · rw [HB3.out.block _ (by simp; omega), heap_alloc_old _ _ hl]
  clear HS HI HC0 HF0 HS3 HB3
  go_loopw [9, 10, 11] (fun ii vv ee wr => ∃ j : Nat, j ≤ 6 ∧ ii = .int .i64 j ∧ Hid (DM w w2.heap.size x.items (tPart x j) (.slice a1 n1 c1) a2 c2 wr) ∧ Hid (tScan x.items 6 0 = tScan x.items (6 - j) j)) (fun ii _ _ _ => 6 - (intOf ii).toNat)
  case atStart => exact ⟨0, by omega, rfl, HDM.out, by show _ = _; rfl⟩
  case round =>
    obtain ⟨j, hj, rfl, HL, HSc⟩ := hrel
    have hwr := HL.out.hX
    clear HDM
    by_cases hlt : j < 6
    · have x2 := HL.out.xi.c2
      obtain ⟨b, off, u, v, z, rfl, hF, hbl, c0, c1', c2', hx⟩ := HL.out.i j (by rw [H6.out]; exact hlt)
      obtain ⟨yl, ya, yn, yc, ya', yn', yc', rfl, rfl, rfl⟩ := hx.shape
      have hjc : decide ((j : Int) < 6) = true := by simp; omega
      obtain ⟨vv, hvv⟩ : ∃ vv, (val (x.items.getD j default)).1 = vv := ⟨_, rfl⟩
      obtain ⟨ce, hce⟩ : ∃ ce, (val (x.items.getD j default)).2 = ce := ⟨_, rfl⟩
      have HVV := Lib.hid hvv
      have HCE := Lib.hid hce
      have HXI := Lib.hid hx
      clear hvv hce hx
      by_cases h0 : ce = 0
      · subst h0
        by_cases hj2 : j < 2
        · by_cases hv : vv < 64
          · have hin : inn j vv = true := by simp [inn, hj2]; omega
            have E : Hid (tScan x.items 6 0 = tScan x.items (6 - (j + 1)) (j + 1)) := by
              show _ = _
              rw [HSc.out, tScan_good _ _ hlt]
              unfold tBad
              rw [HVV.out, HCE.out, if_neg (by simp), if_neg (by rw [hin]; decide)]
            clear hin
            go_wp2_with (first
              | (go_at_call 30; (with_reducible refine (rvalue_V 16 (x.items.getD j default) _ _ _ wr HXI.out).mono ?_); rintro e w4 ⟨rfl, hb4⟩; have HL4 := Lib.hid (HL.out.below hb4); rw [HVV.out, HCE.out]; have c4 := HL4.out.t j hlt; have f4 := HL4.out.f j hlt; have hw4 := HL4.out.hX; clear hb4))
            go_roundw
            case rel =>
              refine ⟨j + 1, by omega, by go_num, ?_, E⟩
              rw [tPart_succ]
              have := HL4.out.store j (tNum x j) hlt
              unfold tNum at this ⊢
              rw [HVV.out] at this ⊢
              exact this
            case measure => simp [intOf]; omega
          · have hin : inn j vv = false := by simp [inn, hj2]; omega
            have E : Hid (tRes x = .error (some j, 2)) := by
              show _ = _
              unfold tRes
              rw [HSc.out, tScan_bad _ _ 2 hlt]
              unfold tBad
              rw [HVV.out, HCE.out, if_neg (by simp), if_pos hin]
            clear hin
            go_wp2_with (go_at_call 30; (with_reducible refine (rvalue_V 16 (x.items.getD j default) _ _ _ wr HXI.out).mono ?_); rintro e w4 ⟨rfl, hb4⟩; have HL4 := Lib.hid (HL.out.below hb4); rw [HVV.out, HCE.out]; have q0 := HL4.out.r.c0; have q1 := HL4.out.r.c1; have q2 := HL4.out.r.c2; have q3 := HL4.out.r.c3; have q4 := HL4.out.r.c4; have q5 := HL4.out.r.c5; have f0 := HL4.out.r.f0; have f1 := HL4.out.r.f1; have f2 := HL4.out.r.f2; have f3 := HL4.out.r.f3; have f4 := HL4.out.r.f4; have f5 := HL4.out.r.f5; have hs := HL4.out.r.lt; clear hb4)
            refine bodyPost_ret (by simp [results, Tryd.results8, go_sem, q0, q1, q2, q3, q4, q5, hs]; try rfl) rfl ?_
            exact RTDec.errR (j := j) (c := 2) (below_set6 HL4.out.r.b (Nat.le_refl _) _ _ _ _ _ _) E.out rfl
        · by_cases hj4 : j = 4
          · have hq4 : ((j : Int) == 4) = true := by simp; omega
            have HJ4 := Lib.hid hj4
            clear hj4
            by_cases hv : vv ≤ 96
            · have hin : inn j vv = true := by have := HJ4.out; subst this; simp [inn]; omega
              have E : Hid (tScan x.items 6 0 = tScan x.items (6 - (j + 1)) (j + 1)) := by
                show _ = _
                rw [HSc.out, tScan_good _ _ hlt]
                unfold tBad
                rw [HVV.out, HCE.out, if_neg (by simp), if_neg (by rw [hin]; decide)]
              clear hin
              go_wp2_with (first
                | (go_at_call 30; (with_reducible refine (rvalue_V 16 (x.items.getD j default) _ _ _ wr HXI.out).mono ?_); rintro e w4 ⟨rfl, hb4⟩; have HL4 := Lib.hid (HL.out.below hb4); rw [HVV.out, HCE.out]; have c4 := HL4.out.t j hlt; have f4 := HL4.out.f j hlt; have hw4 := HL4.out.hX; clear hb4))
              go_roundw
              case rel =>
                refine ⟨j + 1, by omega, by go_num, ?_, E⟩
                rw [tPart_succ]
                have := HL4.out.store j (tNum x j) hlt
                unfold tNum at this ⊢
                rw [HVV.out] at this ⊢
                exact this
              case measure => simp [intOf]; omega
            · have hin : inn j vv = false := by have := HJ4.out; subst this; simp [inn]; omega
              have E : Hid (tRes x = .error (some j, 2)) := by
                show _ = _
                unfold tRes
                rw [HSc.out, tScan_bad _ _ 2 hlt]
                unfold tBad
                rw [HVV.out, HCE.out, if_neg (by simp), if_pos hin]
              clear hin
              go_wp2_with (go_at_call 30; (with_reducible refine (rvalue_V 16 (x.items.getD j default) _ _ _ wr HXI.out).mono ?_); rintro e w4 ⟨rfl, hb4⟩; have HL4 := Lib.hid (HL.out.below hb4); rw [HVV.out, HCE.out]; have q0 := HL4.out.r.c0; have q1 := HL4.out.r.c1; have q2 := HL4.out.r.c2; have q3 := HL4.out.r.c3; have q4 := HL4.out.r.c4; have q5 := HL4.out.r.c5; have f0 := HL4.out.r.f0; have f1 := HL4.out.r.f1; have f2 := HL4.out.r.f2; have f3 := HL4.out.r.f3; have f4 := HL4.out.r.f4; have f5 := HL4.out.r.f5; have hs := HL4.out.r.lt; clear hb4)
              refine bodyPost_ret (by simp [results, Tryd.results8, go_sem, q0, q1, q2, q3, q4, q5, hs]; try rfl) rfl ?_
              exact RTDec.errR (j := j) (c := 2) (below_set6 HL4.out.r.b (Nat.le_refl _) _ _ _ _ _ _) E.out rfl
          · have hin : inn j vv = true := by simp [inn, hj2, hj4]
            have E : Hid (tScan x.items 6 0 = tScan x.items (6 - (j + 1)) (j + 1)) := by
              show _ = _
              rw [HSc.out, tScan_good _ _ hlt]
              unfold tBad
              rw [HVV.out, HCE.out, if_neg (by simp), if_neg (by rw [hin]; decide)]
            clear hin
            go_wp2_with (first
              | (go_at_call 30; (with_reducible refine (rvalue_V 16 (x.items.getD j default) _ _ _ wr HXI.out).mono ?_); rintro e w4 ⟨rfl, hb4⟩; have HL4 := Lib.hid (HL.out.below hb4); rw [HVV.out, HCE.out]; have c4 := HL4.out.t j hlt; have f4 := HL4.out.f j hlt; have hw4 := HL4.out.hX; clear hb4))
            go_roundw
            case rel =>
              refine ⟨j + 1, by omega, by go_num, ?_, E⟩
              rw [tPart_succ]
              have := HL4.out.store j (tNum x j) hlt
              unfold tNum at this ⊢
              rw [HVV.out] at this ⊢
              exact this
            case measure => simp [intOf]; omega
      · have hce1 : ((ce : Int) != 0) = true := by simp; omega
        have E : Hid (tRes x = .error (some j, ce)) := by
          show _ = _
          unfold tRes
          rw [HSc.out, tScan_bad _ _ ce hlt]
          unfold tBad
          rw [HCE.out, if_pos h0]
        go_wp2_with (go_at_call 30; (with_reducible refine (rvalue_V 16 (x.items.getD j default) _ _ _ wr HXI.out).mono ?_); rintro e w4 ⟨rfl, hb4⟩; have HL4 := Lib.hid (HL.out.below hb4); rw [HVV.out, HCE.out]; have q0 := HL4.out.r.c0; have q1 := HL4.out.r.c1; have q2 := HL4.out.r.c2; have q3 := HL4.out.r.c3; have q4 := HL4.out.r.c4; have q5 := HL4.out.r.c5; have f0 := HL4.out.r.f0; have f1 := HL4.out.r.f1; have f2 := HL4.out.r.f2; have f3 := HL4.out.r.f3; have f4 := HL4.out.r.f4; have f5 := HL4.out.r.f5; have hs := HL4.out.r.lt; clear hb4)
        refine bodyPost_ret (by simp [results, Tryd.results8, go_sem, q0, q1, q2, q3, q4, q5, hs]; try rfl) rfl ?_
        exact RTDec.errR (j := j) (c := ce) (below_set6 HL4.out.r.b (Nat.le_refl _) _ _ _ _ _ _) E.out rfl
    · have hj6 : j = 6 := by omega
      subst hj6
      have E : Hid (tRes x = .ok (tNum x)) := by
        show _ = _
        unfold tRes
        rw [HSc.out]; rfl
      have hX := HL.out.hX
      go_wp2
      refine wp_region_relG (TXC (w2.heap.size + 1) (tNum x)) (fun W => Six w W (.int .u64 0) (.int .u64 0) (.int .u64 0) (.int .u64 0) (.int .u64 0) (.int .u64 0) ∧ TXC (w2.heap.size + 1) (tNum x) W) (by kernel_rfl) ⟨HL.out.r.below (by (repeat' (first | (with_reducible exact Below.refl _ _) | (with_reducible refine Below.alloc ?_ ?_ _) | (with_reducible refine Below.drew ?_) | (with_reducible refine Below.setCell ?_ ?_ _) | (with_reducible refine Below.thn (by assumption) ?_ ?_) | (with_reducible refine below_drewN ?_ _) | go_size))), (show TXC (w2.heap.size + 1) (tNum x) wr from ⟨hX.2, fun k hk => by have := HL.out.t k hk; unfold tPart at this; rw [if_pos hk] at this; exact this⟩).below (by (repeat' (first | (with_reducible exact Below.refl _ _) | (with_reducible refine Below.alloc ?_ ?_ _) | (with_reducible refine Below.drew ?_) | (with_reducible refine Below.setCell ?_ ?_ _) | (with_reducible refine Below.thn (by assumption) ?_ ?_) | (with_reducible refine below_drewN ?_ _) | go_size)))⟩ ?_
      refine relR_pure 0 _ (by intro _ h; first | exact h | exact h.2) (by kernel_rfl) rfl (by kernel_rfl) (by kernel_rfl) (by go_simp) ?_
      apply Exists.intro
      refine ⟨fun W hW => ?_, fun K hK => ?_⟩
      · unfold effAt
        go_simp
        exact ⟨rfl, rfl⟩
      go_simp
      refine hK _ ?_
      clear hK K
      refine relR_pure 1 _ (by intro _ h; first | exact h | exact h.2) (by kernel_rfl) rfl (by kernel_rfl) (by kernel_rfl) (by go_simp) ?_
      apply Exists.intro
      refine ⟨fun W hW => ?_, fun K hK => ?_⟩
      · unfold effAt
        go_simp
        exact ⟨rfl, rfl⟩
      go_simp
      refine hK _ ?_
      clear hK K
      refine relR_pure 2 _ (by intro _ h; first | exact h | exact h.2) (by kernel_rfl) rfl (by kernel_rfl) (by kernel_rfl) (by go_simp) ?_
      apply Exists.intro
      refine ⟨fun W hW => ?_, fun K hK => ?_⟩
      · unfold effAt
        have c := hW.2 0 (by decide)
        go_simp
        exact ⟨rfl, rfl⟩
      go_simp
      refine hK _ ?_
      clear hK K
      refine relR_pure 3 _ (by intro _ h; first | exact h | exact h.2) (by kernel_rfl) rfl (by kernel_rfl) (by kernel_rfl) (by go_simp) ?_
      apply Exists.intro
      refine ⟨fun W hW => ?_, fun K hK => ?_⟩
      · unfold effAt
        go_simp
        exact ⟨rfl, rfl⟩
      go_simp
      refine hK _ ?_
      clear hK K
      refine relR_pure 4 _ (by intro _ h; first | exact h | exact h.2) (by kernel_rfl) rfl (by kernel_rfl) (by kernel_rfl) (by go_simp) ?_
      apply Exists.intro
      refine ⟨fun W hW => ?_, fun K hK => ?_⟩
      · unfold effAt
        go_simp
        exact ⟨rfl, rfl⟩
      go_simp
      refine hK _ ?_
      clear hK K
      refine relR_pure 5 _ (by intro _ h; first | exact h | exact h.2) (by kernel_rfl) rfl (by kernel_rfl) (by kernel_rfl) (by go_simp) ?_
      apply Exists.intro
      refine ⟨fun W hW => ?_, fun K hK => ?_⟩
      · unfold effAt
        have c := hW.2 1 (by decide)
        go_simp
        exact ⟨rfl, rfl⟩
      go_simp
      refine hK _ ?_
      clear hK K
      refine relR_pure 6 _ (by intro _ h; first | exact h | exact h.2) (by kernel_rfl) rfl (by kernel_rfl) (by kernel_rfl) (by go_simp) ?_
      apply Exists.intro
      refine ⟨fun W hW => ?_, fun K hK => ?_⟩
      · unfold effAt
        go_simp
        exact ⟨rfl, rfl⟩
      go_simp
      refine hK _ ?_
      clear hK K
      refine relR_pure 7 _ (by intro _ h; first | exact h | exact h.2) (by kernel_rfl) rfl (by kernel_rfl) (by kernel_rfl) (by go_simp) ?_
      apply Exists.intro
      refine ⟨fun W hW => ?_, fun K hK => ?_⟩
      · unfold effAt
        go_simp
        exact ⟨rfl, rfl⟩
      go_simp
      refine hK _ ?_
      clear hK K
      refine relR_pure 8 _ (by intro _ h; first | exact h | exact h.2) (by kernel_rfl) rfl (by kernel_rfl) (by kernel_rfl) (by go_simp) ?_
      apply Exists.intro
      refine ⟨fun W hW => ?_, fun K hK => ?_⟩
      · unfold effAt
        have c := hW.2 2 (by decide)
        go_simp
        exact ⟨rfl, rfl⟩
      go_simp
      refine hK _ ?_
      clear hK K
      refine relR_pure 9 _ (by intro _ h; first | exact h | exact h.2) (by kernel_rfl) rfl (by kernel_rfl) (by kernel_rfl) (by go_simp) ?_
      apply Exists.intro
      refine ⟨fun W hW => ?_, fun K hK => ?_⟩
      · unfold effAt
        go_simp
        exact ⟨rfl, rfl⟩
      go_simp
      refine hK _ ?_
      clear hK K
      refine relR_pure 10 _ (by intro _ h; first | exact h | exact h.2) (by kernel_rfl) rfl (by kernel_rfl) (by kernel_rfl) (by go_simp) ?_
      apply Exists.intro
      refine ⟨fun W hW => ?_, fun K hK => ?_⟩
      · unfold effAt
        go_simp
        exact ⟨rfl, rfl⟩
      go_simp
      refine hK _ ?_
      clear hK K
      refine relR_pure 11 _ (by intro _ h; first | exact h | exact h.2) (by kernel_rfl) rfl (by kernel_rfl) (by kernel_rfl) (by go_simp) ?_
      apply Exists.intro
      refine ⟨fun W hW => ?_, fun K hK => ?_⟩
      · unfold effAt
        have c := hW.2 3 (by decide)
        go_simp
        exact ⟨rfl, rfl⟩
      go_simp
      refine hK _ ?_
      clear hK K
      refine relR_pure 12 _ (by intro _ h; first | exact h | exact h.2) (by kernel_rfl) rfl (by kernel_rfl) (by kernel_rfl) (by go_simp) ?_
      apply Exists.intro
      refine ⟨fun W hW => ?_, fun K hK => ?_⟩
      · unfold effAt
        go_simp
        exact ⟨rfl, rfl⟩
      go_simp
      refine hK _ ?_
      clear hK K
      refine relR_pure 13 _ (by intro _ h; first | exact h | exact h.2) (by kernel_rfl) rfl (by kernel_rfl) (by kernel_rfl) (by go_simp) ?_
      apply Exists.intro
      refine ⟨fun W hW => ?_, fun K hK => ?_⟩
      · unfold effAt
        go_simp
        exact ⟨rfl, rfl⟩
      go_simp
      refine hK _ ?_
      clear hK K
      refine relR_pure 14 _ (by intro _ h; first | exact h | exact h.2) (by kernel_rfl) rfl (by kernel_rfl) (by kernel_rfl) (by go_simp) ?_
      apply Exists.intro
      refine ⟨fun W hW => ?_, fun K hK => ?_⟩
      · unfold effAt
        have c := hW.2 4 (by decide)
        go_simp
        exact ⟨rfl, rfl⟩
      go_simp
      refine hK _ ?_
      clear hK K
      refine relR_pure 15 _ (by intro _ h; first | exact h | exact h.2) (by kernel_rfl) rfl (by kernel_rfl) (by kernel_rfl) (by go_simp) ?_
      apply Exists.intro
      refine ⟨fun W hW => ?_, fun K hK => ?_⟩
      · unfold effAt
        go_simp
        exact ⟨rfl, rfl⟩
      go_simp
      refine hK _ ?_
      clear hK K
      refine relR_pure 16 _ (by intro _ h; first | exact h | exact h.2) (by kernel_rfl) rfl (by kernel_rfl) (by kernel_rfl) (by go_simp) ?_
      apply Exists.intro
      refine ⟨fun W hW => ?_, fun K hK => ?_⟩
      · unfold effAt
        go_simp
        exact ⟨rfl, rfl⟩
      go_simp
      refine hK _ ?_
      clear hK K
      refine relR_pure 17 _ (by intro _ h; first | exact h | exact h.2) (by kernel_rfl) rfl (by kernel_rfl) (by kernel_rfl) (by go_simp) ?_
      apply Exists.intro
      refine ⟨fun W hW => ?_, fun K hK => ?_⟩
      · unfold effAt
        have c := hW.2 5 (by decide)
        go_simp
        exact ⟨rfl, rfl⟩
      go_simp
      refine hK _ ?_
      clear hK K
      refine relR_pure 18 _ (by intro _ h; first | exact h | exact h.2) (by kernel_rfl) rfl (by kernel_rfl) (by kernel_rfl) (by go_simp) ?_
      apply Exists.intro
      refine ⟨fun W hW => ?_, fun K hK => ?_⟩
      · unfold effAt
        go_simp
        exact ⟨rfl, rfl⟩
      go_simp
      refine hK _ ?_
      clear hK K
      refine relR_call 19 _ rfl (by kernel_rfl) (by go_simp) Unit (fun _ => undef) (fun _ => TXC (w2.heap.size + 1) (tNum x)) (fun _ W => Six w W (.int .u64 (tNum x 0)) (.int .u64 (tNum x 1)) (.int .u64 (tNum x 2)) (.int .u64 (tNum x 3)) (.int .u64 (tNum x 4)) (.int .u64 (tNum x 5))) (fun _ _ h => h) (fun W hW => ?_) (fun _ K hK => ?_)
      · have hS := hW.1
        have hs := hS.store (.int .u64 (tNum x 0)) (.int .u64 (tNum x 1)) (.int .u64 (tNum x 2)) (.int .u64 (tNum x 3)) (.int .u64 (tNum x 4)) (.int .u64 (tNum x 5))
        have ht := hW.2
        have c0 := hS.c0
        have c1 := hS.c1
        have c2 := hS.c2
        have c3 := hS.c3
        have c4 := hS.c4
        have c5 := hS.c5
        have f0 := hS.f0
        have f1 := hS.f1
        have f2 := hS.f2
        have f3 := hS.f3
        have f4 := hS.f4
        have f5 := hS.f5
        unfold effAt
        go_simp
        first | exact ⟨hs, st6 ht (by omega) _ _ _ _ _ _⟩ | exact ⟨rfl, hs, st6 ht (by omega) _ _ _ _ _ _⟩ | exact ⟨(), rfl, hs, st6 ht (by omega) _ _ _ _ _ _⟩
      go_simp
      refine hK _ ?_
      clear hK K
      refine relR_pure 20 _ (by intro _ h; first | exact h | exact h.2) (by kernel_rfl) rfl (by kernel_rfl) (by kernel_rfl) (by go_simp) ?_
      apply Exists.intro
      refine ⟨fun W hW => ?_, fun K hK => ?_⟩
      · unfold effAt
        go_simp
        exact ⟨rfl, rfl⟩
      go_simp
      refine hK _ ?_
      clear hK K
      refine relR_pure 21 _ (by intro _ h; first | exact h | exact h.2) (by kernel_rfl) rfl (by kernel_rfl) (by kernel_rfl) (by go_simp) ?_
      apply Exists.intro
      refine ⟨fun W hW => ?_, fun K hK => ?_⟩
      · unfold effAt
        go_simp
        exact ⟨rfl, rfl⟩
      go_simp
      refine hK _ ?_
      clear hK K
      refine relR_end (by kernel_rfl) (fun W hW => ?_)
      have HF := Lib.hid hW.1
      have q0 := hW.1.c0
      have q1 := hW.1.c1
      have q2 := hW.1.c2
      have q3 := hW.1.c3
      have q4 := hW.1.c4
      have q5 := hW.1.c5
      clear hW
      go_wp2_with fail
      refine bodyPost_ret (by simp [results, Tryd.results8, go_sem, q0, q1, q2, q3, q4, q5]; try rfl) rfl ?_
      exact RTDec.okR HF.out.b E.out rfl
theorem rtdec_V (w : World) (a : Option Addr) (n c : Nat) (b : List UInt8) (hl : b.length = n) (hc : n ≤ c) (hcm : c ≤ maxLen) (hb : BytesF F w a b) : Calls Tryd.prog 8 #[.slice a n c] w (RTDec w (tDec b)) := by
  unfold tDec
  cases h : Rlp.decode b with
  | error e => exact rtdec_err w a n c b hl hc hcm hb e.1 e.2 h
  | ok x =>
    simp only
    by_cases hx : x.list = false ∨ x.items.length ≠ 6
    · rw [if_pos hx]; exact rtdec_shape w a n c b hl hc hcm hb x h hx
    · rw [if_neg hx]
      have h1 : x.list = true := by cases h2 : x.list with
        | true => rfl
        | false => exact absurd (.inl h2) hx
      have h2 : x.items.length = 6 := Decidable.byContradiction fun h2 => hx (.inr h2)
      exact rtdec_list w a n c b hl hc hcm hb x h h1 h2
end Go.Proofs.YtgcpnhnckbgjmaaDoor
/-
  mootref04.Words and Record by their contracts.
-/
set_option linter.unusedVariables false
set_option linter.unusedSimpArgs false
namespace Go.Proofs.YtgcpnhnckbgjmaaDoor
open Go.RowKit
open Go.Extern.Stop (cell)
/-- The bytes of words up to a place. -/
def wrdV (ws : Nat → Nat) (j k : Nat) : Value := if k < j then .int .u8 (byt (ws (k / 8)) (k % 8)) else .int .u8 0
structure WL (w : World) (B B2 : Nat) (ws : Nat → Nat) (j : Nat) (W : World) : Prop where
  b : Below w.heap.size w W
  hB : w.heap.size ≤ B ∧ w.heap.size ≤ B2 ∧ B2 ≠ B
  r : W.rowIs B2 TP 64 (fun _ => .int .u8 0)
  p : W.rowIs B TP 64 (wrdV ws j)
theorem WL.put {w : World} {B B2 : Nat} {ws : Nat → Nat} {j : Nat} {W : World} (h : WL w B B2 ws j W) : WL w B B2 ws (j + 1) (W.setCell ⟨B, j, none⟩ (.int .u8 (byt (ws (j / 8)) (j % 8)))) := by
  refine ⟨h.b.setCell h.hB.1 _, h.hB, h.r.setOther h.hB.2.2 _, (h.p.set j _).congr fun k hk => ?_⟩
  unfold wrdV
  by_cases e : k = j
  · subst e; rw [if_pos rfl, if_pos (by omega)]
  · rw [if_neg e]
    by_cases h2 : k < j
    · rw [if_pos h2, if_pos (by omega)]
    · rw [if_neg h2, if_neg (by omega)]
/-- A record's words. -/
def recW (vs : Nat → Nat) (k : Nat) : Nat := if k = 0 then 1 else if k = 7 then 0 else vs (k - 1)
theorem recW_rec (vs : Nat → Nat) (k : Nat) (hk : k < 64) : wrdV (recW vs) 64 k = recV vs 6 k := by
  unfold wrdV recV recB recW
  rw [if_pos hk]
  by_cases h0 : k / 8 = 0
  · have e : (k - 8) / 8 = 0 := by omega
    rw [if_pos h0, if_neg (show ¬(8 ≤ k ∧ k < 8 + 8 * 6) by omega)]
    rcases (by omega : k = 0 ∨ k = 1 ∨ k = 2 ∨ k = 3 ∨ k = 4 ∨ k = 5 ∨ k = 6 ∨ k = 7) with rfl | rfl | rfl | rfl | rfl | rfl | rfl | rfl <;> rfl
  · rw [if_neg h0]
    by_cases h7 : k / 8 = 7
    · rw [if_pos h7, if_neg (show ¬ k = 7 by omega), if_neg (show ¬(8 ≤ k ∧ k < 8 + 8 * 6) by omega)]
      unfold byt; simp
    · rw [if_neg h7, if_neg (show ¬ k = 7 by omega), if_pos (show 8 ≤ k ∧ k < 8 + 8 * 6 by omega), show (k - 8) / 8 = k / 8 - 1 by omega, show (k - 8) % 8 = k % 8 by omega]
theorem wl0 (w : World) (ws : Nat → Nat) : WL w (w.heap.size + 1) w.heap.size ws 0 ((w.alloc (.cells Z64 TP)).alloc (.cells Z64 TP)) := by
  have hz : ∀ i, i < Z64.size → Z64[i]? = some (Value.int .u8 0) := fun i hi => Z64_get i (by rw [← Z64_size]; exact hi)
  refine ⟨((Below.refl _ _).alloc (Nat.le_refl _) _).alloc (by simp) _, ⟨by omega, Nat.le_refl _, by omega⟩, ?_, ?_⟩
  · have := (World.rowIs_alloc w Z64 TP (fun _ => .int .u8 0) hz).alloc (.cells Z64 TP)
    rw [Z64_size] at this
    exact this
  · have := World.rowIs_alloc (w.alloc (.cells Z64 TP)) Z64 TP (fun _ => .int .u8 0) hz
    rw [Z64_size] at this
    rw [World.size_alloc] at this
    exact this.congr fun k _ => by unfold wrdV; rw [if_neg (by omega)]
set_option maxRecDepth 100000 in
set_option maxHeartbeats 4000000 in
theorem rwords_V (vs : Nat → Nat) (w : World) (g c : Nat) (hg : g < w.heap.size) (hw : ∀ k, k < 8 → w.cell? ⟨g, k, none⟩ = some (.int .u64 (recW vs k))) (hv : wide vs) :
    Calls Tryd.prog 34 #[.slice (some ⟨g, 0, none⟩) 8 c] w (fun e w' => e = .returned (.agg ((recL vs).map cell).toArray) ∧ Below w.heap.size w w') := by
  have hv8 : ∀ k, k < 8 → recW vs k < 18446744073709551616 := fun k hk => by
    unfold recW
    split
    · decide
    · split
      · decide
      · exact hv _ (by omega)
  have HWc := Lib.hid hw
  have HV := Lib.hid hv8
  have HG := Lib.hid hg
  clear hw hv hv8
  go_enter Tryd.func34, Tryd.ntmps34
  go_wp2_with (first
    | (refine Go.Great.wpList_allocTo rfl (some 1) rfl _ _ (alloc_P _ _ _ rfl) ?_; simp only [World.size_alloc])
    | (refine Go.Great.wpList_allocTo rfl (some 2) rfl _ _ (alloc_P _ _ _ rfl) ?_; simp only [World.size_alloc])
    | (refine Go.Great.wpList_allocTo rfl (some 3) rfl _ _ (alloc_P _ _ _ rfl) ?_; simp only [World.size_alloc]))
  have H0 := Lib.hid (wl0 w (recW vs))
  go_loopw [4] (fun ii wr => ∃ j : Nat, j ≤ 64 ∧ ii = .int .i64 j ∧ Hid (WL w (w.heap.size + 1) w.heap.size (recW vs) j wr)) (fun ii _ => 64 - (intOf ii).toNat)
  case atStart => exact ⟨0, by omega, rfl, H0.out⟩
  case round =>
    obtain ⟨j, hj, rfl, HL⟩ := hrel
    clear H0
    by_cases hlt : j < 64
    · obtain ⟨Q, hQ⟩ : ∃ Q : Nat, j / 8 = Q := ⟨_, rfl⟩
      obtain ⟨R, hR⟩ : ∃ R : Nat, j % 8 = R := ⟨_, rfl⟩
      have hQ8 : Q < 8 := by omega
      have hR8 : R < 8 := by omega
      have hQi : (j : Int) / 8 = (Q : Int) := by omega
      have hRi : (j : Int) % 8 = (R : Int) := by omega
      have hQt : Int.tdiv (j : Int) 8 = (Q : Int) := by rw [Int.tdiv_eq_ediv_of_nonneg (by omega)]; exact hQi
      have hRt : Int.tmod (j : Int) 8 = (R : Int) := by rw [Int.tmod_eq_emod_of_nonneg (by omega)]; exact hRi
      have hcw := (HL.out.b.cell (p := ⟨g, Q, none⟩) hg).trans (HWc.out Q hQ8)
      obtain ⟨V, hV⟩ : ∃ V, recW vs Q = V := ⟨_, rfl⟩
      rw [hV] at hcw
      have hv64 := HV.out Q hQ8
      rw [hV] at hv64
      obtain ⟨x, hxe⟩ : ∃ x, (V / 2 ^ (56 - 8 * R)) % 256 = x := ⟨_, rfl⟩
      have hx : x < 256 := by rw [← hxe]; exact Nat.mod_lt _ (by decide)
      have EX : (V : Int) / 2 ^ (56 - 8 * R) % 256 = (x : Int) := by rw [← hxe]; simp
      have HP := HL.out.put
      have eb : byt (recW vs (j / 8)) (j % 8) = x := by rw [hQ, hR, hV]; exact hxe
      rw [eb] at HP
      have HPu := Lib.hid HP
      have pc : wr.cell? ⟨w.heap.size + 1, j, none⟩ = some (wrdV (recW vs) j j) := HL.out.p.cell hlt
      have pf := HL.out.p.frozen (i := j)
      clear HP eb hQ hR hV hxe
      go_wp2
      go_roundw
      case rel => exact ⟨j + 1, by omega, by go_num, HPu.out⟩
      case measure => simp [intOf]; omega
    · have h6 : j = 64 := by omega
      subst h6
      obtain ⟨cs, hcs, hn, hcc⟩ := HL.out.p
      obtain ⟨rs, hrs, hrn, _⟩ := HL.out.r
      have hcs' := rec_eq vs cs hn (fun i hi => by rw [hcc i hi]; exact congrArg some (recW_rec vs i hi))
      have HB := Lib.hid HL.out.b
      have HCS : Hid (wr.heap[w.heap.size + 1]? = some (.cells ((recL vs).map cell).toArray TP (0, 0))) := by rw [← hcs']; exact hcs
      have HRS := Lib.hid hrs
      have HI6 : Hid ((Tryd.prog.info? TP).map (·.size) = some ((recL vs).map cell).toArray.size) := by show _ = _; rw [info_P]; simp [recL_len]
      have HO6 : Hid (rs.size = ((recL vs).map cell).toArray.size) := by show _ = _; rw [hrn]; simp [recL_len]
      clear HL hcs hcs' hrs hcc hn hrn HV
      go_wp2_with (first
        | (refine wpList_load_row rfl TP (.tmp 3) rfl (w.heap.size + 1) rfl TP ((recL vs).map cell).toArray (0, 0) _ HCS.out Tryd.underlying39 rfl HI6.out ?_)
        | (refine Go.wpList_store_rowTo rfl TP (.tmp 2) (.tmp 23) rfl rfl w.heap.size ((recL vs).map cell).toArray rfl rfl TP rs HRS.out HI6.out HO6.out (rec_one vs) ?_))
      refine bodyPost_ret (results_cell_row (g := w.heap.size) (t := TP) (cs := ((recL vs).map cell).toArray) (fr := (0, 0)) Tryd.results34 _ _ _ rfl ?_ Tryd.underlying39 rfl HI6.out) rfl ?_
      · exact setRow_heap _ _ _ _ _ _ HRS.out
      · exact ⟨rfl, below_setRow HB.out (Nat.le_refl _) _⟩
/-- Appending words to a row of the call's own. -/
theorem wpList_append_U {w : World} {ops : Array Oper} {rest : List Oper} {o : Oper} {a : Act} {Q : Exit → Act → World → Prop} (hgd : o.guard = none) (s x : Operand)
    (ho : o.op = .call { callee := .builtin .append, args := #[s, x], argTypes := #[TUS, TUS] }) (base : Nat) (ao : Option Addr) (n c : Nat) (vs : List Value) (ad m cs : Nat) (news : List Value) (hown : w.ownsRow base TU64 1 (.slice ao n c) n vs) (hl : news.length = m)
    (hq : ∀ j u, news[j]? = some u → w.cell? ⟨ad, j, none⟩ = some u) (h1 : ∀ u ∈ news, u.oneCell' = true) (h40 : n + m ≤ 1000) (hbase : base ≤ w.heap.size) (hs : a.eval s = .slice ao n c) (hx : a.eval x = .slice (some ⟨ad, 0, none⟩) m cs)
    (h : ∀ ao' c' w', w'.ownsRow base TU64 1 (.slice ao' (n + m) c') (n + m) (vs ++ news) → w.grownBy w' (Value.slice ao n c).ownBlock → wpList Tryd.prog ops Q rest (a.put o.dst (.slice ao' (n + m) c')) w') : wpList Tryd.prog ops Q (o :: rest) a w := by
  refine wpList_plain hgd fun K hK => ?_
  obtain ⟨i0, hi, hz0, hz1, hz2⟩ := info_parts infoU64
  have ade : ∀ j, (⟨ad, 0, none⟩ : Addr).add j = ⟨ad, j, none⟩ := fun j => by unfold Addr.add; split <;> simp_all
  obtain ⟨v', w', g1, g2, g3, g5⟩ := run_append_wide (P := Tryd.prog) w base TUS o.type TU64 i0 (.int .u64 0) 1 8 Tryd.underlying66 hi hz0 hz1 hz2 rfl (by decide) (by decide) _ n _ hown ⟨ad, 0, none⟩ m cs news (by rw [hl, Nat.mul_one]) (fun j t hj => by rw [ade]; exact hq j t hj) h1 (by unfold maxLen; omega) (by omega) hbase
  obtain ⟨ao', c', rfl, _⟩ := ownsRow_shape g2
  unfold Oper.wp
  simp [execOp, ho, resolve, invoke, builtin, hs, hx, g1, Result.andThen]
  exact hK _ _ (h _ _ _ g2 g3)
theorem txc_news {g : Nat} {vs : Nat → Nat} {W : World} (h : TXC g vs W) : ∀ j u, (txC vs)[j]? = some u → W.cell? ⟨g, j, none⟩ = some u := fun k x hx => by
  have hk : k < 6 := by
    rcases Nat.lt_or_ge k 6 with h | h
    · exact h
    · rw [List.getElem?_eq_none (by simp [txC]; omega)] at hx; cases hx
  rw [txC_get vs k hk] at hx
  rw [← hx]; exact h.2 k hk
structure RR (w : World) (W : World) : Prop where
  b : Below w.heap.size w W
  r : W.rowIs (w.heap.size + 1) TP 64 (fun _ => .int .u8 0)
theorem RR.below {w W W' : World} (h : RR w W) (hb : Below W.heap.size W W') : RR w W' := ⟨h.b.trans (hb.mono h.b.size), h.r.of_block (hb.block _ h.r.lt)⟩
theorem RR.below' {w W W' : World} (h : RR w W) (hb : Below (w.heap.size + 2) W W') : RR w W' := ⟨h.b.trans (hb.mono (by omega)), h.r.of_block (hb.block _ (by omega))⟩
theorem lit1 (w : World) (x y : Obj) : (((w.alloc x).alloc y).alloc (.cells #[.int .u64 1] TU64)).ownsRow (w.heap.size + 2) TU64 1 (.slice (some ⟨w.heap.size + 2, 0, none⟩) 1 1) 1 [.int .u64 1] := by
  have hn : (((w.alloc x).alloc y).alloc (.cells #[.int .u64 1] TU64)).heap[((w.alloc x).alloc y).heap.size]? = some (.cells #[.int .u64 1] TU64) := heap_alloc_new _ _
  rw [World.size_alloc, World.size_alloc] at hn
  exact ⟨rfl, .inr ⟨w.heap.size + 2, 1, _, rfl, Nat.le_refl _, hn, Nat.le_refl _, by decide, rfl, rfl⟩⟩
theorem own_some {W : World} {base n c : Nat} {a : Option Addr} {T : TypeId} {size : Nat} {xs : List Value} (h : W.ownsRow base T size (.slice a n c) n xs) (hn : 0 < n) : ∃ g, a = some ⟨g, 0, none⟩ ∧ g < W.heap.size := by
  rcases h.2 with ⟨_, e⟩ | ⟨g, cap, cur, e, _, hh, _⟩
  · omega
  · injection e with e
    exact ⟨g, e, lt_of_block hh⟩
theorem rec_cells {W : World} {base c g : Nat} {vs : Nat → Nat} (h : W.ownsRow base TU64 1 (.slice (some ⟨g, 0, none⟩) 8 c) 8 (([.int .u64 1] ++ txC vs) ++ [.int .u64 0])) : ∀ k, k < 8 → W.cell? ⟨g, k, none⟩ = some (.int .u64 (recW vs k)) := fun k hk => by
  rw [h.cellAt k (by omega)]
  rcases (by omega : k = 0 ∨ k = 1 ∨ k = 2 ∨ k = 3 ∨ k = 4 ∨ k = 5 ∨ k = 6 ∨ k = 7) with rfl | rfl | rfl | rfl | rfl | rfl | rfl | rfl <;> rfl
set_option maxRecDepth 100000 in
set_option maxHeartbeats 4000000 in
theorem rrec_V (vs : Nat → Nat) (w : World) (hv : wide vs) :
    Calls Tryd.prog 12 #[.agg #[.int .u64 (vs 0), .int .u64 (vs 1), .int .u64 (vs 2), .int .u64 (vs 3), .int .u64 (vs 4), .int .u64 (vs 5)]] w (fun e w' => e = .returned (.agg ((recL vs).map cell).toArray) ∧ Below w.heap.size w w') := by
  have HV := Lib.hid hv
  have HT0 := Lib.hid (txc_new w vs TTX _ rfl)
  have x0 := HT0.out.2 0 (by decide)
  have x1 := HT0.out.2 1 (by decide)
  have x2 := HT0.out.2 2 (by decide)
  have x3 := HT0.out.2 3 (by decide)
  have x4 := HT0.out.2 4 (by decide)
  have x5 := HT0.out.2 5 (by decide)
  have hR0 : RR w ((w.alloc (.cells #[.int .u64 (vs 0), .int .u64 (vs 1), .int .u64 (vs 2), .int .u64 (vs 3), .int .u64 (vs 4), .int .u64 (vs 5)] TTX)).alloc (.cells Z64 TP)) := by
    have hz : ∀ i, i < Z64.size → Z64[i]? = some (Value.int .u8 0) := fun i hi => Z64_get i (by rw [← Z64_size]; exact hi)
    have := World.rowIs_alloc (w.alloc (.cells #[.int .u64 (vs 0), .int .u64 (vs 1), .int .u64 (vs 2), .int .u64 (vs 3), .int .u64 (vs 4), .int .u64 (vs 5)] TTX)) Z64 TP (fun _ => .int .u8 0) hz
    rw [Z64_size, World.size_alloc] at this
    exact ⟨((Below.refl _ _).alloc (Nat.le_refl _) _).alloc (by simp) _, this⟩
  have HR0 := Lib.hid hR0
  clear hv hR0
  go_enter Tryd.func12, Tryd.ntmps12
  go_wp2_with (first
    | (refine Go.Great.wpList_allocTo rfl (some 2) rfl _ _ (alloc_P _ _ _ rfl) ?_; simp only [World.size_alloc])
    | (go_at_call 24; (with_reducible refine (rfields_V vs _).mono ?_); rintro e w2 ⟨g, rfl, hg, htc, hb2⟩; have HR2 := Lib.hid ((HR0.out.below ((Below.refl _ _).alloc (Nat.le_refl _) (.cells #[.int .u64 1] TU64))).below hb2); have HO2 := Lib.hid (ownsRow_below (lit1 w (.cells #[.int .u64 (vs 0), .int .u64 (vs 1), .int .u64 (vs 2), .int .u64 (vs 3), .int .u64 (vs 4), .int .u64 (vs 5)] TTX) (.cells Z64 TP)) hb2); have HT2 := Lib.hid htc; have hs2 := HR2.out.r.lt; have hg2 := htc.1; clear hg htc hb2)
    | (at_builtin; refine wpList_append_U rfl (.tmp 3) (.tmp 5) rfl (w.heap.size + 2) (some ⟨w.heap.size + 2, 0, none⟩) 1 1 [.int .u64 1] g 6 6 (txC vs) HO2.out rfl (txc_news HT2.out) (txC_one vs) (by omega) (by omega) rfl rfl ?_; intro a3 c3 w3 ho hgr; have HR3 := Lib.hid (HR2.out.below' (grownR_below hgr HO2.out (Nat.le_refl _) (by omega))); have HO3 := Lib.hid ho; clear ho hgr)
    | (at_builtin; have HOx := Lib.hid (ownsRow_below HO3.out ((Below.refl _ _).alloc (Nat.le_refl _) (.cells #[.int .u64 0] TU64))); have HRx := Lib.hid (HR3.out.below ((Below.refl _ _).alloc (Nat.le_refl _) (.cells #[.int .u64 0] TU64))); refine wpList_append_U rfl (.tmp 6) (.tmp 7) rfl (w.heap.size + 2) a3 (1 + 6) c3 ([.int .u64 1] ++ txC vs) w3.heap.size 1 1 [.int .u64 0] HOx.out rfl (newC rfl) (by simp [Value.oneCell']) (by omega) HRx.out.r.lt rfl rfl ?_; intro a4 c4 w4 ho hgr; have HR4 := Lib.hid (HRx.out.below' (grownR_below hgr HOx.out (Nat.le_refl _) HRx.out.r.lt)); have HO4 : Hid (w4.ownsRow (w.heap.size + 2) TU64 1 (.slice a4 8 c4) 8 (([.int .u64 1] ++ txC vs) ++ [.int .u64 0])) := ho; clear ho hgr; obtain ⟨g4, ha4, hg4⟩ := own_some HO4.out (by omega); subst ha4; have HG4 := Lib.hid hg4; clear hg4)
    | (go_at_call 34; (with_reducible refine (rwords_V vs _ g4 c4 HG4.out (rec_cells HO4.out) HV.out).mono ?_); rintro e w5 ⟨rfl, hb5⟩; have HR5 := Lib.hid (HR4.out.below hb5); clear hb5)
    | (obtain ⟨rs, hrs, hrn, _⟩ := HR5.out.r; have HRS := Lib.hid hrs; have HI6 : Hid ((Tryd.prog.info? TP).map (·.size) = some ((recL vs).map cell).toArray.size) := (by show _ = _; rw [info_P]; simp [recL_len]); have HO6 : Hid (rs.size = ((recL vs).map cell).toArray.size) := (by show _ = _; rw [hrn]; simp [recL_len]); refine Go.wpList_store_rowTo rfl TP (.tmp 2) (.tmp 9) rfl rfl (w.heap.size + 1) ((recL vs).map cell).toArray rfl rfl TP rs HRS.out HI6.out HO6.out (rec_one vs) ?_; clear hrs hrn))
  refine bodyPost_ret (results_cell_row (g := w.heap.size + 1) (t := TP) (cs := ((recL vs).map cell).toArray) (fr := (0, 0)) Tryd.results12 _ _ _ rfl ?_ Tryd.underlying39 rfl HI6.out) rfl ?_
  · exact setRow_heap _ _ _ _ _ _ HRS.out
  · exact ⟨rfl, below_setRow HR5.out.b (Nat.le_succ _) _⟩
end Go.Proofs.YtgcpnhnckbgjmaaDoor
