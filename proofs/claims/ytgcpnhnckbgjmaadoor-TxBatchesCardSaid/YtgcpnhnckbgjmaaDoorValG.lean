/-
  Several texts in one (merge.py): Val, RTDec, RTUn.
-/
import Derived.Test.YtgcpnhnckbgjmaaDoorValPl
import Derived.Test.YtgcpnhnckbgjmaaDoorTxEqG
import Derived.Test.YtgcpnhnckbgjmaaDoorRDec
import Derived.Test.YtgcpnhnckbgjmaaDoorDecPl
/-
  mootref03.Value by its contract.
-/
set_option linter.unusedVariables false
set_option linter.unusedSimpArgs false
namespace Go.Proofs.YtgcpnhnckbgjmaaDoor
open Go.RowKit
variable {F : Nat → Prop}
set_option maxRecDepth 100000 in
set_option maxHeartbeats 1000000 in
theorem rvalue_V (k : Nat) (x : Rlp.It) (vl vb vi : Value) (w : World) (h : IsIt F w k x vl vb vi) :
    Calls Tryd.prog 30 #[.agg #[vl, vb, vi]] w fun e w' => e = .returned (.tuple #[.int .u64 (val x).1, .int .i64 (val x).2]) ∧ Below w.heap.size w w' := by
  cases k with
  | zero => exact h.elim
  | succ k =>
    obtain ⟨l, bs, its⟩ := x
    obtain ⟨rfl, ⟨a, c, rfl, hb1, hb2, hn, hb⟩, a', c', rfl, hc1, hc2, h9⟩ := h
    simp only [Rlp.It.items, Rlp.It.bytes, Rlp.It.list] at hb1 hc1 hb ⊢
    unfold maxLen at hb2 hc2
    obtain ⟨n, hn2⟩ : ∃ n, its.length = n := ⟨_, rfl⟩
    obtain ⟨m, hm⟩ : ∃ m, bs.length = m := ⟨_, rfl⟩
    rw [hn2] at hc1 ⊢
    rw [hm] at hb1 ⊢
    have HM := Lib.hid hm
    have HB := Lib.hid hb
    have AL : Below w.heap.size w (w.alloc (.cells #[.bool l, .slice a m c, .slice a' n c'] TI)) := (Below.refl _ _).alloc (Nat.le_refl _) _
    clear h9 hm hb hn hn2
    cases l
    · by_cases h8 : 8 < m
      · have E : Hid (val (.mk false bs its) = (0, 12)) := by show _ = _; simp [val, Rlp.It.list, Rlp.It.bytes, HM.out, h8]
        rw [E.out]
        go_enter Tryd.func30, Tryd.ntmps30
        go_wp2
        go_returns
        exact ⟨rfl, AL⟩
      · have h8' : m ≤ 8 := by omega
        by_cases h0 : 0 < m ∧ (bs.getD 0 0).toNat = 0
        · have E : Hid (val (.mk false bs its) = (0, 12)) := by
            show _ = _
            simp only [val, Rlp.It.list, Rlp.It.bytes, Bool.false_eq_true, if_false]
            exact if_pos (Or.inr ⟨by rw [HM.out]; exact h0.1, h0.2⟩)
          rw [E.out]
          obtain ⟨b, off, rfl, hF, hl, hc⟩ := HB.out 0 (by rw [HM.out]; exact h0.1)
          rw [h0.2, Nat.add_zero, ← AL.cell (p := ⟨b, off, none⟩) hl] at hc
          have hm0 := h0.1
          clear h0 h8
          go_enter Tryd.func30, Tryd.ntmps30
          go_wp2
          go_returns
          exact ⟨rfl, AL⟩
        · have E : Hid (val (.mk false bs its) = (Rlp.num bs, 0)) := by
            show _ = _
            simp only [val, Rlp.It.list, Rlp.It.bytes, Bool.false_eq_true, if_false]
            exact if_neg (by rw [HM.out]; omega)
          rw [E.out]
          have hq : 0 < m → ∃ b off y, a = some ⟨b, off, none⟩ ∧ (w.alloc (.cells #[.bool false, .slice a m c, .slice a' n c'] TI)).cell? ⟨b, off, none⟩ = some (.int .u8 (y : Nat)) ∧ 0 < y := by
            intro hm0
            obtain ⟨b, off, rfl, hF, hl, hc⟩ := HB.out 0 (by rw [HM.out]; exact hm0)
            rw [Nat.add_zero, ← AL.cell (p := ⟨b, off, none⟩) hl] at hc
            exact ⟨b, off, _, rfl, hc, by omega⟩
          clear h0
          rcases Nat.eq_zero_or_pos m with hm0 | hm0
          · subst hm0
            have e0 : bs = [] := List.length_eq_zero_iff.1 HM.out
            subst e0
            clear hq
            go_enter Tryd.func30, Tryd.ntmps30
            go_wp2
            refine wp_loop_rounds 1 ?_
            rw [rounds_succ]
            go_wp2
            go_returns
            exact ⟨rfl, AL⟩
          · obtain ⟨b, off, y, rfl, hc, hy⟩ := hq hm0
            clear hq
            have hy2 : ((y : Int) == 0) = false := by simp; omega
            have hm2 : decide ((m : Int) > 8) = false := by simp; omega
            have hm3 : decide ((m : Int) > 0) = true := by simp; omega
            go_enter Tryd.func30, Tryd.ntmps30
            go_wp2
            go_loop [4, 5] (fun v i => ∃ (j : Nat) (V : Int), j ≤ m ∧ i = .int .i64 j ∧ v = .int .u64 V ∧ Hid (V = (Rlp.num (bs.take j) : Nat))) (fun _ i => m - (intOf i).toNat)
            case atStart => exact ⟨0, 0, by omega, rfl, rfl, by show _ = _; simp [Rlp.num]⟩
            case round =>
              obtain ⟨j, V, hj, rfl, rfl, HV⟩ := hrel
              by_cases hlt : j < m
              · have hjl : j < bs.length := by rw [HM.out]; exact hlt
                obtain ⟨b', off', e, hF, hl, hcj⟩ := HB.out j hjl
                injection e with e
                injection e with e1 e2
                subst e1; subst e2
                rw [← AL.cell (p := ⟨b, off + j, none⟩) hl] at hcj
                have hv := num_56 bs j (by omega)
                have et := num_take bs j hjl
                have hV0 : 0 ≤ V := by have := HV.out; omega
                have hV1 : V ≤ 72057594037927935 := by have := HV.out; omega
                obtain ⟨x, hx⟩ : ∃ x, x = (bs.getD j 0).toNat := ⟨_, rfl⟩
                have hx2 : x ≤ 255 := by have := (bs.getD j 0).toNat_lt; omega
                rw [← hx] at hcj et
                have ET : Hid (V * 256 + x = (Rlp.num (bs.take (j + 1)) : Nat)) := by have := HV.out; show _ = _; omega
                clear et hv hx hjl
                go_wp2
                go_round
                case rel => exact ⟨j + 1, V * 256 + x, by omega, by go_num, by go_num, ET⟩
                case measure => simp [intOf]; omega
              · have hjm : m = j := by omega
                have EV : Hid (V = (Rlp.num bs : Nat)) := by have := HV.out; rw [← hjm, ← HM.out, List.take_length] at this; exact this
                have hjm' : j = m := hjm.symm
                subst hjm'
                clear hjm
                go_wp2
                go_returns
                exact ⟨by rw [← EV.out]; rfl, AL⟩
    · have E : Hid (val (.mk true bs its) = (0, 3)) := by show _ = _; simp [val, Rlp.It.list]
      rw [E.out]
      go_enter Tryd.func30, Tryd.ntmps30
      go_wp2
      go_returns
      exact ⟨rfl, AL⟩
end Go.Proofs.YtgcpnhnckbgjmaaDoor
/-
  mootref04.Decode by its contract.
-/
set_option linter.unusedVariables false
set_option linter.unusedSimpArgs false
namespace Go.Proofs.YtgcpnhnckbgjmaaDoor
open Go.RowKit
variable {F : Nat → Prop}
/-- What mootref04.Decode answers. -/
def RTDec (w : World) (r : Except (Option Nat × Nat) (Nat → Nat)) (e : Ending) (w' : World) : Prop :=
  Below w.heap.size w w' ∧ match r with
  | .error (some p, c) => e = .returned (.tuple #[ZT, .int .i64 p, .int .i64 c])
  | .error (none, c) => e = .returned (.tuple #[ZT, .int .i64 (-1), .int .i64 c])
  | .ok vs => e = .returned (.tuple #[.agg #[.int .u64 (vs 0), .int .u64 (vs 1), .int .u64 (vs 2), .int .u64 (vs 3), .int .u64 (vs 4), .int .u64 (vs 5)], .int .i64 (-1), .int .i64 0])
set_option maxRecDepth 100000 in
set_option maxHeartbeats 1000000 in
theorem rtdec_err (w : World) (a : Option Addr) (n c : Nat) (b : List UInt8) (hl : b.length = n) (hc : n ≤ c) (hcm : c ≤ maxLen) (hb : BytesF F w a b) (p k : Nat) (h : Rlp.decode b = .error (p, k)) :
    Calls Tryd.prog 8 #[.slice a n c] w (RTDec w (.error (some p, k))) := by
  have HC := Lib.hid (rdec_V (w.alloc (.cells #[.int .u64 0, .int .u64 0, .int .u64 0, .int .u64 0, .int .u64 0, .int .u64 0] TTX)) a n c b hl hc hcm (hb.below ((Below.refl _ _).alloc (Nat.le_refl _) _)))
  have HD := Lib.hid h
  have hkz : k ≠ 0 := decode_ne h
  have hk1 : ((k : Int) != 0) = true := by simp; omega
  clear hl hb h
  go_enter Tryd.func8, Tryd.ntmps8
  go_wp2_with (first
    | (go_at_call 29; (with_reducible refine HC.out.mono ?_); rintro e w2 he; rw [HD.out] at he; obtain ⟨hb2, rfl⟩ := he; have HS := Lib.hid ((Six.new w (.int .u64 0) (.int .u64 0) (.int .u64 0) (.int .u64 0) (.int .u64 0) (.int .u64 0) TTX).below hb2); have q0 := HS.out.c0; have q1 := HS.out.c1; have q2 := HS.out.c2; have q3 := HS.out.c3; have q4 := HS.out.c4; have q5 := HS.out.c5; have f0 := HS.out.f0; have f1 := HS.out.f1; have f2 := HS.out.f2; have f3 := HS.out.f3; have f4 := HS.out.f4; have f5 := HS.out.f5; have hs := HS.out.lt; clear hb2)
    | ((with_reducible refine bodyPost_ret (by simp [results, Tryd.results8, go_sem, q0, q1, q2, q3, q4, q5, hs]; try rfl) rfl ?_); exact ⟨(below_set6 HS.out.b (Nat.le_refl _) _ _ _ _ _ _).alloc (by simp; omega) _, rfl⟩))
set_option maxRecDepth 100000 in
set_option maxHeartbeats 1000000 in
theorem rtdec_shape (w : World) (a : Option Addr) (n c : Nat) (b : List UInt8) (hl : b.length = n) (hc : n ≤ c) (hcm : c ≤ maxLen) (hb : BytesF F w a b) (x : Rlp.It) (h : Rlp.decode b = .ok x) (hx : x.list = false ∨ x.items.length ≠ 6) :
    Calls Tryd.prog 8 #[.slice a n c] w (RTDec w (.error (none, 3))) := by
  have HC := Lib.hid (rdec_V (w.alloc (.cells #[.int .u64 0, .int .u64 0, .int .u64 0, .int .u64 0, .int .u64 0, .int .u64 0] TTX)) a n c b hl hc hcm (hb.below ((Below.refl _ _).alloc (Nat.le_refl _) _)))
  have HD := Lib.hid h
  have HX := Lib.hid hx
  clear hl hb h hx
  have took : ∀ e w2, RDecRet (w.alloc (.cells #[.int .u64 0, .int .u64 0, .int .u64 0, .int .u64 0, .int .u64 0, .int .u64 0] TTX)) (.ok x) e w2 → ∃ l a1 n1 c1 a2 n2 c2, e = .returned (.tuple #[.agg #[.bool l, .slice a1 n1 c1, .slice a2 n2 c2], .int .i64 0, .int .i64 0]) ∧ Six w w2 (.int .u64 0) (.int .u64 0) (.int .u64 0) (.int .u64 0) (.int .u64 0) (.int .u64 0) ∧ (l = false ∨ (l = true ∧ ((n2 : Int) != 6) = true)) := by
    rintro e w2 ⟨hb2, vl, vb, vi, rfl, hit⟩
    obtain ⟨h1, ⟨a1, c1, h2, _⟩, a2, c2, h3, _⟩ := hit
    subst h1; subst h2; subst h3
    refine ⟨_, _, _, _, _, _, _, rfl, (Six.new w (.int .u64 0) (.int .u64 0) (.int .u64 0) (.int .u64 0) (.int .u64 0) (.int .u64 0) TTX).below hb2, ?_⟩
    cases hl : x.list with
    | false => exact .inl rfl
    | true =>
      right
      refine ⟨rfl, ?_⟩
      rcases HX.out with h | h
      · rw [hl] at h; cases h
      · simp; omega
  have HT := Lib.hid took
  clear took
  go_enter Tryd.func8, Tryd.ntmps8
  go_wp2_with (first
    | (go_at_call 29; (with_reducible refine HC.out.mono ?_); rintro e w2 he; rw [HD.out] at he; obtain ⟨l, a1, n1, c1, a2, n2, c2, rfl, hS, hor⟩ := HT.out _ _ he; clear he; have HS := Lib.hid hS; have q0 := HS.out.c0; have q1 := HS.out.c1; have q2 := HS.out.c2; have q3 := HS.out.c3; have q4 := HS.out.c4; have q5 := HS.out.c5; have f0 := HS.out.f0; have f1 := HS.out.f1; have f2 := HS.out.f2; have f3 := HS.out.f3; have f4 := HS.out.f4; have f5 := HS.out.f5; have hs := HS.out.lt; rcases hor with rfl | ⟨rfl, hn6⟩; clear hS)
    | ((with_reducible refine bodyPost_ret (by simp [results, Tryd.results8, go_sem, q0, q1, q2, q3, q4, q5, hs]; try rfl) rfl ?_); exact ⟨(below_set6 HS.out.b (Nat.le_refl _) _ _ _ _ _ _).alloc (by simp; omega) _, rfl⟩))
/-! ### The loop -/
/-- What lies there in the loop. -/
structure DM (w : World) (X : Nat) (its : List Rlp.It) (vs : Nat → Nat) (b1 : Value) (a2 : Option Addr) (c2 : Nat) (W : World) : Prop where
  r : Six w W (.int .u64 0) (.int .u64 0) (.int .u64 0) (.int .u64 0) (.int .u64 0) (.int .u64 0)
  hX : w.heap.size < X ∧ X + 1 < W.heap.size
  xi : SlotI W X (.bool true) b1 (.slice a2 6 c2)
  t : ∀ k, k < 6 → W.cell? ⟨X + 1, k, none⟩ = some (.int .u64 (vs k))
  f : ∀ k, k < 6 → W.frozen? ⟨X + 1, k, none⟩ = false
  i : ItsAt (fun b => w.heap.size < b ∧ b < X) W 16 a2 its
theorem DM.below {w : World} {X : Nat} {its : List Rlp.It} {vs : Nat → Nat} {b1 : Value} {a2 : Option Addr} {c2 : Nat} {W W' : World} (h : DM w X its vs b1 a2 c2 W) (hb : Below W.heap.size W W') : DM w X its vs b1 a2 c2 W' :=
  ⟨h.r.below hb, ⟨h.hX.1, by have := h.hX.2; have := hb.size; omega⟩, h.xi.below hb, fun k hk => by rw [hb.cell (p := ⟨X + 1, k, none⟩) h.hX.2]; exact h.t k hk, fun k hk => by rw [hb.frozen (p := ⟨X + 1, k, none⟩) h.hX.2]; exact h.f k hk, h.i.move fun b hF hl => ⟨hF, by have := hb.size; omega, hb.block b hl⟩⟩
theorem DM.store {w : World} {X : Nat} {its : List Rlp.It} {vs : Nat → Nat} {b1 : Value} {a2 : Option Addr} {c2 : Nat} {W : World} (h : DM w X its vs b1 a2 c2 W) (j v : Nat) (hj : j < 6) : DM w X its (fun k => if k = j then v else vs k) b1 a2 c2 (W.setCell ⟨X + 1, j, none⟩ (.int .u64 v)) := by
  have hB : Below (X + 1) W (W.setCell ⟨X + 1, j, none⟩ (.int .u64 v)) := by refine (Below.refl _ _).setCell ?_ _; exact Nat.le_refl _
  have hx := h.hX
  refine ⟨h.r.at (by omega) hB, ⟨hx.1, by simpa using hx.2⟩, h.xi.keep (by simp) (hB.block _ (by omega)), fun k hk => ?_, fun k hk => by rw [World.frozen?_setCell]; exact h.f k hk, h.i.move fun b hF hl => ⟨hF, by simpa using hl, hB.block _ (by omega)⟩⟩
  by_cases e : k = j
  · subst e
    simp only [if_true]
    exact World.cell?_setCell_same _ _ _ (h.t k hk)
  · rw [if_neg e, World.cell?_setCell_other _ _ _ _ (fun h2 => e (by injection h2 with _ h2; exact h2.symm))]
    exact h.t k hk
abbrev TUS : TypeId := 66
abbrev TU64 : TypeId := 22
theorem infoU64 : (Tryd.prog.info? TU64).map (fun i => (i.zero, i.size, i.bytes)) = some (some (.int .u64 0), 1, 8) := by kernel_rfl
/-- 'make([]uint64, 6)'. -/
theorem wpList_make6 {w : World} {ops : Array Oper} {rest : List Oper} {o : Oper} {a : Act} {Q : Exit → Act → World → Prop} (hg : o.guard = none) (l c : Operand) (hop : o.op = Op.makeSlice TUS l c) (hl : a.eval l = .int .i64 6) (hc : a.eval c = .int .i64 6)
    (hK : ∀ w', (∀ k, k < 6 → w'.cell? ⟨w.heap.size, k, none⟩ = some (.int .u64 0)) → (∀ k, k < 6 → w'.frozen? ⟨w.heap.size, k, none⟩ = false) → w.heap.size < w'.heap.size → Below w.heap.size w w' → wpList Tryd.prog ops Q rest (a.put o.dst (.slice (some ⟨w.heap.size, 0, none⟩) 6 6)) w') : wpList Tryd.prog ops Q (o :: rest) a w := by
  obtain ⟨i0, hi, hz0, hz1, hz2⟩ := info_parts infoU64
  refine wpList_make_full w hg l c TUS hop w.heap.size TU64 i0 (.int .u64 0) 1 Tryd.underlying66 hi hz0 hz1 .i64 .i64 6 6 6 hl hc rfl rfl (by rw [hz2]; decide) (by decide) (Nat.le_refl _) fun w' ho hgr => ?_
  refine hK w' (fun k hk => ?_) (fun k hk => ho.frozenAt k) ?_ (Below.grown (Below.refl _ _) hgr (Nat.le_refl _) (fun k hk => by cases hk))
  · rw [ho.cellAt k (by omega)]
    rcases (by omega : k = 0 ∨ k = 1 ∨ k = 2 ∨ k = 3 ∨ k = 4 ∨ k = 5) with rfl | rfl | rfl | rfl | rfl | rfl <;> simp [madeCells, Value.cells]
  · exact (World.ownsRow.lt ho w.heap.size rfl).2
theorem st6 {g b : Nat} {vs : Nat → Nat} {W : World} (h : TXC g vs W) (hn : g ≠ b) (u0 u1 u2 u3 u4 u5 : Value) : TXC g vs ((((((W.setCell ⟨b, 0, none⟩ u0).setCell ⟨b, 1, none⟩ u1).setCell ⟨b, 2, none⟩ u2).setCell ⟨b, 3, none⟩ u3).setCell ⟨b, 4, none⟩ u4).setCell ⟨b, 5, none⟩ u5) := by
  have one : ∀ (W : World) (k : Nat) (u : Value), TXC g vs W → TXC g vs (W.setCell ⟨b, k, none⟩ u) := fun W k u h => h.keep (by simp) (Below.heap_setCell _ _ _ _ (fun e => hn e))
  exact one _ _ _ (one _ _ _ (one _ _ _ (one _ _ _ (one _ _ _ (one _ _ _ h)))))
theorem RTDec.okR {w W : World} {x : Rlp.It} {e : Ending} (hb : Below w.heap.size w W) (h : tRes x = .ok (tNum x)) (he : e = .returned (.tuple #[.agg #[.int .u64 (tNum x 0), .int .u64 (tNum x 1), .int .u64 (tNum x 2), .int .u64 (tNum x 3), .int .u64 (tNum x 4), .int .u64 (tNum x 5)], .int .i64 (-1), .int .i64 0])) : RTDec w (tRes x) e W := by
  rw [h]; exact ⟨hb, he⟩
theorem RTDec.errR {w W : World} {x : Rlp.It} {e : Ending} {j c : Nat} (hb : Below w.heap.size w W) (h : tRes x = .error (some j, c)) (he : e = .returned (.tuple #[ZT, .int .i64 j, .int .i64 c])) : RTDec w (tRes x) e W := by
  rw [h]; exact ⟨hb, he⟩
set_option maxRecDepth 100000 in
set_option maxHeartbeats 4000000 in
theorem rtdec_list (w : World) (a : Option Addr) (n c : Nat) (b : List UInt8) (hl : b.length = n) (hc : n ≤ c) (hcm : c ≤ maxLen) (hb : BytesF F w a b) (x : Rlp.It) (h : Rlp.decode b = .ok x) (hx : x.list = true) (hx6 : x.items.length = 6) :
    Calls Tryd.prog 8 #[.slice a n c] w (RTDec w (tRes x)) := by
  have HC := Lib.hid (rdec_V (w.alloc (.cells #[.int .u64 0, .int .u64 0, .int .u64 0, .int .u64 0, .int .u64 0, .int .u64 0] TTX)) a n c b hl hc hcm (hb.below ((Below.refl _ _).alloc (Nat.le_refl _) _)))
  have HD := Lib.hid h
  have HX := Lib.hid hx
  have H6 := Lib.hid hx6
  clear hl hb h hx hx6
  have took : ∀ e w2, RDecRet (w.alloc (.cells #[.int .u64 0, .int .u64 0, .int .u64 0, .int .u64 0, .int .u64 0, .int .u64 0] TTX)) (.ok x) e w2 → ∃ a1 n1 c1 a2 c2, e = .returned (.tuple #[.agg #[.bool true, .slice a1 n1 c1, .slice a2 6 c2], .int .i64 0, .int .i64 0]) ∧ Six w w2 (.int .u64 0) (.int .u64 0) (.int .u64 0) (.int .u64 0) (.int .u64 0) (.int .u64 0) ∧ ItsAt (fun b => w.heap.size < b ∧ b < w2.heap.size) w2 16 a2 x.items := by
    rintro e w2 ⟨hb2, vl, vb, vi, rfl, hit⟩
    obtain ⟨h1, ⟨a1, c1, h2, _⟩, a2, c2, h3, _, _, h9⟩ := hit
    subst h1; subst h2; subst h3
    rw [HX.out, H6.out]
    refine ⟨_, _, _, a2, _, rfl, (Six.new w (.int .u64 0) (.int .u64 0) (.int .u64 0) (.int .u64 0) (.int .u64 0) (.int .u64 0) TTX).below hb2, ?_⟩
    have h9' : ItsAt (fun b => (w.alloc (.cells #[.int .u64 0, .int .u64 0, .int .u64 0, .int .u64 0, .int .u64 0, .int .u64 0] TTX)).heap.size ≤ b) w2 16 a2 x.items := h9
    exact h9'.move fun b hF hl => ⟨⟨by simp at hF; omega, hl⟩, hl, rfl⟩
  have HT := Lib.hid took
  clear took
  go_enter Tryd.func8, Tryd.ntmps8
  go_wp2_with (first
    | (go_at_call 29; (with_reducible refine HC.out.mono ?_); rintro e w2 he; rw [HD.out] at he; obtain ⟨a1, n1, c1, a2, c2, rfl, hS, hI⟩ := HT.out _ _ he; clear he; have HS := Lib.hid hS; have HI := Lib.hid hI; have hs2 := hS.lt; clear hS hI)
    | (at_make; refine wpList_make6 rfl _ _ rfl rfl rfl ?_; intro w3 hc0 hf0 hs3 hb3; have HC0 := Lib.hid hc0; have HF0 := Lib.hid hf0; have HS3 := Lib.hid hs3; have HB3 := Lib.hid hb3; clear hc0 hf0 hs3 hb3))
  have HDM : Hid (DM w w2.heap.size x.items (tPart x 0) (.slice a1 n1 c1) a2 c2 w3) := by
    have hs3 := HS3.out
    have hc0 := HC0.out
    have hf0 := HF0.out
    rw [World.size_alloc] at hs3 hc0 hf0
    refine ⟨(HS.out.below ((Below.refl _ _).alloc (Nat.le_refl _) _)).below HB3.out, ⟨hs2, hs3⟩, (SlotI.new w2 (.bool true) (.slice a1 n1 c1) (.slice a2 6 c2)).below HB3.out, fun k hk => ?_, hf0, HI.out.move fun b hF hl => ⟨hF, by omega, ?_⟩⟩
    · have e : tPart x 0 k = 0 := by unfold tPart; rw [if_neg (by omega)]
      rw [e]; exact hc0 k hk
    · rw [HB3.out.block _ (by simp; omega), heap_alloc_old _ _ hl]
  clear HS HI HC0 HF0 HS3 HB3
  go_loopw [9, 10, 11] (fun ii vv ee wr => ∃ j : Nat, j ≤ 6 ∧ ii = .int .i64 j ∧ Hid (DM w w2.heap.size x.items (tPart x j) (.slice a1 n1 c1) a2 c2 wr) ∧ Hid (tScan x.items 6 0 = tScan x.items (6 - j) j)) (fun ii _ _ _ => 6 - (intOf ii).toNat)
  case atStart => exact ⟨0, by omega, rfl, HDM.out, by show _ = _; rfl⟩
  case round =>
    obtain ⟨j, hj, rfl, HL, HSc⟩ := hrel
    have hwr := HL.out.hX
    clear HDM
    by_cases hlt : j < 6
    · have x2 := HL.out.xi.c2
      obtain ⟨b, off, u, v, z, rfl, hF, hbl, c0, c1', c2', hx⟩ := HL.out.i j (by rw [H6.out]; exact hlt)
      obtain ⟨yl, ya, yn, yc, ya', yn', yc', rfl, rfl, rfl⟩ := hx.shape
      have hjc : decide ((j : Int) < 6) = true := by simp; omega
      obtain ⟨vv, hvv⟩ : ∃ vv, (val (x.items.getD j default)).1 = vv := ⟨_, rfl⟩
      obtain ⟨ce, hce⟩ : ∃ ce, (val (x.items.getD j default)).2 = ce := ⟨_, rfl⟩
      have HVV := Lib.hid hvv
      have HCE := Lib.hid hce
      have HXI := Lib.hid hx
      clear hvv hce hx
      by_cases h0 : ce = 0
      · subst h0
        by_cases hj2 : j < 2
        · by_cases hv : vv < 64
          · have hin : inn j vv = true := by simp [inn, hj2]; omega
            have E : Hid (tScan x.items 6 0 = tScan x.items (6 - (j + 1)) (j + 1)) := by
              show _ = _
              rw [HSc.out, tScan_good _ _ hlt]
              unfold tBad
              rw [HVV.out, HCE.out, if_neg (by simp), if_neg (by rw [hin]; decide)]
            clear hin
            go_wp2_with (first
              | (go_at_call 30; (with_reducible refine (rvalue_V 16 (x.items.getD j default) _ _ _ wr HXI.out).mono ?_); rintro e w4 ⟨rfl, hb4⟩; have HL4 := Lib.hid (HL.out.below hb4); rw [HVV.out, HCE.out]; have c4 := HL4.out.t j hlt; have f4 := HL4.out.f j hlt; have hw4 := HL4.out.hX; clear hb4))
            go_roundw
            case rel =>
              refine ⟨j + 1, by omega, by go_num, ?_, E⟩
              rw [tPart_succ]
              have := HL4.out.store j (tNum x j) hlt
              unfold tNum at this ⊢
              rw [HVV.out] at this ⊢
              exact this
            case measure => simp [intOf]; omega
          · have hin : inn j vv = false := by simp [inn, hj2]; omega
            have E : Hid (tRes x = .error (some j, 2)) := by
              show _ = _
              unfold tRes
              rw [HSc.out, tScan_bad _ _ 2 hlt]
              unfold tBad
              rw [HVV.out, HCE.out, if_neg (by simp), if_pos hin]
            clear hin
            go_wp2_with (go_at_call 30; (with_reducible refine (rvalue_V 16 (x.items.getD j default) _ _ _ wr HXI.out).mono ?_); rintro e w4 ⟨rfl, hb4⟩; have HL4 := Lib.hid (HL.out.below hb4); rw [HVV.out, HCE.out]; have q0 := HL4.out.r.c0; have q1 := HL4.out.r.c1; have q2 := HL4.out.r.c2; have q3 := HL4.out.r.c3; have q4 := HL4.out.r.c4; have q5 := HL4.out.r.c5; have f0 := HL4.out.r.f0; have f1 := HL4.out.r.f1; have f2 := HL4.out.r.f2; have f3 := HL4.out.r.f3; have f4 := HL4.out.r.f4; have f5 := HL4.out.r.f5; have hs := HL4.out.r.lt; clear hb4)
            refine bodyPost_ret (by simp [results, Tryd.results8, go_sem, q0, q1, q2, q3, q4, q5, hs]; try rfl) rfl ?_
            exact RTDec.errR (j := j) (c := 2) (below_set6 HL4.out.r.b (Nat.le_refl _) _ _ _ _ _ _) E.out rfl
        · by_cases hj4 : j = 4
          · have hq4 : ((j : Int) == 4) = true := by simp; omega
            have HJ4 := Lib.hid hj4
            clear hj4
            by_cases hv : vv ≤ 96
            · have hin : inn j vv = true := by have := HJ4.out; subst this; simp [inn]; omega
              have E : Hid (tScan x.items 6 0 = tScan x.items (6 - (j + 1)) (j + 1)) := by
                show _ = _
                rw [HSc.out, tScan_good _ _ hlt]
                unfold tBad
                rw [HVV.out, HCE.out, if_neg (by simp), if_neg (by rw [hin]; decide)]
              clear hin
              go_wp2_with (first
                | (go_at_call 30; (with_reducible refine (rvalue_V 16 (x.items.getD j default) _ _ _ wr HXI.out).mono ?_); rintro e w4 ⟨rfl, hb4⟩; have HL4 := Lib.hid (HL.out.below hb4); rw [HVV.out, HCE.out]; have c4 := HL4.out.t j hlt; have f4 := HL4.out.f j hlt; have hw4 := HL4.out.hX; clear hb4))
              go_roundw
              case rel =>
                refine ⟨j + 1, by omega, by go_num, ?_, E⟩
                rw [tPart_succ]
                have := HL4.out.store j (tNum x j) hlt
                unfold tNum at this ⊢
                rw [HVV.out] at this ⊢
                exact this
              case measure => simp [intOf]; omega
            · have hin : inn j vv = false := by have := HJ4.out; subst this; simp [inn]; omega
              have E : Hid (tRes x = .error (some j, 2)) := by
                show _ = _
                unfold tRes
                rw [HSc.out, tScan_bad _ _ 2 hlt]
                unfold tBad
                rw [HVV.out, HCE.out, if_neg (by simp), if_pos hin]
              clear hin
              go_wp2_with (go_at_call 30; (with_reducible refine (rvalue_V 16 (x.items.getD j default) _ _ _ wr HXI.out).mono ?_); rintro e w4 ⟨rfl, hb4⟩; have HL4 := Lib.hid (HL.out.below hb4); rw [HVV.out, HCE.out]; have q0 := HL4.out.r.c0; have q1 := HL4.out.r.c1; have q2 := HL4.out.r.c2; have q3 := HL4.out.r.c3; have q4 := HL4.out.r.c4; have q5 := HL4.out.r.c5; have f0 := HL4.out.r.f0; have f1 := HL4.out.r.f1; have f2 := HL4.out.r.f2; have f3 := HL4.out.r.f3; have f4 := HL4.out.r.f4; have f5 := HL4.out.r.f5; have hs := HL4.out.r.lt; clear hb4)
              refine bodyPost_ret (by simp [results, Tryd.results8, go_sem, q0, q1, q2, q3, q4, q5, hs]; try rfl) rfl ?_
              exact RTDec.errR (j := j) (c := 2) (below_set6 HL4.out.r.b (Nat.le_refl _) _ _ _ _ _ _) E.out rfl
          · have hin : inn j vv = true := by simp [inn, hj2, hj4]
            have E : Hid (tScan x.items 6 0 = tScan x.items (6 - (j + 1)) (j + 1)) := by
              show _ = _
              rw [HSc.out, tScan_good _ _ hlt]
              unfold tBad
              rw [HVV.out, HCE.out, if_neg (by simp), if_neg (by rw [hin]; decide)]
            clear hin
            go_wp2_with (first
              | (go_at_call 30; (with_reducible refine (rvalue_V 16 (x.items.getD j default) _ _ _ wr HXI.out).mono ?_); rintro e w4 ⟨rfl, hb4⟩; have HL4 := Lib.hid (HL.out.below hb4); rw [HVV.out, HCE.out]; have c4 := HL4.out.t j hlt; have f4 := HL4.out.f j hlt; have hw4 := HL4.out.hX; clear hb4))
            go_roundw
            case rel =>
              refine ⟨j + 1, by omega, by go_num, ?_, E⟩
              rw [tPart_succ]
              have := HL4.out.store j (tNum x j) hlt
              unfold tNum at this ⊢
              rw [HVV.out] at this ⊢
              exact this
            case measure => simp [intOf]; omega
      · have hce1 : ((ce : Int) != 0) = true := by simp; omega
        have E : Hid (tRes x = .error (some j, ce)) := by
          show _ = _
          unfold tRes
          rw [HSc.out, tScan_bad _ _ ce hlt]
          unfold tBad
          rw [HCE.out, if_pos h0]
        go_wp2_with (go_at_call 30; (with_reducible refine (rvalue_V 16 (x.items.getD j default) _ _ _ wr HXI.out).mono ?_); rintro e w4 ⟨rfl, hb4⟩; have HL4 := Lib.hid (HL.out.below hb4); rw [HVV.out, HCE.out]; have q0 := HL4.out.r.c0; have q1 := HL4.out.r.c1; have q2 := HL4.out.r.c2; have q3 := HL4.out.r.c3; have q4 := HL4.out.r.c4; have q5 := HL4.out.r.c5; have f0 := HL4.out.r.f0; have f1 := HL4.out.r.f1; have f2 := HL4.out.r.f2; have f3 := HL4.out.r.f3; have f4 := HL4.out.r.f4; have f5 := HL4.out.r.f5; have hs := HL4.out.r.lt; clear hb4)
        refine bodyPost_ret (by simp [results, Tryd.results8, go_sem, q0, q1, q2, q3, q4, q5, hs]; try rfl) rfl ?_
        exact RTDec.errR (j := j) (c := ce) (below_set6 HL4.out.r.b (Nat.le_refl _) _ _ _ _ _ _) E.out rfl
    · have hj6 : j = 6 := by omega
      subst hj6
      have E : Hid (tRes x = .ok (tNum x)) := by
        show _ = _
        unfold tRes
        rw [HSc.out]; rfl
      have hX := HL.out.hX
      go_wp2
      refine wp_region_relG (TXC (w2.heap.size + 1) (tNum x)) (fun W => Six w W (.int .u64 0) (.int .u64 0) (.int .u64 0) (.int .u64 0) (.int .u64 0) (.int .u64 0) ∧ TXC (w2.heap.size + 1) (tNum x) W) (by kernel_rfl) ⟨HL.out.r.below (by (repeat' (first | (with_reducible exact Below.refl _ _) | (with_reducible refine Below.alloc ?_ ?_ _) | (with_reducible refine Below.drew ?_) | (with_reducible refine Below.setCell ?_ ?_ _) | (with_reducible refine Below.thn (by assumption) ?_ ?_) | (with_reducible refine below_drewN ?_ _) | go_size))), (show TXC (w2.heap.size + 1) (tNum x) wr from ⟨hX.2, fun k hk => by have := HL.out.t k hk; unfold tPart at this; rw [if_pos hk] at this; exact this⟩).below (by (repeat' (first | (with_reducible exact Below.refl _ _) | (with_reducible refine Below.alloc ?_ ?_ _) | (with_reducible refine Below.drew ?_) | (with_reducible refine Below.setCell ?_ ?_ _) | (with_reducible refine Below.thn (by assumption) ?_ ?_) | (with_reducible refine below_drewN ?_ _) | go_size)))⟩ ?_
      refine relR_pure 0 _ (by intro _ h; first | exact h | exact h.2) (by kernel_rfl) rfl (by kernel_rfl) (by kernel_rfl) (by go_simp) ?_
      apply Exists.intro
      refine ⟨fun W hW => ?_, fun K hK => ?_⟩
      · unfold effAt
        go_simp
        exact ⟨rfl, rfl⟩
      go_simp
      refine hK _ ?_
      clear hK K
      refine relR_pure 1 _ (by intro _ h; first | exact h | exact h.2) (by kernel_rfl) rfl (by kernel_rfl) (by kernel_rfl) (by go_simp) ?_
      apply Exists.intro
      refine ⟨fun W hW => ?_, fun K hK => ?_⟩
      · unfold effAt
        go_simp
        exact ⟨rfl, rfl⟩
      go_simp
      refine hK _ ?_
      clear hK K
      refine relR_pure 2 _ (by intro _ h; first | exact h | exact h.2) (by kernel_rfl) rfl (by kernel_rfl) (by kernel_rfl) (by go_simp) ?_
      apply Exists.intro
      refine ⟨fun W hW => ?_, fun K hK => ?_⟩
      · unfold effAt
        have c := hW.2 0 (by decide)
        go_simp
        exact ⟨rfl, rfl⟩
      go_simp
      refine hK _ ?_
      clear hK K
      refine relR_pure 3 _ (by intro _ h; first | exact h | exact h.2) (by kernel_rfl) rfl (by kernel_rfl) (by kernel_rfl) (by go_simp) ?_
      apply Exists.intro
      refine ⟨fun W hW => ?_, fun K hK => ?_⟩
      · unfold effAt
        go_simp
        exact ⟨rfl, rfl⟩
      go_simp
      refine hK _ ?_
      clear hK K
      refine relR_pure 4 _ (by intro _ h; first | exact h | exact h.2) (by kernel_rfl) rfl (by kernel_rfl) (by kernel_rfl) (by go_simp) ?_
      apply Exists.intro
      refine ⟨fun W hW => ?_, fun K hK => ?_⟩
      · unfold effAt
        go_simp
        exact ⟨rfl, rfl⟩
      go_simp
      refine hK _ ?_
      clear hK K
      refine relR_pure 5 _ (by intro _ h; first | exact h | exact h.2) (by kernel_rfl) rfl (by kernel_rfl) (by kernel_rfl) (by go_simp) ?_
      apply Exists.intro
      refine ⟨fun W hW => ?_, fun K hK => ?_⟩
      · unfold effAt
        have c := hW.2 1 (by decide)
        go_simp
        exact ⟨rfl, rfl⟩
      go_simp
      refine hK _ ?_
      clear hK K
      refine relR_pure 6 _ (by intro _ h; first | exact h | exact h.2) (by kernel_rfl) rfl (by kernel_rfl) (by kernel_rfl) (by go_simp) ?_
      apply Exists.intro
      refine ⟨fun W hW => ?_, fun K hK => ?_⟩
      · unfold effAt
        go_simp
        exact ⟨rfl, rfl⟩
      go_simp
      refine hK _ ?_
      clear hK K
      refine relR_pure 7 _ (by intro _ h; first | exact h | exact h.2) (by kernel_rfl) rfl (by kernel_rfl) (by kernel_rfl) (by go_simp) ?_
      apply Exists.intro
      refine ⟨fun W hW => ?_, fun K hK => ?_⟩
      · unfold effAt
        go_simp
        exact ⟨rfl, rfl⟩
      go_simp
      refine hK _ ?_
      clear hK K
      refine relR_pure 8 _ (by intro _ h; first | exact h | exact h.2) (by kernel_rfl) rfl (by kernel_rfl) (by kernel_rfl) (by go_simp) ?_
      apply Exists.intro
      refine ⟨fun W hW => ?_, fun K hK => ?_⟩
      · unfold effAt
        have c := hW.2 2 (by decide)
        go_simp
        exact ⟨rfl, rfl⟩
      go_simp
      refine hK _ ?_
      clear hK K
      refine relR_pure 9 _ (by intro _ h; first | exact h | exact h.2) (by kernel_rfl) rfl (by kernel_rfl) (by kernel_rfl) (by go_simp) ?_
      apply Exists.intro
      refine ⟨fun W hW => ?_, fun K hK => ?_⟩
      · unfold effAt
        go_simp
        exact ⟨rfl, rfl⟩
      go_simp
      refine hK _ ?_
      clear hK K
      refine relR_pure 10 _ (by intro _ h; first | exact h | exact h.2) (by kernel_rfl) rfl (by kernel_rfl) (by kernel_rfl) (by go_simp) ?_
      apply Exists.intro
      refine ⟨fun W hW => ?_, fun K hK => ?_⟩
      · unfold effAt
        go_simp
        exact ⟨rfl, rfl⟩
      go_simp
      refine hK _ ?_
      clear hK K
      refine relR_pure 11 _ (by intro _ h; first | exact h | exact h.2) (by kernel_rfl) rfl (by kernel_rfl) (by kernel_rfl) (by go_simp) ?_
      apply Exists.intro
      refine ⟨fun W hW => ?_, fun K hK => ?_⟩
      · unfold effAt
        have c := hW.2 3 (by decide)
        go_simp
        exact ⟨rfl, rfl⟩
      go_simp
      refine hK _ ?_
      clear hK K
      refine relR_pure 12 _ (by intro _ h; first | exact h | exact h.2) (by kernel_rfl) rfl (by kernel_rfl) (by kernel_rfl) (by go_simp) ?_
      apply Exists.intro
      refine ⟨fun W hW => ?_, fun K hK => ?_⟩
      · unfold effAt
        go_simp
        exact ⟨rfl, rfl⟩
      go_simp
      refine hK _ ?_
      clear hK K
      refine relR_pure 13 _ (by intro _ h; first | exact h | exact h.2) (by kernel_rfl) rfl (by kernel_rfl) (by kernel_rfl) (by go_simp) ?_
      apply Exists.intro
      refine ⟨fun W hW => ?_, fun K hK => ?_⟩
      · unfold effAt
        go_simp
        exact ⟨rfl, rfl⟩
      go_simp
      refine hK _ ?_
      clear hK K
      refine relR_pure 14 _ (by intro _ h; first | exact h | exact h.2) (by kernel_rfl) rfl (by kernel_rfl) (by kernel_rfl) (by go_simp) ?_
      apply Exists.intro
      refine ⟨fun W hW => ?_, fun K hK => ?_⟩
      · unfold effAt
        have c := hW.2 4 (by decide)
        go_simp
        exact ⟨rfl, rfl⟩
      go_simp
      refine hK _ ?_
      clear hK K
      refine relR_pure 15 _ (by intro _ h; first | exact h | exact h.2) (by kernel_rfl) rfl (by kernel_rfl) (by kernel_rfl) (by go_simp) ?_
      apply Exists.intro
      refine ⟨fun W hW => ?_, fun K hK => ?_⟩
      · unfold effAt
        go_simp
        exact ⟨rfl, rfl⟩
      go_simp
      refine hK _ ?_
      clear hK K
      refine relR_pure 16 _ (by intro _ h; first | exact h | exact h.2) (by kernel_rfl) rfl (by kernel_rfl) (by kernel_rfl) (by go_simp) ?_
      apply Exists.intro
      refine ⟨fun W hW => ?_, fun K hK => ?_⟩
      · unfold effAt
        go_simp
        exact ⟨rfl, rfl⟩
      go_simp
      refine hK _ ?_
      clear hK K
      refine relR_pure 17 _ (by intro _ h; first | exact h | exact h.2) (by kernel_rfl) rfl (by kernel_rfl) (by kernel_rfl) (by go_simp) ?_
      apply Exists.intro
      refine ⟨fun W hW => ?_, fun K hK => ?_⟩
      · unfold effAt
        have c := hW.2 5 (by decide)
        go_simp
        exact ⟨rfl, rfl⟩
      go_simp
      refine hK _ ?_
      clear hK K
      refine relR_pure 18 _ (by intro _ h; first | exact h | exact h.2) (by kernel_rfl) rfl (by kernel_rfl) (by kernel_rfl) (by go_simp) ?_
      apply Exists.intro
      refine ⟨fun W hW => ?_, fun K hK => ?_⟩
      · unfold effAt
        go_simp
        exact ⟨rfl, rfl⟩
      go_simp
      refine hK _ ?_
      clear hK K
      refine relR_call 19 _ rfl (by kernel_rfl) (by go_simp) Unit (fun _ => undef) (fun _ => TXC (w2.heap.size + 1) (tNum x)) (fun _ W => Six w W (.int .u64 (tNum x 0)) (.int .u64 (tNum x 1)) (.int .u64 (tNum x 2)) (.int .u64 (tNum x 3)) (.int .u64 (tNum x 4)) (.int .u64 (tNum x 5))) (fun _ _ h => h) (fun W hW => ?_) (fun _ K hK => ?_)
      · have hS := hW.1
        have hs := hS.store (.int .u64 (tNum x 0)) (.int .u64 (tNum x 1)) (.int .u64 (tNum x 2)) (.int .u64 (tNum x 3)) (.int .u64 (tNum x 4)) (.int .u64 (tNum x 5))
        have ht := hW.2
        have c0 := hS.c0
        have c1 := hS.c1
        have c2 := hS.c2
        have c3 := hS.c3
        have c4 := hS.c4
        have c5 := hS.c5
        have f0 := hS.f0
        have f1 := hS.f1
        have f2 := hS.f2
        have f3 := hS.f3
        have f4 := hS.f4
        have f5 := hS.f5
        unfold effAt
        go_simp
        first | exact ⟨hs, st6 ht (by omega) _ _ _ _ _ _⟩ | exact ⟨rfl, hs, st6 ht (by omega) _ _ _ _ _ _⟩ | exact ⟨(), rfl, hs, st6 ht (by omega) _ _ _ _ _ _⟩
      go_simp
      refine hK _ ?_
      clear hK K
      refine relR_pure 20 _ (by intro _ h; first | exact h | exact h.2) (by kernel_rfl) rfl (by kernel_rfl) (by kernel_rfl) (by go_simp) ?_
      apply Exists.intro
      refine ⟨fun W hW => ?_, fun K hK => ?_⟩
      · unfold effAt
        go_simp
        exact ⟨rfl, rfl⟩
      go_simp
      refine hK _ ?_
      clear hK K
      refine relR_pure 21 _ (by intro _ h; first | exact h | exact h.2) (by kernel_rfl) rfl (by kernel_rfl) (by kernel_rfl) (by go_simp) ?_
      apply Exists.intro
      refine ⟨fun W hW => ?_, fun K hK => ?_⟩
      · unfold effAt
        go_simp
        exact ⟨rfl, rfl⟩
      go_simp
      refine hK _ ?_
      clear hK K
      refine relR_end (by kernel_rfl) (fun W hW => ?_)
      have HF := Lib.hid hW.1
      have q0 := hW.1.c0
      have q1 := hW.1.c1
      have q2 := hW.1.c2
      have q3 := hW.1.c3
      have q4 := hW.1.c4
      have q5 := hW.1.c5
      clear hW
      go_wp2_with fail
      refine bodyPost_ret (by simp [results, Tryd.results8, go_sem, q0, q1, q2, q3, q4, q5]; try rfl) rfl ?_
      exact RTDec.okR HF.out.b E.out rfl
theorem rtdec_V (w : World) (a : Option Addr) (n c : Nat) (b : List UInt8) (hl : b.length = n) (hc : n ≤ c) (hcm : c ≤ maxLen) (hb : BytesF F w a b) : Calls Tryd.prog 8 #[.slice a n c] w (RTDec w (tDec b)) := by
  unfold tDec
  cases h : Rlp.decode b with
  | error e => exact rtdec_err w a n c b hl hc hcm hb e.1 e.2 h
  | ok x =>
    simp only
    by_cases hx : x.list = false ∨ x.items.length ≠ 6
    · rw [if_pos hx]; exact rtdec_shape w a n c b hl hc hcm hb x h hx
    · rw [if_neg hx]
      have h1 : x.list = true := by cases h2 : x.list with
        | true => rfl
        | false => exact absurd (.inl h2) hx
      have h2 : x.items.length = 6 := Decidable.byContradiction fun h2 => hx (.inr h2)
      exact rtdec_list w a n c b hl hc hcm hb x h h1 h2
end Go.Proofs.YtgcpnhnckbgjmaaDoor
/-
  mootref04.Unbatch by its contract.
-/
set_option linter.unusedVariables false
set_option linter.unusedSimpArgs false
namespace Go.Proofs.YtgcpnhnckbgjmaaDoor
open Go.RowKit
variable {F : Nat → Prop}
theorem tdec_ne {b : List UInt8} {p : Option Nat} {c : Nat} (h : tDec b = .error (p, c)) : c ≠ 0 := by
  unfold tDec at h
  split at h
  · rename_i p' c' hd
    injection h with h; injection h with h1 h2
    subst h2
    exact decode_ne hd
  · split at h
    · injection h with h; injection h with h1 h2; subst h2; decide
    · split at h
      · rename_i j c' hs
        injection h with h; injection h with h1 h2
        subst h2
        have hb : ∀ (g j q c : Nat) (its : List Rlp.It), tScan its g j = some (q, c) → c ≠ 0 := by
          intro g
          induction g with
          | zero => intro j q c its h; cases h
          | succ g ih =>
            intro j q c its h
            rw [tScan] at h
            split at h
            · rename_i c2 hc
              injection h with h; injection h with _ h
              subst h
              unfold tBad at hc
              split at hc
              · rename_i hne
                injection hc with hc; subst hc; exact hne
              · split at hc
                · injection hc with hc; subst hc; decide
                · cases hc
            · exact ih _ _ _ _ h
        exact hb _ _ _ _ _ hs
      · cases h
theorem rtdec_good (w : World) (a : Option Addr) (n c : Nat) (b : List UInt8) (hl : b.length = n) (hc : n ≤ c) (hcm : c ≤ maxLen) (hb : BytesF F w a b) (vs : Nat → Nat) (h : tDec b = .ok vs) : Calls Tryd.prog 8 #[.slice a n c] w fun e w' => e = .returned (.tuple #[.agg #[.int .u64 (vs 0), .int .u64 (vs 1), .int .u64 (vs 2), .int .u64 (vs 3), .int .u64 (vs 4), .int .u64 (vs 5)], .int .i64 (-1), .int .i64 0]) ∧ Below w.heap.size w w' := by
  refine (rtdec_V w a n c b hl hc hcm hb).mono ?_
  rw [h]
  rintro e w' ⟨hb, he⟩
  exact ⟨he, hb⟩
theorem rtdec_wrong (w : World) (a : Option Addr) (n c : Nat) (b : List UInt8) (hl : b.length = n) (hc : n ≤ c) (hcm : c ≤ maxLen) (hb : BytesF F w a b) (r : Option Nat × Nat) (h : tDec b = .error r) : Calls Tryd.prog 8 #[.slice a n c] w fun e w' => ∃ p k : Int, e = .returned (.tuple #[ZT, .int .i64 p, .int .i64 k]) ∧ (k != 0) = true ∧ Below w.heap.size w w' := by
  refine (rtdec_V w a n c b hl hc hcm hb).mono ?_
  rw [h]
  obtain ⟨p, k⟩ := r
  have hk := tdec_ne h
  have hk2 : ((k : Int) != 0) = true := by simp; omega
  cases p with
  | none => rintro e w' ⟨hb, he⟩; exact ⟨_, _, he, hk2, hb⟩
  | some p => rintro e w' ⟨hb, he⟩; exact ⟨_, _, he, hk2, hb⟩
/-- What mootref04.Unbatch answers. -/
def RUDec (w : World) (r : Except (Option Nat × Nat) (List Rlp.It)) (e : Ending) (w' : World) : Prop :=
  Below w.heap.size w w' ∧ match r with
  | .error (some p, c) => e = .returned (.tuple #[.slice none 0 0, .slice none 0 0, .int .i64 p, .int .i64 c])
  | .error (none, c) => e = .returned (.tuple #[.slice none 0 0, .slice none 0 0, .int .i64 (-1), .int .i64 c])
  | .ok its => ∃ al nl cl ab nb cb, e = .returned (.tuple #[.slice al nl cl, .slice ab nb cb, .int .i64 (-1), .int .i64 0]) ∧ nl = (uTxs its its.length).length ∧ nb = (uBad its its.length).length ∧ OwnT w' w.heap.size (.slice al nl cl) (uTxs its its.length) ∧ OwnN w' w.heap.size (.slice ab nb cb) (uBad its its.length)
set_option maxRecDepth 100000 in
set_option maxHeartbeats 1000000 in
theorem runb_err (w : World) (a : Option Addr) (n c : Nat) (b : List UInt8) (hl : b.length = n) (hc : n ≤ c) (hcm : c ≤ maxLen) (hb : BytesF F w a b) (p k : Nat) (h : Rlp.decode b = .error (p, k)) :
    Calls Tryd.prog 16 #[.slice a n c] w (RUDec w (.error (some p, k))) := by
  have HC := Lib.hid (rdec_V w a n c b hl hc hcm hb)
  have HD := Lib.hid h
  have hkz : k ≠ 0 := decode_ne h
  have hk1 : ((k : Int) != 0) = true := by simp; omega
  clear hl hb h
  go_enter Tryd.func16, Tryd.ntmps16
  go_wp2_with (go_at_call 29; (with_reducible refine HC.out.mono ?_); rintro e w2 he; rw [HD.out] at he; obtain ⟨hb2, rfl⟩ := he; have HB := Lib.hid hb2; clear hb2)
  go_returns
  exact ⟨HB.out.alloc HB.out.size _, rfl⟩
set_option maxRecDepth 100000 in
set_option maxHeartbeats 1000000 in
theorem runb_shape (w : World) (a : Option Addr) (n c : Nat) (b : List UInt8) (hl : b.length = n) (hc : n ≤ c) (hcm : c ≤ maxLen) (hb : BytesF F w a b) (x : Rlp.It) (h : Rlp.decode b = .ok x) (hx : x.list = false) :
    Calls Tryd.prog 16 #[.slice a n c] w (RUDec w (.error (none, 3))) := by
  have HC := Lib.hid (rdec_V w a n c b hl hc hcm hb)
  have HD := Lib.hid h
  have HX := Lib.hid hx
  clear hl hb h hx
  go_enter Tryd.func16, Tryd.ntmps16
  go_wp2_with (go_at_call 29; (with_reducible refine HC.out.mono ?_); rintro e w2 he; rw [HD.out] at he; obtain ⟨hb2, vl, vb, vi, rfl, hit⟩ := he; obtain ⟨h1, ⟨a1, c1, h2, _⟩, a2, c2, h3, _, _, _⟩ := hit; rw [HX.out] at h1; subst h1; subst h2; subst h3; have HB := Lib.hid hb2; clear hb2)
  go_returns
  exact ⟨HB.out.alloc HB.out.size _, rfl⟩
set_option maxRecDepth 100000 in
set_option maxHeartbeats 1000000 in
theorem runb_full (w : World) (a : Option Addr) (n c : Nat) (b : List UInt8) (hl : b.length = n) (hc : n ≤ c) (hcm : c ≤ maxLen) (hb : BytesF F w a b) (x : Rlp.It) (h : Rlp.decode b = .ok x) (hx : x.list = true) (h8 : 8 < x.items.length) :
    Calls Tryd.prog 16 #[.slice a n c] w (RUDec w (.error (none, 5))) := by
  have HC := Lib.hid (rdec_V w a n c b hl hc hcm hb)
  have HD := Lib.hid h
  have HX := Lib.hid hx
  obtain ⟨m, hm⟩ : ∃ m, x.items.length = m := ⟨_, rfl⟩
  have HM := Lib.hid hm
  rw [hm] at h8
  clear hl hb h hx hm
  go_enter Tryd.func16, Tryd.ntmps16
  go_wp2_with (go_at_call 29; (with_reducible refine HC.out.mono ?_); rintro e w2 he; rw [HD.out] at he; obtain ⟨hb2, vl, vb, vi, rfl, hit⟩ := he; obtain ⟨h1, ⟨a1, c1, h2, _⟩, a2, c2, h3, _, _, _⟩ := hit; rw [HX.out] at h1; rw [HM.out] at h3; subst h1; subst h2; subst h3; have HB := Lib.hid hb2; clear hb2)
  go_returns
  exact ⟨HB.out.alloc HB.out.size _, rfl⟩
/-- What lies there in the loop. -/
structure VR (w : World) (B : Nat) (its : List Rlp.It) (j : Nat) (vl vb b1 : Value) (a2 : Option Addr) (m c2 : Nat) (W : World) : Prop where
  b : Below w.heap.size w W
  hB : w.heap.size ≤ B
  t : OwnT W (B + 1) vl (uTxs its j)
  n : OwnN W (B + 1) vb (uBad its j)
  d : ∀ k, vl.ownBlock = some k → vb.ownBlock ≠ some k
  i : ItsAt (fun b => b < B) W 16 a2 its
  x : SlotI W B (.bool true) b1 (.slice a2 m c2)
theorem VR.below {w W W' : World} {B j m c2 : Nat} {its : List Rlp.It} {vl vb b1 : Value} {a2 : Option Addr} (h : VR w B its j vl vb b1 a2 m c2 W) (hb : Below W.heap.size W W') : VR w B its j vl vb b1 a2 m c2 W' :=
  ⟨h.b.trans (hb.mono h.b.size), h.hB, h.t.below hb, h.n.below hb, h.d, h.i.below hb, h.x.below hb⟩
theorem VR.bad {w W W' : World} {B j nb m c2 : Nat} {its : List Rlp.It} {vl b1 : Value} {ab ab' : Option Addr} {cb cb' : Nat} {a2 : Option Addr} (h : VR w B its j vl (.slice ab nb cb) b1 a2 m c2 W) (hj : j < its.length) (hu : uTx (its.getD j default) = none) (hn : (uBad its j).length = nb)
    (ho : W'.ownsRow (B + 1) TN 1 (.slice ab' (nb + 1) cb') (nb + 1) ((uBad its j).map (fun (k : Nat) => Value.int .i64 (k : Int)) ++ [.int .i64 (j : Int)])) (hg : W.grownBy W' (Value.slice ab nb cb).ownBlock)
    (hw : (Value.slice ab' (nb + 1) cb').ownBlock = (Value.slice ab nb cb).ownBlock ∨ (Value.slice ab' (nb + 1) cb').ownBlock = some W.heap.size) : VR w B its (j + 1) vl (.slice ab' (nb + 1) cb') b1 a2 m c2 W' := by
  have hl := h.x.lt
  have hbb : Below (B + 1) W W' := grownR_below hg h.n (Nat.le_refl _) (by omega)
  refine ⟨h.b.trans (hbb.mono (by have := h.hB; omega)), h.hB, ?_, ?_, ?_, h.i.grown (hbb.mono (by omega)), h.x.keep hbb.size (hbb.block _ (Nat.lt_succ_self _))⟩
  · rw [uTxs_none hj hu]
    refine World.ownsRow.kept h.t hg ?_
    cases hv : vl.ownBlock with
    | none => exact .inl rfl
    | some k => exact .inr fun e => h.d k hv e.symm
  · unfold OwnN
    rw [uBad_none hu, List.map_append, List.length_append, hn]
    exact ho
  · intro k hk e
    rcases hw with hw | hw
    · rw [hw] at e; exact h.d k hk e
    · rw [hw] at e; injection e with e; subst e; exact ownBlock_ne (m := 0) h.t hk
theorem VR.good {w W W' : World} {B j nl m c2 : Nat} {its : List Rlp.It} {vb b1 : Value} {al al' : Option Addr} {cl cl' : Nat} {a2 : Option Addr} {vs : Nat → Nat} (h : VR w B its j (.slice al nl cl) vb b1 a2 m c2 W) (hj : j < its.length) (hu : uTx (its.getD j default) = some vs) (hn : (uTxs its j).length = nl)
    (ho : W'.ownsRow (B + 1) TTX 6 (.slice al' (nl + 1) cl') (nl + 1) (txsC (uTxs its j) ++ txC vs)) (hg : W.grownBy W' (Value.slice al nl cl).ownBlock)
    (hw : (Value.slice al' (nl + 1) cl').ownBlock = (Value.slice al nl cl).ownBlock ∨ (Value.slice al' (nl + 1) cl').ownBlock = some W.heap.size) : VR w B its (j + 1) (.slice al' (nl + 1) cl') vb b1 a2 m c2 W' := by
  have hl := h.x.lt
  have hbb : Below (B + 1) W W' := grownR_below hg h.t (Nat.le_refl _) (by omega)
  refine ⟨h.b.trans (hbb.mono (by have := h.hB; omega)), h.hB, ?_, ?_, ?_, h.i.grown (hbb.mono (by omega)), h.x.keep hbb.size (hbb.block _ (Nat.lt_succ_self _))⟩
  · unfold OwnT
    rw [uTxs_some hj hu, txsC_app, List.length_append, hn]
    exact ho
  · rw [uBad_some hu]
    refine World.ownsRow.kept h.n hg ?_
    cases hv : vb.ownBlock with
    | none => exact .inl rfl
    | some k => exact .inr fun e => h.d k e.symm hv
  · intro k hk e
    rcases hw with hw | hw
    · rw [hw] at hk; exact h.d k hk e
    · rw [hw] at hk; injection hk with hk; subst hk; exact ownBlock_ne (m := 0) h.n e
set_option maxRecDepth 100000 in
set_option maxHeartbeats 8000000 in
theorem runb_list (w : World) (a : Option Addr) (n c : Nat) (b : List UInt8) (hl : b.length = n) (hc : n ≤ c) (hcm : c ≤ maxLen) (hb : BytesF F w a b) (x : Rlp.It) (h : Rlp.decode b = .ok x) (hx : x.list = true) (h8 : x.items.length ≤ 8) :
    Calls Tryd.prog 16 #[.slice a n c] w (RUDec w (.ok x.items)) := by
  have HC := Lib.hid (rdec_V w a n c b hl hc hcm hb)
  have HD := Lib.hid h
  have HX := Lib.hid hx
  obtain ⟨its, hits⟩ : ∃ its, x.items = its := ⟨_, rfl⟩
  obtain ⟨m, hm⟩ : ∃ m, x.items.length = m := ⟨_, rfl⟩
  have HM := Lib.hid hm
  rw [hm] at h8
  have HMI : Hid (its.length = m) := by rw [← hits]; exact hm
  have HIT := Lib.hid hits
  rw [hits]
  clear hl hb h hx hm hits
  go_enter Tryd.func16, Tryd.ntmps16
  go_wp2_with (go_at_call 29; (with_reducible refine HC.out.mono ?_); rintro e w2 he; rw [HD.out] at he; obtain ⟨hb2, vl, vb, vi, rfl, hit⟩ := he; obtain ⟨h1, ⟨a1, c1, h2, _⟩, a2, c2, h3, _, _, h9⟩ := hit; rw [HX.out] at h1; rw [HM.out] at h3; subst h1; subst h2; subst h3; have hU0 : VR w w2.heap.size its 0 (.slice none 0 0) (.slice none 0 0) (.slice a1 x.bytes.length c1) a2 m c2 (w2.alloc (.cells #[.bool true, .slice a1 x.bytes.length c1, .slice a2 m c2] TI)) := (⟨hb2.alloc hb2.size _, hb2.size, OwnT.nil _ _, OwnN.nil _ _, (fun k hk => by simp [Value.ownBlock] at hk), (by rw [← HIT.out]; exact (ItsAt.move (F := fun b => w.heap.size ≤ b) h9 fun b hF hl => ⟨hl, by simp; omega, heap_alloc_old _ _ hl⟩)), SlotI.new _ _ _ _⟩); have HU0 := Lib.hid hU0; clear hb2 h9 hU0)
  go_loopw [9, 10, 11, 12, 13, 14] (fun ll bb ii tt ee e2 wr => ∃ (j nl nb cl cb : Nat) (al ab : Option Addr), j ≤ m ∧ ii = .int .i64 j ∧ ll = .slice al nl cl ∧ bb = .slice ab nb cb ∧ Hid (VR w w2.heap.size its j (.slice al nl cl) (.slice ab nb cb) (.slice a1 x.bytes.length c1) a2 m c2 wr) ∧ Hid ((uTxs its j).length = nl) ∧ Hid ((uBad its j).length = nb)) (fun _ _ ii _ _ _ _ => m - (intOf ii).toNat)
  case atStart => exact ⟨0, 0, 0, 0, 0, none, none, by omega, rfl, rfl, rfl, HU0.out, rfl, rfl⟩
  case round =>
    obtain ⟨j, nl, nb, cl, cb, al, ab, hj, rfl, rfl, rfl, HR, HNL, HNB⟩ := hrel
    have hwr := HR.out.x.lt
    have x2 := HR.out.x.c2
    have hnl8 : nl ≤ 8 := by have := uTxs_len its j; have := HNL.out; omega
    have hnb8 : nb ≤ 8 := by have := uBad_len its j; have := HNB.out; omega
    clear HU0
    by_cases hlt : j < m
    · have hlt' : j < its.length := by rw [HMI.out]; exact hlt
      obtain ⟨b, off, u, v, z, rfl, hF, hbl, c0, c1', c2', hx⟩ := HR.out.i j hlt'
      obtain ⟨h1, ⟨ya, yc, h2, h3, h4, h40, h5⟩, ya', yc', h6, _⟩ := hx
      obtain ⟨yl, hyl⟩ : ∃ yl, (its.getD j default).list = yl := ⟨_, rfl⟩
      obtain ⟨yb, hyb⟩ : ∃ yb, (its.getD j default).bytes = yb := ⟨_, rfl⟩
      obtain ⟨yn, hyn⟩ : ∃ yn, yb.length = yn := ⟨_, rfl⟩
      obtain ⟨ym, hym⟩ : ∃ ym, (its.getD j default).items.length = ym := ⟨_, rfl⟩
      rw [hyl] at h1; rw [hyb] at h2 h3 h5; rw [hyn] at h2 h3; rw [hym] at h6
      have H5 := Lib.hid h5
      subst h1; subst h2; subst h6
      have HYL := Lib.hid hyl
      have HYB := Lib.hid hyb
      have HYN := Lib.hid hyn
      have H4 := Lib.hid h4
      have hmx : (m : Nat) ≤ 8 := h8
      have HC0 := Lib.hid c0
      have HBL := Lib.hid hbl
      clear hyl hyb hyn hym h5 h4
      rcases ht : tDec yb with r | vs
      · have HT := Lib.hid ht
        have HUx : Hid (uTx (its.getD j default) = none) := by
          show _ = _
          unfold uTx
          rw [HYB.out, ht]
          split <;> rfl
        clear ht
        cases yl
        · go_wp2_with (first
            | (go_at_call 8; (with_reducible refine (rtdec_wrong _ ya yn yc yb HYN.out h3 H4.out H5.out r HT.out).mono ?_); rintro e w5 ⟨p5, k5, rfl, hk5, hb5⟩; have HR5 := Lib.hid (HR.out.below hb5); have x25 := HR5.out.x.c2; have hx5 := HR5.out.x.lt; have c05 := (hb5.cell (p := ⟨b, off + j * 3, none⟩) HBL.out).trans HC0.out; have hbl5 : b < w5.heap.size := (by have := hb5.size; omega); clear hb5)
            | (at_builtin; have HRx := Lib.hid ((HR5.out.below ((Below.refl _ _).alloc (Nat.le_refl _) (.cells #[.int .u64 0, .int .u64 0, .int .u64 0, .int .u64 0, .int .u64 0, .int .u64 0] TTX))).below ((Below.refl _ _).alloc (Nat.le_refl _) (.cells #[.int .i64 (j : Int)] TN))); have hn0 := HRx.out.n; unfold OwnN at hn0; rw [HNB.out] at hn0; refine wpList_append_R rtN rfl (.tmp 60) (.tmp 62) rfl (w2.heap.size + 1) ab nb cb _ (w5.heap.size + 1) 1 [.int .i64 j] hn0 rfl (newC (by simp)) (by simp [Value.oneCell']) (Sm.of (by omega)) (by unfold maxLen; omega) (by simp; omega) rfl rfl ?_; clear hn0; intro ao' c' w6 ho hg hw; have HR6 := Lib.hid (HRx.out.bad hlt' HUx.out HNB.out ho hg hw); clear ho hg hw))
          go_roundw
          case rel => exact ⟨j + 1, nl, nb + 1, cl, c', al, ao', by omega, by go_num, rfl, rfl, HR6.out, by show _ = _; rw [uTxs_none hlt' HUx.out]; exact HNL.out, by show _ = _; rw [uBad_none HUx.out, List.length_append, HNB.out]; rfl⟩
          case measure => simp [intOf]; omega
        · go_wp2_with (first
            | (go_at_call 8; (with_reducible refine (rtdec_wrong _ ya yn yc yb HYN.out h3 H4.out H5.out r HT.out).mono ?_); rintro e w5 ⟨p5, k5, rfl, hk5, hb5⟩; have HR5 := Lib.hid (HR.out.below hb5); have x25 := HR5.out.x.c2; have hx5 := HR5.out.x.lt; have c05 := (hb5.cell (p := ⟨b, off + j * 3, none⟩) HBL.out).trans HC0.out; have hbl5 : b < w5.heap.size := (by have := hb5.size; omega); clear hb5)
            | (at_builtin; have HRx := Lib.hid ((HR5.out.below ((Below.refl _ _).alloc (Nat.le_refl _) (.cells #[.int .u64 0, .int .u64 0, .int .u64 0, .int .u64 0, .int .u64 0, .int .u64 0] TTX))).below ((Below.refl _ _).alloc (Nat.le_refl _) (.cells #[.int .i64 (j : Int)] TN))); have hn0 := HRx.out.n; unfold OwnN at hn0; rw [HNB.out] at hn0; refine wpList_append_R rtN rfl (.tmp 60) (.tmp 62) rfl (w2.heap.size + 1) ab nb cb _ (w5.heap.size + 1) 1 [.int .i64 j] hn0 rfl (newC (by simp)) (by simp [Value.oneCell']) (Sm.of (by omega)) (by unfold maxLen; omega) (by simp; omega) rfl rfl ?_; clear hn0; intro ao' c' w6 ho hg hw; have HR6 := Lib.hid (HRx.out.bad hlt' HUx.out HNB.out ho hg hw); clear ho hg hw))
          go_roundw
          case rel => exact ⟨j + 1, nl, nb + 1, cl, c', al, ao', by omega, by go_num, rfl, rfl, HR6.out, by show _ = _; rw [uTxs_none hlt' HUx.out]; exact HNL.out, by show _ = _; rw [uBad_none HUx.out, List.length_append, HNB.out]; rfl⟩
          case measure => simp [intOf]; omega
      · have HT := Lib.hid ht
        cases yl
        · have HUx : Hid (uTx (its.getD j default) = some vs) := by
            show _ = _
            unfold uTx
            rw [HYL.out, HYB.out, ht]; rfl
          clear ht
          go_wp2_with (first
            | (go_at_call 8; (with_reducible refine (rtdec_good _ ya yn yc yb HYN.out h3 H4.out H5.out vs HT.out).mono ?_); rintro e w5 ⟨rfl, hb5⟩; have HR5 := Lib.hid (HR.out.below hb5); have x25 := HR5.out.x.c2; have hx5 := HR5.out.x.lt; have c05 := (hb5.cell (p := ⟨b, off + j * 3, none⟩) HBL.out).trans HC0.out; have hbl5 : b < w5.heap.size := (by have := hb5.size; omega); clear hb5)
            | (at_builtin; have HRx := Lib.hid ((HR5.out.below ((Below.refl _ _).alloc (Nat.le_refl _) (.cells #[.int .u64 (vs 0), .int .u64 (vs 1), .int .u64 (vs 2), .int .u64 (vs 3), .int .u64 (vs 4), .int .u64 (vs 5)] TTX))).below ((Below.refl _ _).alloc (Nat.le_refl _) (.cells #[.int .u64 (vs 0), .int .u64 (vs 1), .int .u64 (vs 2), .int .u64 (vs 3), .int .u64 (vs 4), .int .u64 (vs 5)] TTX))); have hn0 := HRx.out.t; unfold OwnT at hn0; rw [HNL.out] at hn0; refine wpList_append_R rtT rfl (.tmp 64) (.tmp 66) rfl (w2.heap.size + 1) al nl cl _ (w5.heap.size + 1) 1 (txC vs) hn0 rfl (newC (by simp)) (txC_one vs) (Sm.of (by omega)) (by unfold maxLen; omega) (by simp; omega) rfl rfl ?_; clear hn0; intro ao' c' w6 ho hg hw; have HR6 := Lib.hid (HRx.out.good hlt' HUx.out HNL.out ho hg hw); clear ho hg hw))
          go_roundw
          case rel => exact ⟨j + 1, nl + 1, nb, c', cb, ao', ab, by omega, by go_num, rfl, rfl, HR6.out, by show _ = _; rw [uTxs_some hlt' HUx.out, List.length_append, HNL.out]; rfl, by show _ = _; rw [uBad_some HUx.out]; exact HNB.out⟩
          case measure => simp [intOf]; omega
        · have HUx : Hid (uTx (its.getD j default) = none) := by
            show _ = _
            unfold uTx
            rw [HYL.out]; rfl
          clear ht
          go_wp2_with (first
            | (go_at_call 8; (with_reducible refine (rtdec_good _ ya yn yc yb HYN.out h3 H4.out H5.out vs HT.out).mono ?_); rintro e w5 ⟨rfl, hb5⟩; have HR5 := Lib.hid (HR.out.below hb5); have x25 := HR5.out.x.c2; have hx5 := HR5.out.x.lt; have c05 := (hb5.cell (p := ⟨b, off + j * 3, none⟩) HBL.out).trans HC0.out; have hbl5 : b < w5.heap.size := (by have := hb5.size; omega); clear hb5)
            | (at_builtin; have HRx := Lib.hid ((HR5.out.below ((Below.refl _ _).alloc (Nat.le_refl _) (.cells #[.int .u64 (vs 0), .int .u64 (vs 1), .int .u64 (vs 2), .int .u64 (vs 3), .int .u64 (vs 4), .int .u64 (vs 5)] TTX))).below ((Below.refl _ _).alloc (Nat.le_refl _) (.cells #[.int .i64 (j : Int)] TN))); have hn0 := HRx.out.n; unfold OwnN at hn0; rw [HNB.out] at hn0; refine wpList_append_R rtN rfl (.tmp 60) (.tmp 62) rfl (w2.heap.size + 1) ab nb cb _ (w5.heap.size + 1) 1 [.int .i64 j] hn0 rfl (newC (by simp)) (by simp [Value.oneCell']) (Sm.of (by omega)) (by unfold maxLen; omega) (by simp; omega) rfl rfl ?_; clear hn0; intro ao' c' w6 ho hg hw; have HR6 := Lib.hid (HRx.out.bad hlt' HUx.out HNB.out ho hg hw); clear ho hg hw))
          go_roundw
          case rel => exact ⟨j + 1, nl, nb + 1, cl, c', al, ao', by omega, by go_num, rfl, rfl, HR6.out, by show _ = _; rw [uTxs_none hlt' HUx.out]; exact HNL.out, by show _ = _; rw [uBad_none HUx.out, List.length_append, HNB.out]; rfl⟩
          case measure => simp [intOf]; omega
    · have hjm : j = m := by omega
      subst hjm
      go_wp2
      go_returns
      have ht := HR.out.t
      have hn := HR.out.n
      refine ⟨HR.out.b, al, nl, cl, ab, nb, cb, rfl, ?_, ?_, ?_, ?_⟩
      · rw [HMI.out]; exact HNL.out.symm
      · rw [HMI.out]; exact HNB.out.symm
      · rw [HMI.out]; exact World.ownsRow.mono ht (by have := HR.out.hB; omega)
      · rw [HMI.out]; exact World.ownsRow.mono hn (by have := HR.out.hB; omega)
/-- mootref04.Unbatch answers the batch's transactions and the places of what is none, or what is wrong. -/
theorem runb_V (w : World) (a : Option Addr) (n c : Nat) (b : List UInt8) (hl : b.length = n) (hc : n ≤ c) (hcm : c ≤ maxLen) (hb : BytesF F w a b) : Calls Tryd.prog 16 #[.slice a n c] w (RUDec w (uDec b)) := by
  unfold uDec
  cases h : Rlp.decode b with
  | error e => exact runb_err w a n c b hl hc hcm hb e.1 e.2 h
  | ok x =>
    simp only
    cases hx : x.list with
    | false => exact runb_shape w a n c b hl hc hcm hb x h hx
    | true =>
      rw [if_neg (by simp)]
      by_cases h8 : 8 < x.items.length
      · rw [if_pos h8]; exact runb_full w a n c b hl hc hcm hb x h hx h8
      · rw [if_neg h8]; exact runb_list w a n c b hl hc hcm hb x h hx (by omega)
end Go.Proofs.YtgcpnhnckbgjmaaDoor
