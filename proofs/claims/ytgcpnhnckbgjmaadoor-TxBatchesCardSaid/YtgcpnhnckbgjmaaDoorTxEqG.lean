/-
  Several texts in one (merge.py): TxEq, Open, TxOpen, Row, TxUn, TxBat.
-/
import Derived.Test.YtgcpnhnckbgjmaaDoorTxPl
import Derived.Test.YtgcpnhnckbgjmaaDoorRec
import Derived.Laws.StructEq
import Derived.Test.YtgcpnhnckbgjmaaDoorIt
import Derived.Deep.Slices
import Derived.ChangeSame
import Derived.OpenShut
import Derived.Deep.Onto
/-
  Transactions and records compared.
-/
set_option linter.unusedVariables false
set_option linter.unusedSimpArgs false
namespace Go.Proofs.YtgcpnhnckbgjmaaDoor
open Go.RowKit
open Go.Extern.Stop (cell)
/-- Are two transactions the same? -/
def sameT (vs us : Nat → Nat) : Bool := vs 0 == us 0 && (vs 1 == us 1 && (vs 2 == us 2 && (vs 3 == us 3 && (vs 4 == us 4 && vs 5 == us 5))))
theorem sameT_iff (vs us : Nat → Nat) : sameT vs us = true ↔ ∀ k, k < 6 → vs k = us k := by
  constructor
  · intro h k hk
    simp [sameT] at h
    rcases (by omega : k = 0 ∨ k = 1 ∨ k = 2 ∨ k = 3 ∨ k = 4 ∨ k = 5) with rfl | rfl | rfl | rfl | rfl | rfl <;> simp [h]
  · intro h
    simp [sameT, h 0 (by decide), h 1 (by decide), h 2 (by decide), h 3 (by decide), h 4 (by decide), h 5 (by decide)]
theorem beq_cast (a b : Nat) : (((a : Int) == (b : Int)) : Bool) = (a == b) := by
  rw [Bool.eq_iff_iff]; simp; omega
set_option maxRecDepth 100000 in
theorem equalIn_tx (vs us : Nat → Nat) (W : World) : (Op.equalIn 10000 TTX (.agg #[.int .u64 (vs 0), .int .u64 (vs 1), .int .u64 (vs 2), .int .u64 (vs 3), .int .u64 (vs 4), .int .u64 (vs 5)]) (.agg #[.int .u64 (us 0), .int .u64 (us 1), .int .u64 (us 2), .int .u64 (us 3), .int .u64 (us 4), .int .u64 (us 5)])).run Tryd.prog W = .ok (sameT vs us) W := by
  have hu : Tryd.prog.underlying 22 = some (.int .u64) := Tryd.underlying22
  have hf : (Tryd.prog.fieldsOf TTX).toList = (Tryd.prog.fieldsOf TTX).toList := rfl
  rw [run_equalIn_agg _ _ _ _ _ (by kernel_rfl) (by kernel_rfl)]
  obtain ⟨fs, hfs, hF⟩ : ∃ fs, (Tryd.prog.fieldsOf TTX).toList = fs ∧ fs.map (fun f => (f.name, f.type, f.offset)) = [("From", 22, 0), ("To", 22, 1), ("Nonce", 22, 2), ("Value", 22, 3), ("Gas", 22, 4), ("Data", 22, 5)] := ⟨_, rfl, by kernel_rfl⟩
  rw [hfs]
  clear hf hfs
  have h6 : fs.length = 6 := by have := congrArg List.length hF; simpa using this
  match fs, h6, hF with
  | [f0, f1, f2, f3, f4, f5], _, hF =>
    simp only [List.map_cons, List.map_nil, List.cons.injEq, Prod.mk.injEq, and_true] at hF
    obtain ⟨⟨a0, b0, c0⟩, ⟨a1, b1, c1⟩, ⟨a2, b2, c2⟩, ⟨a3, b3, c3⟩, ⟨a4, b4, c4⟩, ⟨a5, b5, c5⟩⟩ := hF
    have hz : ∀ (i : Nat) (zs : Array Value) (n : Int) (W : World), zs[i]? = some (.int .u64 n) → (part 22 zs i).run Tryd.prog W = .ok (.int .u64 n) W := by
      intro i zs n W h
      simp [part, isAgg, run_underlying hu, Array.getD_eq_getD_getElem?, h]
    simp only [Op.eqFields, a0, b0, c0, a1, b1, c1, a2, b2, c2, a3, b3, c3, a4, b4, c4, a5, b5, c5]
    simp [hz, Sem.run_bind, run_equalIn_int _ _ _ _ _ _ _ hu, sameT]
    have c : ∀ a b : Nat, ((a : Int) = (b : Int)) = (a = b) := fun a b => propext (by omega)
    simp only [c]
    (repeat' split) <;> simp_all
theorem eql_tx (vs us : Nat → Nat) (W : World) : (binOp .eql TTX (.agg #[.int .u64 (vs 0), .int .u64 (vs 1), .int .u64 (vs 2), .int .u64 (vs 3), .int .u64 (vs 4), .int .u64 (vs 5)]) (.agg #[.int .u64 (us 0), .int .u64 (us 1), .int .u64 (us 2), .int .u64 (us 3), .int .u64 (us 4), .int .u64 (us 5)])).run Tryd.prog W = .ok (.bool (sameT vs us)) W := by
  rw [run_eql_struct, equalIn_tx]; rfl
theorem neq_tx (vs us : Nat → Nat) (W : World) : (binOp .neq TTX (.agg #[.int .u64 (vs 0), .int .u64 (vs 1), .int .u64 (vs 2), .int .u64 (vs 3), .int .u64 (vs 4), .int .u64 (vs 5)]) (.agg #[.int .u64 (us 0), .int .u64 (us 1), .int .u64 (us 2), .int .u64 (us 3), .int .u64 (us 4), .int .u64 (us 5)])).run Tryd.prog W = .ok (.bool (!sameT vs us)) W := by
  rw [run_neq_struct, equalIn_tx]; rfl
theorem guard_tx (op : BinOp) (x y : Operand) (xs ys : Array Value) (W : World) : (eqGuard op TTX x y (.agg xs) (.agg ys)).run Tryd.prog W = .ok () W := run_eqGuard_agg W op TTX x y xs ys (by kernel_rfl)
theorem guard_rec (op : BinOp) (x y : Operand) (xs ys : Array Value) (W : World) : (eqGuard op TP x y (.agg xs) (.agg ys)).run Tryd.prog W = .ok () W := run_eqGuard_agg W op TP x y xs ys (by kernel_rfl)
theorem eql_rec (xs ys : List UInt8) (hx : xs.length = 64) (hy : ys.length = 64) (W : World) : (binOp .eql TP (.agg (xs.map cell).toArray) (.agg (ys.map cell).toArray)).run Tryd.prog W = .ok (.bool (xs == ys)) W :=
  run_eql_bytes W TP 5 64 Tryd.underlying39 Tryd.underlying5 (fun w => by
    have h : (Tryd.prog.info? 5).map (·.size) = some 1 := by kernel_rfl
    cases hq : Tryd.prog.info? 5 with
    | none => simp [hq] at h
    | some i => simp [hq] at h; simp [sizeOf, typeInfo, hq, h]) xs ys hx hy
/-! ### Records are the same just where the transactions are -/
theorem recL_get (vs : Nat → Nat) (k : Nat) (hk : k < 64) : (recL vs)[k]? = some (UInt8.ofNat (recB vs 6 k)) := by simp [recL, hk]
theorem byt_num (v : Nat) (hv : v < 18446744073709551616) : v = byt v 0 * 72057594037927936 + byt v 1 * 281474976710656 + byt v 2 * 1099511627776 + byt v 3 * 4294967296 + byt v 4 * 16777216 + byt v 5 * 65536 + byt v 6 * 256 + byt v 7 := by
  simp only [byt, Nat.reduceMul, Nat.reduceSub, Nat.reducePow]
  omega
theorem recL_byt (vs : Nat → Nat) (k i : Nat) (hk : k < 6) (hi : i < 8) : (recL vs)[8 + 8 * k + i]? = some (UInt8.ofNat (byt (vs k) i)) := by
  rw [recL_get _ _ (by omega)]
  unfold recB
  rw [if_neg (by omega), if_pos (by omega), show (8 + 8 * k + i - 8) / 8 = k by omega, show (8 + 8 * k + i - 8) % 8 = i by omega]
theorem ofNat_inj8 {a b : Nat} (ha : a < 256) (hb : b < 256) (h : UInt8.ofNat a = UInt8.ofNat b) : a = b := by
  have := congrArg UInt8.toNat h
  simp at this; omega
theorem byt_lt (v i : Nat) : byt v i < 256 := by unfold byt; omega
theorem rec_same (vs us : Nat → Nat) (hv : wide vs) (hu : wide us) : (recL vs == recL us) = sameT vs us := by
  rw [Bool.eq_iff_iff, sameT_iff, beq_iff_eq]
  constructor
  · intro h k hk
    have e : ∀ i, i < 8 → byt (vs k) i = byt (us k) i := fun i hi => by
      have h1 := recL_byt vs k i hk hi
      rw [h, recL_byt us k i hk hi] at h1
      exact (ofNat_inj8 (byt_lt _ _) (byt_lt _ _) (Option.some.inj h1)).symm
    rw [byt_num (vs k) (hv k hk), byt_num (us k) (hu k hk), e 0 (by decide), e 1 (by decide), e 2 (by decide), e 3 (by decide), e 4 (by decide), e 5 (by decide), e 6 (by decide), e 7 (by decide)]
  · intro h
    apply List.ext_getElem?
    intro i
    rcases Nat.lt_or_ge i 64 with hi | hi
    · rw [recL_get _ _ hi, recL_get _ _ hi]
      congr 2
      unfold recB
      split
      · rfl
      · split
        · rw [h _ (by omega)]
        · rfl
    · rw [List.getElem?_eq_none (by rw [recL_len]; exact hi), List.getElem?_eq_none (by rw [recL_len]; exact hi)]
theorem form_same (vs us : Nat → Nat) (hv : wide vs) (hu : wide us) : decide (Rlp.form (tItem vs) = Rlp.form (tItem us)) = sameT vs us := by
  rw [Bool.eq_iff_iff, sameT_iff, decide_eq_true_eq]
  constructor
  · exact fun h k hk => form_inj vs us hv hu h k hk
  · intro h
    have : tItem vs = tItem us := by
      unfold tItem leafs
      congr 1
      exact List.map_congr_left fun k hk => by rw [h k (by simpa using hk)]
    rw [this]
end Go.Proofs.YtgcpnhnckbgjmaaDoor
/-
  Bytes and items as they come in.
-/
set_option linter.unusedVariables false
set_option linter.unusedSimpArgs false
namespace Go.Proofs.YtgcpnhnckbgjmaaDoor
open Go.RowKit Go.ChangeShapes Go.WideShapes Go.Deep

/-- The bytes of a row of numbers. -/
def rowB (zs : List Int) (len : Nat) : List UInt8 := (zs.take len).map fun z => UInt8.ofNat z.toNat
theorem row_all {w : World} {a : Option Addr} {len cap : Nat} {zs : List Int} (h : IsRow .u8 w a len cap zs) : (rowB zs len).length = len ∧ len ≤ cap ∧ cap ≤ maxLen ∧ (a = none → cap = 0) ∧ BytesF (fun _ => True) w a (rowB zs len) := by
  have hlz : len ≤ zs.length := by
    rcases h with ⟨_, rfl, _, rfl⟩ | ⟨x, _, h1, _, h3, _⟩
    · exact Nat.zero_le _
    · omega
  have hlen : (rowB zs len).length = len := by simp [rowB]; omega
  refine ⟨hlen, ?_, ?_, ?_, fun i hi => ?_⟩
  · rcases h with ⟨_, rfl, rfl, _⟩ | ⟨x, _, h1, _⟩
    · exact Nat.le_refl _
    · exact h1
  · rcases h with ⟨_, rfl, rfl, _⟩ | ⟨x, _, _, h1, _⟩
    · exact Nat.zero_le _
    · exact h1
  · intro e
    rcases h with ⟨_, _, h, _⟩ | ⟨x, h, _⟩
    · exact h
    · rw [h] at e; cases e
  · rw [hlen] at hi
    obtain ⟨b, off, e, hl, hc, hw⟩ := row_cell h i hi
    refine ⟨b, off, e, trivial, hl, ?_⟩
    rw [hc]
    have hz := u8_wf hw
    have e2 : (rowB zs len).getD i 0 = UInt8.ofNat (zs.getD i 0).toNat := by
      simp only [rowB]
      rw [List.getD_eq_getElem?_getD, List.getElem?_map, List.getElem?_take_of_lt hi, List.getD_eq_getElem?_getD, List.getElem?_eq_getElem (by omega)]; rfl
    rw [e2]
    obtain ⟨z, hzz⟩ : ∃ z, z = zs.getD i 0 := ⟨_, rfl⟩
    rw [← hzz] at hz ⊢
    have : (UInt8.ofNat z.toNat).toNat = z.toNat := by simp; omega
    rw [this]
    congr 2
    omega
theorem add_none (b off j : Nat) : (⟨b, off, none⟩ : Addr).add j = ⟨b, off + j, none⟩ := by unfold Addr.add; split <;> simp_all
set_option maxRecDepth 100000 in
theorem it_open {H : Type} {enc : TypeId × Value → H} {w : World} {held : Bool} (n : Nat) : ∀ (cs : List Value) (x : DataW H × List MemPlace), DataW.trod enc Tryd.prog w 0 (fun _ => true) held n TI cs = some x →
    ∃ it vl vb vi, cs = [vl, vb, vi] ∧ IsIt (fun _ => True) w n it vl vb vi := by
  induction n using Nat.strongRecOn with
  | _ n ih =>
    intro cs x h
    obtain ⟨xs, k, hk, _, hlen, hxl, hf⟩ := DataW.trod_struct Tryd.underlying56 h
    have hc3 : cs.length = 3 := hlen.trans (by kernel_rfl)
    have hx3 : xs.length = 3 := hxl.trans (by rfl)
    match cs, hc3, xs, hx3 with
    | [v0, v1, v2], _, [y0, y1, y2], _ =>
      have g0 := hf 0 _ rfl
      have g1 := hf 1 _ rfl
      have g2 := hf 2 _ rfl
      have cb : Tryd.prog.cellsOf 4 = 1 := by kernel_rfl
      have cu : Tryd.prog.cellsOf TI = 3 := by kernel_rfl
      have c22 : Tryd.prog.cellsOf 25 = 1 := by kernel_rfl
      have c23 : Tryd.prog.cellsOf 54 = 1 := by kernel_rfl
      simp [cb, c22, c23] at g0 g1 g2
      obtain ⟨l, e0, _⟩ := DataW.trod_bool Tryd.underlying4 g0
      have hb : ∃ a c bs, v1 = .slice a (List.length bs) c ∧ List.length bs ≤ c ∧ c ≤ maxLen ∧ (a = none → c = 0) ∧ BytesF (fun _ => True) w a bs := by
        rcases open_ints Tryd.underlying25 Tryd.underlying5 (by kernel_rfl) g1 with ⟨hcs, _⟩ | ⟨x, l, c, zs, hcs, _, hl, hm, hz, _, hcell, hwz⟩
        · simp at hcs
          exact ⟨none, 0, [], by rw [hcs]; rfl, Nat.le_refl _, Nat.zero_le _, fun _ => rfl, fun i hi => by simp at hi⟩
        · simp at hcs
          have hrow : IsRow .u8 w (some x) l c zs := .inr ⟨_, rfl, hl, hm, by simpa using hz, hcell, hwz⟩
          obtain ⟨r1, r2, r3, r4, r5⟩ := row_all hrow
          exact ⟨some x, c, rowB zs l, by rw [r1]; exact hcs, by rw [r1]; exact r2, r3, r4, r5⟩
      have hi : ∃ a c its, v2 = .slice a (List.length its) c ∧ List.length its ≤ c ∧ c ≤ maxLen ∧ ∀ i, i < List.length its → ∃ b off u v z, a = some ⟨b, off, none⟩ ∧ True ∧ b < w.heap.size ∧
          w.cell? ⟨b, off + i * 3, none⟩ = some u ∧ w.cell? ⟨b, off + i * 3 + 1, none⟩ = some v ∧ w.cell? ⟨b, off + i * 3 + 2, none⟩ = some z ∧ IsIt (fun _ => True) w k (its.getD i default) u v z := by
        rcases DataW.trod_slice Tryd.underlying54 g2 with ⟨h0, _⟩ | ⟨a, len, cap, elems, rest, m, hkm, hcs, _, hb, hl, hm, hle, hel, _⟩
        · simp at h0
          exact ⟨none, 0, [], by rw [h0]; rfl, Nat.le_refl _, Nat.zero_le _, fun i hi => by simp at hi⟩
        · simp at hcs
          obtain ⟨b, off, sp⟩ := a
          have hs : 0 < len → sp = none := by
            intro h0
            have hz := hel 0 h0
            rw [List.getElem?_eq_getElem (by omega), cu] at hz
            obtain ⟨cs', h1, h2⟩ := Option.bind_eq_some_iff.1 hz
            obtain ⟨it, u, v, z, rfl, hx⟩ := ih m (by omega) cs' _ h2
            obtain ⟨_, _, hcell⟩ := World.cells?_some h1
            have c0 := hcell 0 (by omega)
            have e0 : ∀ q : Addr, q.add 0 = q := fun q => by simp [Addr.add]
            rw [Nat.zero_mul, e0, e0] at c0
            exact World.cell?_spot c0
          have each : ∀ i, i < len → ∃ it : Rlp.It, ∃ u v z, sp = none ∧ b < w.heap.size ∧ w.cell? ⟨b, off + i * 3, none⟩ = some u ∧ w.cell? ⟨b, off + i * 3 + 1, none⟩ = some v ∧ w.cell? ⟨b, off + i * 3 + 2, none⟩ = some z ∧ IsIt (fun _ => True) w k it u v z := by
            intro i hi
            have hz := hel i hi
            rw [List.getElem?_eq_getElem (by omega), cu] at hz
            obtain ⟨cs', h1, h2⟩ := Option.bind_eq_some_iff.1 hz
            obtain ⟨it, u, v, z, rfl, hx⟩ := ih m (by omega) cs' _ h2
            obtain ⟨_, _, hcell⟩ := World.cells?_some h1
            have c0 := hcell 0 (by omega)
            have c1 := hcell 1 (by omega)
            have c2 := hcell 2 (by omega)
            have hs := hs (by omega)
            subst hs
            rw [add_none, add_none] at c0 c1 c2
            refine ⟨it, u, v, z, rfl, ?_, c0, c1, c2, hx.le (by omega)⟩
            rcases Nat.lt_or_ge b w.heap.size with h | h
            · exact h
            · simp [World.cell?, Array.getElem?_eq_none h] at c0
          obtain ⟨z, hz⟩ := choose_lt each
          refine ⟨some ⟨b, off, sp⟩, cap, (List.range len).map z, by simpa using hcs, by simpa using hl, hm, fun i hi => ?_⟩
          have hi : i < len := by simpa using hi
          obtain ⟨u, v, z', hs, hbl, c0, c1, c2, hx⟩ := hz i hi
          subst hs
          refine ⟨b, off, u, v, z', rfl, trivial, hbl, c0, c1, c2, ?_⟩
          have : ((List.range len).map z).getD i default = z i := by rw [List.getD_eq_getElem?_getD]; simp [hi]
          rw [this]; exact hx
      obtain ⟨a, c, bs, rfl, b1, b2, b3, b4⟩ := hb
      obtain ⟨a', c', its, rfl, i1, i2, i3⟩ := hi
      simp at e0
      subst e0
      subst hk
      exact ⟨.mk l bs its, _, _, _, rfl, rfl, ⟨a, c, rfl, b1, b2, b3, b4⟩, a', c', rfl, i1, i2, i3⟩
end Go.Proofs.YtgcpnhnckbgjmaaDoor
/-
  Transactions as they come in.
-/
set_option linter.unusedVariables false
set_option linter.unusedSimpArgs false
namespace Go.Proofs.YtgcpnhnckbgjmaaDoor
open Go.RowKit Go.ChangeShapes Go.WideShapes Go.Deep
abbrev TTS : TypeId := 45
/-- A transaction as a value. -/
def txV (vs : Nat → Nat) : Value := .agg #[.int .u64 (vs 0), .int .u64 (vs 1), .int .u64 (vs 2), .int .u64 (vs 3), .int .u64 (vs 4), .int .u64 (vs 5)]
def txC (vs : Nat → Nat) : List Value := [.int .u64 (vs 0), .int .u64 (vs 1), .int .u64 (vs 2), .int .u64 (vs 3), .int .u64 (vs 4), .int .u64 (vs 5)]
theorem txC_get (vs : Nat → Nat) (k : Nat) (hk : k < 6) : (txC vs)[k]? = some (.int .u64 (vs k)) := by
  rcases (by omega : k = 0 ∨ k = 1 ∨ k = 2 ∨ k = 3 ∨ k = 4 ∨ k = 5) with rfl | rfl | rfl | rfl | rfl | rfl <;> rfl
theorem nat_of_u64 {n : Int} (h : (Lit.int .u64 n).wf = true) : ∃ m : Nat, n = m ∧ m < 18446744073709551616 := by
  have := u64_wf h
  exact ⟨n.toNat, by omega, by omega⟩
set_option maxRecDepth 100000 in
theorem tx_cells {H : Type} {enc : TypeId × Value → H} {w : World} {base : Nat} {sp : Nat → Bool} {held : Bool} {n : Nat} {cs : List Value} {x : DataW H × List MemPlace} (h : DataW.trod enc Tryd.prog w base sp held n TTX cs = some x) :
    ∃ vs, wide vs ∧ cs = txC vs := by
  obtain ⟨xs, k, hk, _, hlen, hxl, hf⟩ := DataW.trod_struct Tryd.underlying24 h
  have hc6 : cs.length = 6 := hlen.trans (by kernel_rfl)
  have hx6 : xs.length = 6 := hxl.trans (by rfl)
  match cs, hc6, xs, hx6 with
  | [v0, v1, v2, v3, v4, v5], _, [y0, y1, y2, y3, y4, y5], _ =>
    have g0 := hf 0 _ rfl
    have g1 := hf 1 _ rfl
    have g2 := hf 2 _ rfl
    have g3 := hf 3 _ rfl
    have g4 := hf 4 _ rfl
    have g5 := hf 5 _ rfl
    have cu : Tryd.prog.cellsOf 22 = 1 := by kernel_rfl
    simp [cu] at g0 g1 g2 g3 g4 g5
    obtain ⟨n0, e0, _, w0⟩ := DataW.trod_int Tryd.underlying22 g0
    obtain ⟨n1, e1, _, w1⟩ := DataW.trod_int Tryd.underlying22 g1
    obtain ⟨n2, e2, _, w2⟩ := DataW.trod_int Tryd.underlying22 g2
    obtain ⟨n3, e3, _, w3⟩ := DataW.trod_int Tryd.underlying22 g3
    obtain ⟨n4, e4, _, w4⟩ := DataW.trod_int Tryd.underlying22 g4
    obtain ⟨n5, e5, _, w5⟩ := DataW.trod_int Tryd.underlying22 g5
    simp at e0 e1 e2 e3 e4 e5
    obtain ⟨m0, rfl, h0⟩ := nat_of_u64 w0
    obtain ⟨m1, rfl, h1⟩ := nat_of_u64 w1
    obtain ⟨m2, rfl, h2⟩ := nat_of_u64 w2
    obtain ⟨m3, rfl, h3⟩ := nat_of_u64 w3
    obtain ⟨m4, rfl, h4⟩ := nat_of_u64 w4
    obtain ⟨m5, rfl, h5⟩ := nat_of_u64 w5
    subst e0; subst e1; subst e2; subst e3; subst e4; subst e5
    refine ⟨fun k => [m0, m1, m2, m3, m4, m5].getD k 0, fun k hk => ?_, rfl⟩
    rcases (by omega : k = 0 ∨ k = 1 ∨ k = 2 ∨ k = 3 ∨ k = 4 ∨ k = 5) with rfl | rfl | rfl | rfl | rfl | rfl <;> assumption
set_option maxRecDepth 100000 in
theorem tx_open {H : Type} {enc : TypeId × Value → H} {w : World} {base : Nat} {v : Value} {d : DataW H} {p : List MemPlace} (ok : Value.okWide Tryd.prog w .any base TTX v) (h : DataW.Trod enc Tryd.prog w 0 (fun _ => true) true TTX v d p) : ∃ vs, wide vs ∧ v = txV vs := by
  obtain ⟨fuel, hf⟩ := h
  obtain ⟨vs, hw, hcs⟩ := tx_cells hf
  obtain ⟨cs, rfl, _⟩ := okWide_struct Tryd.underlying24 ok
  refine ⟨vs, hw, ?_⟩
  unfold txV
  simp only [Value.cells] at hcs
  congr 1
  exact Array.toList_inj.1 hcs
/-- Transactions as they lie. -/
def IsTxs (w : World) (a : Option Addr) (len : Nat) (z : Nat → Nat → Nat) : Prop :=
  ∀ i, i < len → ∃ b off, a = some ⟨b, off, none⟩ ∧ b < w.heap.size ∧ (∀ j, j < 6 → w.cell? ⟨b, off + (i * 6 + j), none⟩ = some (.int .u64 (z i j))) ∧ wide (z i)
set_option maxRecDepth 100000 in
theorem txs_open {H : Type} {enc : TypeId × Value → H} {w : World} {base fuel : Nat} {held : Bool} {a : Option Addr} {len cap : Nat} {x : DataW H × List MemPlace}
    (h : DataW.trod enc Tryd.prog w base (fun _ => true) held fuel TTS [.slice a len cap] = some x) : len ≤ cap ∧ cap ≤ maxLen ∧ ∃ z, IsTxs w a len z := by
  have ce : Tryd.prog.cellsOf TTX = 6 := by kernel_rfl
  rcases open_slice Tryd.underlying45 h with ⟨h0, _⟩ | ⟨a', len', cap', m, n, D, Pl, hcs, _, hl, hm, hmm, _, hx⟩
  · simp at h0
    obtain ⟨rfl, rfl, rfl⟩ := h0
    exact ⟨Nat.le_refl _, Nat.zero_le _, fun _ _ => 0, fun i hi => by omega⟩
  · simp at hcs
    obtain ⟨rfl, rfl, rfl⟩ := hcs
    refine ⟨hl, hm, ?_⟩
    have hlm : len ≤ m := by rw [hmm]; simp; exact hl
    obtain ⟨b, off, sp⟩ := a'
    have hs : 0 < len → sp = none := by
      intro h0
      obtain ⟨cs', h1, h2⟩ := hx 0 (by omega)
      rw [ce] at h1
      obtain ⟨e, _, rfl⟩ := tx_cells h2
      obtain ⟨_, _, hcell⟩ := World.cells?_some h1
      have c0 := hcell 0 (by omega)
      have e0 : ∀ q : Addr, q.add 0 = q := fun q => by simp [Addr.add]
      rw [Nat.zero_mul, e0, e0] at c0
      exact World.cell?_spot c0
    have each : ∀ i, i < len → ∃ e : Nat → Nat, ∃ b' off', (⟨b, off, sp⟩ : Addr) = ⟨b', off', none⟩ ∧ b' < w.heap.size ∧ (∀ j, j < 6 → w.cell? ⟨b', off' + (i * 6 + j), none⟩ = some (.int .u64 (e j))) ∧ wide e := by
      intro i hi
      have hs := hs (by omega)
      subst hs
      obtain ⟨cs', h1, h2⟩ := hx i (by omega)
      rw [ce] at h1
      obtain ⟨e, he, rfl⟩ := tx_cells h2
      obtain ⟨_, _, hcell⟩ := World.cells?_some h1
      have ea : ∀ j, ((⟨b, off, none⟩ : Addr).add (i * 6)).add j = ⟨b, off + (i * 6 + j), none⟩ := fun j => by rw [add_add, add_plain]
      have hc : ∀ j, j < 6 → w.cell? ⟨b, off + (i * 6 + j), none⟩ = some (.int .u64 (e j)) := fun j hj => by
        have := hcell j hj
        rw [ea, txC_get e j hj] at this
        exact this
      refine ⟨e, b, off, rfl, ?_, hc, he⟩
      have c0 := hc 0 (by omega)
      rcases Nat.lt_or_ge b w.heap.size with h | h
      · exact h
      · simp [World.cell?, Array.getElem?_eq_none h] at c0
    obtain ⟨z, hz⟩ := choose_lt each
    exact ⟨z, fun i hi => by obtain ⟨b', off', h1, h2⟩ := hz i hi; exact ⟨b', off', congrArg some h1, h2⟩⟩
end Go.Proofs.YtgcpnhnckbgjmaaDoor
/-
  Rows of transactions, of places and of byte slices that a call owns; appending one element to them.
-/
set_option linter.unusedVariables false
set_option linter.unusedSimpArgs false
namespace Go.Proofs.YtgcpnhnckbgjmaaDoor
open Go.RowKit
abbrev TNS : TypeId := 46
abbrev TN : TypeId := 3
abbrev TBB : TypeId := 42
/-- A kind of row: its element's type, its own, how many cells and bytes an element has. -/
structure RowT (T SL : TypeId) (size bytes : Nat) (z : Value) : Prop where
  u : Tryd.prog.underlying SL = some (.slice T)
  i : (Tryd.prog.info? T).map (fun i => (i.zero, i.size, i.bytes)) = some (some z, size, bytes)
  zs : z.cells.size = size
  pos : 0 < size
  few : bytes ≤ 1000
theorem rtT : RowT TTX TTS 6 48 (.agg #[.int .u64 0, .int .u64 0, .int .u64 0, .int .u64 0, .int .u64 0, .int .u64 0]) := ⟨Tryd.underlying45, by kernel_rfl, rfl, by decide, by decide⟩
theorem rtN : RowT TN TNS 1 8 (.int .i64 0) := ⟨Tryd.underlying46, by kernel_rfl, rfl, by decide, by decide⟩
theorem rtB : RowT TBS TBB 1 24 (.slice none 0 0) := ⟨Tryd.underlying42, by kernel_rfl, rfl, by decide, by decide⟩
theorem rtI : RowT TI TIS 3 56 ZI := ⟨Tryd.underlying54, by kernel_rfl, rfl, by decide, by decide⟩
section
variable {T SL : TypeId} {size bytes : Nat} {z : Value}
theorem ownsRow_below {w w' : World} {base n : Nat} {v : Value} {xs : List Value} (h : w.ownsRow base T size v n xs) (hb : Below w.heap.size w w') : w'.ownsRow base T size v n xs := by
  refine ⟨h.1, ?_⟩
  rcases h.2 with h2 | ⟨g, cap, cur, e, hg, hh, r⟩
  · exact .inl h2
  · exact .inr ⟨g, cap, cur, e, hg, by rw [hb.block g (lt_of_block hh)]; exact hh, r⟩
theorem ownsRow_shape {w : World} {base n : Nat} {v : Value} {xs : List Value} (h : w.ownsRow base T size v n xs) : ∃ a c, v = .slice a n c ∧ n ≤ c ∧ c ≤ maxLen := by
  rcases h.2 with ⟨e, rfl⟩ | ⟨g, cap, cur, e, hg, hh, h1, h2, _⟩
  · exact ⟨none, 0, e, Nat.le_refl _, Nat.zero_le _⟩
  · exact ⟨_, cap, e, h1, h2⟩
theorem run_append_R (rt : RowT T SL size bytes z) (w : World) (ty : TypeId) (base : Nat) (ao : Option Addr) (n c : Nat) (vs : List Value) (hown : w.ownsRow base T size (.slice ao n c) n vs) (ad cs : Nat) (news : List Value) (hl : news.length = size)
    (hq : ∀ j u, news[j]? = some u → w.cell? ⟨ad, j, none⟩ = some u) (h1 : ∀ u ∈ news, u.oneCell' = true) (h40 : Sm ((n + 1) * bytes)) (hm : n + 1 ≤ maxLen) (hbase : base ≤ w.heap.size) :
    ∃ ao' c' w', (Builtin.append_ #[SL, SL] ty #[.slice ao n c, .slice (some ⟨ad, 0, none⟩) 1 cs]).run Tryd.prog w = .ok (.slice ao' (n + 1) c') w' ∧ w'.ownsRow base T size (.slice ao' (n + 1) c') (n + 1) (vs ++ news) ∧ w.grownBy w' (Value.slice ao n c).ownBlock ∧
      ((Value.slice ao' (n + 1) c').ownBlock = (Value.slice ao n c).ownBlock ∨ (Value.slice ao' (n + 1) c').ownBlock = some w.heap.size) := by
  obtain ⟨i0, hi, hz0, hz1, hz2⟩ := info_parts rt.i
  unfold Sm at h40
  have ade : ∀ j, (⟨ad, 0, none⟩ : Addr).add j = ⟨ad, j, none⟩ := fun j => by unfold Addr.add; split <;> simp_all
  obtain ⟨v', w', g1, g2, g3, g5⟩ := run_append_wide (P := Tryd.prog) w base SL ty T i0 z size bytes rt.u hi hz0 hz1 hz2 rt.zs rt.pos rt.few _ n _ hown ⟨ad, 0, none⟩ 1 cs news (by rw [hl, Nat.one_mul]) (fun j t hj => by rw [ade]; exact hq j t hj) h1 hm h40 hbase
  obtain ⟨ao', c', rfl, _⟩ := ownsRow_shape g2
  exact ⟨ao', c', w', g1, g2, g3, g5⟩
/-- At the list of a plain region's operations. -/
theorem wpList_append_R (rt : RowT T SL size bytes z) {w : World} {ops : Array Oper} {rest : List Oper} {o : Oper} {a : Act} {Q : Exit → Act → World → Prop} (hgd : o.guard = none) (s x : Operand)
    (ho : o.op = .call { callee := .builtin .append, args := #[s, x], argTypes := #[SL, SL] }) (base : Nat) (ao : Option Addr) (n c : Nat) (vs : List Value) (ad cs : Nat) (news : List Value) (hown : w.ownsRow base T size (.slice ao n c) n vs) (hl : news.length = size)
    (hq : ∀ j u, news[j]? = some u → w.cell? ⟨ad, j, none⟩ = some u) (h1 : ∀ u ∈ news, u.oneCell' = true) (h40 : Sm ((n + 1) * bytes)) (hm : n + 1 ≤ maxLen) (hbase : base ≤ w.heap.size) (hs : a.eval s = .slice ao n c) (hx : a.eval x = .slice (some ⟨ad, 0, none⟩) 1 cs)
    (h : ∀ ao' c' w', w'.ownsRow base T size (.slice ao' (n + 1) c') (n + 1) (vs ++ news) → w.grownBy w' (Value.slice ao n c).ownBlock → ((Value.slice ao' (n + 1) c').ownBlock = (Value.slice ao n c).ownBlock ∨ (Value.slice ao' (n + 1) c').ownBlock = some w.heap.size) → wpList Tryd.prog ops Q rest (a.put o.dst (.slice ao' (n + 1) c')) w') : wpList Tryd.prog ops Q (o :: rest) a w := by
  refine wpList_plain hgd fun K hK => ?_
  obtain ⟨ao', c', w', hr, g1, g2, g3⟩ := run_append_R rt w o.type base ao n c vs hown ad cs news hl hq h1 h40 hm hbase
  unfold Oper.wp
  simp [execOp, ho, resolve, invoke, builtin, hs, hx, hr, Result.andThen]
  exact hK _ _ (h _ _ _ g1 g2 g3)
theorem grownR_below {w w' : World} {B base n : Nat} {v : Value} {vs : List Value} (hg : w.grownBy w' v.ownBlock) (h : w.ownsRow base T size v n vs) (hB : B ≤ base) (hs : B ≤ w.heap.size) : Below B w w' := by
  refine Below.grown (Below.refl _ _) hg hs fun k hk => ?_
  have := (h.lt k hk).1
  omega
end
/-! ### Elements -/
theorem rowCell {w : World} {base n c : Nat} {a : Option Addr} {T : TypeId} {size : Nat} {vs : List Value} (h : w.ownsRow base T size (.slice a n c) n vs) (i : Nat) (hi : i < n * size) : ∃ g, a = some ⟨g, 0, none⟩ ∧ base ≤ g ∧ g < w.heap.size ∧ w.cell? ⟨g, i, none⟩ = vs[i]? := by
  rcases h.2 with ⟨_, e⟩ | ⟨g, cap, cur, e, hb, hh, _⟩
  · subst e; omega
  · injection e with e1 e2 e3
    subst e1; subst e3
    exact ⟨g, rfl, hb, lt_of_block hh, h.cellAt i hi⟩
/-- The cells of a list of transactions. -/
def txsC (ts : List (Nat → Nat)) : List Value := ts.flatMap txC
theorem txsC_len (ts : List (Nat → Nat)) : (txsC ts).length = ts.length * 6 := by
  induction ts with
  | nil => rfl
  | cons t ts ih => simp [txsC, txC] at ih ⊢; omega
theorem txsC_get (ts : List (Nat → Nat)) (i j : Nat) (hi : i < ts.length) (hj : j < 6) : (txsC ts)[i * 6 + j]? = some (.int .u64 (ts.getD i (fun _ => 0) j)) := by
  induction ts generalizing i with
  | nil => simp at hi
  | cons t ts ih =>
    show (txC t ++ txsC ts)[i * 6 + j]? = _
    cases i with
    | zero => rw [List.getElem?_append_left (by simp [txC]; omega), Nat.zero_mul, Nat.zero_add, txC_get t j hj]; rfl
    | succ i =>
      rw [List.getElem?_append_right (by simp [txC]; omega), show (i + 1) * 6 + j - (txC t).length = i * 6 + j by simp [txC]; omega, ih i (by simpa using hi)]
      rfl
theorem txsC_app (ts : List (Nat → Nat)) (t : Nat → Nat) : txsC (ts ++ [t]) = txsC ts ++ txC t := by simp [txsC]
/-- Transactions where they lie. -/
def TxsAt (F : Nat → Prop) (w : World) (a : Option Addr) (ts : List (Nat → Nat)) : Prop :=
  ∀ i, i < ts.length → ∃ b off, a = some ⟨b, off, none⟩ ∧ F b ∧ b < w.heap.size ∧ ∀ j, j < 6 → w.cell? ⟨b, off + (i * 6 + j), none⟩ = some (.int .u64 (ts.getD i (fun _ => 0) j))
theorem TxsAt.below {F : Nat → Prop} {w w' : World} {a : Option Addr} {ts : List (Nat → Nat)} (h : TxsAt F w a ts) (hb : Below w.heap.size w w') : TxsAt F w' a ts := fun i hi => by
  obtain ⟨b, off, e, hF, hl, hc⟩ := h i hi
  exact ⟨b, off, e, hF, by have := hb.size; omega, fun j hj => by rw [hb.cell (p := ⟨b, off + (i * 6 + j), none⟩) hl]; exact hc j hj⟩
theorem IsTxs.at {w : World} {a : Option Addr} {len : Nat} {z : Nat → Nat → Nat} (h : IsTxs w a len z) : TxsAt (fun _ => True) w a ((List.range len).map z) := fun i hi => by
  have hi : i < len := by simpa using hi
  obtain ⟨b, off, e, hl, hc, _⟩ := h i hi
  refine ⟨b, off, e, trivial, hl, fun j hj => ?_⟩
  rw [hc j hj, List.getD_eq_getElem?_getD, List.getElem?_map, List.getElem?_range hi]; rfl
/-- A row of transactions of the call's own. -/
def OwnT (w : World) (base : Nat) (v : Value) (ts : List (Nat → Nat)) : Prop := w.ownsRow base TTX 6 v ts.length (txsC ts)
theorem OwnT.at {w : World} {base c : Nat} {a : Option Addr} {ts : List (Nat → Nat)} (h : OwnT w base (.slice a ts.length c) ts) : TxsAt (fun b => base ≤ b) w a ts := fun i hi => by
  obtain ⟨g, e, hb, hl, _⟩ := rowCell h (i * 6) (by omega)
  refine ⟨g, 0, e, hb, hl, fun j hj => ?_⟩
  obtain ⟨g', e', _, _, hc⟩ := rowCell h (i * 6 + j) (by omega)
  rw [e] at e'
  injection e' with e'; injection e' with e'
  subst e'
  rw [Nat.zero_add, hc, txsC_get ts i j hi hj]
theorem OwnT.below {w w' : World} {base : Nat} {v : Value} {ts : List (Nat → Nat)} (h : OwnT w base v ts) (hb : Below w.heap.size w w') : OwnT w' base v ts := ownsRow_below h hb
theorem OwnT.nil (w : World) (base : Nat) : OwnT w base (.slice none 0 0) [] := World.ownsRow_nil _ _ _ _
/-- A row of places of the call's own. -/
def OwnN (w : World) (base : Nat) (v : Value) (ns : List Nat) : Prop := w.ownsRow base TN 1 v ns.length (ns.map fun (k : Nat) => Value.int .i64 (k : Int))
theorem OwnN.below {w w' : World} {base : Nat} {v : Value} {ns : List Nat} (h : OwnN w base v ns) (hb : Below w.heap.size w w') : OwnN w' base v ns := ownsRow_below h hb
theorem OwnN.nil (w : World) (base : Nat) : OwnN w base (.slice none 0 0) [] := World.ownsRow_nil _ _ _ _
def NsAt (F : Nat → Prop) (w : World) (a : Option Addr) (ns : List Nat) : Prop :=
  ∀ i, i < ns.length → ∃ b off, a = some ⟨b, off, none⟩ ∧ F b ∧ b < w.heap.size ∧ w.cell? ⟨b, off + i, none⟩ = some (.int .i64 (ns.getD i 0 : Nat))
theorem OwnN.at {w : World} {base c : Nat} {a : Option Addr} {ns : List Nat} (h : OwnN w base (.slice a ns.length c) ns) : NsAt (fun b => base ≤ b) w a ns := fun i hi => by
  obtain ⟨g, e, hb, hl, hc⟩ := rowCell h i (by omega)
  refine ⟨g, 0, e, hb, hl, ?_⟩
  rw [Nat.zero_add, hc, List.getElem?_map, List.getD_eq_getElem?_getD, List.getElem?_eq_getElem hi]; rfl
theorem NsAt.below {F : Nat → Prop} {w w' : World} {a : Option Addr} {ns : List Nat} (h : NsAt F w a ns) (hb : Below w.heap.size w w') : NsAt F w' a ns := fun i hi => by
  obtain ⟨b, off, e, hF, hl, hc⟩ := h i hi
  exact ⟨b, off, e, hF, by have := hb.size; omega, by rw [hb.cell (p := ⟨b, off + i, none⟩) hl]; exact hc⟩
end Go.Proofs.YtgcpnhnckbgjmaaDoor
/-
  tx.Unbatch by its contract.
-/
set_option linter.unusedVariables false
set_option linter.unusedSimpArgs false
namespace Go.Proofs.YtgcpnhnckbgjmaaDoor
open Go.RowKit
variable {F : Nat → Prop}
/-- The transaction that an item of a batch is. -/
def uTx (y : Rlp.It) : Option (Nat → Nat) := if y.list then none else match tDec y.bytes with
  | .ok vs => some vs
  | .error _ => none
def uTxs (its : List Rlp.It) (j : Nat) : List (Nat → Nat) := (its.take j).filterMap uTx
def uBad (its : List Rlp.It) (j : Nat) : List Nat := (List.range j).filter fun i => (uTx (its.getD i default)).isNone
theorem uTxs_len (its : List Rlp.It) (j : Nat) : (uTxs its j).length ≤ j := Nat.le_trans (List.length_filterMap_le _ _) (by rw [List.length_take]; exact Nat.min_le_left _ _)
theorem uBad_len (its : List Rlp.It) (j : Nat) : (uBad its j).length ≤ j := Nat.le_trans (List.length_filter_le _ _) (by simp)
theorem take_succD (its : List Rlp.It) (j : Nat) (hj : j < its.length) : its.take (j + 1) = its.take j ++ [its.getD j default] := by
  rw [List.take_add_one, List.getD_eq_getElem?_getD, List.getElem?_eq_getElem hj]; rfl
theorem uTxs_some {its : List Rlp.It} {j : Nat} {vs : Nat → Nat} (hj : j < its.length) (h : uTx (its.getD j default) = some vs) : uTxs its (j + 1) = uTxs its j ++ [vs] := by
  unfold uTxs
  rw [take_succD its j hj, List.filterMap_append]
  generalize its.getD j default = y at h ⊢
  simp [h]
theorem uTxs_none {its : List Rlp.It} {j : Nat} (hj : j < its.length) (h : uTx (its.getD j default) = none) : uTxs its (j + 1) = uTxs its j := by
  unfold uTxs
  rw [take_succD its j hj, List.filterMap_append]
  generalize its.getD j default = y at h ⊢
  simp [h]
theorem uBad_some {its : List Rlp.It} {j : Nat} {vs : Nat → Nat} (h : uTx (its.getD j default) = some vs) : uBad its (j + 1) = uBad its j := by
  unfold uBad
  rw [List.range_succ, List.filter_append]
  have h2 : (List.filter (fun i => (uTx (its.getD i default)).isNone) [j]) = [] := by
    rw [List.filter_cons, h]; rfl
  rw [h2, List.append_nil]
theorem uBad_none {its : List Rlp.It} {j : Nat} (h : uTx (its.getD j default) = none) : uBad its (j + 1) = uBad its j ++ [j] := by
  unfold uBad
  rw [List.range_succ, List.filter_append]
  have h2 : (List.filter (fun i => (uTx (its.getD i default)).isNone) [j]) = [j] := by
    rw [List.filter_cons, h]; rfl
  rw [h2]
/-- The items of a batch's bytes, or what is wrong. -/
def uDec (b : List UInt8) : Except (Option Nat × Nat) (List Rlp.It) := match Rlp.decode b with
  | .error (p, c) => .error (some p, c)
  | .ok x => if x.list = false then .error (none, 3) else if 8 < x.items.length then .error (none, 5) else .ok x.items
/-- What tx.Unbatch answers. -/
def UDec (w : World) (r : Except (Option Nat × Nat) (List Rlp.It)) (e : Ending) (w' : World) : Prop :=
  Below w.heap.size w w' ∧ match r with
  | .error (some p, c) => ∃ q, e = .returned (.tuple #[.slice none 0 0, .slice none 0 0, .iface TF (.pointer (some ⟨q, 0, none⟩))]) ∧ FaultAt w' q p c
  | .error (none, c) => e = .returned (.tuple #[.slice none 0 0, .slice none 0 0, .iface TE (.int .i64 c)])
  | .ok its => ∃ al nl cl ab nb cb, e = .returned (.tuple #[.slice al nl cl, .slice ab nb cb, .nilIface]) ∧ nl = (uTxs its its.length).length ∧ nb = (uBad its its.length).length ∧ OwnT w' w.heap.size (.slice al nl cl) (uTxs its its.length) ∧ OwnN w' w.heap.size (.slice ab nb cb) (uBad its its.length)
set_option maxRecDepth 100000 in
set_option maxHeartbeats 1000000 in
theorem unb_err (w : World) (a : Option Addr) (n c : Nat) (b : List UInt8) (hl : b.length = n) (hc : n ≤ c) (hcm : c ≤ maxLen) (hb : BytesF F w a b) (p k : Nat) (h : Rlp.decode b = .error (p, k)) :
    Calls Tryd.prog 15 #[.slice a n c] w (UDec w (.error (some p, k))) := by
  have HC := Lib.hid (dec_V w a n c b hl hc hcm hb)
  have HD := Lib.hid h
  clear hl hb h
  go_enter Tryd.func15, Tryd.ntmps15
  go_wp2_with (go_at_call 27; (with_reducible refine HC.out.mono ?_); rintro e w2 he; rw [HD.out] at he; obtain ⟨hb2, q, rfl, hfa, hq⟩ := he; have HF := Lib.hid hfa; have HB := Lib.hid hb2; have hz := hfa.lt; clear hfa hb2)
  go_returns
  exact ⟨HB.out.alloc HB.out.size _, _, rfl, HF.out.below ((Below.refl _ _).alloc (Nat.le_refl _) _)⟩
set_option maxRecDepth 100000 in
set_option maxHeartbeats 1000000 in
theorem unb_shape (w : World) (a : Option Addr) (n c : Nat) (b : List UInt8) (hl : b.length = n) (hc : n ≤ c) (hcm : c ≤ maxLen) (hb : BytesF F w a b) (x : Rlp.It) (h : Rlp.decode b = .ok x) (hx : x.list = false) :
    Calls Tryd.prog 15 #[.slice a n c] w (UDec w (.error (none, 3))) := by
  have HC := Lib.hid (dec_V w a n c b hl hc hcm hb)
  have HD := Lib.hid h
  have HX := Lib.hid hx
  clear hl hb h hx
  go_enter Tryd.func15, Tryd.ntmps15
  go_wp2_with (go_at_call 27; (with_reducible refine HC.out.mono ?_); rintro e w2 he; rw [HD.out] at he; obtain ⟨hb2, vl, vb, vi, rfl, hit⟩ := he; obtain ⟨h1, ⟨a1, c1, h2, _⟩, a2, c2, h3, _, _, _⟩ := hit; rw [HX.out] at h1; subst h1; subst h2; subst h3; have HB := Lib.hid hb2; clear hb2)
  go_returns
  exact ⟨HB.out.alloc HB.out.size _, rfl⟩
set_option maxRecDepth 100000 in
set_option maxHeartbeats 1000000 in
theorem unb_full (w : World) (a : Option Addr) (n c : Nat) (b : List UInt8) (hl : b.length = n) (hc : n ≤ c) (hcm : c ≤ maxLen) (hb : BytesF F w a b) (x : Rlp.It) (h : Rlp.decode b = .ok x) (hx : x.list = true) (h8 : 8 < x.items.length) :
    Calls Tryd.prog 15 #[.slice a n c] w (UDec w (.error (none, 5))) := by
  have HC := Lib.hid (dec_V w a n c b hl hc hcm hb)
  have HD := Lib.hid h
  have HX := Lib.hid hx
  obtain ⟨m, hm⟩ : ∃ m, x.items.length = m := ⟨_, rfl⟩
  have HM := Lib.hid hm
  rw [hm] at h8
  clear hl hb h hx hm
  go_enter Tryd.func15, Tryd.ntmps15
  go_wp2_with (go_at_call 27; (with_reducible refine HC.out.mono ?_); rintro e w2 he; rw [HD.out] at he; obtain ⟨hb2, vl, vb, vi, rfl, hit⟩ := he; obtain ⟨h1, ⟨a1, c1, h2, _⟩, a2, c2, h3, _, _, _⟩ := hit; rw [HX.out] at h1; rw [HM.out] at h3; subst h1; subst h2; subst h3; have HB := Lib.hid hb2; clear hb2)
  go_returns
  exact ⟨HB.out.alloc HB.out.size _, rfl⟩
/-- What lies there in the loop. -/
structure UR (w : World) (B : Nat) (its : List Rlp.It) (j : Nat) (vl vb : Value) (a2 : Option Addr) (W : World) : Prop where
  b : Below w.heap.size w W
  lt : B < W.heap.size
  hB : w.heap.size ≤ B
  t : OwnT W (B + 1) vl (uTxs its j)
  n : OwnN W (B + 1) vb (uBad its j)
  d : ∀ k, vl.ownBlock = some k → vb.ownBlock ≠ some k
  i : ItsAt (fun b => b < B) W 15 a2 its
theorem UR.below {w W W' : World} {B j : Nat} {its : List Rlp.It} {vl vb : Value} {a2 : Option Addr} (h : UR w B its j vl vb a2 W) (hb : Below W.heap.size W W') : UR w B its j vl vb a2 W' :=
  ⟨h.b.trans (hb.mono h.b.size), by have := h.lt; have := hb.size; omega, h.hB, h.t.below hb, h.n.below hb, h.d, h.i.below hb⟩
theorem ItsAt.grown {w w' : World} {k B : Nat} {a : Option Addr} {its : List Rlp.It} (h : ItsAt (fun b => b < B) w k a its) (hg : Below B w w') : ItsAt (fun b => b < B) w' k a its :=
  h.move fun b hF hl => ⟨hF, by have := hg.size; omega, hg.block b hF⟩
theorem ownBlock_ne {W : World} {base T size n m : Nat} {v : Value} {xs : List Value} (h : W.ownsRow base T size v n xs) : v.ownBlock ≠ some W.heap.size := fun e => by
  have := (h.lt _ e).2; omega
theorem UR.bad {w W W' : World} {B j nb : Nat} {its : List Rlp.It} {vl : Value} {ab ab' : Option Addr} {cb cb' : Nat} {a2 : Option Addr} (h : UR w B its j vl (.slice ab nb cb) a2 W) (hj : j < its.length) (hu : uTx (its.getD j default) = none) (hn : (uBad its j).length = nb)
    (ho : W'.ownsRow (B + 1) TN 1 (.slice ab' (nb + 1) cb') (nb + 1) ((uBad its j).map (fun (k : Nat) => Value.int .i64 (k : Int)) ++ [.int .i64 (j : Int)])) (hg : W.grownBy W' (Value.slice ab nb cb).ownBlock)
    (hw : (Value.slice ab' (nb + 1) cb').ownBlock = (Value.slice ab nb cb).ownBlock ∨ (Value.slice ab' (nb + 1) cb').ownBlock = some W.heap.size) : UR w B its (j + 1) vl (.slice ab' (nb + 1) cb') a2 W' := by
  have hl := h.lt
  have hbb : Below (B + 1) W W' := grownR_below hg h.n (Nat.le_refl _) (by omega)
  refine ⟨h.b.trans (hbb.mono (by have := h.hB; omega)), by have := hg.size; omega, h.hB, ?_, ?_, ?_, h.i.grown (hbb.mono (by omega))⟩
  · rw [uTxs_none hj hu]
    refine World.ownsRow.kept h.t hg ?_
    cases hv : vl.ownBlock with
    | none => exact .inl rfl
    | some k => exact .inr fun e => h.d k hv e.symm
  · unfold OwnN
    rw [uBad_none hu, List.map_append, List.length_append, hn]
    exact ho
  · intro k hk e
    rcases hw with hw | hw
    · rw [hw] at e; exact h.d k hk e
    · rw [hw] at e; injection e with e; subst e; exact ownBlock_ne (m := 0) h.t hk
theorem UR.good {w W W' : World} {B j nl : Nat} {its : List Rlp.It} {vb : Value} {al al' : Option Addr} {cl cl' : Nat} {a2 : Option Addr} {vs : Nat → Nat} (h : UR w B its j (.slice al nl cl) vb a2 W) (hj : j < its.length) (hu : uTx (its.getD j default) = some vs) (hn : (uTxs its j).length = nl)
    (ho : W'.ownsRow (B + 1) TTX 6 (.slice al' (nl + 1) cl') (nl + 1) (txsC (uTxs its j) ++ txC vs)) (hg : W.grownBy W' (Value.slice al nl cl).ownBlock)
    (hw : (Value.slice al' (nl + 1) cl').ownBlock = (Value.slice al nl cl).ownBlock ∨ (Value.slice al' (nl + 1) cl').ownBlock = some W.heap.size) : UR w B its (j + 1) (.slice al' (nl + 1) cl') vb a2 W' := by
  have hl := h.lt
  have hbb : Below (B + 1) W W' := grownR_below hg h.t (Nat.le_refl _) (by omega)
  refine ⟨h.b.trans (hbb.mono (by have := h.hB; omega)), by have := hg.size; omega, h.hB, ?_, ?_, ?_, h.i.grown (hbb.mono (by omega))⟩
  · unfold OwnT
    rw [uTxs_some hj hu, txsC_app, List.length_append, hn]
    exact ho
  · rw [uBad_some hu]
    refine World.ownsRow.kept h.n hg ?_
    cases hv : vb.ownBlock with
    | none => exact .inl rfl
    | some k => exact .inr fun e => h.d k e.symm hv
  · intro k hk e
    rcases hw with hw | hw
    · rw [hw] at hk; exact h.d k hk e
    · rw [hw] at hk; injection hk with hk; subst hk; exact ownBlock_ne (m := 0) h.n e
theorem tdec_good (w : World) (a : Option Addr) (n c : Nat) (b : List UInt8) (hl : b.length = n) (hc : n ≤ c) (hcm : c ≤ maxLen) (hb : BytesF F w a b) (vs : Nat → Nat) (h : tDec b = .ok vs) : Calls Tryd.prog 7 #[.slice a n c] w fun e w' => e = .returned (.tuple #[.agg #[.int .u64 (vs 0), .int .u64 (vs 1), .int .u64 (vs 2), .int .u64 (vs 3), .int .u64 (vs 4), .int .u64 (vs 5)], .nilIface]) ∧ Below w.heap.size w w' := by
  refine (tdec_V w a n c b hl hc hcm hb).mono ?_
  rw [h]
  rintro e w' ⟨hb, he⟩
  exact ⟨he, hb⟩
theorem tdec_wrong (w : World) (a : Option Addr) (n c : Nat) (b : List UInt8) (hl : b.length = n) (hc : n ≤ c) (hcm : c ≤ maxLen) (hb : BytesF F w a b) (r : Option Nat × Nat) (h : tDec b = .error r) : Calls Tryd.prog 7 #[.slice a n c] w fun e w' => ∃ ty x, e = .returned (.tuple #[ZT, .iface ty x]) ∧ Below w.heap.size w w' := by
  refine (tdec_V w a n c b hl hc hcm hb).mono ?_
  rw [h]
  obtain ⟨p, k⟩ := r
  cases p with
  | none => rintro e w' ⟨hb, he⟩; exact ⟨_, _, he, hb⟩
  | some p => rintro e w' ⟨hb, q, he, _⟩; exact ⟨_, _, he, hb⟩
theorem txC_one (vs : Nat → Nat) : ∀ u ∈ txC vs, u.oneCell' = true := by
  intro u hu
  simp [txC] at hu
  rcases hu with rfl | rfl | rfl | rfl | rfl | rfl <;> rfl
theorem newC {W : World} {xs : List Value} {T : TypeId} {g : Nat} (hg : W.heap.size = g) : ∀ j u, xs[j]? = some u → (W.alloc (.cells xs.toArray T)).cell? ⟨g, j, none⟩ = some u := by
  subst hg
  intro j u h
  rw [World.cell?_alloc_at _ _ _ _ rfl]
  simpa using h
set_option maxRecDepth 100000 in
set_option maxHeartbeats 8000000 in
theorem unb_list (w : World) (a : Option Addr) (n c : Nat) (b : List UInt8) (hl : b.length = n) (hc : n ≤ c) (hcm : c ≤ maxLen) (hb : BytesF F w a b) (x : Rlp.It) (h : Rlp.decode b = .ok x) (hx : x.list = true) (h8 : x.items.length ≤ 8) :
    Calls Tryd.prog 15 #[.slice a n c] w (UDec w (.ok x.items)) := by
  have HC := Lib.hid (dec_V w a n c b hl hc hcm hb)
  have HD := Lib.hid h
  have HX := Lib.hid hx
  obtain ⟨its, hits⟩ : ∃ its, x.items = its := ⟨_, rfl⟩
  obtain ⟨m, hm⟩ : ∃ m, x.items.length = m := ⟨_, rfl⟩
  have HM := Lib.hid hm
  rw [hm] at h8
  have HMI : Hid (its.length = m) := by rw [← hits]; exact hm
  have HIT := Lib.hid hits
  rw [hits]
  clear hl hb h hx hm hits
  go_enter Tryd.func15, Tryd.ntmps15
  go_wp2_with (go_at_call 27; (with_reducible refine HC.out.mono ?_); rintro e w2 he; rw [HD.out] at he; obtain ⟨hb2, vl, vb, vi, rfl, hit⟩ := he; obtain ⟨h1, ⟨a1, c1, h2, _⟩, a2, c2, h3, _, _, h9⟩ := hit; rw [HX.out] at h1; rw [HM.out] at h3; subst h1; subst h2; subst h3; have hU0 : UR w w2.heap.size its 0 (.slice none 0 0) (.slice none 0 0) a2 (w2.alloc (.cells #[.bool true, .slice a1 x.bytes.length c1, .slice a2 m c2] TI)) := (⟨hb2.alloc hb2.size _, by simp, hb2.size, OwnT.nil _ _, OwnN.nil _ _, (fun k hk => by simp [Value.ownBlock] at hk), (by rw [← HIT.out]; exact (ItsAt.move (F := fun b => w.heap.size ≤ b) h9 fun b hF hl => ⟨hl, by simp; omega, heap_alloc_old _ _ hl⟩))⟩); have HU0 := Lib.hid hU0; clear hb2 h9 hU0)
  go_loopw [7, 8, 9, 10, 11, 12, 36] (fun ll bb ii py pt ee idx wr => ∃ (j nl nb cl cb : Nat) (al ab : Option Addr), j ≤ m ∧ idx = .int .i64 j ∧ ll = .slice al nl cl ∧ bb = .slice ab nb cb ∧ Hid (UR w w2.heap.size its j (.slice al nl cl) (.slice ab nb cb) a2 wr) ∧ Hid ((uTxs its j).length = nl) ∧ Hid ((uBad its j).length = nb)) (fun _ _ _ _ _ _ idx _ => m - (intOf idx).toNat)
  case atStart => exact ⟨0, 0, 0, 0, 0, none, none, by omega, rfl, rfl, rfl, HU0.out, rfl, rfl⟩
  case round =>
    obtain ⟨j, nl, nb, cl, cb, al, ab, hj, rfl, rfl, rfl, HR, HNL, HNB⟩ := hrel
    have hwr := HR.out.lt
    have hnl8 : nl ≤ 8 := by have := uTxs_len its j; have := HNL.out; omega
    have hnb8 : nb ≤ 8 := by have := uBad_len its j; have := HNB.out; omega
    clear HU0
    by_cases hlt : j < m
    · have hlt' : j < its.length := by rw [HMI.out]; exact hlt
      obtain ⟨b, off, u, v, z, rfl, hF, hbl, c0, c1', c2', hx⟩ := HR.out.i j hlt'
      obtain ⟨h1, ⟨ya, yc, h2, h3, h4, h40, h5⟩, ya', yc', h6, _⟩ := hx
      obtain ⟨yl, hyl⟩ : ∃ yl, (its.getD j default).list = yl := ⟨_, rfl⟩
      obtain ⟨yb, hyb⟩ : ∃ yb, (its.getD j default).bytes = yb := ⟨_, rfl⟩
      obtain ⟨yn, hyn⟩ : ∃ yn, yb.length = yn := ⟨_, rfl⟩
      obtain ⟨ym, hym⟩ : ∃ ym, (its.getD j default).items.length = ym := ⟨_, rfl⟩
      rw [hyl] at h1; rw [hyb] at h2 h3 h5; rw [hyn] at h2 h3; rw [hym] at h6
      have H5 := Lib.hid h5
      subst h1; subst h2; subst h6
      have HYL := Lib.hid hyl
      have HYB := Lib.hid hyb
      have HYN := Lib.hid hyn
      have H4 := Lib.hid h4
      have hmx : (m : Nat) ≤ 8 := h8
      clear hyl hyb hyn hym h5 h4
      rcases ht : tDec yb with r | vs
      · have HT := Lib.hid ht
        have HUx : Hid (uTx (its.getD j default) = none) := by
          show _ = _
          unfold uTx
          rw [HYB.out, ht]
          split <;> rfl
        clear ht
        cases yl
        · go_wp2_with (first
            | (go_at_call 7; (with_reducible refine (tdec_wrong _ ya yn yc yb HYN.out h3 H4.out (H5.out.below ((Below.refl _ _).alloc (Nat.le_refl _) _)) r HT.out).mono ?_); rintro e w5 ⟨ty, tx, rfl, hb5⟩; have HSY := Lib.hid ((SlotI.new wr (.bool false) (.slice ya yn yc) (.slice ya' ym yc')).below hb5); have y0 := HSY.out.c0; have hy := HSY.out.lt; have HR5 := Lib.hid ((HR.out.below ((Below.refl _ _).alloc (Nat.le_refl _) _)).below hb5); have h5z := HR5.out.lt; clear hb5)
            | (at_builtin; have HRx := Lib.hid ((HR5.out.below ((Below.refl _ _).alloc (Nat.le_refl _) (.cells #[.int .u64 0, .int .u64 0, .int .u64 0, .int .u64 0, .int .u64 0, .int .u64 0] TTX))).below ((Below.refl _ _).alloc (Nat.le_refl _) (.cells #[.int .i64 (j : Int)] TN))); have hn0 := HRx.out.n; unfold OwnN at hn0; rw [HNB.out] at hn0; refine wpList_append_R rtN rfl (.tmp 53) (.tmp 55) rfl (w2.heap.size + 1) ab nb cb _ (w5.heap.size + 1) 1 [.int .i64 j] hn0 rfl (newC (by simp)) (by simp [Value.oneCell']) (Sm.of (by omega)) (by unfold maxLen; omega) (by simp; omega) rfl rfl ?_; clear hn0; intro ao' c' w6 ho hg hw; have HR6 := Lib.hid (HRx.out.bad hlt' HUx.out HNB.out ho hg hw); clear ho hg hw))
          go_roundw
          case rel => exact ⟨j + 1, nl, nb + 1, cl, c', al, ao', by omega, by go_num, rfl, rfl, HR6.out, by show _ = _; rw [uTxs_none hlt' HUx.out]; exact HNL.out, by show _ = _; rw [uBad_none HUx.out, List.length_append, HNB.out]; rfl⟩
          case measure => simp [intOf]; omega
        · go_wp2_with (first
            | (go_at_call 7; (with_reducible refine (tdec_wrong _ ya yn yc yb HYN.out h3 H4.out (H5.out.below ((Below.refl _ _).alloc (Nat.le_refl _) _)) r HT.out).mono ?_); rintro e w5 ⟨ty, tx, rfl, hb5⟩; have HSY := Lib.hid ((SlotI.new wr (.bool true) (.slice ya yn yc) (.slice ya' ym yc')).below hb5); have y0 := HSY.out.c0; have hy := HSY.out.lt; have HR5 := Lib.hid ((HR.out.below ((Below.refl _ _).alloc (Nat.le_refl _) _)).below hb5); have h5z := HR5.out.lt; clear hb5)
            | (at_builtin; have HRx := Lib.hid ((HR5.out.below ((Below.refl _ _).alloc (Nat.le_refl _) (.cells #[.int .u64 0, .int .u64 0, .int .u64 0, .int .u64 0, .int .u64 0, .int .u64 0] TTX))).below ((Below.refl _ _).alloc (Nat.le_refl _) (.cells #[.int .i64 (j : Int)] TN))); have hn0 := HRx.out.n; unfold OwnN at hn0; rw [HNB.out] at hn0; refine wpList_append_R rtN rfl (.tmp 53) (.tmp 55) rfl (w2.heap.size + 1) ab nb cb _ (w5.heap.size + 1) 1 [.int .i64 j] hn0 rfl (newC (by simp)) (by simp [Value.oneCell']) (Sm.of (by omega)) (by unfold maxLen; omega) (by simp; omega) rfl rfl ?_; clear hn0; intro ao' c' w6 ho hg hw; have HR6 := Lib.hid (HRx.out.bad hlt' HUx.out HNB.out ho hg hw); clear ho hg hw))
          go_roundw
          case rel => exact ⟨j + 1, nl, nb + 1, cl, c', al, ao', by omega, by go_num, rfl, rfl, HR6.out, by show _ = _; rw [uTxs_none hlt' HUx.out]; exact HNL.out, by show _ = _; rw [uBad_none HUx.out, List.length_append, HNB.out]; rfl⟩
          case measure => simp [intOf]; omega
      · have HT := Lib.hid ht
        cases yl
        · have HUx : Hid (uTx (its.getD j default) = some vs) := by
            show _ = _
            unfold uTx
            rw [HYL.out, HYB.out, ht]; rfl
          clear ht
          go_wp2_with (first
            | (go_at_call 7; (with_reducible refine (tdec_good _ ya yn yc yb HYN.out h3 H4.out (H5.out.below ((Below.refl _ _).alloc (Nat.le_refl _) _)) vs HT.out).mono ?_); rintro e w5 ⟨rfl, hb5⟩; have HSY := Lib.hid ((SlotI.new wr (.bool false) (.slice ya yn yc) (.slice ya' ym yc')).below hb5); have y0 := HSY.out.c0; have hy := HSY.out.lt; have HR5 := Lib.hid ((HR.out.below ((Below.refl _ _).alloc (Nat.le_refl _) _)).below hb5); have h5z := HR5.out.lt; clear hb5)
            | (at_builtin; have HRx := Lib.hid ((HR5.out.below ((Below.refl _ _).alloc (Nat.le_refl _) (.cells #[.int .u64 (vs 0), .int .u64 (vs 1), .int .u64 (vs 2), .int .u64 (vs 3), .int .u64 (vs 4), .int .u64 (vs 5)] TTX))).below ((Below.refl _ _).alloc (Nat.le_refl _) (.cells #[.int .u64 (vs 0), .int .u64 (vs 1), .int .u64 (vs 2), .int .u64 (vs 3), .int .u64 (vs 4), .int .u64 (vs 5)] TTX))); have hn0 := HRx.out.t; unfold OwnT at hn0; rw [HNL.out] at hn0; refine wpList_append_R rtT rfl (.tmp 57) (.tmp 59) rfl (w2.heap.size + 1) al nl cl _ (w5.heap.size + 1) 1 (txC vs) hn0 rfl (newC (by simp)) (txC_one vs) (Sm.of (by omega)) (by unfold maxLen; omega) (by simp; omega) rfl rfl ?_; clear hn0; intro ao' c' w6 ho hg hw; have HR6 := Lib.hid (HRx.out.good hlt' HUx.out HNL.out ho hg hw); clear ho hg hw))
          go_roundw
          case rel => exact ⟨j + 1, nl + 1, nb, c', cb, ao', ab, by omega, by go_num, rfl, rfl, HR6.out, by show _ = _; rw [uTxs_some hlt' HUx.out, List.length_append, HNL.out]; rfl, by show _ = _; rw [uBad_some HUx.out]; exact HNB.out⟩
          case measure => simp [intOf]; omega
        · have HUx : Hid (uTx (its.getD j default) = none) := by
            show _ = _
            unfold uTx
            rw [HYL.out]; rfl
          clear ht
          go_wp2_with (first
            | (go_at_call 7; (with_reducible refine (tdec_good _ ya yn yc yb HYN.out h3 H4.out (H5.out.below ((Below.refl _ _).alloc (Nat.le_refl _) _)) vs HT.out).mono ?_); rintro e w5 ⟨rfl, hb5⟩; have HSY := Lib.hid ((SlotI.new wr (.bool true) (.slice ya yn yc) (.slice ya' ym yc')).below hb5); have y0 := HSY.out.c0; have hy := HSY.out.lt; have HR5 := Lib.hid ((HR.out.below ((Below.refl _ _).alloc (Nat.le_refl _) _)).below hb5); have h5z := HR5.out.lt; clear hb5)
            | (at_builtin; have HRx := Lib.hid ((HR5.out.below ((Below.refl _ _).alloc (Nat.le_refl _) (.cells #[.int .u64 (vs 0), .int .u64 (vs 1), .int .u64 (vs 2), .int .u64 (vs 3), .int .u64 (vs 4), .int .u64 (vs 5)] TTX))).below ((Below.refl _ _).alloc (Nat.le_refl _) (.cells #[.int .i64 (j : Int)] TN))); have hn0 := HRx.out.n; unfold OwnN at hn0; rw [HNB.out] at hn0; refine wpList_append_R rtN rfl (.tmp 53) (.tmp 55) rfl (w2.heap.size + 1) ab nb cb _ (w5.heap.size + 1) 1 [.int .i64 j] hn0 rfl (newC (by simp)) (by simp [Value.oneCell']) (Sm.of (by omega)) (by unfold maxLen; omega) (by simp; omega) rfl rfl ?_; clear hn0; intro ao' c' w6 ho hg hw; have HR6 := Lib.hid (HRx.out.bad hlt' HUx.out HNB.out ho hg hw); clear ho hg hw))
          go_roundw
          case rel => exact ⟨j + 1, nl, nb + 1, cl, c', al, ao', by omega, by go_num, rfl, rfl, HR6.out, by show _ = _; rw [uTxs_none hlt' HUx.out]; exact HNL.out, by show _ = _; rw [uBad_none HUx.out, List.length_append, HNB.out]; rfl⟩
          case measure => simp [intOf]; omega
    · have hjm : j = m := by omega
      subst hjm
      go_wp2
      go_returns
      have ht := HR.out.t
      have hn := HR.out.n
      refine ⟨HR.out.b, al, nl, cl, ab, nb, cb, rfl, ?_, ?_, ?_, ?_⟩
      · rw [HMI.out]; exact HNL.out.symm
      · rw [HMI.out]; exact HNB.out.symm
      · rw [HMI.out]; exact World.ownsRow.mono ht (by have := HR.out.hB; omega)
      · rw [HMI.out]; exact World.ownsRow.mono hn (by have := HR.out.hB; omega)
/-- tx.Unbatch answers the batch's transactions and the places of what is none, or what is wrong. -/
theorem unb_V (w : World) (a : Option Addr) (n c : Nat) (b : List UInt8) (hl : b.length = n) (hc : n ≤ c) (hcm : c ≤ maxLen) (hb : BytesF F w a b) : Calls Tryd.prog 15 #[.slice a n c] w (UDec w (uDec b)) := by
  unfold uDec
  cases h : Rlp.decode b with
  | error e => exact unb_err w a n c b hl hc hcm hb e.1 e.2 h
  | ok x =>
    simp only
    cases hx : x.list with
    | false => exact unb_shape w a n c b hl hc hcm hb x h hx
    | true =>
      rw [if_neg (by simp)]
      by_cases h8 : 8 < x.items.length
      · rw [if_pos h8]; exact unb_full w a n c b hl hc hcm hb x h hx h8
      · rw [if_neg h8]; exact unb_list w a n c b hl hc hcm hb x h hx (by omega)
end Go.Proofs.YtgcpnhnckbgjmaaDoor
/-
  Rows of byte slices where they lie; tx.Batch by its contract.
-/
set_option linter.unusedVariables false
set_option linter.unusedSimpArgs false
namespace Go.Proofs.YtgcpnhnckbgjmaaDoor
open Go.RowKit
variable {F : Nat → Prop}
/-- Byte slices where they lie, in blocks of a class; s: where each slice's bytes are, and its capacity. -/
structure BsAt (F : Nat → Prop) (w : World) (a : Option Addr) (s : Nat → AC) (ls : List (List UInt8)) : Prop where
  row : ∀ i, i < ls.length → ∃ b off, a = some ⟨b, off, none⟩ ∧ b < w.heap.size ∧ w.cell? ⟨b, off + i, none⟩ = some (.slice (s i).a (ls.getD i []).length (s i).c)
  len : ∀ i, i < ls.length → (ls.getD i []).length ≤ (s i).c ∧ (s i).c ≤ maxLen ∧ ((s i).a = none → (s i).c = 0)
  byt : ∀ i, i < ls.length → BytesF F w (s i).a (ls.getD i [])
theorem BsAt.below {w w' : World} {a : Option Addr} {s : Nat → AC} {ls : List (List UInt8)} (h : BsAt F w a s ls) (hb : Below w.heap.size w w') : BsAt F w' a s ls :=
  ⟨fun i hi => by
    obtain ⟨b, off, e, hl, hc⟩ := h.row i hi
    exact ⟨b, off, e, by have := hb.size; omega, by rw [hb.cell (p := ⟨b, off + i, none⟩) hl]; exact hc⟩, h.len, fun i hi => (h.byt i hi).below hb⟩
/-- The item of byte slices. -/
def bItem (ls : List (List UInt8)) : Rlp.It := .mk true [] (ls.map fun l => .mk false l [])
/-- A batch's bytes, or what is wrong. -/
def bat (ls : List (List UInt8)) : Except Nat (List UInt8) := if 8 < ls.length then .error 5 else enc (bItem ls)
/-- One item's cells, and those of the first items. -/
def lf1 (s : Nat → AC) (ls : List (List UInt8)) (i : Nat) : List Value := [.bool false, .slice (s i).a (ls.getD i []).length (s i).c, .slice none 0 0]
def lfC (s : Nat → AC) (ls : List (List UInt8)) (j : Nat) : List Value := (List.range j).flatMap (lf1 s ls)
theorem lfC_succ (s : Nat → AC) (ls : List (List UInt8)) (j : Nat) : lfC s ls (j + 1) = lfC s ls j ++ lf1 s ls j := by simp [lfC, List.range_succ]
theorem lfC_len (s : Nat → AC) (ls : List (List UInt8)) (j : Nat) : (lfC s ls j).length = j * 3 := by
  induction j with
  | zero => rfl
  | succ j ih => rw [lfC_succ, List.length_append, ih]; simp [lf1]; omega
theorem lfC_get (s : Nat → AC) (ls : List (List UInt8)) (i k : Nat) (hk : k < 3) (j : Nat) (hj : i < j) : (lfC s ls j)[i * 3 + k]? = (lf1 s ls i)[k]? := by
  induction j with
  | zero => omega
  | succ j ih =>
    have hl := lfC_len s ls j
    rw [lfC_succ]
    by_cases h : i < j
    · rw [List.getElem?_append_left (by omega)]; exact ih h
    · have : i = j := by omega
      subst this
      rw [List.getElem?_append_right (by omega), hl, show i * 3 + k - i * 3 = k by omega]
theorem bItem_get (ls : List (List UInt8)) (i : Nat) (hi : i < ls.length) : (bItem ls).items.getD i default = .mk false (ls.getD i []) [] := by
  show (ls.map fun l => Rlp.It.mk false l []).getD i default = _
  rw [List.getD_eq_getElem?_getD, List.getElem?_map, List.getElem?_eq_getElem hi, List.getD_eq_getElem?_getD, List.getElem?_eq_getElem hi]; rfl
theorem cat_len (ls : List (List UInt8)) (M : Nat) (hM : ∀ i, i < ls.length → (ls.getD i []).length ≤ M) : allB M 2 (bItem ls) := by
  refine ⟨by simp [bItem, Rlp.It.bytes], fun i hi => ?_⟩
  have hi : i < ls.length := by simpa [bItem, Rlp.It.items] using hi
  rw [bItem_get ls i hi]
  exact ⟨hM i hi, fun i hi => by simp [Rlp.It.items] at hi⟩
/-- What lies there in the loop. -/
structure BL (w : World) (s : Nat → AC) (ls : List (List UInt8)) (j cq : Nat) (ao : Option Addr) (W : World) : Prop where
  b : Below w.heap.size w W
  x : SlotI W w.heap.size (.bool true) (.slice none 0 0) (.slice ao j cq)
  o : W.ownsRow (w.heap.size + 1) TI 3 (.slice ao j cq) j (lfC s ls j)
theorem BL.below {w : World} {s : Nat → AC} {ls : List (List UInt8)} {j cq : Nat} {ao : Option Addr} {W W' : World} (h : BL w s ls j cq ao W) (hb : Below W.heap.size W W') : BL w s ls j cq ao W' :=
  ⟨h.b.trans (hb.mono h.b.size), h.x.below hb, ownsRow_below h.o hb⟩
theorem BL.isIt {w : World} {s : Nat → AC} {ls : List (List UInt8)} {cq : Nat} {ao : Option Addr} {W : World} (h : BL w s ls ls.length cq ao W) {a : Option Addr} (hB : BsAt F w a s ls) : IsIt (fun _ => True) W 2 (bItem ls) (.bool true) (.slice none 0 0) (.slice ao ls.length cq) := by
  obtain ⟨a', c', e, h1, h2⟩ := ownsRow_shape h.o
  injection e with e1 e2 e3
  subst e3
  have hl : (bItem ls).items.length = ls.length := by simp [bItem, Rlp.It.items]
  refine ⟨rfl, ⟨none, 0, rfl, Nat.le_refl _, Nat.zero_le _, fun _ => rfl, fun i hi => by simp [bItem, Rlp.It.bytes] at hi⟩, ao, cq, by rw [hl], by rw [hl]; exact h1, h2, fun i hi => ?_⟩
  rw [hl] at hi
  obtain ⟨g, e, _, hg, c0⟩ := rowCell h.o (i * 3 + 0) (by omega)
  obtain ⟨_, e', _, _, c1⟩ := rowCell h.o (i * 3 + 1) (by omega)
  rw [e] at e'; injection e' with e'; injection e' with e'; subst e'
  obtain ⟨_, e', _, _, c2⟩ := rowCell h.o (i * 3 + 2) (by omega)
  rw [e] at e'; injection e' with e'; injection e' with e'; subst e'
  rw [lfC_get s ls i _ (by decide) _ hi] at c0 c1 c2
  obtain ⟨l1, l2, l3⟩ := hB.len i hi
  refine ⟨g, 0, _, _, _, e, trivial, hg, by rw [Nat.zero_add]; exact c0, by rw [Nat.zero_add]; exact c1, by rw [Nat.zero_add]; exact c2, ?_⟩
  rw [bItem_get ls i hi]
  exact leaf_is rfl l1 l2 l3 (((hB.byt i hi).below h.b).move fun b _ hl => ⟨trivial, hl, rfl⟩) 0
structure BL3 (w : World) (s : Nat → AC) (ls : List (List UInt8)) (j cq c' : Nat) (ao ao' : Option Addr) (W : World) : Prop where
  b : Below w.heap.size w W
  x : SlotI W w.heap.size (.bool true) (.slice none 0 0) (.slice ao j cq)
  o : W.ownsRow (w.heap.size + 1) TI 3 (.slice ao' (j + 1) c') (j + 1) (lfC s ls (j + 1))
theorem BL.app {w : World} {s : Nat → AC} {ls : List (List UInt8)} {j cq c' : Nat} {ao ao' : Option Addr} {W W' : World} {news : List Value} (h : BL w s ls j cq ao W) (hn : news = lf1 s ls j)
    (ho : W'.ownsRow (w.heap.size + 1) TI 3 (.slice ao' (j + 1) c') (j + 1) (lfC s ls j ++ news)) (hg : W.grownBy W' (Value.slice ao j cq).ownBlock) : BL3 w s ls j cq c' ao ao' W' := by
  have hl := h.x.lt
  have hb : Below (w.heap.size + 1) W W' := grownR_below hg h.o (Nat.le_refl _) (by omega)
  refine ⟨h.b.trans (hb.mono (by omega)), h.x.keep hb.size (hb.block _ (by omega)), ?_⟩
  rw [lfC_succ, ← hn]; exact ho
theorem BL3.store {w : World} {s : Nat → AC} {ls : List (List UInt8)} {j cq c' : Nat} {ao ao' : Option Addr} {W : World} (h : BL3 w s ls j cq c' ao ao' W) : BL w s ls (j + 1) c' ao' (W.setCell ⟨w.heap.size, 2, none⟩ (.slice ao' (j + 1) c')) :=
  ⟨h.b.setCell (Nat.le_refl _) _, h.x.set2 _, ownsRow_setCell_below h.o (Nat.lt_succ_self _) _⟩
set_option maxRecDepth 100000 in
set_option maxHeartbeats 8000000 in
theorem bat_V (w : World) (a : Option Addr) (n c : Nat) (s : Nat → AC) (ls : List (List UInt8)) (hn : ls.length = n) (hnm : n ≤ maxLen) (hB : BsAt F w a s ls) (M : Nat) (hM : ∀ i, i < ls.length → (ls.getD i []).length ≤ M) (hS : Room M 2) :
    Calls Tryd.prog 13 #[.slice a n c] w (EncRet w (bat ls)) := by
  have HB := Lib.hid hB
  have HN := Lib.hid hn
  have HM := Lib.hid hM
  have HS := Lib.hid hS
  clear hM hB hS
  unfold maxLen at hnm
  by_cases h8 : 8 < n
  · have E : Hid (bat ls = .error 5) := by show _ = _; unfold bat; rw [HN.out, if_pos h8]
    clear hn
    go_enter Tryd.func13, Tryd.ntmps13
    go_wp2
    go_returns
    rw [E.out]
    exact ⟨rfl, by (repeat' (first | (with_reducible exact Below.refl _ _) | (with_reducible refine Below.alloc ?_ ?_ _) | (with_reducible refine Below.drew ?_) | (with_reducible refine Below.setCell ?_ ?_ _) | (with_reducible refine Below.thn (by assumption) ?_ ?_) | (with_reducible refine below_drewN ?_ _) | go_size))⟩
  · have E : Hid (bat ls = enc (bItem ls)) := by show _ = _; unfold bat; rw [HN.out, if_neg h8]
    clear hn
    go_enter Tryd.func13, Tryd.ntmps13
    go_wp2
    go_loopw [6, 14] (fun bb idx wr => ∃ (j cq : Nat) (ao : Option Addr), j ≤ n ∧ idx = .int .i64 j ∧ Hid (BL w s ls j cq ao wr)) (fun _ idx _ => n - (intOf idx).toNat)
    case atStart => exact ⟨0, 0, none, by omega, rfl, (by (repeat' (first | (with_reducible exact Below.refl _ _) | (with_reducible refine Below.alloc ?_ ?_ _) | (with_reducible refine Below.drew ?_) | (with_reducible refine Below.setCell ?_ ?_ _) | (with_reducible refine Below.thn (by assumption) ?_ ?_) | (with_reducible refine below_drewN ?_ _) | go_size))), SlotI.new _ _ _ _, World.ownsRow_nil _ _ _ _⟩
    case round =>
      obtain ⟨j, cq, ao, hj, rfl, HR⟩ := hrel
      have hwr := HR.out.x.lt
      by_cases hlt : j < n
      · obtain ⟨b, off, rfl, hbl, hc⟩ := HB.out.row j (by rw [HN.out]; exact hlt)
        have hc2 := HR.out.b.cell (p := ⟨b, off + j, none⟩) hbl
        rw [hc] at hc2
        have hx2 := HR.out.x.c2
        clear hc
        obtain ⟨L, hL⟩ : ∃ L, ls.getD j [] = L := ⟨_, rfl⟩
        obtain ⟨m, hm⟩ : ∃ m, L.length = m := ⟨_, rfl⟩
        rw [hL, hm] at hc2
        have HL := Lib.hid hL
        have HMm := Lib.hid hm
        clear hL hm
        have HNw : Hid ([Value.bool false, .slice (s j).a m (s j).c, .slice none 0 0] = lf1 s ls j) := by show _ = _; unfold lf1; rw [HL.out, HMm.out]
        go_wp2_with (at_builtin; have HRx := Lib.hid (HR.out.below ((Below.refl _ _).alloc (Nat.le_refl _) (.cells #[.bool false, .slice (s j).a m (s j).c, .slice none 0 0] TI))); refine wpList_append_R rtI rfl (.tmp 19) (.tmp 22) rfl (w.heap.size + 1) ao j cq _ wr.heap.size 1 [.bool false, .slice (s j).a m (s j).c, .slice none 0 0] HRx.out.o rfl (newC rfl) (by simp [Value.oneCell']) (Sm.of (by omega)) (by unfold maxLen; omega) (by simp; omega) rfl rfl ?_; intro ao' c' w3 ho hg hw; have H3 := Lib.hid (HRx.out.app HNw.out ho hg); have p2 := H3.out.x.c2; have f2 := H3.out.x.f2; clear ho hg hw)
        go_roundw
        case rel => exact ⟨j + 1, c', ao', by omega, by go_num, H3.out.store⟩
        case measure => simp [intOf]; omega
      · have hjn : j = n := by omega
        subst hjn
        have p0 := HR.out.x.c0
        have p1 := HR.out.x.c1
        have p2 := HR.out.x.c2
        have HIt : Hid (IsIt (fun _ => True) wr 2 (bItem ls) (.bool true) (.slice none 0 0) (.slice ao j cq)) := by
          have h := HR.out
          have hj' := HN.out
          subst hj'
          exact h.isIt HB.out
        have HA := Lib.hid (cat_len ls M HM.out)
        cases hE : enc (bItem ls) with
        | error k =>
          have HE := Lib.hid hE
          go_wp2_with (go_at_call 22; (with_reducible refine (encode_V M 2 HS.out (bItem ls) _ _ _ _ HIt.out HA.out).mono ?_); rintro e w2 he; rw [HE.out] at he; obtain ⟨rfl, hb2⟩ := he; have HB2 := Lib.hid hb2; clear hb2)
          go_returns
          rw [E.out, HE.out]
          exact ⟨rfl, HR.out.b.trans (HB2.out.mono HR.out.b.size)⟩
        | ok bs =>
          have HE := Lib.hid hE
          go_wp2_with (go_at_call 22; (with_reducible refine (encode_V M 2 HS.out (bItem ls) _ _ _ _ HIt.out HA.out).mono ?_); rintro e w2 he; rw [HE.out] at he; obtain ⟨an, nn, cn, rfl, ho, hb2⟩ := he; have HB2 := Lib.hid hb2; have HO := Lib.hid ho; clear hb2 ho)
          go_returns
          rw [E.out, HE.out]
          exact ⟨_, _, _, rfl, HO.out.le HR.out.b.size, HR.out.b.trans (HB2.out.mono HR.out.b.size)⟩
end Go.Proofs.YtgcpnhnckbgjmaaDoor
