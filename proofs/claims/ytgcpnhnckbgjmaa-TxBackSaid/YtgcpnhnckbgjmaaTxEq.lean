/-
  Transactions and records compared.
-/
import Derived.Test.YtgcpnhnckbgjmaaTxPl
import Derived.Test.YtgcpnhnckbgjmaaRec
import Derived.Laws.StructEq
set_option linter.unusedVariables false
set_option linter.unusedSimpArgs false
namespace Go.Proofs.Ytgcpnhnckbgjmaa
open Go.RowKit
open Go.Extern.Stop (cell)
/-- Are two transactions the same? -/
def sameT (vs us : Nat → Nat) : Bool := vs 0 == us 0 && (vs 1 == us 1 && (vs 2 == us 2 && (vs 3 == us 3 && (vs 4 == us 4 && vs 5 == us 5))))
theorem sameT_iff (vs us : Nat → Nat) : sameT vs us = true ↔ ∀ k, k < 6 → vs k = us k := by
  constructor
  · intro h k hk
    simp [sameT] at h
    rcases (by omega : k = 0 ∨ k = 1 ∨ k = 2 ∨ k = 3 ∨ k = 4 ∨ k = 5) with rfl | rfl | rfl | rfl | rfl | rfl <;> simp [h]
  · intro h
    simp [sameT, h 0 (by decide), h 1 (by decide), h 2 (by decide), h 3 (by decide), h 4 (by decide), h 5 (by decide)]
theorem beq_cast (a b : Nat) : (((a : Int) == (b : Int)) : Bool) = (a == b) := by
  rw [Bool.eq_iff_iff]; simp; omega
set_option maxRecDepth 100000 in
theorem equalIn_tx (vs us : Nat → Nat) (W : World) : (Op.equalIn 10000 TTX (.agg #[.int .u64 (vs 0), .int .u64 (vs 1), .int .u64 (vs 2), .int .u64 (vs 3), .int .u64 (vs 4), .int .u64 (vs 5)]) (.agg #[.int .u64 (us 0), .int .u64 (us 1), .int .u64 (us 2), .int .u64 (us 3), .int .u64 (us 4), .int .u64 (us 5)])).run Try.prog W = .ok (sameT vs us) W := by
  have hu : Try.prog.underlying 22 = some (.int .u64) := Try.underlying22
  have hf : (Try.prog.fieldsOf TTX).toList = (Try.prog.fieldsOf TTX).toList := rfl
  rw [run_equalIn_agg _ _ _ _ _ (by kernel_rfl) (by kernel_rfl)]
  obtain ⟨fs, hfs, hF⟩ : ∃ fs, (Try.prog.fieldsOf TTX).toList = fs ∧ fs.map (fun f => (f.name, f.type, f.offset)) = [("From", 22, 0), ("To", 22, 1), ("Nonce", 22, 2), ("Value", 22, 3), ("Gas", 22, 4), ("Data", 22, 5)] := ⟨_, rfl, by kernel_rfl⟩
  rw [hfs]
  clear hf hfs
  have h6 : fs.length = 6 := by have := congrArg List.length hF; simpa using this
  match fs, h6, hF with
  | [f0, f1, f2, f3, f4, f5], _, hF =>
    simp only [List.map_cons, List.map_nil, List.cons.injEq, Prod.mk.injEq, and_true] at hF
    obtain ⟨⟨a0, b0, c0⟩, ⟨a1, b1, c1⟩, ⟨a2, b2, c2⟩, ⟨a3, b3, c3⟩, ⟨a4, b4, c4⟩, ⟨a5, b5, c5⟩⟩ := hF
    have hz : ∀ (i : Nat) (zs : Array Value) (n : Int) (W : World), zs[i]? = some (.int .u64 n) → (part 22 zs i).run Try.prog W = .ok (.int .u64 n) W := by
      intro i zs n W h
      simp [part, isAgg, run_underlying hu, Array.getD_eq_getD_getElem?, h]
    simp only [Op.eqFields, a0, b0, c0, a1, b1, c1, a2, b2, c2, a3, b3, c3, a4, b4, c4, a5, b5, c5]
    simp [hz, Sem.run_bind, run_equalIn_int _ _ _ _ _ _ _ hu, sameT]
    have c : ∀ a b : Nat, ((a : Int) = (b : Int)) = (a = b) := fun a b => propext (by omega)
    simp only [c]
    (repeat' split) <;> simp_all
theorem eql_tx (vs us : Nat → Nat) (W : World) : (binOp .eql TTX (.agg #[.int .u64 (vs 0), .int .u64 (vs 1), .int .u64 (vs 2), .int .u64 (vs 3), .int .u64 (vs 4), .int .u64 (vs 5)]) (.agg #[.int .u64 (us 0), .int .u64 (us 1), .int .u64 (us 2), .int .u64 (us 3), .int .u64 (us 4), .int .u64 (us 5)])).run Try.prog W = .ok (.bool (sameT vs us)) W := by
  rw [run_eql_struct, equalIn_tx]; rfl
theorem neq_tx (vs us : Nat → Nat) (W : World) : (binOp .neq TTX (.agg #[.int .u64 (vs 0), .int .u64 (vs 1), .int .u64 (vs 2), .int .u64 (vs 3), .int .u64 (vs 4), .int .u64 (vs 5)]) (.agg #[.int .u64 (us 0), .int .u64 (us 1), .int .u64 (us 2), .int .u64 (us 3), .int .u64 (us 4), .int .u64 (us 5)])).run Try.prog W = .ok (.bool (!sameT vs us)) W := by
  rw [run_neq_struct, equalIn_tx]; rfl
theorem guard_tx (op : BinOp) (x y : Operand) (xs ys : Array Value) (W : World) : (eqGuard op TTX x y (.agg xs) (.agg ys)).run Try.prog W = .ok () W := run_eqGuard_agg W op TTX x y xs ys (by kernel_rfl)
theorem guard_rec (op : BinOp) (x y : Operand) (xs ys : Array Value) (W : World) : (eqGuard op TP x y (.agg xs) (.agg ys)).run Try.prog W = .ok () W := run_eqGuard_agg W op TP x y xs ys (by kernel_rfl)
theorem eql_rec (xs ys : List UInt8) (hx : xs.length = 64) (hy : ys.length = 64) (W : World) : (binOp .eql TP (.agg (xs.map cell).toArray) (.agg (ys.map cell).toArray)).run Try.prog W = .ok (.bool (xs == ys)) W :=
  run_eql_bytes W TP 5 64 Try.underlying31 Try.underlying5 (fun w => by
    have h : (Try.prog.info? 5).map (·.size) = some 1 := by kernel_rfl
    cases hq : Try.prog.info? 5 with
    | none => simp [hq] at h
    | some i => simp [hq] at h; simp [sizeOf, typeInfo, hq, h]) xs ys hx hy
/-! ### Records are the same just where the transactions are -/
theorem recL_get (vs : Nat → Nat) (k : Nat) (hk : k < 64) : (recL vs)[k]? = some (UInt8.ofNat (recB vs 6 k)) := by simp [recL, hk]
theorem byt_num (v : Nat) (hv : v < 18446744073709551616) : v = byt v 0 * 72057594037927936 + byt v 1 * 281474976710656 + byt v 2 * 1099511627776 + byt v 3 * 4294967296 + byt v 4 * 16777216 + byt v 5 * 65536 + byt v 6 * 256 + byt v 7 := by
  simp only [byt, Nat.reduceMul, Nat.reduceSub, Nat.reducePow]
  omega
theorem recL_byt (vs : Nat → Nat) (k i : Nat) (hk : k < 6) (hi : i < 8) : (recL vs)[8 + 8 * k + i]? = some (UInt8.ofNat (byt (vs k) i)) := by
  rw [recL_get _ _ (by omega)]
  unfold recB
  rw [if_neg (by omega), if_pos (by omega), show (8 + 8 * k + i - 8) / 8 = k by omega, show (8 + 8 * k + i - 8) % 8 = i by omega]
theorem ofNat_inj8 {a b : Nat} (ha : a < 256) (hb : b < 256) (h : UInt8.ofNat a = UInt8.ofNat b) : a = b := by
  have := congrArg UInt8.toNat h
  simp at this; omega
theorem byt_lt (v i : Nat) : byt v i < 256 := by unfold byt; omega
theorem rec_same (vs us : Nat → Nat) (hv : wide vs) (hu : wide us) : (recL vs == recL us) = sameT vs us := by
  rw [Bool.eq_iff_iff, sameT_iff, beq_iff_eq]
  constructor
  · intro h k hk
    have e : ∀ i, i < 8 → byt (vs k) i = byt (us k) i := fun i hi => by
      have h1 := recL_byt vs k i hk hi
      rw [h, recL_byt us k i hk hi] at h1
      exact (ofNat_inj8 (byt_lt _ _) (byt_lt _ _) (Option.some.inj h1)).symm
    rw [byt_num (vs k) (hv k hk), byt_num (us k) (hu k hk), e 0 (by decide), e 1 (by decide), e 2 (by decide), e 3 (by decide), e 4 (by decide), e 5 (by decide), e 6 (by decide), e 7 (by decide)]
  · intro h
    apply List.ext_getElem?
    intro i
    rcases Nat.lt_or_ge i 64 with hi | hi
    · rw [recL_get _ _ hi, recL_get _ _ hi]
      congr 2
      unfold recB
      split
      · rfl
      · split
        · rw [h _ (by omega)]
        · rfl
    · rw [List.getElem?_eq_none (by rw [recL_len]; exact hi), List.getElem?_eq_none (by rw [recL_len]; exact hi)]
theorem form_same (vs us : Nat → Nat) (hv : wide vs) (hu : wide us) : decide (Rlp.form (tItem vs) = Rlp.form (tItem us)) = sameT vs us := by
  rw [Bool.eq_iff_iff, sameT_iff, decide_eq_true_eq]
  constructor
  · exact fun h k hk => form_inj vs us hv hu h k hk
  · intro h
    have : tItem vs = tItem us := by
      unfold tItem leafs
      congr 1
      exact List.map_congr_left fun k hk => by rw [h k (by simpa using hk)]
    rw [this]
end Go.Proofs.Ytgcpnhnckbgjmaa
