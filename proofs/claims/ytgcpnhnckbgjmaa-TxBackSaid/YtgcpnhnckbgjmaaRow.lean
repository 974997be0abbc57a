/-
  Rows of transactions, of places and of byte slices that a call owns; appending one element to them.
-/
import Derived.Test.YtgcpnhnckbgjmaaTxEq
import Derived.Test.YtgcpnhnckbgjmaaTxOpen
set_option linter.unusedVariables false
set_option linter.unusedSimpArgs false
namespace Go.Proofs.Ytgcpnhnckbgjmaa
open Go.RowKit
abbrev TNS : TypeId := 36
abbrev TN : TypeId := 3
abbrev TBB : TypeId := 39
/-- A kind of row: its element's type, its own, how many cells and bytes an element has. -/
structure RowT (T SL : TypeId) (size bytes : Nat) (z : Value) : Prop where
  u : Try.prog.underlying SL = some (.slice T)
  i : (Try.prog.info? T).map (fun i => (i.zero, i.size, i.bytes)) = some (some z, size, bytes)
  zs : z.cells.size = size
  pos : 0 < size
theorem rtT : RowT TTX TTS 6 48 (.agg #[.int .u64 0, .int .u64 0, .int .u64 0, .int .u64 0, .int .u64 0, .int .u64 0]) := ⟨Try.underlying35, by kernel_rfl, rfl, by decide⟩
theorem rtN : RowT TN TNS 1 8 (.int .i64 0) := ⟨Try.underlying36, by kernel_rfl, rfl, by decide⟩
theorem rtB : RowT TBS TBB 1 24 (.slice none 0 0) := ⟨Try.underlying39, by kernel_rfl, rfl, by decide⟩
theorem rtI : RowT TI TIS 3 56 ZI := ⟨Try.underlying47, by kernel_rfl, rfl, by decide⟩
section
variable {T SL : TypeId} {size bytes : Nat} {z : Value}
theorem ownsRow_below {w w' : World} {base n : Nat} {v : Value} {xs : List Value} (h : w.ownsRow base T size v n xs) (hb : Below w.heap.size w w') : w'.ownsRow base T size v n xs := by
  refine ⟨h.1, ?_⟩
  rcases h.2 with h2 | ⟨g, cap, cur, e, hg, hh, r⟩
  · exact .inl h2
  · exact .inr ⟨g, cap, cur, e, hg, by rw [hb.block g (lt_of_block hh)]; exact hh, r⟩
theorem ownsRow_shape {w : World} {base n : Nat} {v : Value} {xs : List Value} (h : w.ownsRow base T size v n xs) : ∃ a c, v = .slice a n c ∧ n ≤ c ∧ c ≤ maxLen := by
  rcases h.2 with ⟨e, rfl⟩ | ⟨g, cap, cur, e, hg, hh, h1, h2, _⟩
  · exact ⟨none, 0, e, Nat.le_refl _, Nat.zero_le _⟩
  · exact ⟨_, cap, e, h1, h2⟩
theorem run_append_R (rt : RowT T SL size bytes z) (w : World) (ty : TypeId) (base : Nat) (ao : Option Addr) (n c : Nat) (vs : List Value) (hown : w.ownsRow base T size (.slice ao n c) n vs) (ad cs : Nat) (news : List Value) (hl : news.length = size)
    (hq : ∀ j u, news[j]? = some u → w.cell? ⟨ad, j, none⟩ = some u) (h1 : ∀ u ∈ news, u.oneCell' = true) (h40 : Sm ((n + 1) * bytes)) (hm : n + 1 ≤ maxLen) (hbase : base ≤ w.heap.size) :
    ∃ ao' c' w', (Builtin.append_ #[SL, SL] ty #[.slice ao n c, .slice (some ⟨ad, 0, none⟩) 1 cs]).run Try.prog w = .ok (.slice ao' (n + 1) c') w' ∧ w'.ownsRow base T size (.slice ao' (n + 1) c') (n + 1) (vs ++ news) ∧ w.grownBy w' (Value.slice ao n c).ownBlock ∧
      ((Value.slice ao' (n + 1) c').ownBlock = (Value.slice ao n c).ownBlock ∨ (Value.slice ao' (n + 1) c').ownBlock = some w.heap.size) := by
  obtain ⟨i0, hi, hz0, hz1, hz2⟩ := info_parts rt.i
  unfold Sm at h40
  have ade : ∀ j, (⟨ad, 0, none⟩ : Addr).add j = ⟨ad, j, none⟩ := fun j => by unfold Addr.add; split <;> simp_all
  obtain ⟨v', w', g1, g2, g3, _, g5⟩ := run_append_own_at (P := Try.prog) w base SL ty T i0 z size bytes rt.u hi hz0 hz1 hz2 rt.zs rt.pos _ n _ hown ⟨ad, 0, none⟩ 1 cs news (by rw [hl, Nat.one_mul]) (fun j t hj => by rw [ade]; exact hq j t hj) h1 hm h40 hbase
  obtain ⟨ao', c', rfl, _⟩ := ownsRow_shape g2
  exact ⟨ao', c', w', g1, g2, g3, g5⟩
/-- At the list of a plain region's operations. -/
theorem wpList_append_R (rt : RowT T SL size bytes z) {w : World} {ops : Array Oper} {rest : List Oper} {o : Oper} {a : Act} {Q : Exit → Act → World → Prop} (hgd : o.guard = none) (s x : Operand)
    (ho : o.op = .call { callee := .builtin .append, args := #[s, x], argTypes := #[SL, SL] }) (base : Nat) (ao : Option Addr) (n c : Nat) (vs : List Value) (ad cs : Nat) (news : List Value) (hown : w.ownsRow base T size (.slice ao n c) n vs) (hl : news.length = size)
    (hq : ∀ j u, news[j]? = some u → w.cell? ⟨ad, j, none⟩ = some u) (h1 : ∀ u ∈ news, u.oneCell' = true) (h40 : Sm ((n + 1) * bytes)) (hm : n + 1 ≤ maxLen) (hbase : base ≤ w.heap.size) (hs : a.eval s = .slice ao n c) (hx : a.eval x = .slice (some ⟨ad, 0, none⟩) 1 cs)
    (h : ∀ ao' c' w', w'.ownsRow base T size (.slice ao' (n + 1) c') (n + 1) (vs ++ news) → w.grownBy w' (Value.slice ao n c).ownBlock → ((Value.slice ao' (n + 1) c').ownBlock = (Value.slice ao n c).ownBlock ∨ (Value.slice ao' (n + 1) c').ownBlock = some w.heap.size) → wpList Try.prog ops Q rest (a.put o.dst (.slice ao' (n + 1) c')) w') : wpList Try.prog ops Q (o :: rest) a w := by
  refine wpList_plain hgd fun K hK => ?_
  obtain ⟨ao', c', w', hr, g1, g2, g3⟩ := run_append_R rt w o.type base ao n c vs hown ad cs news hl hq h1 h40 hm hbase
  unfold Oper.wp
  simp [execOp, ho, resolve, invoke, builtin, hs, hx, hr, Result.andThen]
  exact hK _ _ (h _ _ _ g1 g2 g3)
theorem grownR_below {w w' : World} {B base n : Nat} {v : Value} {vs : List Value} (hg : w.grownBy w' v.ownBlock) (h : w.ownsRow base T size v n vs) (hB : B ≤ base) (hs : B ≤ w.heap.size) : Below B w w' := by
  refine Below.grown (Below.refl _ _) hg hs fun k hk => ?_
  have := (h.lt k hk).1
  omega
end
/-! ### Elements -/
theorem rowCell {w : World} {base n c : Nat} {a : Option Addr} {T : TypeId} {size : Nat} {vs : List Value} (h : w.ownsRow base T size (.slice a n c) n vs) (i : Nat) (hi : i < n * size) : ∃ g, a = some ⟨g, 0, none⟩ ∧ base ≤ g ∧ g < w.heap.size ∧ w.cell? ⟨g, i, none⟩ = vs[i]? := by
  rcases h.2 with ⟨_, e⟩ | ⟨g, cap, cur, e, hb, hh, _⟩
  · subst e; omega
  · injection e with e1 e2 e3
    subst e1; subst e3
    exact ⟨g, rfl, hb, lt_of_block hh, h.cellAt i hi⟩
/-- The cells of a list of transactions. -/
def txsC (ts : List (Nat → Nat)) : List Value := ts.flatMap txC
theorem txsC_len (ts : List (Nat → Nat)) : (txsC ts).length = ts.length * 6 := by
  induction ts with
  | nil => rfl
  | cons t ts ih => simp [txsC, txC] at ih ⊢; omega
theorem txsC_get (ts : List (Nat → Nat)) (i j : Nat) (hi : i < ts.length) (hj : j < 6) : (txsC ts)[i * 6 + j]? = some (.int .u64 (ts.getD i (fun _ => 0) j)) := by
  induction ts generalizing i with
  | nil => simp at hi
  | cons t ts ih =>
    show (txC t ++ txsC ts)[i * 6 + j]? = _
    cases i with
    | zero => rw [List.getElem?_append_left (by simp [txC]; omega), Nat.zero_mul, Nat.zero_add, txC_get t j hj]; rfl
    | succ i =>
      rw [List.getElem?_append_right (by simp [txC]; omega), show (i + 1) * 6 + j - (txC t).length = i * 6 + j by simp [txC]; omega, ih i (by simpa using hi)]
      rfl
theorem txsC_app (ts : List (Nat → Nat)) (t : Nat → Nat) : txsC (ts ++ [t]) = txsC ts ++ txC t := by simp [txsC]
/-- Transactions where they lie. -/
def TxsAt (F : Nat → Prop) (w : World) (a : Option Addr) (ts : List (Nat → Nat)) : Prop :=
  ∀ i, i < ts.length → ∃ b off, a = some ⟨b, off, none⟩ ∧ F b ∧ b < w.heap.size ∧ ∀ j, j < 6 → w.cell? ⟨b, off + (i * 6 + j), none⟩ = some (.int .u64 (ts.getD i (fun _ => 0) j))
theorem TxsAt.below {F : Nat → Prop} {w w' : World} {a : Option Addr} {ts : List (Nat → Nat)} (h : TxsAt F w a ts) (hb : Below w.heap.size w w') : TxsAt F w' a ts := fun i hi => by
  obtain ⟨b, off, e, hF, hl, hc⟩ := h i hi
  exact ⟨b, off, e, hF, by have := hb.size; omega, fun j hj => by rw [hb.cell (p := ⟨b, off + (i * 6 + j), none⟩) hl]; exact hc j hj⟩
theorem IsTxs.at {w : World} {a : Option Addr} {len : Nat} {z : Nat → Nat → Nat} (h : IsTxs w a len z) : TxsAt (fun _ => True) w a ((List.range len).map z) := fun i hi => by
  have hi : i < len := by simpa using hi
  obtain ⟨b, off, e, hl, hc, _⟩ := h i hi
  refine ⟨b, off, e, trivial, hl, fun j hj => ?_⟩
  rw [hc j hj, List.getD_eq_getElem?_getD, List.getElem?_map, List.getElem?_range hi]; rfl
/-- A row of transactions of the call's own. -/
def OwnT (w : World) (base : Nat) (v : Value) (ts : List (Nat → Nat)) : Prop := w.ownsRow base TTX 6 v ts.length (txsC ts)
theorem OwnT.at {w : World} {base c : Nat} {a : Option Addr} {ts : List (Nat → Nat)} (h : OwnT w base (.slice a ts.length c) ts) : TxsAt (fun b => base ≤ b) w a ts := fun i hi => by
  obtain ⟨g, e, hb, hl, _⟩ := rowCell h (i * 6) (by omega)
  refine ⟨g, 0, e, hb, hl, fun j hj => ?_⟩
  obtain ⟨g', e', _, _, hc⟩ := rowCell h (i * 6 + j) (by omega)
  rw [e] at e'
  injection e' with e'; injection e' with e'
  subst e'
  rw [Nat.zero_add, hc, txsC_get ts i j hi hj]
theorem OwnT.below {w w' : World} {base : Nat} {v : Value} {ts : List (Nat → Nat)} (h : OwnT w base v ts) (hb : Below w.heap.size w w') : OwnT w' base v ts := ownsRow_below h hb
theorem OwnT.nil (w : World) (base : Nat) : OwnT w base (.slice none 0 0) [] := World.ownsRow_nil _ _ _ _
/-- A row of places of the call's own. -/
def OwnN (w : World) (base : Nat) (v : Value) (ns : List Nat) : Prop := w.ownsRow base TN 1 v ns.length (ns.map fun (k : Nat) => Value.int .i64 (k : Int))
theorem OwnN.below {w w' : World} {base : Nat} {v : Value} {ns : List Nat} (h : OwnN w base v ns) (hb : Below w.heap.size w w') : OwnN w' base v ns := ownsRow_below h hb
theorem OwnN.nil (w : World) (base : Nat) : OwnN w base (.slice none 0 0) [] := World.ownsRow_nil _ _ _ _
def NsAt (F : Nat → Prop) (w : World) (a : Option Addr) (ns : List Nat) : Prop :=
  ∀ i, i < ns.length → ∃ b off, a = some ⟨b, off, none⟩ ∧ F b ∧ b < w.heap.size ∧ w.cell? ⟨b, off + i, none⟩ = some (.int .i64 (ns.getD i 0 : Nat))
theorem OwnN.at {w : World} {base c : Nat} {a : Option Addr} {ns : List Nat} (h : OwnN w base (.slice a ns.length c) ns) : NsAt (fun b => base ≤ b) w a ns := fun i hi => by
  obtain ⟨g, e, hb, hl, hc⟩ := rowCell h i (by omega)
  refine ⟨g, 0, e, hb, hl, ?_⟩
  rw [Nat.zero_add, hc, List.getElem?_map, List.getD_eq_getElem?_getD, List.getElem?_eq_getElem hi]; rfl
theorem NsAt.below {F : Nat → Prop} {w w' : World} {a : Option Addr} {ns : List Nat} (h : NsAt F w a ns) (hb : Below w.heap.size w w') : NsAt F w' a ns := fun i hi => by
  obtain ⟨b, off, e, hF, hl, hc⟩ := h i hi
  exact ⟨b, off, e, hF, by have := hb.size; omega, by rw [hb.cell (p := ⟨b, off + i, none⟩) hl]; exact hc⟩
end Go.Proofs.Ytgcpnhnckbgjmaa
