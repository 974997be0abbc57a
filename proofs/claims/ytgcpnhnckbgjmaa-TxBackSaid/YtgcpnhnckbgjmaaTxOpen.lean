/-
  Transactions as they come in.
-/
import Derived.Test.YtgcpnhnckbgjmaaTxPl
import Derived.Test.YtgcpnhnckbgjmaaOpen
import Derived.Deep.Slices
import Derived.ChangeSame
import Derived.OpenShut
set_option linter.unusedVariables false
set_option linter.unusedSimpArgs false
namespace Go.Proofs.Ytgcpnhnckbgjmaa
open Go.RowKit Go.ChangeShapes Go.WideShapes Go.Deep
abbrev TTS : TypeId := 35
/-- A transaction as a value. -/
def txV (vs : Nat → Nat) : Value := .agg #[.int .u64 (vs 0), .int .u64 (vs 1), .int .u64 (vs 2), .int .u64 (vs 3), .int .u64 (vs 4), .int .u64 (vs 5)]
def txC (vs : Nat → Nat) : List Value := [.int .u64 (vs 0), .int .u64 (vs 1), .int .u64 (vs 2), .int .u64 (vs 3), .int .u64 (vs 4), .int .u64 (vs 5)]
theorem txC_get (vs : Nat → Nat) (k : Nat) (hk : k < 6) : (txC vs)[k]? = some (.int .u64 (vs k)) := by
  rcases (by omega : k = 0 ∨ k = 1 ∨ k = 2 ∨ k = 3 ∨ k = 4 ∨ k = 5) with rfl | rfl | rfl | rfl | rfl | rfl <;> rfl
theorem nat_of_u64 {n : Int} (h : (Lit.int .u64 n).wf = true) : ∃ m : Nat, n = m ∧ m < 18446744073709551616 := by
  have := u64_wf h
  exact ⟨n.toNat, by omega, by omega⟩
set_option maxRecDepth 100000 in
theorem tx_cells {H : Type} {enc : TypeId × Value → H} {w : World} {base : Nat} {sp : Nat → Bool} {held : Bool} {n : Nat} {cs : List Value} {x : DataW H × List MemPlace} (h : DataW.trod enc Try.prog w base sp held n TTX cs = some x) :
    ∃ vs, wide vs ∧ cs = txC vs := by
  obtain ⟨xs, k, hk, _, hlen, hxl, hf⟩ := DataW.trod_struct Try.underlying24 h
  have hc6 : cs.length = 6 := hlen.trans (by kernel_rfl)
  have hx6 : xs.length = 6 := hxl.trans (by rfl)
  match cs, hc6, xs, hx6 with
  | [v0, v1, v2, v3, v4, v5], _, [y0, y1, y2, y3, y4, y5], _ =>
    have g0 := hf 0 _ rfl
    have g1 := hf 1 _ rfl
    have g2 := hf 2 _ rfl
    have g3 := hf 3 _ rfl
    have g4 := hf 4 _ rfl
    have g5 := hf 5 _ rfl
    have cu : Try.prog.cellsOf 22 = 1 := by kernel_rfl
    simp [cu] at g0 g1 g2 g3 g4 g5
    obtain ⟨n0, e0, _, w0⟩ := DataW.trod_int Try.underlying22 g0
    obtain ⟨n1, e1, _, w1⟩ := DataW.trod_int Try.underlying22 g1
    obtain ⟨n2, e2, _, w2⟩ := DataW.trod_int Try.underlying22 g2
    obtain ⟨n3, e3, _, w3⟩ := DataW.trod_int Try.underlying22 g3
    obtain ⟨n4, e4, _, w4⟩ := DataW.trod_int Try.underlying22 g4
    obtain ⟨n5, e5, _, w5⟩ := DataW.trod_int Try.underlying22 g5
    simp at e0 e1 e2 e3 e4 e5
    obtain ⟨m0, rfl, h0⟩ := nat_of_u64 w0
    obtain ⟨m1, rfl, h1⟩ := nat_of_u64 w1
    obtain ⟨m2, rfl, h2⟩ := nat_of_u64 w2
    obtain ⟨m3, rfl, h3⟩ := nat_of_u64 w3
    obtain ⟨m4, rfl, h4⟩ := nat_of_u64 w4
    obtain ⟨m5, rfl, h5⟩ := nat_of_u64 w5
    subst e0; subst e1; subst e2; subst e3; subst e4; subst e5
    refine ⟨fun k => [m0, m1, m2, m3, m4, m5].getD k 0, fun k hk => ?_, rfl⟩
    rcases (by omega : k = 0 ∨ k = 1 ∨ k = 2 ∨ k = 3 ∨ k = 4 ∨ k = 5) with rfl | rfl | rfl | rfl | rfl | rfl <;> assumption
set_option maxRecDepth 100000 in
theorem tx_open {H : Type} {enc : TypeId × Value → H} {w : World} {base : Nat} {v : Value} {d : DataW H} {p : List MemPlace} (ok : Value.okWide Try.prog w .any base TTX v) (h : DataW.Trod enc Try.prog w 0 (fun _ => true) true TTX v d p) : ∃ vs, wide vs ∧ v = txV vs := by
  obtain ⟨fuel, hf⟩ := h
  obtain ⟨vs, hw, hcs⟩ := tx_cells hf
  obtain ⟨cs, rfl, _⟩ := okWide_struct Try.underlying24 ok
  refine ⟨vs, hw, ?_⟩
  unfold txV
  simp only [Value.cells] at hcs
  congr 1
  exact Array.toList_inj.1 hcs
/-- Transactions as they lie. -/
def IsTxs (w : World) (a : Option Addr) (len : Nat) (z : Nat → Nat → Nat) : Prop :=
  ∀ i, i < len → ∃ b off, a = some ⟨b, off, none⟩ ∧ b < w.heap.size ∧ (∀ j, j < 6 → w.cell? ⟨b, off + (i * 6 + j), none⟩ = some (.int .u64 (z i j))) ∧ wide (z i)
set_option maxRecDepth 100000 in
theorem txs_open {H : Type} {enc : TypeId × Value → H} {w : World} {base fuel : Nat} {held : Bool} {a : Option Addr} {len cap : Nat} {x : DataW H × List MemPlace}
    (h : DataW.trod enc Try.prog w base (fun _ => true) held fuel TTS [.slice a len cap] = some x) : len ≤ cap ∧ cap ≤ maxLen ∧ ∃ z, IsTxs w a len z := by
  have ce : Try.prog.cellsOf TTX = 6 := by kernel_rfl
  rcases open_slice Try.underlying35 h with ⟨h0, _⟩ | ⟨a', len', cap', m, n, D, Pl, hcs, _, hl, hm, hmm, _, hx⟩
  · simp at h0
    obtain ⟨rfl, rfl, rfl⟩ := h0
    exact ⟨Nat.le_refl _, Nat.zero_le _, fun _ _ => 0, fun i hi => by omega⟩
  · simp at hcs
    obtain ⟨rfl, rfl, rfl⟩ := hcs
    refine ⟨hl, hm, ?_⟩
    have hlm : len ≤ m := by rw [hmm]; simp; exact hl
    obtain ⟨b, off, sp⟩ := a'
    have hs : 0 < len → sp = none := by
      intro h0
      obtain ⟨cs', h1, h2⟩ := hx 0 (by omega)
      rw [ce] at h1
      obtain ⟨e, _, rfl⟩ := tx_cells h2
      obtain ⟨_, _, hcell⟩ := World.cells?_some h1
      have c0 := hcell 0 (by omega)
      have e0 : ∀ q : Addr, q.add 0 = q := fun q => by simp [Addr.add]
      rw [Nat.zero_mul, e0, e0] at c0
      exact World.cell?_spot c0
    have each : ∀ i, i < len → ∃ e : Nat → Nat, ∃ b' off', (⟨b, off, sp⟩ : Addr) = ⟨b', off', none⟩ ∧ b' < w.heap.size ∧ (∀ j, j < 6 → w.cell? ⟨b', off' + (i * 6 + j), none⟩ = some (.int .u64 (e j))) ∧ wide e := by
      intro i hi
      have hs := hs (by omega)
      subst hs
      obtain ⟨cs', h1, h2⟩ := hx i (by omega)
      rw [ce] at h1
      obtain ⟨e, he, rfl⟩ := tx_cells h2
      obtain ⟨_, _, hcell⟩ := World.cells?_some h1
      have ea : ∀ j, ((⟨b, off, none⟩ : Addr).add (i * 6)).add j = ⟨b, off + (i * 6 + j), none⟩ := fun j => by rw [add_add, add_plain]
      have hc : ∀ j, j < 6 → w.cell? ⟨b, off + (i * 6 + j), none⟩ = some (.int .u64 (e j)) := fun j hj => by
        have := hcell j hj
        rw [ea, txC_get e j hj] at this
        exact this
      refine ⟨e, b, off, rfl, ?_, hc, he⟩
      have c0 := hc 0 (by omega)
      rcases Nat.lt_or_ge b w.heap.size with h | h
      · exact h
      · simp [World.cell?, Array.getElem?_eq_none h] at c0
    obtain ⟨z, hz⟩ := choose_lt each
    exact ⟨z, fun i hi => by obtain ⟨b', off', h1, h2⟩ := hz i hi; exact ⟨b', off', congrArg some h1, h2⟩⟩
end Go.Proofs.Ytgcpnhnckbgjmaa
