/-
  Small lemmas that all walks of this seat share: what a walk is told of a slice of integers that came in; what 'Below' gives of old cells.
-/
import Derived.Test.YtgcpnhnckbgjmaaDoorProg
import Derived.WalkKit
import Derived.Below
import Derived.Handy
import Derived.Lib.Hide
namespace Go.Proofs.YtgcpnhnckbgjmaaDoor
open Go.RowKit

/-- A slice of integers that came in: nil, or a row of 'cap' cells that hold the numbers 'zs'. -/
def IsRow (k : IntKind) (w : World) (a : Option Addr) (len cap : Nat) (zs : List Int) : Prop :=
  (a = none ∧ len = 0 ∧ cap = 0 ∧ zs = []) ∨
  ∃ x, a = some x ∧ len ≤ cap ∧ cap ≤ maxLen ∧ zs.length = cap ∧ (∀ i, i < zs.length → w.cell? (x.add i) = some (.int k (zs.getD i 0))) ∧ ∀ n ∈ zs, (Lit.int k n).wf = true

/-- Cell i of such a row, at a plain address. -/
theorem row_cell {k : IntKind} {w : World} {a : Option Addr} {len cap : Nat} {zs : List Int} (h : IsRow k w a len cap zs) (i : Nat) (hi : i < len) :
    ∃ b off, a = some ⟨b, off, none⟩ ∧ b < w.heap.size ∧ w.cell? ⟨b, off + i, none⟩ = some (.int k (zs.getD i 0)) ∧ (Lit.int k (zs.getD i 0)).wf = true := by
  rcases h with ⟨_, h, _, _⟩ | ⟨⟨b, off, sp⟩, rfl, hl, hm, hz, hc, hw⟩
  · omega
  · have h0 := hc 0 (by omega)
    have e0 : Addr.add ⟨b, off, sp⟩ 0 = ⟨b, off, sp⟩ := by simp [Addr.add]
    rw [e0] at h0
    have hs : sp = none := World.cell?_spot h0
    subst hs
    have hx := hc i (by omega)
    have e : Addr.add ⟨b, off, none⟩ i = ⟨b, off + i, none⟩ := by
      unfold Addr.add; split
      · simp_all
      · rfl
    rw [e] at hx
    refine ⟨b, off, rfl, ?_, hx, hw _ (by rw [List.getD_eq_getElem?_getD, List.getElem?_eq_getElem (by omega)]; simp)⟩
    rcases Nat.lt_or_ge b w.heap.size with h | h
    · exact h
    · simp [World.cell?, Array.getElem?_eq_none h] at hx
theorem row_len {k : IntKind} {w : World} {a : Option Addr} {len cap : Nat} {zs : List Int} (h : IsRow k w a len cap zs) : len ≤ cap ∧ cap ≤ 9223372036854775807 := by
  rcases h with ⟨_, rfl, rfl, _⟩ | ⟨x, _, hl, hm, _⟩
  · omega
  · unfold maxLen at hm; omega

theorem bcell {W w1 : World} (hb : Below W.heap.size W w1) : (∀ b o, b < W.heap.size → w1.cell? ⟨b, o, none⟩ = W.cell? ⟨b, o, none⟩) ∧ (∀ b o, b < W.heap.size → w1.frozen? ⟨b, o, none⟩ = W.frozen? ⟨b, o, none⟩) :=
  ⟨fun b o h => hb.cell (p := ⟨b, o, none⟩) h, fun b o h => hb.frozen (p := ⟨b, o, none⟩) h⟩

theorem Below.thn {B : Nat} {w w1 w2 : World} (h2 : Below w1.heap.size w1 w2) (h1 : Below B w w1) (hs : B ≤ w1.heap.size) : Below B w w2 := h1.trans (h2.mono hs)

/-- The greatest of four, behind a name of its own. -/
def max4 (x y z u : Int) : Int := max (max (max x y) z) u
theorem max4_le {x y z u B : Int} (h1 : x ≤ B) (h2 : y ≤ B) (h3 : z ≤ B) (h4 : u ≤ B) : max4 x y z u ≤ B := by unfold max4; omega
theorem max4_gt {x y z u B : Int} (h : B < x ∨ B < y ∨ B < z ∨ B < u) : B < max4 x y z u := by unfold max4; omega
@[go_sem] theorem run_max_int4 {P : Program} (w : World) (ts : Array TypeId) (t : TypeId) (k k' k'' k3 : IntKind) (x y z u : Int) : (Builtin.max_ ts t #[.int k x, .int k' y, .int k'' z, .int k3 u]).run P w = .ok (.int k (max4 x y z u)) w := by
  have e : ∀ a b : Int, (if b > a then b else a) = max a b := fun a b => by split <;> omega
  simp [Builtin.max_, Builtin.max2, max4, e]

theorem u64_wf {x : Int} (h : (Lit.int .u64 x).wf = true) : 0 ≤ x ∧ x ≤ 18446744073709551615 := by
  simp [Lit.wf, IntKind.min, IntKind.max, IntKind.signed, IntKind.bits] at h; omega
theorem i64_wf {x : Int} (h : (Lit.int .i64 x).wf = true) : -9223372036854775808 ≤ x ∧ x ≤ 9223372036854775807 := by
  simp [Lit.wf, IntKind.min, IntKind.max, IntKind.signed, IntKind.bits] at h; omega
theorem u8_wf {x : Int} (h : (Lit.int .u8 x).wf = true) : 0 ≤ x ∧ x ≤ 255 := by
  simp [Lit.wf, IntKind.min, IntKind.max, IntKind.signed, IntKind.bits] at h; omega
end Go.Proofs.YtgcpnhnckbgjmaaDoor
