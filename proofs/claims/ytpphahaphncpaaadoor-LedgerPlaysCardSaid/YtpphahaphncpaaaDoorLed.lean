/-
  The ledger's functions by their contracts: what lies in its memory, what each call makes of it.
-/
import Derived.Test.YtpphahaphncpaaaDoorErrs
import Derived.Test.YtpphahaphncpaaaDoorAid
import Derived.Deep.OwnRows
import Derived.OneCell
import Derived.OwnWalk
import Derived.BigRegion
import Derived.Deep.QuietTactic
import Derived.BigQuiet
import Derived.Outline
import Derived.WalkSmall
set_option linter.unusedVariables false
namespace Go.Proofs.YtpphahaphncpaaaDoor
open Go.RowKit

/-- What a world keeps where only blocks of two types, and new ones, are written. -/
structure Kept (t1 t2 : TypeId) (B : Nat) (w w' : World) : Prop where
  below : Below B w w'
  other : ∀ (k : Nat) (cs : Array Value) (t : TypeId) (f : Nat × Nat), w.heap[k]? = some (Obj.cells cs t f) → t ≠ t1 → t ≠ t2 → w'.heap[k]? = some (Obj.cells cs t f)
namespace Kept
variable {t1 t2 : TypeId} {B : Nat} {w w1 w2 : World}
theorem refl (t1 t2 : TypeId) (B : Nat) (w : World) : Kept t1 t2 B w w := ⟨Below.refl _ _, fun _ _ _ _ h _ _ => h⟩
theorem trans (h : Kept t1 t2 B w w1) (k : Kept t1 t2 B w1 w2) : Kept t1 t2 B w w2 := ⟨h.below.trans k.below, fun b cs t f hb n1 n2 => k.other b cs t f (h.other b cs t f hb n1 n2) n1 n2⟩
theorem mono {B' : Nat} (h : Kept t1 t2 B w w1) (hB : B' ≤ B) : Kept t1 t2 B' w w1 := ⟨h.below.mono hB, h.other⟩
theorem ofBelow (h : Below w.heap.size w w1) : Kept t1 t2 w.heap.size w w1 := ⟨h, fun k cs t f hb _ _ => by rw [h.block k (lt_of_block hb)]; exact hb⟩
theorem alloc (h : Kept t1 t2 B w w1) (hB : B ≤ w1.heap.size) (o : Obj) : Kept t1 t2 B w (w1.alloc o) :=
  h.trans ⟨(Below.refl _ _).alloc hB _, fun k cs t f hb _ _ => by rw [Below.heap_alloc _ _ _ (lt_of_block hb)]; exact hb⟩
theorem drew (h : Kept t1 t2 B w w1) : Kept t1 t2 B w w1.drew := ⟨h.below.drew, h.other⟩
theorem setCell (h : Kept t1 t2 B w w1) {p : Addr} (hp : B ≤ p.block) {cs : Array Value} {t : TypeId} {f : Nat × Nat} (hb : w1.heap[p.block]? = some (.cells cs t f)) (ht : t = t1 ∨ t = t2) (u : Value) : Kept t1 t2 B w (w1.setCell p u) :=
  h.trans ⟨(Below.refl _ _).setCell hp _, fun k cs' t' f' hk n1 n2 => by
    rw [Below.heap_setCell _ _ _ _ (fun e => by subst e; rw [hb] at hk; simp at hk; rcases ht with rfl | rfl <;> simp_all)]; exact hk⟩
theorem grown {row : Option Nat} (h : Kept t1 t2 B w w1) (hg : w1.grownBy w2 row) (hB : B ≤ w1.heap.size) (hr : ∀ k, row = some k → B ≤ k ∧ ∃ (cs : Array Value) (f : Nat × Nat), w1.heap[k]? = some (Obj.cells cs t2 f)) : Kept t1 t2 B w w2 :=
  h.trans ⟨(Below.refl _ _).grown hg hB (fun k e => (hr k e).1), fun k cs t f hk n1 n2 => by
    rw [hg.block k (lt_of_block hk) (fun e => by obtain ⟨_, cs', f', h'⟩ := hr k e.symm; rw [h'] at hk; simp at hk; exact n2 hk.2.1.symm)]; exact hk⟩
end Kept

/-- A ledger: balances, what came in and went out, what is locked, the bonds. -/
structure LS where
  bal : Nat → Int
  inn : Int
  out : Int
  lk : Int
  bonds : List (Int × Bool)
def LS.zero : LS := ⟨fun _ => 0, 0, 0, 0, []⟩
def LS.cell (S : LS) (v : Value) (i : Nat) : Value :=
  if i < 8 then .int .u64 (S.bal i) else if i = 8 then .int .u64 S.inn else if i = 9 then .int .u64 S.out else if i = 10 then v else .int .u64 S.lk
def flatB (bs : List (Int × Bool)) : List Value := bs.flatMap fun x => [.int .u64 x.1, .bool x.2]
def upd (f : Nat → Int) (p : Nat) (v : Int) : Nat → Int := fun i => if i = p then v else f i
/-- The numbers of a ledger lie where no sum of two wraps. -/
structure LS.Ok (S : LS) : Prop where
  bal : ∀ i, i < 8 → 0 ≤ S.bal i ∧ S.bal i ≤ 281474976710656
  inn : 0 ≤ S.inn ∧ S.inn ≤ 281474976710656
  out : 0 ≤ S.out ∧ S.out ≤ 281474976710656
  lk : 0 ≤ S.lk ∧ S.lk ≤ 281474976710656
  bv : ∀ n, 0 ≤ (S.bonds.getD n (0, false)).1 ∧ (S.bonds.getD n (0, false)).1 ≤ 281474976710656
  n : S.bonds.length ≤ 200
abbrev TL : TypeId := 56
abbrev TB : TypeId := 59
structure Led (w : World) (b base : Nat) (S : LS) : Prop where
  lt : b < base
  ok : S.Ok
  row : ∃ v, w.rowIs b TL 12 (S.cell v) ∧ w.ownsRow base TB 2 v S.bonds.length (flatB S.bonds)

theorem LS.zero_ok : LS.zero.Ok := ⟨fun _ _ => by simp [LS.zero], by simp [LS.zero], by simp [LS.zero], by simp [LS.zero], fun n => by simp [LS.zero], by simp [LS.zero]⟩

theorem new_calls (w : World) :
    Calls Tryd.prog 4 #[] w fun e w' => e = .returned (.pointer (some ⟨w.heap.size, 0, none⟩)) ∧ Led w' w.heap.size (w.heap.size + 1) LS.zero ∧ Below w.heap.size w w' := by
  go_enter Tryd.func4, Tryd.ntmps4
  go_wp2
  go_ret
  refine ⟨rfl, ⟨by omega, LS.zero_ok, .slice none 0 0, ?_, World.ownsRow_nil _ _ _ _⟩, by (repeat' (first | (with_reducible exact Below.refl _ _) | (with_reducible refine Below.alloc ?_ ?_ _) | (with_reducible refine Below.drew ?_) | (with_reducible refine Below.setCell ?_ ?_ _) | (with_reducible refine Below.thn (by assumption) ?_ ?_) | (with_reducible refine below_drewN ?_ _) | go_size))⟩
  refine World.rowIs_alloc _ _ _ _ ?_
  intro i hi
  have hi : i < 12 := hi
  rcases (by omega : i = 0 ∨ i = 1 ∨ i = 2 ∨ i = 3 ∨ i = 4 ∨ i = 5 ∨ i = 6 ∨ i = 7 ∨ i = 8 ∨ i = 9 ∨ i = 10 ∨ i = 11) with rfl | rfl | rfl | rfl | rfl | rfl | rfl | rfl | rfl | rfl | rfl | rfl <;> rfl

theorem ready_ok (b p : Nat) (w : World) (hp : p < 8) :
    Calls Tryd.prog 18 #[.pointer (some ⟨b, 0, none⟩), .int .i64 p] w fun e w' => e = .returned .nilIface ∧ w = w' := by
  go_enter Tryd.func18, Tryd.ntmps18
  go_wp2
  go_ret
  exact ⟨rfl, rfl⟩
theorem ready_bad (b : Nat) (p : Int) (w : World) (hp : p < 0 ∨ 8 ≤ p) :
    Calls Tryd.prog 18 #[.pointer (some ⟨b, 0, none⟩), .int .i64 p] w fun e w' => e = .returned (.iface 42 (.int .i64 2)) ∧ w = w' := by
  by_cases h : p < 0
  · clear hp
    go_enter Tryd.func18, Tryd.ntmps18
    go_wp2
    go_ret
    exact ⟨rfl, rfl⟩
  · have h : 8 ≤ p := by omega
    clear hp
    go_enter Tryd.func18, Tryd.ntmps18
    go_wp2
    go_ret
    exact ⟨rfl, rfl⟩
theorem ready_nil (p : Int) (w : World) :
    Calls Tryd.prog 18 #[.pointer none, .int .i64 p] w fun e w' => e = .returned (.iface 42 (.int .i64 1)) ∧ w = w' := by
  go_enter Tryd.func18, Tryd.ntmps18
  go_wp2
  go_ret
  exact ⟨rfl, rfl⟩
end Go.Proofs.YtpphahaphncpaaaDoor
