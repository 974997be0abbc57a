/-
  The walk of WordOrders: it returns true for every input.
-/
import Derived.Test.YtmjlifbnndmjoaaWordFixed
set_option linter.unusedVariables false
namespace Go.Proofs.Ytmjlifbnndmjoaa
open Go.RowKit

theorem top_R {a : Int} (ha : R64 a) : R64 (bits .xor .u64 a 9223372036854775808) := by
  have := val_xor (W64 a) 9223372036854775808
  rw [val_w64 ha] at this
  have e : val (9223372036854775808 : BitVec 64) = 9223372036854775808 := by decide
  rw [e] at this; rw [← this]; exact val_R _
theorem top_w {a : Int} (ha : R64 a) : W64 (bits .xor .u64 a 9223372036854775808) = W64 a ^^^ 9223372036854775808 := by
  apply val_inj
  rw [val_w64 (top_R ha), val_xor, val_w64 ha]; rfl
/-- The first and second word of a pair turned by the top bit, behind a name. -/
def topI (a : Int) : Int := bits .xor .u64 a 9223372036854775808
theorem tri_I (x y z : BitVec 64) (h : x + y + z = 1) : IntKind.u64.wrap (IntKind.u64.wrap (val x + val y) + val z) = 1 := by
  rw [← val_add, ← val_add, h]; rfl
theorem wo1 (a b : Int) : IntKind.u64.wrap (IntKind.u64.wrap (apZ 16 a b 0 + apZ 17 a b 0) + apZ 20 a b 0) = 1 := tri_I _ _ _ (Wrd.tri (W64 a) (W64 b))
theorem wo2 (a b : Int) : apZ 16 a b 0 = apZ 17 b a 0 := rfl
theorem wo3 {a b : Int} (ha : R64 a) (hb : R64 b) : apZ 18 a b 0 = apZ 16 (topI a) (topI b) 0 := by
  show val (Wrd.flag ((W64 a).slt (W64 b))) = val (Wrd.flag ((W64 (topI a)).ult (W64 (topI b))))
  unfold topI
  rw [top_w ha, top_w hb, Wrd.lt_top]
theorem wo4 (a b : Int) : apZ 19 a b 0 = apZ 18 b a 0 := rfl
theorem wo5 (a b : Int) : apZ 20 a b 0 = apZ 21 (apZ 24 a b 0) 0 0 := by
  show val (Wrd.flag (W64 a == W64 b)) = val (Wrd.flag (W64 (apZ 24 a b 0) == 0)); rw [w64_apZ, Wrd.eq_xor]; rfl
theorem at_top {a b : Int} (ha : R64 a) (hb : R64 b) (w : World) :
    Calls Try.prog 10 #[.int .i64 16, .int .u64 (bits .xor .u64 a 9223372036854775808), .int .u64 (bits .xor .u64 b 9223372036854775808)] w fun e w' => e = .returned (.int .u64 (apZ 16 (topI a) (topI b) 0)) ∧ w = w' :=
  at_V 16 16 rfl (by decide) (by decide) (by decide) (by decide) _ _ (top_R ha) (top_R hb) w
set_option maxRecDepth 100000 in
set_option maxHeartbeats 4000000 in
theorem wordOrders_walk (w : World) (a0 : Int) (w0 : (Lit.int .u64 a0).wf = true) (a1 : Int) (w1 : (Lit.int .u64 a1).wf = true) :
    Calls Try.prog 6 #[.int .u64 a0, .int .u64 a1] w fun e w' => e = .returned (.bool true) ∧ Below w.heap.size w w' := by
  have ra := R64_wf w0
  have rb := R64_wf w1
  have r0 := R0
  clear w0 w1
  have e1 := beqT (wo1 a0 a1)
  have e2 := beqT (wo2 a0 a1)
  have e3 := beqT (wo3 ra rb)
  have e4 := beqT (wo4 a0 a1)
  have e5 := beqT (wo5 a0 a1)
  go_enter Try.func6, Try.ntmps6
  go_wp2_with (first
    | (go_at_call 10; (with_reducible refine (at_top ra rb _).mono ?_); rintro e w' ⟨rfl, rfl⟩)
    | (go_at_call 9; (with_reducible refine (fixed01_calls _).mono ?_); rintro e w' ⟨rfl, rfl⟩)
    | (go_at_call 10; (with_reducible refine (at_V 16 16 rfl (by decide) (by decide) (by decide) (by decide) _ _ ?_ ?_ _).mono ?_); (any_goals (first | assumption | exact apZ_R _ _ _ _)); rintro e w' ⟨rfl, rfl⟩)
    | (go_at_call 10; (with_reducible refine (at_V 17 17 rfl (by decide) (by decide) (by decide) (by decide) _ _ ?_ ?_ _).mono ?_); (any_goals (first | assumption | exact apZ_R _ _ _ _)); rintro e w' ⟨rfl, rfl⟩)
    | (go_at_call 10; (with_reducible refine (at_V 18 18 rfl (by decide) (by decide) (by decide) (by decide) _ _ ?_ ?_ _).mono ?_); (any_goals (first | assumption | exact apZ_R _ _ _ _)); rintro e w' ⟨rfl, rfl⟩)
    | (go_at_call 10; (with_reducible refine (at_V 19 19 rfl (by decide) (by decide) (by decide) (by decide) _ _ ?_ ?_ _).mono ?_); (any_goals (first | assumption | exact apZ_R _ _ _ _)); rintro e w' ⟨rfl, rfl⟩)
    | (go_at_call 10; (with_reducible refine (at_V 20 20 rfl (by decide) (by decide) (by decide) (by decide) _ _ ?_ ?_ _).mono ?_); (any_goals (first | assumption | exact apZ_R _ _ _ _)); rintro e w' ⟨rfl, rfl⟩)
    | (go_at_call 10; (with_reducible refine (at_V 21 21 rfl (by decide) (by decide) (by decide) (by decide) _ _ ?_ ?_ _).mono ?_); (any_goals (first | assumption | exact apZ_R _ _ _ _)); rintro e w' ⟨rfl, rfl⟩)
    | (go_at_call 10; (with_reducible refine (at_V 24 24 rfl (by decide) (by decide) (by decide) (by decide) _ _ ?_ ?_ _).mono ?_); (any_goals (first | assumption | exact apZ_R _ _ _ _)); rintro e w' ⟨rfl, rfl⟩)
    | fail)
  go_returns
  exact ⟨rfl, by (repeat' (first | (with_reducible exact Below.refl _ _) | (with_reducible refine Below.alloc ?_ ?_ _) | (with_reducible refine Below.drew ?_) | (with_reducible refine Below.setCell ?_ ?_ _) | (with_reducible refine Below.thn (by assumption) ?_ ?_) | (with_reducible refine below_drewN ?_ _) | go_size))⟩
end Go.Proofs.Ytmjlifbnndmjoaa
