/-
  The walk of WordGroups: it returns true for every input.
-/
import Derived.Test.YtmjlifbnndmjoaaWordFixed
set_option linter.unusedVariables false
namespace Go.Proofs.Ytmjlifbnndmjoaa
open Go.RowKit

section
variable {a b c : Int} (ha : R64 a) (hb : R64 b) (hc : R64 c)
theorem gr1 : apZ 1 a b 0 = apZ 1 b a 0 := by simp only [apZ, Wrd.ap]; rw [(Wrd.groups (W64 a) (W64 b) 0).1]
theorem gr2 : apZ 1 (apZ 1 a b 0) c 0 = apZ 1 a (apZ 1 b c 0) 0 := by simp only [apZ, w64_val, Wrd.ap]; rw [(Wrd.groups (W64 a) (W64 b) (W64 c)).2.1]
include ha in
theorem gr3 : apZ 2 (apZ 1 a b 0) b 0 = a := by
  have := congrArg val (Wrd.groups (W64 a) (W64 b) 0).2.2.1
  rw [val_w64 ha] at this
  simp only [apZ, w64_val, Wrd.ap]; exact this
include ha in
theorem gr4 : apZ 2 0 (apZ 2 0 a 0) 0 = a := by
  have := congrArg val (Wrd.groups (W64 a) (W64 a) (W64 a)).2.2.2.1
  rw [val_w64 ha] at this
  simp only [apZ, w64_val, Wrd.ap, w64_zero]; exact this
theorem gr5 : apZ 3 a b 0 = apZ 3 b a 0 := by simp only [apZ, Wrd.ap]; rw [(Wrd.groups (W64 a) (W64 b) 0).2.2.2.2.1]
theorem gr6 : apZ 3 (apZ 3 a b 0) c 0 = apZ 3 a (apZ 3 b c 0) 0 := by simp only [apZ, w64_val, Wrd.ap]; rw [(Wrd.groups (W64 a) (W64 b) (W64 c)).2.2.2.2.2.1]
theorem gr7 : apZ 3 a (apZ 1 b c 0) 0 = apZ 1 (apZ 3 a b 0) (apZ 3 a c 0) 0 := by simp only [apZ, w64_val, Wrd.ap]; rw [(Wrd.groups (W64 a) (W64 b) (W64 c)).2.2.2.2.2.2.1]
include ha in
theorem gr8 : apZ 3 a 1 0 = a := by
  have := congrArg val (Wrd.groups (W64 a) (W64 a) (W64 a)).2.2.2.2.2.2.2
  rw [val_w64 ha] at this
  simp only [apZ, Wrd.ap]; exact this
end

set_option maxRecDepth 100000 in
set_option maxHeartbeats 4000000 in
theorem wordGroups_walk (w : World) (a0 : Int) (w0 : (Lit.int .u64 a0).wf = true) (a1 : Int) (w1 : (Lit.int .u64 a1).wf = true) (a2 : Int) (w2 : (Lit.int .u64 a2).wf = true) :
    Calls Try.prog 3 #[.int .u64 a0, .int .u64 a1, .int .u64 a2] w fun e w' => e = .returned (.bool true) ∧ Below w.heap.size w w' := by
  have ra := R64_wf w0
  have rb := R64_wf w1
  have rc := R64_wf w2
  have r0 := R0
  have r1 := R1
  clear w0 w1 w2
  have e1 := beqT (gr1 (a := a0) (b := a1))
  have e2 := beqT (gr2 (a := a0) (b := a1) (c := a2))
  have e3 := beqT (gr3 (a := a0) (b := a1) ra)
  have e4 := beqT (gr4 (a := a0) ra)
  have e5 := beqT (gr5 (a := a0) (b := a1))
  have e6 := beqT (gr6 (a := a0) (b := a1) (c := a2))
  have e7 := beqT (gr7 (a := a0) (b := a1) (c := a2))
  have e8 := beqT (gr8 (a := a0) ra)
  go_enter Try.func3, Try.ntmps3
  go_wp2_with (first
    | (go_at_call 9; (with_reducible refine (fixed01_calls _).mono ?_); rintro e w' ⟨rfl, rfl⟩)
    | (go_at_call 10; (with_reducible refine (at_V 1 1 rfl (by decide) (by decide) (by decide) (by decide) _ _ ?_ ?_ _).mono ?_); (any_goals (first | assumption | exact apZ_R _ _ _ _)); rintro e w' ⟨rfl, rfl⟩)
    | (go_at_call 10; (with_reducible refine (at_V 2 2 rfl (by decide) (by decide) (by decide) (by decide) _ _ ?_ ?_ _).mono ?_); (any_goals (first | assumption | exact apZ_R _ _ _ _)); rintro e w' ⟨rfl, rfl⟩)
    | (go_at_call 10; (with_reducible refine (at_V 3 3 rfl (by decide) (by decide) (by decide) (by decide) _ _ ?_ ?_ _).mono ?_); (any_goals (first | assumption | exact apZ_R _ _ _ _)); rintro e w' ⟨rfl, rfl⟩))
  go_returns
  exact ⟨rfl, Below.refl _ _⟩
end Go.Proofs.Ytmjlifbnndmjoaa
