/-
  errors.Is of an error at a place against a number, by its contract.
-/
import Derived.Test.YtcblbmjcfckgjaaDoorErrs
import Derived.Test.YtcblbmjcfckgjaaDoorWhy
set_option linter.unusedVariables false
set_option linter.unusedSimpArgs false
namespace Go.Proofs.YtcblbmjcfckgjaaDoor
open Go.RowKit Go.Extern.Stop Go.Stop Go.Extern
theorem noIsF (v : Value) (xT : TypeId) (w : World) : (Instr.typeAssert (.iface 62 v) xT 103 true).run Tryd.prog w = .ok (.tuple #[.nilIface, .bool false]) w := run_typeAssert_lacksB Tryd.underlying103 (by kernel_rfl) (by kernel_rfl) v xT w
set_option maxHeartbeats 2000000 in
/-- errors.Is(an error at a place, a number). -/
theorem is_fault (pb po : Nat) (a b : Int) (w : World) (hp : w.cell? ⟨pb, po + 1, none⟩ = some (.iface 53 (.int .i64 a))) :
    Calls Tryd.prog 23 #[.iface 62 (.pointer (some ⟨pb, po, none⟩)), .iface 53 (.int .i64 b)] w fun e w' => e = .returned (.bool (a == b)) ∧ w = w' := by
  obtain ⟨i, hi, hcmp⟩ := Option.map_eq_some_iff.1 Tryd.isComp
  have tT := Tryd.isTypeOf
  have cT := Tryd.isComparable
  have mR := Tryd.isMethodComparable
  have nE := Tryd.noIsE
  have uE := Tryd.noUnwrapE
  have vE := Tryd.noUnwrapsE
  have nF := noIsF
  have uF := hasUnwrapF
  have mF := methodUnwrapF
  have heq := run_eql_errno (P := Tryd.prog) w a b Tryd.underlying27 Tryd.underlying53 hi hcmp
  have hne := run_eql_iface_types (P := Tryd.prog) 62 53 (.pointer (some ⟨pb, po, none⟩)) (.int .i64 b) Tryd.underlying27 (by decide) w
  by_cases hab : a = b
  · subst hab
    have he2 : (a == a) = true := by simp
    go_enter Tryd.func23, Tryd.ntmps23
    go_wp2
    refine wp_loop_rounds 2 ?_
    rw [rounds_succ]
    go_wp2
    rw [rounds_succ]
    go_wp2
    go_ret
    exact ⟨by simp, rfl⟩
  · have he2 : (a == b) = false := by simp [hab]
    go_enter Tryd.func23, Tryd.ntmps23
    go_wp2
    refine wp_loop_rounds 2 ?_
    rw [rounds_succ]
    go_wp2
    rw [rounds_succ]
    go_wp2
    go_ret
    exact ⟨by simp [hab], rfl⟩
end Go.Proofs.YtcblbmjcfckgjaaDoor
