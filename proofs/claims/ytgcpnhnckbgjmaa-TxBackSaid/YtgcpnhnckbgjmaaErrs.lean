/-
  errors.Is over errors that are constants of the one integer type api.Errno, by its contracts: nil, and a number against a number. Go's own text of errors.Is and errors.is is walked once.
-/
import Derived.Test.YtgcpnhnckbgjmaaProg
import Derived.WalkKit
import Derived.LaidEql
import Derived.Stop.Asserts
import Derived.RowKitTokens
namespace Go.Proofs.Ytgcpnhnckbgjmaa
open Go.RowKit Go.Extern.Stop Go.Stop Go.Extern

section
variable {P : Program} (w : World)
theorem run_equalIn_errno (d : Nat) {ti tn : TypeId} {ms : Array (String × TypeId)} {i : TypeInfo} {k : IntKind} (a b : Int)
    (hi : P.underlying ti = some (.interface ms)) (hn : P.underlying tn = some (.int k)) (hinfo : P.info? tn = some i) (hcomp : i.comparable = true) :
    (Op.equalIn (d + 2) ti (.iface tn (.int k a)) (.iface tn (.int k b))).run P w = .ok (a == b) w := by
  simp [Op.equalIn, run_underlying hi, run_underlying hn, typeInfo, hinfo, hcomp]
theorem run_eql_errno {ti tn : TypeId} {ms : Array (String × TypeId)} {i : TypeInfo} {k : IntKind} (a b : Int)
    (hi : P.underlying ti = some (.interface ms)) (hn : P.underlying tn = some (.int k)) (hinfo : P.info? tn = some i) (hcomp : i.comparable = true) :
    (binOp .eql ti (.iface tn (.int k a)) (.iface tn (.int k b))).run P w = .ok (.bool (a == b)) w := by
  simp only [binOp]
  simp [Op.equal, Op.maxDepth, run_equalIn_errno w 9998 a b hi hn hinfo hcomp]
end

theorem Try.isTypeOf (v : Value) (w : World) : (callFunc 26 #[.iface 55 v]).run Try.prog w = .ok (.value (.iface 84 (.agg #[.pointer (some ⟨0, 55, none⟩)]))) w := by kernel_rfl
theorem Try.isComparable (w : World) : (callFunc 58 #[.agg #[.pointer (some ⟨0, 55, none⟩)]]).run Try.prog w = .ok (.value (.bool true)) w := by kernel_rfl
theorem Try.isComp : (Try.prog.info? 55).map (·.comparable) = some true := by kernel_rfl
theorem Try.noIsE (v : Value) (xT : TypeId) (w : World) : (Instr.typeAssert (.iface 55 v) xT 86 true).run Try.prog w = .ok (.tuple #[.nilIface, .bool false]) w := run_typeAssert_lacksB Try.underlying86 (by kernel_rfl) (by kernel_rfl) v xT w
theorem Try.noUnwrapE (v : Value) (xT : TypeId) (w : World) : (Instr.typeAssert (.iface 55 v) xT 89 true).run Try.prog w = .ok (.tuple #[.nilIface, .bool false]) w := run_typeAssert_lacksB Try.underlying89 (by kernel_rfl) (by kernel_rfl) v xT w
theorem Try.noUnwrapsE (v : Value) (xT : TypeId) (w : World) : (Instr.typeAssert (.iface 55 v) xT 91 true).run Try.prog w = .ok (.tuple #[.nilIface, .bool false]) w := run_typeAssert_lacksB Try.underlying91 (by kernel_rfl) (by kernel_rfl) v xT w
theorem Try.isMethodComparable (v : Value) (w : World) : (Go.method 231 84 v "Comparable").run Try.prog w = .ok (58, v) w := by kernel_rfl

/-- errors.Is(nil, a number). -/
theorem is_nil (b : Int) (w : World) :
    Calls Try.prog 19 #[.nilIface, .iface 55 (.int .i64 b)] w fun e w' => e = .returned (.bool false) ∧ w = w' := by
  have hn := run_eql_iface_nil_left (P := Try.prog) w 55 (.int .i64 b) Try.underlying27
  go_enter Try.func19, Try.ntmps19
  go_wp2
  go_ret
  exact ⟨rfl, rfl⟩

/-- errors.Is(a number, a number). -/
theorem is_num (a b : Int) (w : World) :
    Calls Try.prog 19 #[.iface 55 (.int .i64 a), .iface 55 (.int .i64 b)] w fun e w' => e = .returned (.bool (a == b)) ∧ w = w' := by
  obtain ⟨i, hi, hcmp⟩ := Option.map_eq_some_iff.1 Try.isComp
  have tT := Try.isTypeOf
  have cT := Try.isComparable
  have mR := Try.isMethodComparable
  have nE := Try.noIsE
  have uE := Try.noUnwrapE
  have vE := Try.noUnwrapsE
  have heq := run_eql_errno (P := Try.prog) w a b Try.underlying27 Try.underlying55 hi hcmp
  by_cases hab : a = b
  · subst hab
    have he2 : (a == a) = true := by simp
    go_enter Try.func19, Try.ntmps19
    go_wp2
    refine wp_loop_rounds 1 ?_
    rw [rounds_succ]
    go_wp2
    go_ret
    exact ⟨by simp, rfl⟩
  · have he2 : (a == b) = false := by simp [hab]
    go_enter Try.func19, Try.ntmps19
    go_wp2
    refine wp_loop_rounds 1 ?_
    rw [rounds_succ]
    go_wp2
    go_ret
    exact ⟨by simp [hab], rfl⟩
end Go.Proofs.Ytgcpnhnckbgjmaa
