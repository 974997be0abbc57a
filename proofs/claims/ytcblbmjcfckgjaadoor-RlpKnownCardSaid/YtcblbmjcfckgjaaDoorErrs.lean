/-
  errors.Is over errors that are constants of the one integer type api.Errno, by its contracts: nil, and a number against a number. Go's own text of errors.Is and errors.is is walked once.
-/
import Derived.Test.YtcblbmjcfckgjaaDoorProg
import Derived.WalkKit
import Derived.LaidEql
import Derived.Stop.Asserts
import Derived.RowKitTokens
namespace Go.Proofs.YtcblbmjcfckgjaaDoor
open Go.RowKit Go.Extern.Stop Go.Stop Go.Extern

section
variable {P : Program} (w : World)
theorem run_equalIn_errno (d : Nat) {ti tn : TypeId} {ms : Array (String × TypeId)} {i : TypeInfo} {k : IntKind} (a b : Int)
    (hi : P.underlying ti = some (.interface ms)) (hn : P.underlying tn = some (.int k)) (hinfo : P.info? tn = some i) (hcomp : i.comparable = true) :
    (Op.equalIn (d + 2) ti (.iface tn (.int k a)) (.iface tn (.int k b))).run P w = .ok (a == b) w := by
  simp [Op.equalIn, run_underlying hi, run_underlying hn, typeInfo, hinfo, hcomp]
theorem run_eql_errno {ti tn : TypeId} {ms : Array (String × TypeId)} {i : TypeInfo} {k : IntKind} (a b : Int)
    (hi : P.underlying ti = some (.interface ms)) (hn : P.underlying tn = some (.int k)) (hinfo : P.info? tn = some i) (hcomp : i.comparable = true) :
    (binOp .eql ti (.iface tn (.int k a)) (.iface tn (.int k b))).run P w = .ok (.bool (a == b)) w := by
  simp only [binOp]
  simp [Op.equal, Op.maxDepth, run_equalIn_errno w 9998 a b hi hn hinfo hcomp]
end

theorem Tryd.isTypeOf (v : Value) (w : World) : (callFunc 35 #[.iface 53 v]).run Tryd.prog w = .ok (.value (.iface 91 (.agg #[.pointer (some ⟨1, 53, none⟩)]))) w := by kernel_rfl
theorem Tryd.isComparable (w : World) : (callFunc 69 #[.agg #[.pointer (some ⟨1, 53, none⟩)]]).run Tryd.prog w = .ok (.value (.bool true)) w := by kernel_rfl
theorem Tryd.isComp : (Tryd.prog.info? 53).map (·.comparable) = some true := by kernel_rfl
theorem Tryd.noIsE (v : Value) (xT : TypeId) (w : World) : (Instr.typeAssert (.iface 53 v) xT 103 true).run Tryd.prog w = .ok (.tuple #[.nilIface, .bool false]) w := run_typeAssert_lacksB Tryd.underlying103 (by kernel_rfl) (by kernel_rfl) v xT w
theorem Tryd.noUnwrapE (v : Value) (xT : TypeId) (w : World) : (Instr.typeAssert (.iface 53 v) xT 98 true).run Tryd.prog w = .ok (.tuple #[.nilIface, .bool false]) w := run_typeAssert_lacksB Tryd.underlying98 (by kernel_rfl) (by kernel_rfl) v xT w
theorem Tryd.noUnwrapsE (v : Value) (xT : TypeId) (w : World) : (Instr.typeAssert (.iface 53 v) xT 100 true).run Tryd.prog w = .ok (.tuple #[.nilIface, .bool false]) w := run_typeAssert_lacksB Tryd.underlying100 (by kernel_rfl) (by kernel_rfl) v xT w
theorem Tryd.isMethodComparable (v : Value) (w : World) : (Go.method 237 91 v "Comparable").run Tryd.prog w = .ok (69, v) w := by kernel_rfl

/-- errors.Is(nil, a number). -/
theorem is_nil (b : Int) (w : World) :
    Calls Tryd.prog 23 #[.nilIface, .iface 53 (.int .i64 b)] w fun e w' => e = .returned (.bool false) ∧ w = w' := by
  have hn := run_eql_iface_nil_left (P := Tryd.prog) w 53 (.int .i64 b) Tryd.underlying27
  go_enter Tryd.func23, Tryd.ntmps23
  go_wp2
  go_ret
  exact ⟨rfl, rfl⟩

/-- errors.Is(a number, a number). -/
theorem is_num (a b : Int) (w : World) :
    Calls Tryd.prog 23 #[.iface 53 (.int .i64 a), .iface 53 (.int .i64 b)] w fun e w' => e = .returned (.bool (a == b)) ∧ w = w' := by
  obtain ⟨i, hi, hcmp⟩ := Option.map_eq_some_iff.1 Tryd.isComp
  have tT := Tryd.isTypeOf
  have cT := Tryd.isComparable
  have mR := Tryd.isMethodComparable
  have nE := Tryd.noIsE
  have uE := Tryd.noUnwrapE
  have vE := Tryd.noUnwrapsE
  have heq := run_eql_errno (P := Tryd.prog) w a b Tryd.underlying27 Tryd.underlying53 hi hcmp
  by_cases hab : a = b
  · subst hab
    have he2 : (a == a) = true := by simp
    go_enter Tryd.func23, Tryd.ntmps23
    go_wp2
    refine wp_loop_rounds 1 ?_
    rw [rounds_succ]
    go_wp2
    go_ret
    exact ⟨by simp, rfl⟩
  · have he2 : (a == b) = false := by simp [hab]
    go_enter Tryd.func23, Tryd.ntmps23
    go_wp2
    refine wp_loop_rounds 1 ?_
    rw [rounds_succ]
    go_wp2
    go_ret
    exact ⟨by simp [hab], rfl⟩
end Go.Proofs.YtcblbmjcfckgjaaDoor
