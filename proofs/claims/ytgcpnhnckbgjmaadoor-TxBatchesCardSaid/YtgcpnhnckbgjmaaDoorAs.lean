/-
  errors.As over the errors of this program (constants of api.Errno, and an *api.Fault that wraps one) at the two targets of mootlaw03.Why: a *api.Errno and a **api.Fault. Go's own text of errors.As and errors.as is walked; reflectlite's entries by closed facts.
-/
import Derived.Test.YtgcpnhnckbgjmaaDoorErrs
import Derived.Test.YtgcpnhnckbgjmaaDoorAid
import Derived.WalkKit
import Derived.LaidEql
import Derived.Stop.Asserts
import Derived.RowKitTokens
set_option linter.unusedVariables false
namespace Go.Proofs.YtgcpnhnckbgjmaaDoor
open Go.RowKit Go.Extern.Stop Go.Stop Go.Extern

theorem as_nil (t : Value) (w : World) :
    Calls Tryd.prog 48 #[.nilIface, t] w fun e w' => e = .returned (.bool false) ∧ w = w' := by
  go_enter Tryd.func48, Tryd.ntmps48
  go_wp2
  go_ret
  exact ⟨rfl, rfl⟩

theorem rlm (z : Sem Value) (f : TypeId → Addr → Nat → Nat → Sem Value) (v : Value) :
    ReflectliteValue.method z f #[v] = (do match ← ReflectliteValue.parts v with | none => z | some (t, a, fl) => f t a fl (fl % 32)) := rfl
theorem rls (v x : Value) : ReflectliteValue.set #[v, x] = (do
    let (some (dst, a, fl), some (src, b, _)) := (← ReflectliteValue.parts v, ← ReflectliteValue.parts x)
      | unsupported (.noEntry "extern/(internal/reflectlite.Value).Set.zeroValue")
    if fl / ReflectliteValue.flagAddr % 2 == 0 then unsupported (.noEntry "extern/(internal/reflectlite.Value).Set.unaddressable")
    let val ← loadVar src b
    if ← Rtype.directlyAssignable dst src then storeVar dst a val
    else if ← Rtype.implements dst src then
      if (← Rtype.kind src) == 20 then
        match val with
        | .nilIface => unsupported (.noEntry "extern/reflectlite: a nil value of one interface type handed on as a value of another")
        | _ => storeVar dst a val
      else storeVar dst a (.iface src val)
    else panicString ("reflectlite.Set: value of type " ++ (← Rtype.spelt src) ++ " is not assignable to type " ++ (← Rtype.spelt dst))
    pure (.tuple #[])) := rfl
theorem valueOfPE (t : Addr) (w : World) : (callFunc 56 #[.iface 105 (.pointer (some t))]).run Tryd.prog w
    = .ok (.value (.agg #[.pointer (some ⟨1, 105, none⟩), .pointer (some ⟨w.heap.size, 0, none⟩), .int .u64 150])) (w.alloc (.cells #[.pointer (some t)] 105)) := by kernel_rfl
theorem typePE (a : Addr) (w : World) : (callFunc 57 #[.agg #[.pointer (some ⟨1, 105, none⟩), .pointer (some a), .int .u64 150]]).run Tryd.prog w = .ok (.value (.iface 115 (.agg #[.pointer (some ⟨1, 105, none⟩)]))) w := by kernel_rfl
theorem kindPE (w : World) : (callFunc 77 #[.pointer (some ⟨1, 105, none⟩)]).run Tryd.prog w = .ok (.value (.int .u8 22)) w := by kernel_rfl
theorem kindE (w : World) : (callFunc 77 #[.pointer (some ⟨1, 62, none⟩)]).run Tryd.prog w = .ok (.value (.int .u8 2)) w := by kernel_rfl
theorem partsPE (a : Addr) (w : World) : (ReflectliteValue.parts (.agg #[.pointer (some ⟨1, 105, none⟩), .pointer (some a), .int .u64 150])).run Tryd.prog w = .ok (some (105, a, 150)) w := by kernel_rfl
theorem isNilPE (a p : Addr) (W : World) (ha : W.cell? a = some (.pointer (some p))) :
    (callFunc 58 #[.agg #[.pointer (some ⟨1, 105, none⟩), .pointer (some a), .int .u64 150]]).run Tryd.prog W = .ok (.value (.bool false)) W := by
  rw [@run_callFunc_extern Tryd.prog 58 _ (ReflectliteValue.method (ReflectliteValue.valueError "reflectlite.Value.IsNil" 0) ReflectliteValue.isNil) Tryd.func58 (by kernel_rfl) (by kernel_rfl) (by kernel_rfl) (by kernel_rfl), rlm]
  simp only [Sem.run_bind, partsPE, Result.andThen]
  simp [ReflectliteValue.isNil, loadVar, isAgg, underlying, Tryd.underlying105, ha, Result.andThen]
theorem elemPE (w : World) : (callFunc 86 #[.agg #[.pointer (some ⟨1, 105, none⟩)]]).run Tryd.prog w = .ok (.value (.iface 115 (.agg #[.pointer (some ⟨1, 62, none⟩)]))) w := by kernel_rfl
theorem implementsE (w : World) : (callFunc 87 #[.agg #[.pointer (some ⟨1, 62, none⟩)], .iface 115 (.agg #[.pointer (some ⟨1, 27, none⟩)])]).run Tryd.prog w = .ok (.value (.bool true)) w := by kernel_rfl
theorem typeOfE (v : Value) (w : World) : (callFunc 46 #[.iface 62 v]).run Tryd.prog w = .ok (.value (.iface 115 (.agg #[.pointer (some ⟨1, 62, none⟩)]))) w := by kernel_rfl
theorem valueOfE (a : Int) (w : World) : (callFunc 56 #[.iface 62 (.int .i64 a)]).run Tryd.prog w
    = .ok (.value (.agg #[.pointer (some ⟨1, 62, none⟩), .pointer (some ⟨w.heap.size, 0, none⟩), .int .u64 130])) (w.alloc (.cells #[.int .i64 a] 62)) := by kernel_rfl
theorem elemOfPE (w : World) : (Rtype.elem? 105).run Tryd.prog w = .ok (some 62) w := by kernel_rfl
theorem mkE (p : Addr) (w : World) : (ReflectliteValue.mk 62 p ReflectliteValue.flagAddr).run Tryd.prog w = .ok (.agg #[.pointer (some ⟨1, 62, none⟩), .pointer (some p), .int .u64 386]) w := by kernel_rfl
theorem elemVPE (a p : Addr) (W : World) (ha : W.cell? a = some (.pointer (some p))) :
    (callFunc 61 #[.agg #[.pointer (some ⟨1, 105, none⟩), .pointer (some a), .int .u64 150]]).run Tryd.prog W = .ok (.value (.agg #[.pointer (some ⟨1, 62, none⟩), .pointer (some p), .int .u64 386])) W := by
  rw [@run_callFunc_extern Tryd.prog 61 _ (ReflectliteValue.method (ReflectliteValue.valueError "reflectlite.Value.Elem" 0) ReflectliteValue.elem) Tryd.func61 (by kernel_rfl) (by kernel_rfl) (by kernel_rfl) (by kernel_rfl), rlm]
  simp only [Sem.run_bind, partsPE, Result.andThen]
  simp [ReflectliteValue.elem, loadVar, isAgg, underlying, Tryd.underlying105, ha, Result.andThen, elemOfPE, mkE]
theorem partsEa (a : Addr) (w : World) : (ReflectliteValue.parts (.agg #[.pointer (some ⟨1, 62, none⟩), .pointer (some a), .int .u64 386])).run Tryd.prog w = .ok (some (62, a, 386)) w := by kernel_rfl
theorem partsE (a : Addr) (w : World) : (ReflectliteValue.parts (.agg #[.pointer (some ⟨1, 62, none⟩), .pointer (some a), .int .u64 130])).run Tryd.prog w = .ok (some (62, a, 130)) w := by kernel_rfl
theorem directE (w : World) : (Rtype.directlyAssignable 62 62).run Tryd.prog w = .ok true w := by kernel_rfl
theorem sizeE (w : World) : (sizeOf 62).run Tryd.prog w = .ok 1 w := by kernel_rfl
theorem setE (ta b : Addr) (a : Int) (old : Value) (W : World) (hb : W.cell? b = some (.int .i64 a)) (ht : W.cell? ta = some old) (hf : W.frozen? ta = false) :
    (callFunc 62 #[.agg #[.pointer (some ⟨1, 62, none⟩), .pointer (some ta), .int .u64 386], .agg #[.pointer (some ⟨1, 62, none⟩), .pointer (some b), .int .u64 130]]).run Tryd.prog W
      = .ok (.value (.tuple #[])) (W.setCell ta (.int .i64 a)) := by
  rw [@run_callFunc_extern Tryd.prog 62 _ ReflectliteValue.set Tryd.func62 (by kernel_rfl) (by kernel_rfl) (by kernel_rfl) (by kernel_rfl), rls]
  simp only [Sem.run_bind, partsEa, partsE, Result.andThen]
  simp [ReflectliteValue.flagAddr, loadVar, isAgg, underlying, Tryd.underlying62, hb, Result.andThen, directE, storeVar, Value.cells, storeCells, Addr.add]
  rw [run_store Tryd.prog W ta _ _ (by rfl)]
  simp [ht, hf]
theorem noAsE (v : Value) (xT : TypeId) (w : World) : (Instr.typeAssert (.iface 62 v) xT 138 true).run Tryd.prog w = .ok (.tuple #[.nilIface, .bool false]) w := run_typeAssert_lacksB Tryd.underlying138 (by kernel_rfl) (by kernel_rfl) v xT w
theorem valueOfPF (t : Addr) (w : World) : (callFunc 56 #[.iface 106 (.pointer (some t))]).run Tryd.prog w
    = .ok (.value (.agg #[.pointer (some ⟨1, 106, none⟩), .pointer (some ⟨w.heap.size, 0, none⟩), .int .u64 150])) (w.alloc (.cells #[.pointer (some t)] 106)) := by kernel_rfl
theorem typePF (a : Addr) (w : World) : (callFunc 57 #[.agg #[.pointer (some ⟨1, 106, none⟩), .pointer (some a), .int .u64 150]]).run Tryd.prog w = .ok (.value (.iface 115 (.agg #[.pointer (some ⟨1, 106, none⟩)]))) w := by kernel_rfl
theorem kindPF (w : World) : (callFunc 77 #[.pointer (some ⟨1, 106, none⟩)]).run Tryd.prog w = .ok (.value (.int .u8 22)) w := by kernel_rfl
theorem kindF (w : World) : (callFunc 77 #[.pointer (some ⟨1, 74, none⟩)]).run Tryd.prog w = .ok (.value (.int .u8 22)) w := by kernel_rfl
theorem partsPF (a : Addr) (w : World) : (ReflectliteValue.parts (.agg #[.pointer (some ⟨1, 106, none⟩), .pointer (some a), .int .u64 150])).run Tryd.prog w = .ok (some (106, a, 150)) w := by kernel_rfl
theorem isNilPF (a p : Addr) (W : World) (ha : W.cell? a = some (.pointer (some p))) :
    (callFunc 58 #[.agg #[.pointer (some ⟨1, 106, none⟩), .pointer (some a), .int .u64 150]]).run Tryd.prog W = .ok (.value (.bool false)) W := by
  rw [@run_callFunc_extern Tryd.prog 58 _ (ReflectliteValue.method (ReflectliteValue.valueError "reflectlite.Value.IsNil" 0) ReflectliteValue.isNil) Tryd.func58 (by kernel_rfl) (by kernel_rfl) (by kernel_rfl) (by kernel_rfl), rlm]
  simp only [Sem.run_bind, partsPF, Result.andThen]
  simp [ReflectliteValue.isNil, loadVar, isAgg, underlying, Tryd.underlying106, ha, Result.andThen]
theorem elemPF (w : World) : (callFunc 86 #[.agg #[.pointer (some ⟨1, 106, none⟩)]]).run Tryd.prog w = .ok (.value (.iface 115 (.agg #[.pointer (some ⟨1, 74, none⟩)]))) w := by kernel_rfl
theorem implementsF (w : World) : (callFunc 87 #[.agg #[.pointer (some ⟨1, 74, none⟩)], .iface 115 (.agg #[.pointer (some ⟨1, 27, none⟩)])]).run Tryd.prog w = .ok (.value (.bool true)) w := by kernel_rfl
theorem typeOfF (v : Value) (w : World) : (callFunc 46 #[.iface 74 v]).run Tryd.prog w = .ok (.value (.iface 115 (.agg #[.pointer (some ⟨1, 74, none⟩)]))) w := by kernel_rfl
theorem valueOfF (p : Addr) (w : World) : (callFunc 56 #[.iface 74 (.pointer (some p))]).run Tryd.prog w
    = .ok (.value (.agg #[.pointer (some ⟨1, 74, none⟩), .pointer (some ⟨w.heap.size, 0, none⟩), .int .u64 150])) (w.alloc (.cells #[.pointer (some p)] 74)) := by kernel_rfl
theorem elemOfPF (w : World) : (Rtype.elem? 106).run Tryd.prog w = .ok (some 74) w := by kernel_rfl
theorem mkF (p : Addr) (w : World) : (ReflectliteValue.mk 74 p ReflectliteValue.flagAddr).run Tryd.prog w = .ok (.agg #[.pointer (some ⟨1, 74, none⟩), .pointer (some p), .int .u64 406]) w := by kernel_rfl
theorem elemVPF (a p : Addr) (W : World) (ha : W.cell? a = some (.pointer (some p))) :
    (callFunc 61 #[.agg #[.pointer (some ⟨1, 106, none⟩), .pointer (some a), .int .u64 150]]).run Tryd.prog W = .ok (.value (.agg #[.pointer (some ⟨1, 74, none⟩), .pointer (some p), .int .u64 406])) W := by
  rw [@run_callFunc_extern Tryd.prog 61 _ (ReflectliteValue.method (ReflectliteValue.valueError "reflectlite.Value.Elem" 0) ReflectliteValue.elem) Tryd.func61 (by kernel_rfl) (by kernel_rfl) (by kernel_rfl) (by kernel_rfl), rlm]
  simp only [Sem.run_bind, partsPF, Result.andThen]
  simp [ReflectliteValue.elem, loadVar, isAgg, underlying, Tryd.underlying106, ha, Result.andThen, elemOfPF, mkF]
theorem partsFa (a : Addr) (w : World) : (ReflectliteValue.parts (.agg #[.pointer (some ⟨1, 74, none⟩), .pointer (some a), .int .u64 406])).run Tryd.prog w = .ok (some (74, a, 406)) w := by kernel_rfl
theorem partsF (a : Addr) (w : World) : (ReflectliteValue.parts (.agg #[.pointer (some ⟨1, 74, none⟩), .pointer (some a), .int .u64 150])).run Tryd.prog w = .ok (some (74, a, 150)) w := by kernel_rfl
theorem directF (w : World) : (Rtype.directlyAssignable 74 74).run Tryd.prog w = .ok true w := by kernel_rfl
theorem sizeF (w : World) : (sizeOf 74).run Tryd.prog w = .ok 1 w := by kernel_rfl
theorem setF (ta b : Addr) (p : Addr) (old : Value) (W : World) (hb : W.cell? b = some (.pointer (some p))) (ht : W.cell? ta = some old) (hf : W.frozen? ta = false) :
    (callFunc 62 #[.agg #[.pointer (some ⟨1, 74, none⟩), .pointer (some ta), .int .u64 406], .agg #[.pointer (some ⟨1, 74, none⟩), .pointer (some b), .int .u64 150]]).run Tryd.prog W
      = .ok (.value (.tuple #[])) (W.setCell ta (.pointer (some p))) := by
  rw [@run_callFunc_extern Tryd.prog 62 _ ReflectliteValue.set Tryd.func62 (by kernel_rfl) (by kernel_rfl) (by kernel_rfl) (by kernel_rfl), rls]
  simp only [Sem.run_bind, partsFa, partsF, Result.andThen]
  simp [ReflectliteValue.flagAddr, loadVar, isAgg, underlying, Tryd.underlying74, hb, Result.andThen, directF, storeVar, Value.cells, storeCells, Addr.add]
  rw [run_store Tryd.prog W ta _ _ (by rfl)]
  simp [ht, hf]
theorem noAsF (v : Value) (xT : TypeId) (w : World) : (Instr.typeAssert (.iface 74 v) xT 138 true).run Tryd.prog w = .ok (.tuple #[.nilIface, .bool false]) w := run_typeAssert_lacksB Tryd.underlying138 (by kernel_rfl) (by kernel_rfl) v xT w
theorem assignEE (w : World) : (callFunc 84 #[.agg #[.pointer (some ⟨1, 62, none⟩)], .iface 115 (.agg #[.pointer (some ⟨1, 62, none⟩)])]).run Tryd.prog w = .ok (.value (.bool true)) w := by kernel_rfl
theorem assignEF (w : World) : (callFunc 84 #[.agg #[.pointer (some ⟨1, 62, none⟩)], .iface 115 (.agg #[.pointer (some ⟨1, 74, none⟩)])]).run Tryd.prog w = .ok (.value (.bool false)) w := by kernel_rfl
theorem assignFE (w : World) : (callFunc 84 #[.agg #[.pointer (some ⟨1, 74, none⟩)], .iface 115 (.agg #[.pointer (some ⟨1, 62, none⟩)])]).run Tryd.prog w = .ok (.value (.bool false)) w := by kernel_rfl
theorem assignFF (w : World) : (callFunc 84 #[.agg #[.pointer (some ⟨1, 74, none⟩)], .iface 115 (.agg #[.pointer (some ⟨1, 74, none⟩)])]).run Tryd.prog w = .ok (.value (.bool true)) w := by kernel_rfl
theorem hasUnwrapF (v : Value) (xT : TypeId) (w : World) : (Instr.typeAssert (.iface 74 v) xT 120 true).run Tryd.prog w = .ok (.tuple #[.iface 74 v, .bool true]) w := run_typeAssert_hasB Tryd.underlying120 (by kernel_rfl) v xT w
theorem methodUnwrapF (v : Value) (w : World) : (Go.method 271 74 v "Unwrap").run Tryd.prog w = .ok (82, v) w := by kernel_rfl
theorem methodKind (h : Value) (w : World) : (Go.method 271 115 (.agg #[h]) "Kind").run Tryd.prog w = .ok (77, h) w := by kernel_rfl
theorem methodElem (h : Value) (w : World) : (Go.method 271 115 (.agg #[h]) "Elem").run Tryd.prog w = .ok (86, .agg #[h]) w := by kernel_rfl
theorem methodImplements (h : Value) (w : World) : (Go.method 271 115 (.agg #[h]) "Implements").run Tryd.prog w = .ok (87, .agg #[h]) w := by kernel_rfl
theorem methodAssignableTo (h : Value) (w : World) : (Go.method 271 115 (.agg #[h]) "AssignableTo").run Tryd.prog w = .ok (84, .agg #[h]) w := by kernel_rfl
end Go.Proofs.YtgcpnhnckbgjmaaDoor
