/-
  The closed facts of errors.As: a number, at a *api.Errno.
-/
import Derived.Test.YtmjlifbnndmjoaaDoorErrs
import Derived.Test.YtmjlifbnndmjoaaDoorAid
import Derived.WalkKit
import Derived.LaidEql
import Derived.Stop.Asserts
import Derived.RowKitTokens
set_option linter.unusedVariables false
namespace Go.Proofs.YtmjlifbnndmjoaaDoor
open Go.RowKit Go.Extern.Stop Go.Stop Go.Extern

theorem as_nil (t : Value) (w : World) :
    Calls Tryd.prog 22 #[.nilIface, t] w fun e w' => e = .returned (.bool false) ∧ w = w' := by
  go_enter Tryd.func22, Tryd.ntmps22
  go_wp2
  go_ret
  exact ⟨rfl, rfl⟩

theorem rlm (z : Sem Value) (f : TypeId → Addr → Nat → Nat → Sem Value) (v : Value) :
    ReflectliteValue.method z f #[v] = (do match ← ReflectliteValue.parts v with | none => z | some (t, a, fl) => f t a fl (fl % 32)) := rfl
theorem rls (v x : Value) : ReflectliteValue.set #[v, x] = (do
    let (some (dst, a, fl), some (src, b, _)) := (← ReflectliteValue.parts v, ← ReflectliteValue.parts x)
      | unsupported (.noEntry "extern/(internal/reflectlite.Value).Set.zeroValue")
    if fl / ReflectliteValue.flagAddr % 2 == 0 then unsupported (.noEntry "extern/(internal/reflectlite.Value).Set.unaddressable")
    let val ← loadVar src b
    if ← Rtype.directlyAssignable dst src then storeVar dst a val
    else if ← Rtype.implements dst src then
      if (← Rtype.kind src) == 20 then
        match val with
        | .nilIface => unsupported (.noEntry "extern/reflectlite: a nil value of one interface type handed on as a value of another")
        | _ => storeVar dst a val
      else storeVar dst a (.iface src val)
    else panicString ("reflectlite.Set: value of type " ++ (← Rtype.spelt src) ++ " is not assignable to type " ++ (← Rtype.spelt dst))
    pure (.tuple #[])) := rfl
theorem valueOfPE (t : Addr) (w : World) : (callFunc 35 #[.iface 52 (.pointer (some t))]).run Tryd.prog w
    = .ok (.value (.agg #[.pointer (some ⟨6, 52, none⟩), .pointer (some ⟨w.heap.size, 0, none⟩), .int .u64 150])) (w.alloc (.cells #[.pointer (some t)] 52)) := by kernel_rfl
theorem typePE (a : Addr) (w : World) : (callFunc 36 #[.agg #[.pointer (some ⟨6, 52, none⟩), .pointer (some a), .int .u64 150]]).run Tryd.prog w = .ok (.value (.iface 76 (.agg #[.pointer (some ⟨6, 52, none⟩)]))) w := by kernel_rfl
theorem kindPE (w : World) : (callFunc 70 #[.pointer (some ⟨6, 52, none⟩)]).run Tryd.prog w = .ok (.value (.int .u8 22)) w := by kernel_rfl
theorem kindE (w : World) : (callFunc 70 #[.pointer (some ⟨6, 43, none⟩)]).run Tryd.prog w = .ok (.value (.int .u8 2)) w := by kernel_rfl
theorem partsPE (a : Addr) (w : World) : (ReflectliteValue.parts (.agg #[.pointer (some ⟨6, 52, none⟩), .pointer (some a), .int .u64 150])).run Tryd.prog w = .ok (some (52, a, 150)) w := by kernel_rfl
theorem isNilPE (a p : Addr) (W : World) (ha : W.cell? a = some (.pointer (some p))) :
    (callFunc 37 #[.agg #[.pointer (some ⟨6, 52, none⟩), .pointer (some a), .int .u64 150]]).run Tryd.prog W = .ok (.value (.bool false)) W := by
  rw [@run_callFunc_extern Tryd.prog 37 _ (ReflectliteValue.method (ReflectliteValue.valueError "reflectlite.Value.IsNil" 0) ReflectliteValue.isNil) Tryd.func37 (by kernel_rfl) (by kernel_rfl) (by kernel_rfl) (by kernel_rfl), rlm]
  simp only [Sem.run_bind, partsPE, Result.andThen]
  simp [ReflectliteValue.isNil, loadVar, isAgg, underlying, Tryd.underlying52, ha, Result.andThen]
theorem elemPE (w : World) : (callFunc 79 #[.agg #[.pointer (some ⟨6, 52, none⟩)]]).run Tryd.prog w = .ok (.value (.iface 76 (.agg #[.pointer (some ⟨6, 43, none⟩)]))) w := by kernel_rfl
theorem implementsE (w : World) : (callFunc 80 #[.agg #[.pointer (some ⟨6, 43, none⟩)], .iface 76 (.agg #[.pointer (some ⟨6, 26, none⟩)])]).run Tryd.prog w = .ok (.value (.bool true)) w := by kernel_rfl
theorem typeOfE (v : Value) (w : World) : (callFunc 33 #[.iface 43 v]).run Tryd.prog w = .ok (.value (.iface 76 (.agg #[.pointer (some ⟨6, 43, none⟩)]))) w := by kernel_rfl
theorem valueOfE (a : Int) (w : World) : (callFunc 35 #[.iface 43 (.int .i64 a)]).run Tryd.prog w
    = .ok (.value (.agg #[.pointer (some ⟨6, 43, none⟩), .pointer (some ⟨w.heap.size, 0, none⟩), .int .u64 130])) (w.alloc (.cells #[.int .i64 a] 43)) := by kernel_rfl
theorem elemOfPE (w : World) : (Rtype.elem? 52).run Tryd.prog w = .ok (some 43) w := by kernel_rfl
theorem mkE (p : Addr) (w : World) : (ReflectliteValue.mk 43 p ReflectliteValue.flagAddr).run Tryd.prog w = .ok (.agg #[.pointer (some ⟨6, 43, none⟩), .pointer (some p), .int .u64 386]) w := by kernel_rfl
theorem elemVPE (a p : Addr) (W : World) (ha : W.cell? a = some (.pointer (some p))) :
    (callFunc 44 #[.agg #[.pointer (some ⟨6, 52, none⟩), .pointer (some a), .int .u64 150]]).run Tryd.prog W = .ok (.value (.agg #[.pointer (some ⟨6, 43, none⟩), .pointer (some p), .int .u64 386])) W := by
  rw [@run_callFunc_extern Tryd.prog 44 _ (ReflectliteValue.method (ReflectliteValue.valueError "reflectlite.Value.Elem" 0) ReflectliteValue.elem) Tryd.func44 (by kernel_rfl) (by kernel_rfl) (by kernel_rfl) (by kernel_rfl), rlm]
  simp only [Sem.run_bind, partsPE, Result.andThen]
  simp [ReflectliteValue.elem, loadVar, isAgg, underlying, Tryd.underlying52, ha, Result.andThen, elemOfPE, mkE]
theorem partsEa (a : Addr) (w : World) : (ReflectliteValue.parts (.agg #[.pointer (some ⟨6, 43, none⟩), .pointer (some a), .int .u64 386])).run Tryd.prog w = .ok (some (43, a, 386)) w := by kernel_rfl
theorem partsE (a : Addr) (w : World) : (ReflectliteValue.parts (.agg #[.pointer (some ⟨6, 43, none⟩), .pointer (some a), .int .u64 130])).run Tryd.prog w = .ok (some (43, a, 130)) w := by kernel_rfl
theorem directE (w : World) : (Rtype.directlyAssignable 43 43).run Tryd.prog w = .ok true w := by kernel_rfl
theorem sizeE (w : World) : (sizeOf 43).run Tryd.prog w = .ok 1 w := by kernel_rfl
theorem setE (ta b : Addr) (a : Int) (old : Value) (W : World) (hb : W.cell? b = some (.int .i64 a)) (ht : W.cell? ta = some old) (hf : W.frozen? ta = false) :
    (callFunc 45 #[.agg #[.pointer (some ⟨6, 43, none⟩), .pointer (some ta), .int .u64 386], .agg #[.pointer (some ⟨6, 43, none⟩), .pointer (some b), .int .u64 130]]).run Tryd.prog W
      = .ok (.value (.tuple #[])) (W.setCell ta (.int .i64 a)) := by
  rw [@run_callFunc_extern Tryd.prog 45 _ ReflectliteValue.set Tryd.func45 (by kernel_rfl) (by kernel_rfl) (by kernel_rfl) (by kernel_rfl), rls]
  simp only [Sem.run_bind, partsEa, partsE, Result.andThen]
  simp [ReflectliteValue.flagAddr, loadVar, isAgg, underlying, Tryd.underlying43, hb, Result.andThen, directE, storeVar, Value.cells, storeCells, Addr.add]
  rw [run_store Tryd.prog W ta _ _ (by rfl)]
  simp [ht, hf]
theorem noAsE (v : Value) (xT : TypeId) (w : World) : (Instr.typeAssert (.iface 43 v) xT 88 true).run Tryd.prog w = .ok (.tuple #[.nilIface, .bool false]) w := run_typeAssert_lacksB Tryd.underlying88 (by kernel_rfl) (by kernel_rfl) v xT w
theorem assignEE (w : World) : (callFunc 77 #[.agg #[.pointer (some ⟨6, 43, none⟩)], .iface 76 (.agg #[.pointer (some ⟨6, 43, none⟩)])]).run Tryd.prog w = .ok (.value (.bool true)) w := by kernel_rfl
theorem methodKind (h : Value) (w : World) : (Go.method 237 76 (.agg #[h]) "Kind").run Tryd.prog w = .ok (70, h) w := by kernel_rfl
theorem methodElem (h : Value) (w : World) : (Go.method 237 76 (.agg #[h]) "Elem").run Tryd.prog w = .ok (79, .agg #[h]) w := by kernel_rfl
theorem methodImplements (h : Value) (w : World) : (Go.method 237 76 (.agg #[h]) "Implements").run Tryd.prog w = .ok (80, .agg #[h]) w := by kernel_rfl
theorem methodAssignableTo (h : Value) (w : World) : (Go.method 237 76 (.agg #[h]) "AssignableTo").run Tryd.prog w = .ok (77, .agg #[h]) w := by kernel_rfl
end Go.Proofs.YtmjlifbnndmjoaaDoor
