/-
  errors.As by its contracts: a number, or a fault that wraps a number, at a *api.Errno and at a **api.Fault.
-/
import Derived.Test.YtgcpnhnckbgjmaaDoorAs
set_option linter.unusedVariables false
namespace Go.Proofs.YtgcpnhnckbgjmaaDoor
open Go.RowKit Go.Extern.Stop Go.Stop Go.Extern

set_option maxHeartbeats 4000000 in
theorem as_EE (a : Int) (t : Addr) (old : Value) (w : World) (hgl : 0 < w.heap.size) (hg : w.cell? ⟨0, 0, none⟩ = some (.iface 115 (.agg #[.pointer (some ⟨1, 27, none⟩)]))) (ht0 : w.cell? t = some old) (hf0 : w.frozen? t = false) :
    Calls Tryd.prog 48 #[.iface 62 (.int .i64 a), .iface 105 (.pointer (some t))] w fun ev w' => ev = .returned (.bool true) ∧ w' = ((((w.alloc (.cells #[.pointer (some t)] 105)).alloc (.cells #[.pointer (some ⟨1, 105, none⟩), .pointer (some ⟨w.heap.size, 0, none⟩), .int .u64 150] 128)).alloc (.cells #[.pointer (some ⟨1, 105, none⟩), .pointer (some ⟨w.heap.size, 0, none⟩), .int .u64 150] 128)).alloc (.cells #[.int .i64 a] 62)).setCell t (.int .i64 a) := by
  have f_valueOfPE := valueOfPE
  have f_typePE := typePE
  have f_kindPE := kindPE
  have f_kindE := kindE
  have f_elemPE := elemPE
  have f_implementsE := implementsE
  have f_typeOfE := typeOfE
  have f_assignEE := assignEE
  have f_noAsE := noAsE
  have f_methodKind := methodKind
  have f_methodElem := methodElem
  have f_methodImplements := methodImplements
  have f_methodAssignableTo := methodAssignableTo
  have n8 := isNilPE ⟨w.heap.size, 0, none⟩ t ((w.alloc (.cells #[.pointer (some t)] 105)).alloc (.cells #[.pointer (some ⟨1, 105, none⟩), .pointer (some ⟨w.heap.size, 0, none⟩), .int .u64 150] 128)) (by simp)
  have hlt : 0 < w.heap.size := by
    rcases Nat.eq_zero_or_pos w.heap.size with h0 | h
    · simp [World.cell?, h0] at hg
    · exact h
  have hg2 : ((w.alloc (.cells #[.pointer (some t)] 105)).alloc (.cells #[.pointer (some ⟨1, 105, none⟩), .pointer (some ⟨w.heap.size, 0, none⟩), .int .u64 150] 128)).cell? ⟨0, 0, none⟩ = some (.iface 115 (.agg #[.pointer (some ⟨1, 27, none⟩)])) := by
    rw [World.cell?_alloc_lt _ _ ⟨0, 0, none⟩ (Nat.lt_of_lt_of_le hgl (by simp)), World.cell?_alloc_lt _ _ ⟨0, 0, none⟩ hgl]; exact hg
  have f_valueOfE := valueOfE
  have htl : t.block < w.heap.size := by
    rcases Nat.lt_or_ge t.block w.heap.size with h | h
    · exact h
    · simp [World.cell?, Array.getElem?_eq_none h] at ht0
  have el := elemVPE ⟨w.heap.size, 0, none⟩ t (((w.alloc (.cells #[.pointer (some t)] 105)).alloc (.cells #[.pointer (some ⟨1, 105, none⟩), .pointer (some ⟨w.heap.size, 0, none⟩), .int .u64 150] 128)).alloc (.cells #[.pointer (some ⟨1, 105, none⟩), .pointer (some ⟨w.heap.size, 0, none⟩), .int .u64 150] 128)) (by rw [World.cell?_alloc_lt _ _ ⟨w.heap.size, 0, none⟩ (by simp; omega)]; simp)
  have st := setE t ⟨w.heap.size + 1 + 1 + 1, 0, none⟩ a old ((((w.alloc (.cells #[.pointer (some t)] 105)).alloc (.cells #[.pointer (some ⟨1, 105, none⟩), .pointer (some ⟨w.heap.size, 0, none⟩), .int .u64 150] 128)).alloc (.cells #[.pointer (some ⟨1, 105, none⟩), .pointer (some ⟨w.heap.size, 0, none⟩), .int .u64 150] 128)).alloc (.cells #[.int .i64 a] 62))
    (by rw [World.cell?_alloc_at _ _ _ _ (by simp)]; rfl)
    (by rw [World.cell?_alloc_lt _ _ t (by simp; omega), World.cell?_alloc_lt _ _ t (by simp; omega), World.cell?_alloc_lt _ _ t (by simp; omega), World.cell?_alloc_lt _ _ t htl]; exact ht0)
    (by rw [World.frozen?_alloc_old _ _ t (by simp; omega), World.frozen?_alloc_old _ _ t (by simp; omega), World.frozen?_alloc_old _ _ t (by simp; omega), World.frozen?_alloc_old _ _ t (Nat.ne_of_lt htl)]; exact hf0)
  go_enter Tryd.func48, Tryd.ntmps48
  go_wp2
  refine wp_loop_rounds 1 ?_
  rw [rounds_succ]
  go_wp2
  go_ret
  exact ⟨rfl, rfl⟩

set_option maxHeartbeats 4000000 in
theorem as_FF (p : Addr) (t : Addr) (old : Value) (w : World) (hgl : 0 < w.heap.size) (hg : w.cell? ⟨0, 0, none⟩ = some (.iface 115 (.agg #[.pointer (some ⟨1, 27, none⟩)]))) (ht0 : w.cell? t = some old) (hf0 : w.frozen? t = false) :
    Calls Tryd.prog 48 #[.iface 74 (.pointer (some p)), .iface 106 (.pointer (some t))] w fun ev w' => ev = .returned (.bool true) ∧ w' = ((((w.alloc (.cells #[.pointer (some t)] 106)).alloc (.cells #[.pointer (some ⟨1, 106, none⟩), .pointer (some ⟨w.heap.size, 0, none⟩), .int .u64 150] 128)).alloc (.cells #[.pointer (some ⟨1, 106, none⟩), .pointer (some ⟨w.heap.size, 0, none⟩), .int .u64 150] 128)).alloc (.cells #[.pointer (some p)] 74)).setCell t (.pointer (some p)) := by
  have f_valueOfPF := valueOfPF
  have f_typePF := typePF
  have f_kindPF := kindPF
  have f_kindF := kindF
  have f_elemPF := elemPF
  have f_implementsF := implementsF
  have f_typeOfF := typeOfF
  have f_assignFF := assignFF
  have f_noAsF := noAsF
  have f_methodKind := methodKind
  have f_methodElem := methodElem
  have f_methodImplements := methodImplements
  have f_methodAssignableTo := methodAssignableTo
  have n8 := isNilPF ⟨w.heap.size, 0, none⟩ t ((w.alloc (.cells #[.pointer (some t)] 106)).alloc (.cells #[.pointer (some ⟨1, 106, none⟩), .pointer (some ⟨w.heap.size, 0, none⟩), .int .u64 150] 128)) (by simp)
  have hlt : 0 < w.heap.size := by
    rcases Nat.eq_zero_or_pos w.heap.size with h0 | h
    · simp [World.cell?, h0] at hg
    · exact h
  have hg2 : ((w.alloc (.cells #[.pointer (some t)] 106)).alloc (.cells #[.pointer (some ⟨1, 106, none⟩), .pointer (some ⟨w.heap.size, 0, none⟩), .int .u64 150] 128)).cell? ⟨0, 0, none⟩ = some (.iface 115 (.agg #[.pointer (some ⟨1, 27, none⟩)])) := by
    rw [World.cell?_alloc_lt _ _ ⟨0, 0, none⟩ (Nat.lt_of_lt_of_le hgl (by simp)), World.cell?_alloc_lt _ _ ⟨0, 0, none⟩ hgl]; exact hg
  have f_valueOfF := valueOfF
  have htl : t.block < w.heap.size := by
    rcases Nat.lt_or_ge t.block w.heap.size with h | h
    · exact h
    · simp [World.cell?, Array.getElem?_eq_none h] at ht0
  have el := elemVPF ⟨w.heap.size, 0, none⟩ t (((w.alloc (.cells #[.pointer (some t)] 106)).alloc (.cells #[.pointer (some ⟨1, 106, none⟩), .pointer (some ⟨w.heap.size, 0, none⟩), .int .u64 150] 128)).alloc (.cells #[.pointer (some ⟨1, 106, none⟩), .pointer (some ⟨w.heap.size, 0, none⟩), .int .u64 150] 128)) (by rw [World.cell?_alloc_lt _ _ ⟨w.heap.size, 0, none⟩ (by simp; omega)]; simp)
  have st := setF t ⟨w.heap.size + 1 + 1 + 1, 0, none⟩ p old ((((w.alloc (.cells #[.pointer (some t)] 106)).alloc (.cells #[.pointer (some ⟨1, 106, none⟩), .pointer (some ⟨w.heap.size, 0, none⟩), .int .u64 150] 128)).alloc (.cells #[.pointer (some ⟨1, 106, none⟩), .pointer (some ⟨w.heap.size, 0, none⟩), .int .u64 150] 128)).alloc (.cells #[.pointer (some p)] 74))
    (by rw [World.cell?_alloc_at _ _ _ _ (by simp)]; rfl)
    (by rw [World.cell?_alloc_lt _ _ t (by simp; omega), World.cell?_alloc_lt _ _ t (by simp; omega), World.cell?_alloc_lt _ _ t (by simp; omega), World.cell?_alloc_lt _ _ t htl]; exact ht0)
    (by rw [World.frozen?_alloc_old _ _ t (by simp; omega), World.frozen?_alloc_old _ _ t (by simp; omega), World.frozen?_alloc_old _ _ t (by simp; omega), World.frozen?_alloc_old _ _ t (Nat.ne_of_lt htl)]; exact hf0)
  go_enter Tryd.func48, Tryd.ntmps48
  go_wp2
  refine wp_loop_rounds 1 ?_
  rw [rounds_succ]
  go_wp2
  go_ret
  exact ⟨rfl, rfl⟩

set_option maxHeartbeats 4000000 in
theorem as_EF (a : Int) (t : Addr) (w : World) (hgl : 0 < w.heap.size) (hg : w.cell? ⟨0, 0, none⟩ = some (.iface 115 (.agg #[.pointer (some ⟨1, 27, none⟩)]))) :
    Calls Tryd.prog 48 #[.iface 62 (.int .i64 a), .iface 106 (.pointer (some t))] w fun ev w' => ev = .returned (.bool false) ∧ w' = (((w.alloc (.cells #[.pointer (some t)] 106)).alloc (.cells #[.pointer (some ⟨1, 106, none⟩), .pointer (some ⟨w.heap.size, 0, none⟩), .int .u64 150] 128)).alloc (.cells #[.pointer (some ⟨1, 106, none⟩), .pointer (some ⟨w.heap.size, 0, none⟩), .int .u64 150] 128)) := by
  have f_valueOfPF := valueOfPF
  have f_typePF := typePF
  have f_kindPF := kindPF
  have f_kindF := kindF
  have f_elemPF := elemPF
  have f_implementsF := implementsF
  have f_typeOfE := typeOfE
  have f_assignEF := assignEF
  have f_noAsE := noAsE
  have f_methodKind := methodKind
  have f_methodElem := methodElem
  have f_methodImplements := methodImplements
  have f_methodAssignableTo := methodAssignableTo
  have f_u := Tryd.noUnwrapE
  have f_v := Tryd.noUnwrapsE
  have n8 := isNilPF ⟨w.heap.size, 0, none⟩ t ((w.alloc (.cells #[.pointer (some t)] 106)).alloc (.cells #[.pointer (some ⟨1, 106, none⟩), .pointer (some ⟨w.heap.size, 0, none⟩), .int .u64 150] 128)) (by simp)
  have hlt : 0 < w.heap.size := by
    rcases Nat.eq_zero_or_pos w.heap.size with h0 | h
    · simp [World.cell?, h0] at hg
    · exact h
  have hg2 : ((w.alloc (.cells #[.pointer (some t)] 106)).alloc (.cells #[.pointer (some ⟨1, 106, none⟩), .pointer (some ⟨w.heap.size, 0, none⟩), .int .u64 150] 128)).cell? ⟨0, 0, none⟩ = some (.iface 115 (.agg #[.pointer (some ⟨1, 27, none⟩)])) := by
    rw [World.cell?_alloc_lt _ _ ⟨0, 0, none⟩ (Nat.lt_of_lt_of_le hgl (by simp)), World.cell?_alloc_lt _ _ ⟨0, 0, none⟩ hgl]; exact hg
  go_enter Tryd.func48, Tryd.ntmps48
  go_wp2
  refine wp_loop_rounds 1 ?_
  rw [rounds_succ]
  go_wp2
  go_ret
  exact ⟨rfl, rfl⟩

set_option maxHeartbeats 4000000 in
theorem as_FE (pb po : Nat) (a : Int) (t : Addr) (old : Value) (w : World) (hgl : 0 < w.heap.size) (hg : w.cell? ⟨0, 0, none⟩ = some (.iface 115 (.agg #[.pointer (some ⟨1, 27, none⟩)]))) (hp : w.cell? ⟨pb, po + 1, none⟩ = some (.iface 62 (.int .i64 a))) (ht0 : w.cell? t = some old) (hf0 : w.frozen? t = false) :
    Calls Tryd.prog 48 #[.iface 74 (.pointer (some ⟨pb, po, none⟩)), .iface 105 (.pointer (some t))] w fun ev w' => ev = .returned (.bool true) ∧ w' = ((((w.alloc (.cells #[.pointer (some t)] 105)).alloc (.cells #[.pointer (some ⟨1, 105, none⟩), .pointer (some ⟨w.heap.size, 0, none⟩), .int .u64 150] 128)).alloc (.cells #[.pointer (some ⟨1, 105, none⟩), .pointer (some ⟨w.heap.size, 0, none⟩), .int .u64 150] 128)).alloc (.cells #[.int .i64 a] 62)).setCell t (.int .i64 a) := by
  have f_valueOfPE := valueOfPE
  have f_typePE := typePE
  have f_kindPE := kindPE
  have f_kindE := kindE
  have f_elemPE := elemPE
  have f_implementsE := implementsE
  have f_typeOfF := typeOfF
  have f_assignFE := assignFE
  have f_noAsF := noAsF
  have f_methodKind := methodKind
  have f_methodElem := methodElem
  have f_methodImplements := methodImplements
  have f_methodAssignableTo := methodAssignableTo
  have f_u := hasUnwrapF
  have f_m := methodUnwrapF
  have f_typeOfE := typeOfE
  have f_assignEE := assignEE
  have n8 := isNilPE ⟨w.heap.size, 0, none⟩ t ((w.alloc (.cells #[.pointer (some t)] 105)).alloc (.cells #[.pointer (some ⟨1, 105, none⟩), .pointer (some ⟨w.heap.size, 0, none⟩), .int .u64 150] 128)) (by simp)
  have hlt : 0 < w.heap.size := by
    rcases Nat.eq_zero_or_pos w.heap.size with h0 | h
    · simp [World.cell?, h0] at hg
    · exact h
  have hg2 : ((w.alloc (.cells #[.pointer (some t)] 105)).alloc (.cells #[.pointer (some ⟨1, 105, none⟩), .pointer (some ⟨w.heap.size, 0, none⟩), .int .u64 150] 128)).cell? ⟨0, 0, none⟩ = some (.iface 115 (.agg #[.pointer (some ⟨1, 27, none⟩)])) := by
    rw [World.cell?_alloc_lt _ _ ⟨0, 0, none⟩ (Nat.lt_of_lt_of_le hgl (by simp)), World.cell?_alloc_lt _ _ ⟨0, 0, none⟩ hgl]; exact hg
  have f_valueOfE := valueOfE
  have htl : t.block < w.heap.size := by
    rcases Nat.lt_or_ge t.block w.heap.size with h | h
    · exact h
    · simp [World.cell?, Array.getElem?_eq_none h] at ht0
  have el := elemVPE ⟨w.heap.size, 0, none⟩ t (((w.alloc (.cells #[.pointer (some t)] 105)).alloc (.cells #[.pointer (some ⟨1, 105, none⟩), .pointer (some ⟨w.heap.size, 0, none⟩), .int .u64 150] 128)).alloc (.cells #[.pointer (some ⟨1, 105, none⟩), .pointer (some ⟨w.heap.size, 0, none⟩), .int .u64 150] 128)) (by rw [World.cell?_alloc_lt _ _ ⟨w.heap.size, 0, none⟩ (by simp; omega)]; simp)
  have st := setE t ⟨w.heap.size + 1 + 1 + 1, 0, none⟩ a old ((((w.alloc (.cells #[.pointer (some t)] 105)).alloc (.cells #[.pointer (some ⟨1, 105, none⟩), .pointer (some ⟨w.heap.size, 0, none⟩), .int .u64 150] 128)).alloc (.cells #[.pointer (some ⟨1, 105, none⟩), .pointer (some ⟨w.heap.size, 0, none⟩), .int .u64 150] 128)).alloc (.cells #[.int .i64 a] 62))
    (by rw [World.cell?_alloc_at _ _ _ _ (by simp)]; rfl)
    (by rw [World.cell?_alloc_lt _ _ t (by simp; omega), World.cell?_alloc_lt _ _ t (by simp; omega), World.cell?_alloc_lt _ _ t (by simp; omega), World.cell?_alloc_lt _ _ t htl]; exact ht0)
    (by rw [World.frozen?_alloc_old _ _ t (by simp; omega), World.frozen?_alloc_old _ _ t (by simp; omega), World.frozen?_alloc_old _ _ t (by simp; omega), World.frozen?_alloc_old _ _ t (Nat.ne_of_lt htl)]; exact hf0)
  have hpl : pb < w.heap.size := by
    rcases Nat.lt_or_ge pb w.heap.size with h | h
    · exact h
    · simp [World.cell?, Array.getElem?_eq_none h] at hp
  have hp3 : (((w.alloc (.cells #[.pointer (some t)] 105)).alloc (.cells #[.pointer (some ⟨1, 105, none⟩), .pointer (some ⟨w.heap.size, 0, none⟩), .int .u64 150] 128)).alloc (.cells #[.pointer (some ⟨1, 105, none⟩), .pointer (some ⟨w.heap.size, 0, none⟩), .int .u64 150] 128)).cell? ⟨pb, po + 1, none⟩ = some (.iface 62 (.int .i64 a)) := by
    rw [World.cell?_alloc_lt _ _ ⟨pb, po + 1, none⟩ (by simp; omega), World.cell?_alloc_lt _ _ ⟨pb, po + 1, none⟩ (by simp; omega), World.cell?_alloc_lt _ _ ⟨pb, po + 1, none⟩ hpl]; exact hp
  go_enter Tryd.func48, Tryd.ntmps48
  go_wp2
  refine wp_loop_rounds 2 ?_
  rw [rounds_succ]
  go_wp2
  rw [rounds_succ]
  go_wp2
  go_ret
  exact ⟨rfl, rfl⟩

end Go.Proofs.YtgcpnhnckbgjmaaDoor
