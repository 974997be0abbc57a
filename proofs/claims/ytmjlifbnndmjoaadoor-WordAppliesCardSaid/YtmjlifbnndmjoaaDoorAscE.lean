/-
  errors.As by its contracts: a number, at a *api.Errno.
-/
import Derived.Test.YtmjlifbnndmjoaaDoorAsE
set_option linter.unusedVariables false
namespace Go.Proofs.YtmjlifbnndmjoaaDoor
open Go.RowKit Go.Extern.Stop Go.Stop Go.Extern

set_option maxHeartbeats 4000000 in
theorem as_EE (a : Int) (t : Addr) (old : Value) (w : World) (hgl : 2 < w.heap.size) (hg : w.cell? ⟨2, 0, none⟩ = some (.iface 76 (.agg #[.pointer (some ⟨6, 26, none⟩)]))) (ht0 : w.cell? t = some old) (hf0 : w.frozen? t = false) :
    Calls Tryd.prog 22 #[.iface 43 (.int .i64 a), .iface 52 (.pointer (some t))] w fun ev w' => ev = .returned (.bool true) ∧ w' = ((((w.alloc (.cells #[.pointer (some t)] 52)).alloc (.cells #[.pointer (some ⟨6, 52, none⟩), .pointer (some ⟨w.heap.size, 0, none⟩), .int .u64 150] 65)).alloc (.cells #[.pointer (some ⟨6, 52, none⟩), .pointer (some ⟨w.heap.size, 0, none⟩), .int .u64 150] 65)).alloc (.cells #[.int .i64 a] 43)).setCell t (.int .i64 a) := by
  have f_valueOfPE := valueOfPE
  have f_typePE := typePE
  have f_kindPE := kindPE
  have f_kindE := kindE
  have f_elemPE := elemPE
  have f_implementsE := implementsE
  have f_typeOfE := typeOfE
  have f_assignEE := assignEE
  have f_noAsE := noAsE
  have f_methodKind := methodKind
  have f_methodElem := methodElem
  have f_methodImplements := methodImplements
  have f_methodAssignableTo := methodAssignableTo
  have n8 := isNilPE ⟨w.heap.size, 0, none⟩ t ((w.alloc (.cells #[.pointer (some t)] 52)).alloc (.cells #[.pointer (some ⟨6, 52, none⟩), .pointer (some ⟨w.heap.size, 0, none⟩), .int .u64 150] 65)) (by simp)
  have hlt : 0 < w.heap.size := by
    rcases Nat.eq_zero_or_pos w.heap.size with h0 | h
    · simp [World.cell?, h0] at hg
    · exact h
  have hg2 : ((w.alloc (.cells #[.pointer (some t)] 52)).alloc (.cells #[.pointer (some ⟨6, 52, none⟩), .pointer (some ⟨w.heap.size, 0, none⟩), .int .u64 150] 65)).cell? ⟨2, 0, none⟩ = some (.iface 76 (.agg #[.pointer (some ⟨6, 26, none⟩)])) := by
    rw [World.cell?_alloc_lt _ _ ⟨2, 0, none⟩ (Nat.lt_of_lt_of_le hgl (by simp)), World.cell?_alloc_lt _ _ ⟨2, 0, none⟩ hgl]; exact hg
  have f_valueOfE := valueOfE
  have htl : t.block < w.heap.size := by
    rcases Nat.lt_or_ge t.block w.heap.size with h | h
    · exact h
    · simp [World.cell?, Array.getElem?_eq_none h] at ht0
  have el := elemVPE ⟨w.heap.size, 0, none⟩ t (((w.alloc (.cells #[.pointer (some t)] 52)).alloc (.cells #[.pointer (some ⟨6, 52, none⟩), .pointer (some ⟨w.heap.size, 0, none⟩), .int .u64 150] 65)).alloc (.cells #[.pointer (some ⟨6, 52, none⟩), .pointer (some ⟨w.heap.size, 0, none⟩), .int .u64 150] 65)) (by rw [World.cell?_alloc_lt _ _ ⟨w.heap.size, 0, none⟩ (by simp; omega)]; simp)
  have st := setE t ⟨w.heap.size + 1 + 1 + 1, 0, none⟩ a old ((((w.alloc (.cells #[.pointer (some t)] 52)).alloc (.cells #[.pointer (some ⟨6, 52, none⟩), .pointer (some ⟨w.heap.size, 0, none⟩), .int .u64 150] 65)).alloc (.cells #[.pointer (some ⟨6, 52, none⟩), .pointer (some ⟨w.heap.size, 0, none⟩), .int .u64 150] 65)).alloc (.cells #[.int .i64 a] 43))
    (by rw [World.cell?_alloc_at _ _ _ _ (by simp)]; rfl)
    (by rw [World.cell?_alloc_lt _ _ t (by simp; omega), World.cell?_alloc_lt _ _ t (by simp; omega), World.cell?_alloc_lt _ _ t (by simp; omega), World.cell?_alloc_lt _ _ t htl]; exact ht0)
    (by rw [World.frozen?_alloc_old _ _ t (by simp; omega), World.frozen?_alloc_old _ _ t (by simp; omega), World.frozen?_alloc_old _ _ t (by simp; omega), World.frozen?_alloc_old _ _ t (Nat.ne_of_lt htl)]; exact hf0)
  go_enter Tryd.func22, Tryd.ntmps22
  go_wp2
  refine wp_loop_rounds 1 ?_
  rw [rounds_succ]
  go_wp2
  go_ret
  exact ⟨rfl, rfl⟩

end Go.Proofs.YtmjlifbnndmjoaaDoor
