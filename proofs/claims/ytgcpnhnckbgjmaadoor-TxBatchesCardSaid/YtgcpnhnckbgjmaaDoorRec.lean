/-
  tx.Record by its contract.
-/
import Derived.Test.YtgcpnhnckbgjmaaDoorPut
import Derived.Test.YtgcpnhnckbgjmaaDoorTxEnc
import Derived.Great.Walk
import Derived.Deep.OwnRows
import Derived.Stop.BytesEq
import Derived.Laws.CopyOwn
import Derived.Great.BuildSlice
set_option linter.unusedVariables false
set_option linter.unusedSimpArgs false
namespace Go.Proofs.YtgcpnhnckbgjmaaDoor
open Go.RowKit
open Go.Extern.Stop (cell)
abbrev TP : TypeId := 39
def Z64 : Array Value := Array.replicate 64 (.int .u8 0)
theorem Z64_get (i : Nat) (h : i < 64) : Z64[i]? = some (.int .u8 0) := by unfold Z64; simp [h]
theorem Z64_size : Z64.size = 64 := by simp [Z64]
/-- What a record's byte is, the first fields laid. -/
def recB (vs : Nat → Nat) (j k : Nat) : Nat := if k = 7 then 1 else if 8 ≤ k ∧ k < 8 + 8 * j then byt (vs ((k - 8) / 8)) ((k - 8) % 8) else 0
def recV (vs : Nat → Nat) (j k : Nat) : Value := .int .u8 (recB vs j k)
theorem recB_lt (vs : Nat → Nat) (j k : Nat) : recB vs j k < 256 := by
  unfold recB byt
  split
  · omega
  · split <;> omega
def recL (vs : Nat → Nat) : List UInt8 := (List.range 64).map fun k => UInt8.ofNat (recB vs 6 k)
theorem recL_len (vs : Nat → Nat) : (recL vs).length = 64 := by simp [recL]
theorem rec_eq (vs : Nat → Nat) (cs : Array Value) (hs : cs.size = 64) (hc : ∀ i, i < 64 → cs[i]? = some (recV vs 6 i)) : cs = ((recL vs).map cell).toArray := by
  apply Array.ext_getElem?
  intro i
  by_cases h : i < 64
  · rw [hc i h]
    have e : (UInt8.ofNat (recB vs 6 i)).toNat = recB vs 6 i := by have := recB_lt vs 6 i; simp; omega
    simp [recL, h, cell, recV, e]
  · rw [Array.getElem?_eq_none (by omega)]
    simp [recL, h]
theorem rec_one (vs : Nat → Nat) : (((recL vs).map cell).toArray).all (·.oneCell') = true := by
  simp [recL, cell, Value.oneCell']
/-- What lies there in the loop. -/
structure RL (w : World) (vs : Nat → Nat) (j : Nat) (W : World) : Prop where
  b : Below w.heap.size w W
  t : TXC w.heap.size vs W
  r : W.rowIs (w.heap.size + 1) TP 64 (fun _ => .int .u8 0)
  p : W.rowIs (w.heap.size + 2) TP 64 (recV vs j)
theorem RL.below {w : World} {vs : Nat → Nat} {j : Nat} {W W' : World} (h : RL w vs j W) (hb : Below W.heap.size W W') : RL w vs j W' :=
  ⟨h.b.trans (hb.mono h.b.size), h.t.below hb, h.r.of_block (hb.block _ h.r.lt), h.p.of_block (hb.block _ h.p.lt)⟩
theorem putN_row (W : World) (B o v : Nat) (T : TypeId) (n : Nat) (f : Nat → Value) (h : W.rowIs B T n f) (j : Nat) : (putN W B o v j).rowIs B T n (fun k => if o ≤ k ∧ k < o + j then .int .u8 (byt v (k - o)) else f k) := by
  induction j with
  | zero => exact h.congr fun k _ => by rw [if_neg (by omega)]
  | succ j ih =>
    refine (ih.set (o + j) (.int .u8 (byt v j))).congr fun k _ => ?_
    by_cases e : k = o + j
    · subst e; rw [if_pos rfl, if_pos (by omega), show o + j - o = j by omega]
    · rw [if_neg e]
      by_cases h2 : o ≤ k ∧ k < o + j
      · rw [if_pos h2, if_pos (by omega)]
      · rw [if_neg h2, if_neg (by omega)]
theorem RL.put {w : World} {vs : Nat → Nat} {j : Nat} {W : World} (h : RL w vs j W) (o : Nat) (ho : o = 8 + 8 * j) : RL w vs (j + 1) (putN W (w.heap.size + 2) o (vs j) 8) := by
  subst ho
  have hx := h.p.lt
  refine ⟨putN_below _ _ _ _ _ _ _ h.b (by omega), h.t.keep (by rw [putN_size]; exact Nat.le_refl _) (putN_heap _ _ _ _ _ _ (by omega)), h.r.of_block (putN_heap _ _ _ _ _ _ (by omega)), (putN_row _ _ _ _ _ _ _ h.p 8).congr fun k hk => ?_⟩
  unfold recV recB
  by_cases h1 : 8 + 8 * j ≤ k ∧ k < 8 + 8 * j + 8
  · rw [if_pos h1, if_neg (by omega), if_pos (by omega), show (k - 8) / 8 = j by omega, show (k - 8) % 8 = k - (8 + 8 * j) by omega]
  · rw [if_neg h1]
    by_cases h7 : k = 7
    · rw [if_pos h7, if_pos h7]
    · rw [if_neg h7, if_neg h7]
      by_cases h2 : 8 ≤ k ∧ k < 8 + 8 * j
      · rw [if_pos h2, if_pos (by omega)]
      · rw [if_neg h2, if_neg (by omega)]
theorem RL.call {w : World} {vs : Nat → Nat} {j : Nat} {W : World} (h : RL w vs j W) (hj : j < 6) (hv : Hid (vs j < 18446744073709551616)) (o n c : Nat) (ho : o = 8 + 8 * j) (hn : 8 ≤ n) (v : Nat) (hvv : v = vs j) :
    Calls Tryd.prog 33 #[.slice (some ⟨w.heap.size + 2, o, none⟩) n c, .int .u64 v] W fun e w' => e = .returned (.tuple #[]) ∧ RL w vs (j + 1) w' := by
  subst hvv
  refine (put_V W _ o n c (vs j) hn hv (fun i hi => ?_) (fun i hi => h.p.frozen _)).mono ?_
  · rw [h.p.cell (i := o + i) (by omega)]; rfl
  · rintro e w' ⟨rfl, rfl⟩
    exact ⟨rfl, h.put o ho⟩
theorem info_P : (Tryd.prog.info? TP).map (·.size) = some 64 := by kernel_rfl
theorem alloc_P (o : Oper) (ρ : Operand → Value) (w : World) (h : o.op = .alloc TP) : (execOp ρ o).run Tryd.prog w = .ok (.value (.pointer (some ⟨w.heap.size, 0, none⟩))) (w.alloc (.cells Z64 TP)) := by
  unfold execOp
  rw [h]
  kernel_rfl
structure RZ (w : World) (vs : Nat → Nat) (W : World) : Prop where
  b : Below w.heap.size w W
  t : TXC w.heap.size vs W
  r : W.rowIs (w.heap.size + 1) TP 64 (fun _ => .int .u8 0)
  p : W.rowIs (w.heap.size + 2) TP 64 (fun _ => .int .u8 0)
theorem rz (w : World) (vs : Nat → Nat) : RZ w vs (((w.alloc (.cells #[.int .u64 (vs 0), .int .u64 (vs 1), .int .u64 (vs 2), .int .u64 (vs 3), .int .u64 (vs 4), .int .u64 (vs 5)] TTX)).alloc (.cells Z64 TP)).alloc (.cells Z64 TP)) := by
  have h1 : TXC w.heap.size vs (w.alloc (.cells #[.int .u64 (vs 0), .int .u64 (vs 1), .int .u64 (vs 2), .int .u64 (vs 3), .int .u64 (vs 4), .int .u64 (vs 5)] TTX)) := by
    refine ⟨by simp, fun k hk => ?_⟩
    rcases (by omega : k = 0 ∨ k = 1 ∨ k = 2 ∨ k = 3 ∨ k = 4 ∨ k = 5) with rfl | rfl | rfl | rfl | rfl | rfl
    all_goals exact (World.cell?_alloc_at _ _ _ _ rfl).trans rfl
  have hz : ∀ i, i < Z64.size → Z64[i]? = some (Value.int .u8 0) := fun i hi => Z64_get i (by rw [← Z64_size]; exact hi)
  refine ⟨(((Below.refl _ _).alloc (Nat.le_refl _) _).alloc (by simp) _).alloc (by simp; omega) _, (h1.below ((Below.refl _ _).alloc (Nat.le_refl _) _)).below ((Below.refl _ _).alloc (Nat.le_refl _) _), ?_, ?_⟩
  · have := (World.rowIs_alloc (w.alloc (.cells #[.int .u64 (vs 0), .int .u64 (vs 1), .int .u64 (vs 2), .int .u64 (vs 3), .int .u64 (vs 4), .int .u64 (vs 5)] TTX)) Z64 TP (fun _ => .int .u8 0) hz).alloc (.cells Z64 TP)
    rw [Z64_size] at this
    simpa only [World.size_alloc] using this
  · have := World.rowIs_alloc ((w.alloc (.cells #[.int .u64 (vs 0), .int .u64 (vs 1), .int .u64 (vs 2), .int .u64 (vs 3), .int .u64 (vs 4), .int .u64 (vs 5)] TTX)).alloc (.cells Z64 TP)) Z64 TP (fun _ => .int .u8 0) hz
    rw [Z64_size] at this
    simpa only [World.size_alloc, Nat.add_assoc, Nat.reduceAdd] using this
theorem RZ.one {w : World} {vs : Nat → Nat} {W : World} (h : RZ w vs W) : RL w vs 0 (W.setCell ⟨w.heap.size + 2, 7, none⟩ (.int .u8 1)) := by
  have hx := h.p.lt
  refine ⟨h.b.setCell (by simp) _, h.t.keep (by simp) (Below.heap_setCell _ _ _ _ (by simp)), h.r.setOther (by simp) _, (h.p.set 7 _).congr fun k hk => ?_⟩
  unfold recV recB
  by_cases e : k = 7
  · rw [if_pos e, if_pos e]; rfl
  · rw [if_neg e, if_neg e, if_neg (by omega)]; rfl
theorem sl8 (b j : Nat) (hj : j < 6) (w : World) : (Instr.sliceAt TP (.pointer (some ⟨b, 0, none⟩)) (some (.int .i64 (IntKind.i64.wrap (8 + IntKind.i64.wrap (8 * (j : Int)))))) none none).run Tryd.prog w = .ok (.slice (some ⟨b, 8 + 8 * j, none⟩) (56 - 8 * j) (56 - 8 * j)) w := by
  rcases (by omega : j = 0 ∨ j = 1 ∨ j = 2 ∨ j = 3 ∨ j = 4 ∨ j = 5) with rfl | rfl | rfl | rfl | rfl | rfl <;> kernel_rfl
set_option maxRecDepth 100000 in
set_option maxHeartbeats 1000000 in
theorem rec_V (vs : Nat → Nat) (w : World) (hv : ∀ k, k < 6 → Hid (vs k < 18446744073709551616)) :
    Calls Tryd.prog 11 #[.agg #[.int .u64 (vs 0), .int .u64 (vs 1), .int .u64 (vs 2), .int .u64 (vs 3), .int .u64 (vs 4), .int .u64 (vs 5)]] w (fun e w' => e = .returned (.agg ((recL vs).map cell).toArray) ∧ Below w.heap.size w w') := by
  have HV := Lib.hid hv
  have HI := Lib.hid (idx6 w.heap.size)
  clear hv
  go_enter Tryd.func11, Tryd.ntmps11
  go_wp2_with (first
    | (refine Go.Great.wpList_allocTo rfl (some 2) rfl _ _ (alloc_P _ _ _ rfl) ?_; simp only [World.size_alloc])
    | (refine Go.Great.wpList_allocTo rfl (some 3) rfl _ _ (alloc_P _ _ _ rfl) ?_; obtain ⟨W0, hW0⟩ : ∃ W0, W0 = (((w.alloc (.cells #[.int .u64 (vs 0), .int .u64 (vs 1), .int .u64 (vs 2), .int .u64 (vs 3), .int .u64 (vs 4), .int .u64 (vs 5)] TTX)).alloc (.cells Z64 TP)).alloc (.cells Z64 TP)) := ⟨_, rfl⟩; rw [← hW0]; simp only [World.size_alloc, Nat.add_assoc, Nat.reduceAdd]; have H0 : Hid (RZ w vs W0) := (by rw [hW0]; exact rz w vs); have c7 := H0.out.p.cell (i := 7) (by decide); have f7 := H0.out.p.frozen 7; clear hW0)
    | (go_at_call 19; (with_reducible refine (fields_V w.heap.size _).mono ?_); rintro e w1 ⟨rfl, hb1⟩; have HTL : Hid (RL w vs 0 w1) := H0.out.one.below hb1; clear hb1))
  go_loopw [4, 5, 8] (fun ii pp idx wr => ∃ j : Nat, j ≤ 6 ∧ idx = .int .i64 j ∧ Hid (RL w vs j wr)) (fun _ _ idx _ => 6 - (intOf idx).toNat)
  case atStart => exact ⟨0, by omega, rfl, HTL.out⟩
  case round =>
    obtain ⟨j, hj, rfl, HL⟩ := hrel
    by_cases hlt : j < 6
    · have hix := fun W => HI.out j hlt W
      have hc := HL.out.t.2 j hlt
      have hsl := fun W => sl8 (w.heap.size + 2) j hlt W
      go_wp2_with fail
      refine wp_region_relG (TXC w.heap.size vs) (RL w vs j) (by kernel_rfl) (HL.out.below (by (repeat' (first | (with_reducible exact Below.refl _ _) | (with_reducible refine Below.alloc ?_ ?_ _) | (with_reducible refine Below.drew ?_) | (with_reducible refine Below.setCell ?_ ?_ _) | (with_reducible refine Below.thn (by assumption) ?_ ?_) | (with_reducible refine below_drewN ?_ _) | go_size)))) ?_
      refine relR_pure 0 _ (by intro _ h; first | exact h | exact h.2 | exact h.t) (by kernel_rfl) rfl (by kernel_rfl) (by kernel_rfl) (by go_simp) ?_
      apply Exists.intro
      refine ⟨fun W hW => ?_, fun K hK => ?_⟩
      · unfold effAt
        go_simp
        exact ⟨rfl, rfl⟩
      go_simp
      refine hK _ ?_
      clear hK K
      refine relR_pure 1 _ (by intro _ h; first | exact h | exact h.2 | exact h.t) (by kernel_rfl) rfl (by kernel_rfl) (by kernel_rfl) (by go_simp) ?_
      apply Exists.intro
      refine ⟨fun W hW => ?_, fun K hK => ?_⟩
      · unfold effAt
        go_simp
        exact ⟨rfl, rfl⟩
      go_simp
      refine hK _ ?_
      clear hK K
      refine relR_pure 2 _ (by intro _ h; first | exact h | exact h.2 | exact h.t) (by kernel_rfl) rfl (by kernel_rfl) (by kernel_rfl) (by go_simp) ?_
      apply Exists.intro
      refine ⟨fun W hW => ?_, fun K hK => ?_⟩
      · unfold effAt
        go_simp
        exact ⟨rfl, rfl⟩
      go_simp
      refine hK _ ?_
      clear hK K
      refine relR_pure 3 _ (by intro _ h; first | exact h | exact h.2 | exact h.t) (by kernel_rfl) rfl (by kernel_rfl) (by kernel_rfl) (by go_simp) ?_
      apply Exists.intro
      refine ⟨fun W hW => ?_, fun K hK => ?_⟩
      · unfold effAt
        go_simp
        exact ⟨rfl, rfl⟩
      go_simp
      refine hK _ ?_
      clear hK K
      refine relR_pure 4 _ (by intro _ h; first | exact h | exact h.2 | exact h.t) (by kernel_rfl) rfl (by kernel_rfl) (by kernel_rfl) (by go_simp) ?_
      apply Exists.intro
      refine ⟨fun W hW => ?_, fun K hK => ?_⟩
      · unfold effAt
        go_simp
        exact ⟨rfl, rfl⟩
      go_simp
      refine hK _ ?_
      clear hK K
      refine relR_pure 5 _ (by intro _ h; first | exact h | exact h.2 | exact h.t) (by kernel_rfl) rfl (by kernel_rfl) (by kernel_rfl) (by go_simp) ?_
      apply Exists.intro
      refine ⟨fun W hW => ?_, fun K hK => ?_⟩
      · unfold effAt
        go_simp
        exact ⟨rfl, rfl⟩
      go_simp
      refine hK _ ?_
      clear hK K
      refine relR_pure 6 _ (by intro _ h; first | exact h | exact h.2 | exact h.t) (by kernel_rfl) rfl (by kernel_rfl) (by kernel_rfl) (by go_simp) ?_
      apply Exists.intro
      refine ⟨fun W hW => ?_, fun K hK => ?_⟩
      · unfold effAt
        have hc2 := hW.2 j hlt
        go_simp
        exact ⟨rfl, rfl⟩
      go_simp
      refine hK _ ?_
      clear hK K
      refine relR_call 7 _ rfl (by kernel_rfl) (by go_simp) Unit (fun _ => .tuple #[]) (fun _ => TXC w.heap.size vs) (fun _ => RL w vs (j + 1)) (fun _ _ h => h) (fun W hW => ?_) (fun _ K hK => ?_)
      · have hL : RL w vs j W := by first | exact hW | exact hW.1
        unfold effAt
        go_simp
        change Calls _ _ _ _ _
        refine (hL.call hlt (HV.out j hlt) _ _ _ rfl (by omega) _ rfl).mono ?_
        rintro e w' ⟨he, hr⟩
        first | exact ⟨_, he, rfl, hr, hr.t⟩ | exact ⟨_, he, (), rfl, hr, hr.t⟩
      go_simp
      refine hK _ ?_
      clear hK K
      refine relR_end (by kernel_rfl) (fun W hW => ?_)
      have H9 := Lib.hid hW.1
      clear hW
      go_wp2
      go_roundw
      case rel => exact ⟨j + 1, by omega, by go_num, H9⟩
      case measure => simp [intOf]; omega
    · have h6 : j = 6 := by omega
      subst h6
      obtain ⟨cs, hcs, hn, hcc⟩ := HL.out.p
      obtain ⟨rs, hrs, hrn, _⟩ := HL.out.r
      have hcs' := rec_eq vs cs hn hcc
      have HB := Lib.hid HL.out.b
      have HCS : Hid (wr.heap[w.heap.size + 2]? = some (.cells ((recL vs).map cell).toArray TP (0, 0))) := by rw [← hcs']; exact hcs
      have HRS := Lib.hid hrs
      have HI6 : Hid ((Tryd.prog.info? TP).map (·.size) = some ((recL vs).map cell).toArray.size) := by show _ = _; rw [info_P]; simp [recL_len]
      have HO6 : Hid (rs.size = ((recL vs).map cell).toArray.size) := by show _ = _; rw [hrn]; simp [recL_len]
      have hlt2 : w.heap.size ≤ w.heap.size + 1 := Nat.le_succ _
      clear HL hcs hcs' hrs hcc hn hrn HV HI
      go_wp2_with (first
        | (refine wpList_load_row rfl TP (.tmp 3) rfl (w.heap.size + 2) rfl TP ((recL vs).map cell).toArray (0, 0) _ HCS.out Tryd.underlying39 rfl HI6.out ?_)
        | (refine Go.wpList_store_rowTo rfl TP (.tmp 2) (.tmp 21) rfl rfl (w.heap.size + 1) ((recL vs).map cell).toArray rfl rfl TP rs HRS.out HI6.out HO6.out (rec_one vs) ?_))
      refine bodyPost_ret (results_cell_row (g := w.heap.size + 1) (t := TP) (cs := ((recL vs).map cell).toArray) (fr := (0, 0)) Tryd.results11 _ _ _ rfl ?_ Tryd.underlying39 rfl HI6.out) rfl ?_
      · exact setRow_heap _ _ _ _ _ _ HRS.out
      · exact ⟨rfl, below_setRow HB.out hlt2 _⟩
end Go.Proofs.YtgcpnhnckbgjmaaDoor
