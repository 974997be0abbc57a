/-
  tx.Encode by its contract.
-/
import Derived.Test.YtgcpnhnckbgjmaaDoorTxF
set_option linter.unusedVariables false
set_option linter.unusedSimpArgs false
namespace Go.Proofs.YtgcpnhnckbgjmaaDoor
open Go.RowKit
theorem idx6 (b j : Nat) (hj : j < 6) (w : World) : (Instr.index 58 (flds b) (.int .i64 (j : Int))).run Tryd.prog w = .ok (.pointer (some ⟨b, j, none⟩)) w := by
  rcases (by omega : j = 0 ∨ j = 1 ∨ j = 2 ∨ j = 3 ∨ j = 4 ∨ j = 5) with rfl | rfl | rfl | rfl | rfl | rfl <;> kernel_rfl
def leafs (vs : Nat → Nat) (j : Nat) : List Rlp.It := (List.range j).map fun k => .mk false (Rlp.big (vs k)) []
def tItem (vs : Nat → Nat) : Rlp.It := .mk true [] (leafs vs 6)
theorem leafs_succ (vs : Nat → Nat) (j : Nat) : leafs vs (j + 1) = leafs vs j ++ [.mk false (Rlp.big (vs j)) []] := by simp [leafs, List.range_succ]
theorem leafs_mem {vs : Nat → Nat} {j : Nat} {x : Rlp.It} (h : x ∈ leafs vs j) : ∃ l : List UInt8, l.length ≤ 8 ∧ x = .mk false l [] := by
  simp only [leafs, List.mem_map, List.mem_range] at h
  obtain ⟨k, _, rfl⟩ := h
  exact ⟨_, big_le _, rfl⟩
theorem form_small (l : List UInt8) (h : l.length ≤ 8) : (Rlp.form (.mk false l [])).length ≤ 9 := by
  match l, h with
  | [], _ => rw [form_bytes _ _ (by simp)]; unfold Rlp.headed; simp
  | [u], _ => rw [form_one]; split <;> simp [Rlp.headed]
  | u :: v :: t, h => rw [form_bytes _ _ (by simp)]; unfold Rlp.headed; rw [if_pos (by omega)]; simp at h ⊢; omega
theorem leafs_form (vs : Nat → Nat) (j : Nat) : (Rlp.formC (leafs vs j)).length ≤ 9 * j := by
  induction j with
  | zero => simp [leafs, Rlp.formC]
  | succ j ih =>
    rw [leafs_succ, Rlp.formC_app, List.length_append]
    have h : Rlp.formC [.mk false (Rlp.big (vs j)) []] = Rlp.form (.mk false (Rlp.big (vs j)) []) := by simp [Rlp.formC]
    have := form_small (Rlp.big (vs j)) (big_le _)
    rw [h]; omega
theorem tForm (vs : Nat → Nat) : Rlp.form (tItem vs) = Rlp.headed 192 (Rlp.formC (leafs vs 6)) := by
  have := leafs_form vs 6
  unfold tItem
  rw [form_list, Rlp.formL_cat _ _ (by simp; omega)]; simp
theorem enc_t (vs : Nat → Nat) : enc (tItem vs) = .ok (Rlp.form (tItem vs)) := by
  have h1 := leafs_form vs 6
  have hl : (Rlp.form (tItem vs)).length ≤ 100 := by
    rw [tForm]; unfold Rlp.headed
    rw [if_pos (by omega)]; simp; omega
  unfold enc
  have hn : Rlp.nest (tItem vs) 16 ≤ 2 := by
    unfold tItem
    rw [Rlp.nest]
    have := Rlp.nestL_le (leafs vs 6) 15 1 (fun x hx => by obtain ⟨l, _, rfl⟩ := leafs_mem hx; simp [Rlp.nest, Rlp.nestL])
    omega
  have hr : Rlp.right (tItem vs) = true := by
    unfold tItem
    simp only [Rlp.right, if_true, List.isEmpty_nil, Bool.true_and]
    exact Rlp.rightL_all _ (fun x hx => by obtain ⟨l, _, rfl⟩ := leafs_mem hx; simp [Rlp.right])
  rw [if_neg (by omega), hr, if_neg (by decide), if_neg (by omega)]
theorem tAll (vs : Nat → Nat) : allB 8 2 (tItem vs) := by
  refine ⟨by simp [tItem, Rlp.It.bytes], fun i hi => ?_⟩
  have hi : i < (leafs vs 6).length := hi
  have e : (tItem vs).items.getD i default = (leafs vs 6)[i] := by
    show (leafs vs 6).getD i default = _
    rw [List.getD_eq_getElem?_getD, List.getElem?_eq_getElem hi]; rfl
  rw [e]
  obtain ⟨l, hl, he⟩ := leafs_mem (List.getElem_mem hi)
  rw [he]
  exact ⟨hl, fun i hi => by simp [Rlp.It.items] at hi⟩
/-- A transaction's six cells. -/
def TXC (b : Nat) (vs : Nat → Nat) (W : World) : Prop := b < W.heap.size ∧ ∀ k, k < 6 → W.cell? ⟨b, k, none⟩ = some (.int .u64 (vs k))
theorem TXC.keep {b : Nat} {vs : Nat → Nat} {W W' : World} (h : TXC b vs W) (hs : W.heap.size ≤ W'.heap.size) (hk : W'.heap[b]? = W.heap[b]?) : TXC b vs W' :=
  ⟨by have := h.1; omega, fun k hk' => by rw [World.cell?_of_block (a := ⟨b, k, none⟩) hk]; exact h.2 k hk'⟩
theorem TXC.below {b : Nat} {vs : Nat → Nat} {W W' : World} (h : TXC b vs W) (hb : Below W.heap.size W W') : TXC b vs W' := h.keep hb.size (hb.block b h.1)
/-- What lies there in the loop. -/
structure TL (w : World) (vs : Nat → Nat) (j cq : Nat) (ao : Option Addr) (W : World) : Prop where
  b : Below w.heap.size w W
  t : TXC w.heap.size vs W
  x : SlotI W (w.heap.size + 1) (.bool true) (.slice none 0 0) (.slice ao j cq)
  o : OwnI W (w.heap.size + 2) 1 (.slice ao j cq) j (leafs vs j)
theorem TL.below {w : World} {vs : Nat → Nat} {j cq : Nat} {ao : Option Addr} {W W' : World} (h : TL w vs j cq ao W) (hb : Below W.heap.size W W') : TL w vs j cq ao W' :=
  ⟨h.b.trans (hb.mono h.b.size), h.t.below hb, h.x.below hb, h.o.below hb⟩
structure AC where
  a : Option Addr
  c : Nat
structure T5 (w : World) (vs : Nat → Nat) (j cq : Nat) (ao : Option Addr) (p : AC) (W : World) : Prop where
  l : TL w vs j cq ao W
  i : IsIt (fun b => w.heap.size + 2 ≤ b ∧ (Value.slice ao j cq).ownBlock ≠ some b) W 1 (.mk false (Rlp.big (vs j)) []) (.bool false) (.slice p.a (Rlp.big (vs j)).length p.c) (.slice none 0 0)
theorem T5.below {w : World} {vs : Nat → Nat} {j cq : Nat} {ao : Option Addr} {p : AC} {W W' : World} (h : T5 w vs j cq ao p W) (hb : Below W.heap.size W W') : T5 w vs j cq ao p W' := ⟨h.l.below hb, h.i.below hb⟩
structure T6 (w : World) (vs : Nat → Nat) (j cq : Nat) (ao : Option Addr) (p : AC) (g : Nat) (W : World) : Prop where
  l : T5 w vs j cq ao p W
  c0 : W.cell? ⟨g, 0, none⟩ = some (.bool false)
  c1 : W.cell? ⟨g, 1, none⟩ = some (.slice p.a (Rlp.big (vs j)).length p.c)
  c2 : W.cell? ⟨g, 2, none⟩ = some (.slice none 0 0)
structure T7 (w : World) (vs : Nat → Nat) (j cq : Nat) (ao : Option Addr) (z : AC) (W : World) : Prop where
  b : Below w.heap.size w W
  t : TXC w.heap.size vs W
  x : SlotI W (w.heap.size + 1) (.bool true) (.slice none 0 0) (.slice ao j cq)
  o : OwnI W (w.heap.size + 2) 1 (.slice z.a (j + 1) z.c) (j + 1) (leafs vs (j + 1))
theorem T6.app {w : World} {vs : Nat → Nat} {j cq : Nat} {ao : Option Addr} {p : AC} {g : Nat} {W : World} (h : T6 w vs j cq ao p g W) (hj : j < 6) {o : Oper} {A : Act} (s y : Operand)
    (ho : o.op = .call { callee := .builtin .append, args := #[s, y], argTypes := #[TIS, TIS] }) (hs : A.eval s = .slice ao j cq) (hx : A.eval y = .slice (some ⟨g, 0, none⟩) 1 1) :
    effAt Tryd.prog o A W (fun u w' => ∃ z : AC, u = .slice z.a (j + 1) z.c ∧ T7 w vs j cq ao z w' ∧ TXC w.heap.size vs w') := by
  have hxl := h.l.l.x.lt
  obtain ⟨ao', c', w', hr, h1, h2⟩ := run_append_I W o.type (w.heap.size + 2) 1 ao j cq (leafs vs j) h.l.l.o g (.mk false (Rlp.big (vs j)) []) _ _ _ 1 h.l.i h.c0 h.c1 h.c2 (Sm.of (by omega)) (by omega)
  unfold effAt
  simp [execOp, ho, resolve, invoke, builtin, hs, hx, hr, effUpon]
  have hb : Below (w.heap.size + 2) W w' := grownI_below h2 h.l.l.o (Nat.le_refl _) (by omega)
  have ht : TXC w.heap.size vs w' := h.l.l.t.keep hb.size (hb.block _ (by omega))
  exact ⟨⟨ao', c'⟩, ⟨rfl, rfl⟩, ⟨h.l.l.b.trans (hb.mono (by omega)), ht, h.l.l.x.keep hb.size (hb.block _ (by omega)), by rw [leafs_succ]; exact h1⟩, ht⟩
theorem T7.store {w : World} {vs : Nat → Nat} {j cq : Nat} {ao : Option Addr} {z : AC} {W : World} (h : T7 w vs j cq ao z W) : TL w vs (j + 1) z.c z.a (W.setCell ⟨w.heap.size + 1, 2, none⟩ (.slice z.a (j + 1) z.c)) :=
  ⟨h.b.setCell (Nat.le_succ _) _, h.t.keep (by simp) (Below.heap_setCell _ _ _ _ (by simp)), h.x.set2 _, h.o.setBelow (Nat.lt_succ_self _) _⟩
theorem T5.of {w : World} {vs : Nat → Nat} {j cq : Nat} {ao : Option Addr} {W W' : World} (h : TL w vs j cq ao W) (hv : Hid (vs j < 18446744073709551616)) {an : Option Addr} {n c : Nat} (ho : OwnB W' W.heap.size an n c (Rlp.big (vs j))) (hb : Below W.heap.size W W') : T5 w vs j cq ao ⟨an, c⟩ W' := by
  have hxl := h.x.lt
  have hi : IsIt (fun b => W.heap.size ≤ b) W' 1 (.mk false (Rlp.big (vs j)) []) (.bool false) (.slice an (Rlp.big (vs j)).length c) (.slice none 0 0) := leaf_is rfl (by rw [ho.len]; exact ho.cap.1) ho.cap.2.1 ho.cap.2.2 ho.bytes 0
  exact ⟨h.below hb, h.o.other hi (by omega)⟩
/-- A transaction at its end. -/
theorem TL.isIt {w : World} {vs : Nat → Nat} {cq : Nat} {ao : Option Addr} {W : World} (h : TL w vs 6 cq ao W) : IsIt (fun b => w.heap.size ≤ b) W 2 (tItem vs) (.bool true) (.slice none 0 0) (.slice ao 6 cq) := by
  have hf : 6 ≤ cq ∧ cq ≤ maxLen := by
    rcases h.o.form with ⟨e, e2⟩ | ⟨g2, c2, e, _, _, h1, h2⟩
    · omega
    · injection e with e1 e2 e3; subst e3; exact ⟨h1, h2⟩
  have hl : (leafs vs 6).length = 6 := h.o.len
  refine ⟨rfl, ⟨none, 0, rfl, Nat.le_refl _, Nat.zero_le _, fun _ => rfl, fun i hi => by simp [tItem, Rlp.It.bytes] at hi⟩, ao, cq, ?_, ?_, hf.2, ?_⟩
  · show _ = Value.slice ao (leafs vs 6).length cq
    rw [hl]
  · show (leafs vs 6).length ≤ cq
    rw [hl]; exact hf.1
  · intro i hi
    obtain ⟨b, off, u, v, z, e, hF, hl, c0, c1, c2, hx⟩ := h.o.at i hi
    exact ⟨b, off, u, v, z, e, by omega, hl, c0, c1, c2, hx.move fun b hF hl => ⟨by omega, hl, rfl⟩⟩
def okTx (vs : Nat → Nat) : Prop := ∀ k, k < 6 → inn k (vs k) = true
/-- What tx.Encode answers. -/
def TEnc (w : World) (vs : Nat → Nat) (e : Ending) (w' : World) : Prop := Below w.heap.size w w' ∧
  ((okTx vs ∧ ∃ ao n c, e = .returned (.tuple #[.slice ao n c, .nilIface]) ∧ OwnB w' w.heap.size ao n c (Rlp.form (tItem vs))) ∨ (¬ okTx vs ∧ e = .returned (.tuple #[.slice none 0 0, .iface TE (.int .i64 2)])))
set_option maxRecDepth 100000 in
set_option maxHeartbeats 8000000 in
theorem tenc_V (vs : Nat → Nat) (w : World) (hv : ∀ k, k < 6 → Hid (vs k < 18446744073709551616)) :
    Calls Tryd.prog 5 #[.agg #[.int .u64 (vs 0), .int .u64 (vs 1), .int .u64 (vs 2), .int .u64 (vs 3), .int .u64 (vs 4), .int .u64 (vs 5)]] w (TEnc w vs) := by
  have HV := Lib.hid hv
  have HI := Lib.hid (idx6 w.heap.size)
  clear hv
  obtain ⟨W0, hW0⟩ : ∃ W0, W0 = w.alloc (.cells #[.int .u64 (vs 0), .int .u64 (vs 1), .int .u64 (vs 2), .int .u64 (vs 3), .int .u64 (vs 4), .int .u64 (vs 5)] TTX) := ⟨_, rfl⟩
  have HT0 : Hid (TXC w.heap.size vs W0) := by
    rw [hW0]
    refine ⟨by simp, fun k hk => ?_⟩
    rcases (by omega : k = 0 ∨ k = 1 ∨ k = 2 ∨ k = 3 ∨ k = 4 ∨ k = 5) with rfl | rfl | rfl | rfl | rfl | rfl
    all_goals exact (World.cell?_alloc_at _ _ _ _ rfl).trans rfl
  have HS0 : Hid (W0.heap.size = w.heap.size + 1) := by show _ = _; rw [hW0]; simp
  have HBW : Hid (Below w.heap.size w W0) := by rw [hW0]; exact (Below.refl _ _).alloc (Nat.le_refl _) _
  have HW0 := Lib.hid hW0
  clear hW0
  go_enter Tryd.func5, Tryd.ntmps5
  go_wp2_with (first
    | (go_at_call 19; (with_reducible refine (fields_V w.heap.size _).mono ?_); rintro e w1 ⟨rfl, hb1⟩; have hb1' : Below (W0.alloc (.cells #[.bool true, .slice none 0 0, .slice none 0 0] TI)).heap.size (W0.alloc (.cells #[.bool true, .slice none 0 0, .slice none 0 0] TI)) w1 := (by rw [HW0.out]; exact hb1); have HTL : Hid (TL w vs 0 0 none w1) := ⟨(HBW.out.alloc HBW.out.size _).trans (hb1'.mono (by simp; have := HBW.out.size; omega)), (HT0.out.below ((Below.refl _ _).alloc (Nat.le_refl _) _)).below hb1', (by have := ((SlotI.new W0 (.bool true) (.slice none 0 0) (.slice none 0 0)).below hb1'); rw [HS0.out] at this; exact this), OwnI.nil _ _ _⟩; clear hb1 hb1'))
  go_loopw [5, 6, 9] (fun ii pp idx wr => ∃ (j cq : Nat) (ao : Option Addr), j ≤ 6 ∧ idx = .int .i64 j ∧ Hid (TL w vs j cq ao wr) ∧ Hid (∀ k, k < j → inn k (vs k) = true)) (fun _ _ idx _ => 6 - (intOf idx).toNat)
  case atStart => exact ⟨0, 0, none, by omega, rfl, HTL.out, fun k hk => by omega⟩
  case round =>
    obtain ⟨j, cq, ao, hj, rfl, HL, HOk⟩ := hrel
    have hwr := HL.out.x.lt
    by_cases hlt : j < 6
    · have hix := fun W => HI.out j hlt W
      have hc := HL.out.t.2 j hlt
      obtain ⟨q, hq⟩ : ∃ q, inn j (vs j) = q := ⟨_, rfl⟩
      have HQ := Lib.hid hq
      clear hq
      cases q
      · go_wp2_with (first
          | (go_at_call 20; (with_reducible refine (within_V j (vs j) hlt _ rfl _).mono ?_); rintro e w2 ⟨rfl, rfl⟩; rw [HQ.out]))
        go_returns
        exact ⟨HL.out.b, .inr ⟨(fun h => absurd (h j hlt) (by rw [HQ.out]; decide)), rfl⟩⟩
      · have HOk2 : Hid (∀ k, k < j + 1 → inn k (vs k) = true) := by
          intro k hk
          by_cases h : k < j
          · exact HOk.out k h
          · have : k = j := by omega
            subst this; exact HQ.out
        go_wp2_with (first
          | (go_at_call 20; (with_reducible refine (within_V j (vs j) hlt _ rfl _).mono ?_); rintro e w2 ⟨rfl, rfl⟩; rw [HQ.out]))
        refine wp_region_relG (TXC w.heap.size vs) (TL w vs j cq ao) (by kernel_rfl) (HL.out.below (by (repeat' (first | (with_reducible exact Below.refl _ _) | (with_reducible refine Below.alloc ?_ ?_ _) | (with_reducible refine Below.drew ?_) | (with_reducible refine Below.setCell ?_ ?_ _) | (with_reducible refine Below.thn (by assumption) ?_ ?_) | (with_reducible refine below_drewN ?_ _) | go_size)))) ?_
        refine relR_pure 0 _ (by intro _ h; first | exact h | exact h.2 | exact h.t) (by kernel_rfl) rfl (by kernel_rfl) (by kernel_rfl) (by go_simp) ?_
        apply Exists.intro
        refine ⟨fun W hW => ?_, fun K hK => ?_⟩
        · unfold effAt
          go_simp
          exact ⟨rfl, rfl⟩
        go_simp
        refine hK _ ?_
        clear hK K
        refine relR_pure 2 _ (by intro _ h; first | exact h | exact h.2 | exact h.t) (by kernel_rfl) rfl (by kernel_rfl) (by kernel_rfl) (by go_simp) ?_
        apply Exists.intro
        refine ⟨fun W hW => ?_, fun K hK => ?_⟩
        · unfold effAt
          go_simp
          exact ⟨rfl, rfl⟩
        go_simp
        refine hK _ ?_
        clear hK K
        refine relR_pure 3 _ (by intro _ h; first | exact h | exact h.2 | exact h.t) (by kernel_rfl) rfl (by kernel_rfl) (by kernel_rfl) (by go_simp) ?_
        apply Exists.intro
        refine ⟨fun W hW => ?_, fun K hK => ?_⟩
        · unfold effAt
          go_simp
          exact ⟨rfl, rfl⟩
        go_simp
        refine hK _ ?_
        clear hK K
        refine relR_pure 4 _ (by intro _ h; first | exact h | exact h.2 | exact h.t) (by kernel_rfl) rfl (by kernel_rfl) (by kernel_rfl) (by go_simp) ?_
        apply Exists.intro
        refine ⟨fun W hW => ?_, fun K hK => ?_⟩
        · unfold effAt
          have hc2 := hW.2 j hlt
          go_simp
          exact ⟨rfl, rfl⟩
        go_simp
        refine hK _ ?_
        clear hK K
        refine relR_pair 1 5 (by kernel_rfl) ?_ ?_
        · skip
          refine relOp_call 1 _ rfl (by go_simp) Unit (fun _ => .slice ao j cq) (fun _ => TXC w.heap.size vs) (fun _ => TL w vs j cq ao) (fun _ _ h => h) (fun W hW => ?_) (fun _ K hK => ?_)
          · have hx2 := hW.x.c2
            have hT : TXC w.heap.size vs W := by first | exact hW.2 | exact hW.t
            unfold effAt
            go_simp
            first | exact ⟨(), rfl, hW.1, hT⟩ | exact ⟨(), rfl, hW, hT⟩ | exact ⟨rfl, hW.1, hT⟩ | exact ⟨rfl, hW, hT⟩ | exact ⟨hW.1, hT⟩ | exact ⟨hW, hT⟩
          go_simp
          refine hK _ ?_
          clear hK K
          refine relR_call 5 _ rfl (by kernel_rfl) (by go_simp) AC (fun p => .agg #[.bool false, .slice p.a (Rlp.big (vs j)).length p.c, .slice none 0 0]) (fun _ => TXC w.heap.size vs) (fun p => T5 w vs j cq ao p) (fun _ _ h => h) (fun W hW => ?_) (fun p K hK => ?_)
          · have hL : TL w vs j cq ao W := hW.1
            unfold effAt
            go_simp
            change Calls _ _ _ _ _
            refine (number_V (vs j) W (HV.out j hlt)).mono ?_
            rintro e w' ⟨an, n, c, he, ho, hb⟩
            have h5 := T5.of hL (HV.out j hlt) ho hb
            exact ⟨_, he, ⟨an, c⟩, by rw [ho.len], h5, h5.l.t⟩
          go_simp
          refine hK _ ?_
          clear hK K
          refine relR_call 6 _ rfl (by kernel_rfl) (by go_simp) Nat (fun g => .slice (some ⟨g, 0, none⟩) 1 1) (fun _ => TXC w.heap.size vs) (fun g => T6 w vs j cq ao p g) (fun _ _ h => h) (fun W hW => ?_) (fun g K hK => ?_)
          · have h6 : T6 w vs j cq ao p W.heap.size (W.alloc (.cells #[.bool false, .slice p.a (Rlp.big (vs j)).length p.c, .slice none 0 0] TI)) := ⟨hW.1.below ((Below.refl _ _).alloc (Nat.le_refl _) _), by go_cell, by go_cell, by go_cell⟩
            unfold effAt
            go_simp
            exact ⟨W.heap.size, rfl, h6, h6.l.l.t⟩
          go_simp
          refine hK _ ?_
          clear hK K
          refine relR_call 7 _ rfl (by kernel_rfl) (by go_simp) AC (fun z => .slice z.a (j + 1) z.c) (fun _ => TXC w.heap.size vs) (fun z => T7 w vs j cq ao z) (fun _ _ h => h) (fun W hW => ?_) (fun z K hK => ?_)
          · exact T6.app hW.1 hlt (.tmp 21) (.tmp 26) rfl rfl rfl
          go_simp
          refine hK _ ?_
          clear hK K
          refine relR_pure 8 _ (by intro _ h; first | exact h | exact h.2 | exact h.t) (by kernel_rfl) rfl (by kernel_rfl) (by kernel_rfl) (by go_simp) ?_
          apply Exists.intro
          refine ⟨fun W hW => ?_, fun K hK => ?_⟩
          · unfold effAt
            go_simp
            exact ⟨rfl, rfl⟩
          go_simp
          refine hK _ ?_
          clear hK K
          refine relR_call 9 _ rfl (by kernel_rfl) (by go_simp) Unit (fun _ => undef) (fun _ => TXC w.heap.size vs) (fun _ => TL w vs (j + 1) z.c z.a) (fun _ _ h => h) (fun W hW => ?_) (fun _ K hK => ?_)
          · have hx2 := hW.1.x.c2
            have hxf := hW.1.x.f2
            have h9 := hW.1.store
            unfold effAt
            go_simp
            first | exact ⟨rfl, h9, h9.t⟩ | exact ⟨h9, h9.t⟩ | exact ⟨(), rfl, h9, h9.t⟩
          go_simp
          refine hK _ ?_
          clear hK K
          refine relR_end (by kernel_rfl) (fun W hW => ?_)
          have H9 := Lib.hid hW.1
          clear hW
          go_wp2
          go_roundw
          case rel => exact ⟨j + 1, z.c, z.a, by omega, by go_num, H9, HOk2⟩
          case measure => simp [intOf]; omega
        · skip
          refine relOp_call 5 _ rfl (by go_simp) AC (fun p => .agg #[.bool false, .slice p.a (Rlp.big (vs j)).length p.c, .slice none 0 0]) (fun _ => TXC w.heap.size vs) (fun p => T5 w vs j cq ao p) (fun _ _ h => h) (fun W hW => ?_) (fun p K hK => ?_)
          · have hL : TL w vs j cq ao W := hW
            unfold effAt
            go_simp
            change Calls _ _ _ _ _
            refine (number_V (vs j) W (HV.out j hlt)).mono ?_
            rintro e w' ⟨an, n, c, he, ho, hb⟩
            have h5 := T5.of hL (HV.out j hlt) ho hb
            exact ⟨_, he, ⟨an, c⟩, by rw [ho.len], h5, h5.l.t⟩
          go_simp
          refine hK _ ?_
          clear hK K
          refine relR_pair 1 6 (by kernel_rfl) ?_ ?_
          · skip
            refine relOp_call 1 _ rfl (by go_simp) Unit (fun _ => .slice ao j cq) (fun _ => TXC w.heap.size vs) (fun _ => T5 w vs j cq ao p) (fun _ _ h => h) (fun W hW => ?_) (fun _ K hK => ?_)
            · have hx2 := hW.1.l.x.c2
              have hT : TXC w.heap.size vs W := by first | exact hW.2 | exact hW.t
              unfold effAt
              go_simp
              first | exact ⟨(), rfl, hW.1, hT⟩ | exact ⟨(), rfl, hW, hT⟩ | exact ⟨rfl, hW.1, hT⟩ | exact ⟨rfl, hW, hT⟩ | exact ⟨hW.1, hT⟩ | exact ⟨hW, hT⟩
            go_simp
            refine hK _ ?_
            clear hK K
            refine relR_call 6 _ rfl (by kernel_rfl) (by go_simp) Nat (fun g => .slice (some ⟨g, 0, none⟩) 1 1) (fun _ => TXC w.heap.size vs) (fun g => T6 w vs j cq ao p g) (fun _ _ h => h) (fun W hW => ?_) (fun g K hK => ?_)
            · have h6 : T6 w vs j cq ao p W.heap.size (W.alloc (.cells #[.bool false, .slice p.a (Rlp.big (vs j)).length p.c, .slice none 0 0] TI)) := ⟨hW.1.below ((Below.refl _ _).alloc (Nat.le_refl _) _), by go_cell, by go_cell, by go_cell⟩
              unfold effAt
              go_simp
              exact ⟨W.heap.size, rfl, h6, h6.l.l.t⟩
            go_simp
            refine hK _ ?_
            clear hK K
            refine relR_call 7 _ rfl (by kernel_rfl) (by go_simp) AC (fun z => .slice z.a (j + 1) z.c) (fun _ => TXC w.heap.size vs) (fun z => T7 w vs j cq ao z) (fun _ _ h => h) (fun W hW => ?_) (fun z K hK => ?_)
            · exact T6.app hW.1 hlt (.tmp 21) (.tmp 26) rfl rfl rfl
            go_simp
            refine hK _ ?_
            clear hK K
            refine relR_pure 8 _ (by intro _ h; first | exact h | exact h.2 | exact h.t) (by kernel_rfl) rfl (by kernel_rfl) (by kernel_rfl) (by go_simp) ?_
            apply Exists.intro
            refine ⟨fun W hW => ?_, fun K hK => ?_⟩
            · unfold effAt
              go_simp
              exact ⟨rfl, rfl⟩
            go_simp
            refine hK _ ?_
            clear hK K
            refine relR_call 9 _ rfl (by kernel_rfl) (by go_simp) Unit (fun _ => undef) (fun _ => TXC w.heap.size vs) (fun _ => TL w vs (j + 1) z.c z.a) (fun _ _ h => h) (fun W hW => ?_) (fun _ K hK => ?_)
            · have hx2 := hW.1.x.c2
              have hxf := hW.1.x.f2
              have h9 := hW.1.store
              unfold effAt
              go_simp
              first | exact ⟨rfl, h9, h9.t⟩ | exact ⟨h9, h9.t⟩ | exact ⟨(), rfl, h9, h9.t⟩
            go_simp
            refine hK _ ?_
            clear hK K
            refine relR_end (by kernel_rfl) (fun W hW => ?_)
            have H9 := Lib.hid hW.1
            clear hW
            go_wp2
            go_roundw
            case rel => exact ⟨j + 1, z.c, z.a, by omega, by go_num, H9, HOk2⟩
            case measure => simp [intOf]; omega
          · skip
            refine relOp_call 6 _ rfl (by go_simp) Nat (fun g => .slice (some ⟨g, 0, none⟩) 1 1) (fun _ => TXC w.heap.size vs) (fun g => T6 w vs j cq ao p g) (fun _ _ h => h) (fun W hW => ?_) (fun g K hK => ?_)
            · have h6 : T6 w vs j cq ao p W.heap.size (W.alloc (.cells #[.bool false, .slice p.a (Rlp.big (vs j)).length p.c, .slice none 0 0] TI)) := ⟨hW.1.below ((Below.refl _ _).alloc (Nat.le_refl _) _), by go_cell, by go_cell, by go_cell⟩
              unfold effAt
              go_simp
              exact ⟨W.heap.size, rfl, h6, h6.l.l.t⟩
            go_simp
            refine hK _ ?_
            clear hK K
            refine relR_call 1 _ rfl (by kernel_rfl) (by go_simp) Unit (fun _ => .slice ao j cq) (fun _ => TXC w.heap.size vs) (fun _ => T6 w vs j cq ao p g) (fun _ _ h => h) (fun W hW => ?_) (fun _ K hK => ?_)
            · have hx2 := hW.1.l.l.x.c2
              have hT : TXC w.heap.size vs W := by first | exact hW.2 | exact hW.t
              unfold effAt
              go_simp
              first | exact ⟨(), rfl, hW.1, hT⟩ | exact ⟨(), rfl, hW, hT⟩ | exact ⟨rfl, hW.1, hT⟩ | exact ⟨rfl, hW, hT⟩ | exact ⟨hW.1, hT⟩ | exact ⟨hW, hT⟩
            go_simp
            refine hK _ ?_
            clear hK K
            refine relR_call 7 _ rfl (by kernel_rfl) (by go_simp) AC (fun z => .slice z.a (j + 1) z.c) (fun _ => TXC w.heap.size vs) (fun z => T7 w vs j cq ao z) (fun _ _ h => h) (fun W hW => ?_) (fun z K hK => ?_)
            · exact T6.app hW.1 hlt (.tmp 21) (.tmp 26) rfl rfl rfl
            go_simp
            refine hK _ ?_
            clear hK K
            refine relR_pure 8 _ (by intro _ h; first | exact h | exact h.2 | exact h.t) (by kernel_rfl) rfl (by kernel_rfl) (by kernel_rfl) (by go_simp) ?_
            apply Exists.intro
            refine ⟨fun W hW => ?_, fun K hK => ?_⟩
            · unfold effAt
              go_simp
              exact ⟨rfl, rfl⟩
            go_simp
            refine hK _ ?_
            clear hK K
            refine relR_call 9 _ rfl (by kernel_rfl) (by go_simp) Unit (fun _ => undef) (fun _ => TXC w.heap.size vs) (fun _ => TL w vs (j + 1) z.c z.a) (fun _ _ h => h) (fun W hW => ?_) (fun _ K hK => ?_)
            · have hx2 := hW.1.x.c2
              have hxf := hW.1.x.f2
              have h9 := hW.1.store
              unfold effAt
              go_simp
              first | exact ⟨rfl, h9, h9.t⟩ | exact ⟨h9, h9.t⟩ | exact ⟨(), rfl, h9, h9.t⟩
            go_simp
            refine hK _ ?_
            clear hK K
            refine relR_end (by kernel_rfl) (fun W hW => ?_)
            have H9 := Lib.hid hW.1
            clear hW
            go_wp2
            go_roundw
            case rel => exact ⟨j + 1, z.c, z.a, by omega, by go_num, H9, HOk2⟩
            case measure => simp [intOf]; omega
    · have h6 : j = 6 := by omega
      subst h6
      have HIt := Lib.hid HL.out.isIt
      have p0 := HL.out.x.c0
      have p1 := HL.out.x.c1
      have p2 := HL.out.x.c2
      go_wp2_with (first
        | (go_at_call 22; (with_reducible refine (encode_V 8 2 ⟨Sm.of (by omega)⟩ (tItem vs) _ _ _ _ HIt.out (tAll vs)).mono ?_); rintro e w2 he; rw [enc_t] at he; obtain ⟨an, n, c, rfl, ho, hb2⟩ := he; have HO := Lib.hid ho; have HB2 := Lib.hid hb2; clear ho hb2))
      go_returns
      exact ⟨HL.out.b.trans (HB2.out.mono HL.out.b.size), .inl ⟨fun k hk => HOk.out k hk, _, _, _, rfl, HO.out.le HL.out.b.size⟩⟩
end Go.Proofs.YtgcpnhnckbgjmaaDoor
