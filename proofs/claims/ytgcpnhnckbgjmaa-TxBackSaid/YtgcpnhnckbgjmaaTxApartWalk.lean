/-
  TxApart: the walk.
-/
import Derived.Test.YtgcpnhnckbgjmaaTxEq
import Derived.Test.YtgcpnhnckbgjmaaTxOpen
import Derived.Test.YtgcpnhnckbgjmaaTxFix
set_option linter.unusedVariables false
set_option linter.unusedSimpArgs false
namespace Go.Proofs.Ytgcpnhnckbgjmaa
open Go.RowKit
open Go.Extern.Stop (cell)
theorem tenc_ok (vs : Nat → Nat) (w : World) (hv : wide vs) (ho : okTx vs) : Calls Try.prog 6 #[.agg #[.int .u64 (vs 0), .int .u64 (vs 1), .int .u64 (vs 2), .int .u64 (vs 3), .int .u64 (vs 4), .int .u64 (vs 5)]] w fun e w' => ∃ ao n c, e = .returned (.tuple #[.slice ao n c, .nilIface]) ∧ OwnB w' w.heap.size ao n c (Rlp.form (tItem vs)) ∧ Below w.heap.size w w' := by
  refine (tenc_V vs w (fun k hk => hv k hk)).mono ?_
  rintro e w' ⟨hb, ⟨_, ao, n, c, he, hw⟩ | ⟨hn, _⟩⟩
  · exact ⟨ao, n, c, he, hw, hb⟩
  · exact absurd ho hn
theorem tenc_bad (vs : Nat → Nat) (w : World) (hv : wide vs) (ho : ¬ okTx vs) : Calls Try.prog 6 #[.agg #[.int .u64 (vs 0), .int .u64 (vs 1), .int .u64 (vs 2), .int .u64 (vs 3), .int .u64 (vs 4), .int .u64 (vs 5)]] w fun e w' => e = .returned (.tuple #[.slice none 0 0, .iface TE (.int .i64 2)]) ∧ Below w.heap.size w w' := by
  refine (tenc_V vs w (fun k hk => hv k hk)).mono ?_
  rintro e w' ⟨hb, ⟨h, _⟩ | ⟨_, he⟩⟩
  · exact absurd h ho
  · exact ⟨he, hb⟩
theorem rec_W (vs : Nat → Nat) (w : World) (hv : wide vs) : Calls Try.prog 7 #[.agg #[.int .u64 (vs 0), .int .u64 (vs 1), .int .u64 (vs 2), .int .u64 (vs 3), .int .u64 (vs 4), .int .u64 (vs 5)]] w (fun e w' => e = .returned (.agg ((recL vs).map cell).toArray) ∧ Below w.heap.size w w') := rec_V vs w (fun k hk => hv k hk)
structure AP (w : World) (vs us : Nat → Nat) (W : World) : Prop where
  b : Below w.heap.size w W
  t : TXC w.heap.size vs W
  u : TXC (w.heap.size + 1) us W
theorem AP.below {w W W' : World} {vs us : Nat → Nat} (h : AP w vs us W) (hb : Below W.heap.size W W') : AP w vs us W' := ⟨h.b.trans (hb.mono h.b.size), h.t.below hb, h.u.below hb⟩
theorem TXC.new (W : World) (vs : Nat → Nat) (b : Nat) (hb : W.heap.size = b) : TXC b vs (W.alloc (.cells #[.int .u64 (vs 0), .int .u64 (vs 1), .int .u64 (vs 2), .int .u64 (vs 3), .int .u64 (vs 4), .int .u64 (vs 5)] TTX)) := by
  subst hb
  refine ⟨by simp, fun k hk => ?_⟩
  rcases (by omega : k = 0 ∨ k = 1 ∨ k = 2 ∨ k = 3 ∨ k = 4 ∨ k = 5) with rfl | rfl | rfl | rfl | rfl | rfl
  all_goals exact (World.cell?_alloc_at _ _ _ _ rfl).trans rfl
theorem AP.new (w : World) (vs us : Nat → Nat) : AP w vs us ((w.alloc (.cells #[.int .u64 (vs 0), .int .u64 (vs 1), .int .u64 (vs 2), .int .u64 (vs 3), .int .u64 (vs 4), .int .u64 (vs 5)] TTX)).alloc (.cells #[.int .u64 (us 0), .int .u64 (us 1), .int .u64 (us 2), .int .u64 (us 3), .int .u64 (us 4), .int .u64 (us 5)] TTX)) :=
  ⟨((Below.refl _ _).alloc (Nat.le_refl _) _).alloc (by simp) _, (TXC.new w vs _ rfl).below ((Below.refl _ _).alloc (Nat.le_refl _) _), TXC.new _ us _ (by simp)⟩
abbrev AS (w w2 : World) (vs us : Nat → Nat) (W : World) : Prop := AP w vs us W ∧ Below w2.heap.size w2 W
theorem asKeep {w w2 : World} {vs us : Nat → Nat} : ∀ W W', AS w w2 vs us W → Below W.heap.size W W' → AS w w2 vs us W' := fun W W' h hb => ⟨h.1.below hb, h.2.trans (hb.mono h.2.size)⟩
set_option maxRecDepth 100000 in
set_option maxHeartbeats 8000000 in
theorem apart_bb (w : World) (vs us : Nat → Nat) (hvs : wide vs) (hus : wide us) (hovs : okTx vs) (hous : okTx us) (b : Bool) (hb : sameT vs us = b) :
    Calls Try.prog 3 #[txV vs, txV us] w fun e w' => e = .returned (.bool true) ∧ Below w.heap.size w w' := by
  have eqt := fun W => (eql_tx vs us W).trans (by rw [hb])
  have eqr := fun W => (eql_rec (recL vs) (recL us) (recL_len _) (recL_len _) W).trans (by rw [rec_same vs us hvs hus, hb])
  have gt := fun (o : BinOp) (x y : Operand) (xs ys : Array Value) (W : World) => guard_tx o x y xs ys W
  have gr := fun (o : BinOp) (x y : Operand) (xs ys : Array Value) (W : World) => guard_rec o x y xs ys W
  have es := run_eql_str (Rlp.form (tItem vs)) (Rlp.form (tItem us))
  have eg := run_guard_str (Rlp.form (tItem vs)) (Rlp.form (tItem us))
  have ed := (form_same vs us hvs hus).trans hb
  have H0 : Hid (AP w vs us _) := AP.new w vs us
  unfold txV
  clear hb
  cases b
  all_goals
    go_enter Try.func3, Try.ntmps3
    go_wp2_with (first
      | (go_at_call 6; (with_reducible refine (tenc_ok vs _ hvs hovs).mono ?_); rintro e w1 ⟨avs, nvs, cvs, rfl, hw1, hb1⟩; have H1 := Lib.hid (H0.out.below hb1); have p0_1 := H1.out.t.2 0 (by decide); have p1_1 := H1.out.t.2 1 (by decide); have p2_1 := H1.out.t.2 2 (by decide); have p3_1 := H1.out.t.2 3 (by decide); have p4_1 := H1.out.t.2 4 (by decide); have p5_1 := H1.out.t.2 5 (by decide); have r0_1 := H1.out.u.2 0 (by decide); have r1_1 := H1.out.u.2 1 (by decide); have r2_1 := H1.out.u.2 2 (by decide); have r3_1 := H1.out.u.2 3 (by decide); have r4_1 := H1.out.u.2 4 (by decide); have r5_1 := H1.out.u.2 5 (by decide); have HOvs := Lib.hid hw1; have HB1 := Lib.hid hb1; clear hb1 hw1)
      | (go_at_call 6; (with_reducible refine (tenc_ok us _ hus hous).mono ?_); rintro e w2 ⟨aus, nus, cus, rfl, hw2, hb2⟩; have H2 := Lib.hid (H1.out.below hb2); have p0_2 := H2.out.t.2 0 (by decide); have p1_2 := H2.out.t.2 1 (by decide); have p2_2 := H2.out.t.2 2 (by decide); have p3_2 := H2.out.t.2 3 (by decide); have p4_2 := H2.out.t.2 4 (by decide); have p5_2 := H2.out.t.2 5 (by decide); have r0_2 := H2.out.u.2 0 (by decide); have r1_2 := H2.out.u.2 1 (by decide); have r2_2 := H2.out.u.2 2 (by decide); have r3_2 := H2.out.u.2 3 (by decide); have r4_2 := H2.out.u.2 4 (by decide); have r5_2 := H2.out.u.2 5 (by decide); have HOus := Lib.hid hw2; have HB2 := Lib.hid hb2; clear hb2 hw2))
    have hS : AS w w2 vs us w2 := ⟨H2.out, Below.refl _ _⟩
    have hne : Nonempty (Held (AS w w2 vs us)) := ⟨⟨_, hS⟩⟩
    have i0 : ∀ t : Held (AS w w2 vs us), t.w.cell? ⟨w.heap.size, 0, none⟩ = some (.int .u64 (vs 0)) := fun t => t.ok.1.t.2 0 (by decide)
    have i1 : ∀ t : Held (AS w w2 vs us), t.w.cell? ⟨w.heap.size, 1, none⟩ = some (.int .u64 (vs 1)) := fun t => t.ok.1.t.2 1 (by decide)
    have i2 : ∀ t : Held (AS w w2 vs us), t.w.cell? ⟨w.heap.size, 2, none⟩ = some (.int .u64 (vs 2)) := fun t => t.ok.1.t.2 2 (by decide)
    have i3 : ∀ t : Held (AS w w2 vs us), t.w.cell? ⟨w.heap.size, 3, none⟩ = some (.int .u64 (vs 3)) := fun t => t.ok.1.t.2 3 (by decide)
    have i4 : ∀ t : Held (AS w w2 vs us), t.w.cell? ⟨w.heap.size, 4, none⟩ = some (.int .u64 (vs 4)) := fun t => t.ok.1.t.2 4 (by decide)
    have i5 : ∀ t : Held (AS w w2 vs us), t.w.cell? ⟨w.heap.size, 5, none⟩ = some (.int .u64 (vs 5)) := fun t => t.ok.1.t.2 5 (by decide)
    have k0 : ∀ t : Held (AS w w2 vs us), t.w.cell? ⟨w.heap.size + 1, 0, none⟩ = some (.int .u64 (us 0)) := fun t => t.ok.1.u.2 0 (by decide)
    have k1 : ∀ t : Held (AS w w2 vs us), t.w.cell? ⟨w.heap.size + 1, 1, none⟩ = some (.int .u64 (us 1)) := fun t => t.ok.1.u.2 1 (by decide)
    have k2 : ∀ t : Held (AS w w2 vs us), t.w.cell? ⟨w.heap.size + 1, 2, none⟩ = some (.int .u64 (us 2)) := fun t => t.ok.1.u.2 2 (by decide)
    have k3 : ∀ t : Held (AS w w2 vs us), t.w.cell? ⟨w.heap.size + 1, 3, none⟩ = some (.int .u64 (us 3)) := fun t => t.ok.1.u.2 3 (by decide)
    have k4 : ∀ t : Held (AS w w2 vs us), t.w.cell? ⟨w.heap.size + 1, 4, none⟩ = some (.int .u64 (us 4)) := fun t => t.ok.1.u.2 4 (by decide)
    have k5 : ∀ t : Held (AS w w2 vs us), t.w.cell? ⟨w.heap.size + 1, 5, none⟩ = some (.int .u64 (us 5)) := fun t => t.ok.1.u.2 5 (by decide)
    clear p0_1 r0_1 p1_1 r1_1 p2_1 r2_1 p3_1 r3_1 p4_1 r4_1 p5_1 r5_1 p0_2 r0_2 p1_2 r1_2 p2_2 r2_2 p3_2 r3_2 p4_2 r4_2 p5_2 r5_2
    refine wp_region_held (S := AS w w2 vs us) (by kernel_rfl) (by kernel_rfl) (asKeep _ _ hS (Below.refl _ _).drew) ?_
    repeat (go_big_quiet_step (first
      | (go_at_call 7; with_reducible exact held_call (rec_W vs _ hvs) asKeep)
      | (go_at_call 7; with_reducible exact held_call (rec_W us _ hus) asKeep)
      | (go_at_call 8; with_reducible exact held_call (fixed4_V _) asKeep)))
    refine wpQuiet_nil ?_
    intro _ hw'
    obtain ⟨s6, hw''⟩ := hw'
    subst hw''
    have cv : ∀ t : Held (AS w w2 vs us), (convert TBS TS (.slice avs nvs cvs)).run Try.prog t.w = .ok (strB (Rlp.form (tItem vs))) t.w := fun t => ((HOvs.out.below HB2.out).below t.ok.2).str
    have cu : ∀ t : Held (AS w w2 vs us), (convert TBS TS (.slice aus nus cus)).run Try.prog t.w = .ok (strB (Rlp.form (tItem us))) t.w := fun t => (HOus.out.below t.ok.2).str
    go_wp2_with fail
    refine wp_region_held (S := AS w w2 vs us) (by kernel_rfl) (by kernel_rfl) (asKeep _ _ s6.ok (Below.refl _ _).drew) ?_
    repeat (go_big_quiet_step (fail))
    refine wpQuiet_nil ?_
    intro _ hw'
    obtain ⟨s7, hw''⟩ := hw'
    subst hw''
    go_wp2
    go_returns
    exact ⟨by simp, s7.ok.1.b⟩
set_option maxRecDepth 100000 in
set_option maxHeartbeats 8000000 in
theorem apart_bn (w : World) (vs us : Nat → Nat) (hvs : wide vs) (hus : wide us) (hovs : okTx vs) (hous : ¬ okTx us) (b : Bool) (hb : sameT vs us = b) :
    Calls Try.prog 3 #[txV vs, txV us] w fun e w' => e = .returned (.bool true) ∧ Below w.heap.size w w' := by
  have eqt := fun W => (eql_tx vs us W).trans (by rw [hb])
  have eqr := fun W => (eql_rec (recL vs) (recL us) (recL_len _) (recL_len _) W).trans (by rw [rec_same vs us hvs hus, hb])
  have gt := fun (o : BinOp) (x y : Operand) (xs ys : Array Value) (W : World) => guard_tx o x y xs ys W
  have gr := fun (o : BinOp) (x y : Operand) (xs ys : Array Value) (W : World) => guard_rec o x y xs ys W
  have es := run_eql_str (Rlp.form (tItem vs)) (Rlp.form (tItem us))
  have eg := run_guard_str (Rlp.form (tItem vs)) (Rlp.form (tItem us))
  have ed := (form_same vs us hvs hus).trans hb
  have H0 : Hid (AP w vs us _) := AP.new w vs us
  unfold txV
  clear hb
  cases b
  all_goals
    go_enter Try.func3, Try.ntmps3
    go_wp2_with (first
      | (go_at_call 6; (with_reducible refine (tenc_ok vs _ hvs hovs).mono ?_); rintro e w1 ⟨avs, nvs, cvs, rfl, hw1, hb1⟩; have H1 := Lib.hid (H0.out.below hb1); have p0_1 := H1.out.t.2 0 (by decide); have p1_1 := H1.out.t.2 1 (by decide); have p2_1 := H1.out.t.2 2 (by decide); have p3_1 := H1.out.t.2 3 (by decide); have p4_1 := H1.out.t.2 4 (by decide); have p5_1 := H1.out.t.2 5 (by decide); have r0_1 := H1.out.u.2 0 (by decide); have r1_1 := H1.out.u.2 1 (by decide); have r2_1 := H1.out.u.2 2 (by decide); have r3_1 := H1.out.u.2 3 (by decide); have r4_1 := H1.out.u.2 4 (by decide); have r5_1 := H1.out.u.2 5 (by decide); have HOvs := Lib.hid hw1; have HB1 := Lib.hid hb1; clear hb1 hw1)
      | (go_at_call 6; (with_reducible refine (tenc_bad us _ hus hous).mono ?_); rintro e w2 ⟨rfl, hb2⟩; have H2 := Lib.hid (H1.out.below hb2); have p0_2 := H2.out.t.2 0 (by decide); have p1_2 := H2.out.t.2 1 (by decide); have p2_2 := H2.out.t.2 2 (by decide); have p3_2 := H2.out.t.2 3 (by decide); have p4_2 := H2.out.t.2 4 (by decide); have p5_2 := H2.out.t.2 5 (by decide); have r0_2 := H2.out.u.2 0 (by decide); have r1_2 := H2.out.u.2 1 (by decide); have r2_2 := H2.out.u.2 2 (by decide); have r3_2 := H2.out.u.2 3 (by decide); have r4_2 := H2.out.u.2 4 (by decide); have r5_2 := H2.out.u.2 5 (by decide); have HB2 := Lib.hid hb2; clear hb2))
    have hS : AS w w2 vs us w2 := ⟨H2.out, Below.refl _ _⟩
    have hne : Nonempty (Held (AS w w2 vs us)) := ⟨⟨_, hS⟩⟩
    have i0 : ∀ t : Held (AS w w2 vs us), t.w.cell? ⟨w.heap.size, 0, none⟩ = some (.int .u64 (vs 0)) := fun t => t.ok.1.t.2 0 (by decide)
    have i1 : ∀ t : Held (AS w w2 vs us), t.w.cell? ⟨w.heap.size, 1, none⟩ = some (.int .u64 (vs 1)) := fun t => t.ok.1.t.2 1 (by decide)
    have i2 : ∀ t : Held (AS w w2 vs us), t.w.cell? ⟨w.heap.size, 2, none⟩ = some (.int .u64 (vs 2)) := fun t => t.ok.1.t.2 2 (by decide)
    have i3 : ∀ t : Held (AS w w2 vs us), t.w.cell? ⟨w.heap.size, 3, none⟩ = some (.int .u64 (vs 3)) := fun t => t.ok.1.t.2 3 (by decide)
    have i4 : ∀ t : Held (AS w w2 vs us), t.w.cell? ⟨w.heap.size, 4, none⟩ = some (.int .u64 (vs 4)) := fun t => t.ok.1.t.2 4 (by decide)
    have i5 : ∀ t : Held (AS w w2 vs us), t.w.cell? ⟨w.heap.size, 5, none⟩ = some (.int .u64 (vs 5)) := fun t => t.ok.1.t.2 5 (by decide)
    have k0 : ∀ t : Held (AS w w2 vs us), t.w.cell? ⟨w.heap.size + 1, 0, none⟩ = some (.int .u64 (us 0)) := fun t => t.ok.1.u.2 0 (by decide)
    have k1 : ∀ t : Held (AS w w2 vs us), t.w.cell? ⟨w.heap.size + 1, 1, none⟩ = some (.int .u64 (us 1)) := fun t => t.ok.1.u.2 1 (by decide)
    have k2 : ∀ t : Held (AS w w2 vs us), t.w.cell? ⟨w.heap.size + 1, 2, none⟩ = some (.int .u64 (us 2)) := fun t => t.ok.1.u.2 2 (by decide)
    have k3 : ∀ t : Held (AS w w2 vs us), t.w.cell? ⟨w.heap.size + 1, 3, none⟩ = some (.int .u64 (us 3)) := fun t => t.ok.1.u.2 3 (by decide)
    have k4 : ∀ t : Held (AS w w2 vs us), t.w.cell? ⟨w.heap.size + 1, 4, none⟩ = some (.int .u64 (us 4)) := fun t => t.ok.1.u.2 4 (by decide)
    have k5 : ∀ t : Held (AS w w2 vs us), t.w.cell? ⟨w.heap.size + 1, 5, none⟩ = some (.int .u64 (us 5)) := fun t => t.ok.1.u.2 5 (by decide)
    clear p0_1 r0_1 p1_1 r1_1 p2_1 r2_1 p3_1 r3_1 p4_1 r4_1 p5_1 r5_1 p0_2 r0_2 p1_2 r1_2 p2_2 r2_2 p3_2 r3_2 p4_2 r4_2 p5_2 r5_2
    refine wp_region_held (S := AS w w2 vs us) (by kernel_rfl) (by kernel_rfl) (asKeep _ _ hS (Below.refl _ _).drew) ?_
    repeat (go_big_quiet_step (first
      | (go_at_call 7; with_reducible exact held_call (rec_W vs _ hvs) asKeep)
      | (go_at_call 7; with_reducible exact held_call (rec_W us _ hus) asKeep)
      | (go_at_call 8; with_reducible exact held_call (fixed4_V _) asKeep)))
    refine wpQuiet_nil ?_
    intro _ hw'
    obtain ⟨s6, hw''⟩ := hw'
    subst hw''
    go_wp2_with fail
    refine wp_region_held (S := AS w w2 vs us) (by kernel_rfl) (by kernel_rfl) (asKeep _ _ s6.ok (Below.refl _ _).drew) ?_
    repeat (go_big_quiet_step (fail))
    refine wpQuiet_nil ?_
    intro _ hw'
    obtain ⟨s7, hw''⟩ := hw'
    subst hw''
    go_wp2
    go_returns
    exact ⟨by simp, s7.ok.1.b⟩
set_option maxRecDepth 100000 in
set_option maxHeartbeats 8000000 in
theorem apart_n (w : World) (vs us : Nat → Nat) (hvs : wide vs) (hus : wide us) (hovs : ¬ okTx vs) (hous : okTx us) (b : Bool) (hb : sameT vs us = b) :
    Calls Try.prog 3 #[txV vs, txV us] w fun e w' => e = .returned (.bool true) ∧ Below w.heap.size w w' := by
  have eqt := fun W => (eql_tx vs us W).trans (by rw [hb])
  have eqr := fun W => (eql_rec (recL vs) (recL us) (recL_len _) (recL_len _) W).trans (by rw [rec_same vs us hvs hus, hb])
  have gt := fun (o : BinOp) (x y : Operand) (xs ys : Array Value) (W : World) => guard_tx o x y xs ys W
  have gr := fun (o : BinOp) (x y : Operand) (xs ys : Array Value) (W : World) => guard_rec o x y xs ys W
  have es := run_eql_str (Rlp.form (tItem vs)) (Rlp.form (tItem us))
  have eg := run_guard_str (Rlp.form (tItem vs)) (Rlp.form (tItem us))
  have ed := (form_same vs us hvs hus).trans hb
  have H0 : Hid (AP w vs us _) := AP.new w vs us
  unfold txV
  clear hb
  cases b
  all_goals
    go_enter Try.func3, Try.ntmps3
    go_wp2_with (first
      | (go_at_call 6; (with_reducible refine (tenc_bad vs _ hvs hovs).mono ?_); rintro e w1 ⟨rfl, hb1⟩; have H1 := Lib.hid (H0.out.below hb1); have p0_1 := H1.out.t.2 0 (by decide); have p1_1 := H1.out.t.2 1 (by decide); have p2_1 := H1.out.t.2 2 (by decide); have p3_1 := H1.out.t.2 3 (by decide); have p4_1 := H1.out.t.2 4 (by decide); have p5_1 := H1.out.t.2 5 (by decide); have r0_1 := H1.out.u.2 0 (by decide); have r1_1 := H1.out.u.2 1 (by decide); have r2_1 := H1.out.u.2 2 (by decide); have r3_1 := H1.out.u.2 3 (by decide); have r4_1 := H1.out.u.2 4 (by decide); have r5_1 := H1.out.u.2 5 (by decide); have HB1 := Lib.hid hb1; clear hb1)
      | (go_at_call 6; (with_reducible refine (tenc_ok us _ hus hous).mono ?_); rintro e w2 ⟨aus, nus, cus, rfl, hw2, hb2⟩; have H2 := Lib.hid (H1.out.below hb2); have p0_2 := H2.out.t.2 0 (by decide); have p1_2 := H2.out.t.2 1 (by decide); have p2_2 := H2.out.t.2 2 (by decide); have p3_2 := H2.out.t.2 3 (by decide); have p4_2 := H2.out.t.2 4 (by decide); have p5_2 := H2.out.t.2 5 (by decide); have r0_2 := H2.out.u.2 0 (by decide); have r1_2 := H2.out.u.2 1 (by decide); have r2_2 := H2.out.u.2 2 (by decide); have r3_2 := H2.out.u.2 3 (by decide); have r4_2 := H2.out.u.2 4 (by decide); have r5_2 := H2.out.u.2 5 (by decide); have HOus := Lib.hid hw2; have HB2 := Lib.hid hb2; clear hb2 hw2))
    have hS : AS w w2 vs us w2 := ⟨H2.out, Below.refl _ _⟩
    have hne : Nonempty (Held (AS w w2 vs us)) := ⟨⟨_, hS⟩⟩
    have i0 : ∀ t : Held (AS w w2 vs us), t.w.cell? ⟨w.heap.size, 0, none⟩ = some (.int .u64 (vs 0)) := fun t => t.ok.1.t.2 0 (by decide)
    have i1 : ∀ t : Held (AS w w2 vs us), t.w.cell? ⟨w.heap.size, 1, none⟩ = some (.int .u64 (vs 1)) := fun t => t.ok.1.t.2 1 (by decide)
    have i2 : ∀ t : Held (AS w w2 vs us), t.w.cell? ⟨w.heap.size, 2, none⟩ = some (.int .u64 (vs 2)) := fun t => t.ok.1.t.2 2 (by decide)
    have i3 : ∀ t : Held (AS w w2 vs us), t.w.cell? ⟨w.heap.size, 3, none⟩ = some (.int .u64 (vs 3)) := fun t => t.ok.1.t.2 3 (by decide)
    have i4 : ∀ t : Held (AS w w2 vs us), t.w.cell? ⟨w.heap.size, 4, none⟩ = some (.int .u64 (vs 4)) := fun t => t.ok.1.t.2 4 (by decide)
    have i5 : ∀ t : Held (AS w w2 vs us), t.w.cell? ⟨w.heap.size, 5, none⟩ = some (.int .u64 (vs 5)) := fun t => t.ok.1.t.2 5 (by decide)
    have k0 : ∀ t : Held (AS w w2 vs us), t.w.cell? ⟨w.heap.size + 1, 0, none⟩ = some (.int .u64 (us 0)) := fun t => t.ok.1.u.2 0 (by decide)
    have k1 : ∀ t : Held (AS w w2 vs us), t.w.cell? ⟨w.heap.size + 1, 1, none⟩ = some (.int .u64 (us 1)) := fun t => t.ok.1.u.2 1 (by decide)
    have k2 : ∀ t : Held (AS w w2 vs us), t.w.cell? ⟨w.heap.size + 1, 2, none⟩ = some (.int .u64 (us 2)) := fun t => t.ok.1.u.2 2 (by decide)
    have k3 : ∀ t : Held (AS w w2 vs us), t.w.cell? ⟨w.heap.size + 1, 3, none⟩ = some (.int .u64 (us 3)) := fun t => t.ok.1.u.2 3 (by decide)
    have k4 : ∀ t : Held (AS w w2 vs us), t.w.cell? ⟨w.heap.size + 1, 4, none⟩ = some (.int .u64 (us 4)) := fun t => t.ok.1.u.2 4 (by decide)
    have k5 : ∀ t : Held (AS w w2 vs us), t.w.cell? ⟨w.heap.size + 1, 5, none⟩ = some (.int .u64 (us 5)) := fun t => t.ok.1.u.2 5 (by decide)
    clear p0_1 r0_1 p1_1 r1_1 p2_1 r2_1 p3_1 r3_1 p4_1 r4_1 p5_1 r5_1 p0_2 r0_2 p1_2 r1_2 p2_2 r2_2 p3_2 r3_2 p4_2 r4_2 p5_2 r5_2
    refine wp_region_held (S := AS w w2 vs us) (by kernel_rfl) (by kernel_rfl) (asKeep _ _ hS (Below.refl _ _).drew) ?_
    repeat (go_big_quiet_step (first
      | (go_at_call 7; with_reducible exact held_call (rec_W vs _ hvs) asKeep)
      | (go_at_call 7; with_reducible exact held_call (rec_W us _ hus) asKeep)
      | (go_at_call 8; with_reducible exact held_call (fixed4_V _) asKeep)))
    refine wpQuiet_nil ?_
    intro _ hw'
    obtain ⟨s6, hw''⟩ := hw'
    subst hw''
    go_wp2_with fail
    refine wp_region_held (S := AS w w2 vs us) (by kernel_rfl) (by kernel_rfl) (asKeep _ _ s6.ok (Below.refl _ _).drew) ?_
    repeat (go_big_quiet_step (fail))
    refine wpQuiet_nil ?_
    intro _ hw'
    obtain ⟨s7, hw''⟩ := hw'
    subst hw''
    go_wp2
    go_returns
    exact ⟨by simp, s7.ok.1.b⟩
set_option maxRecDepth 100000 in
set_option maxHeartbeats 8000000 in
theorem apart_nn (w : World) (vs us : Nat → Nat) (hvs : wide vs) (hus : wide us) (hovs : ¬ okTx vs) (hous : ¬ okTx us) (b : Bool) (hb : sameT vs us = b) :
    Calls Try.prog 3 #[txV vs, txV us] w fun e w' => e = .returned (.bool true) ∧ Below w.heap.size w w' := by
  have eqt := fun W => (eql_tx vs us W).trans (by rw [hb])
  have eqr := fun W => (eql_rec (recL vs) (recL us) (recL_len _) (recL_len _) W).trans (by rw [rec_same vs us hvs hus, hb])
  have gt := fun (o : BinOp) (x y : Operand) (xs ys : Array Value) (W : World) => guard_tx o x y xs ys W
  have gr := fun (o : BinOp) (x y : Operand) (xs ys : Array Value) (W : World) => guard_rec o x y xs ys W
  have es := run_eql_str (Rlp.form (tItem vs)) (Rlp.form (tItem us))
  have eg := run_guard_str (Rlp.form (tItem vs)) (Rlp.form (tItem us))
  have ed := (form_same vs us hvs hus).trans hb
  have H0 : Hid (AP w vs us _) := AP.new w vs us
  unfold txV
  clear hb
  cases b
  all_goals
    go_enter Try.func3, Try.ntmps3
    go_wp2_with (first
      | (go_at_call 6; (with_reducible refine (tenc_bad vs _ hvs hovs).mono ?_); rintro e w1 ⟨rfl, hb1⟩; have H1 := Lib.hid (H0.out.below hb1); have p0_1 := H1.out.t.2 0 (by decide); have p1_1 := H1.out.t.2 1 (by decide); have p2_1 := H1.out.t.2 2 (by decide); have p3_1 := H1.out.t.2 3 (by decide); have p4_1 := H1.out.t.2 4 (by decide); have p5_1 := H1.out.t.2 5 (by decide); have r0_1 := H1.out.u.2 0 (by decide); have r1_1 := H1.out.u.2 1 (by decide); have r2_1 := H1.out.u.2 2 (by decide); have r3_1 := H1.out.u.2 3 (by decide); have r4_1 := H1.out.u.2 4 (by decide); have r5_1 := H1.out.u.2 5 (by decide); have HB1 := Lib.hid hb1; clear hb1)
      | (go_at_call 6; (with_reducible refine (tenc_bad us _ hus hous).mono ?_); rintro e w2 ⟨rfl, hb2⟩; have H2 := Lib.hid (H1.out.below hb2); have p0_2 := H2.out.t.2 0 (by decide); have p1_2 := H2.out.t.2 1 (by decide); have p2_2 := H2.out.t.2 2 (by decide); have p3_2 := H2.out.t.2 3 (by decide); have p4_2 := H2.out.t.2 4 (by decide); have p5_2 := H2.out.t.2 5 (by decide); have r0_2 := H2.out.u.2 0 (by decide); have r1_2 := H2.out.u.2 1 (by decide); have r2_2 := H2.out.u.2 2 (by decide); have r3_2 := H2.out.u.2 3 (by decide); have r4_2 := H2.out.u.2 4 (by decide); have r5_2 := H2.out.u.2 5 (by decide); have HB2 := Lib.hid hb2; clear hb2))
    have hS : AS w w2 vs us w2 := ⟨H2.out, Below.refl _ _⟩
    have hne : Nonempty (Held (AS w w2 vs us)) := ⟨⟨_, hS⟩⟩
    have i0 : ∀ t : Held (AS w w2 vs us), t.w.cell? ⟨w.heap.size, 0, none⟩ = some (.int .u64 (vs 0)) := fun t => t.ok.1.t.2 0 (by decide)
    have i1 : ∀ t : Held (AS w w2 vs us), t.w.cell? ⟨w.heap.size, 1, none⟩ = some (.int .u64 (vs 1)) := fun t => t.ok.1.t.2 1 (by decide)
    have i2 : ∀ t : Held (AS w w2 vs us), t.w.cell? ⟨w.heap.size, 2, none⟩ = some (.int .u64 (vs 2)) := fun t => t.ok.1.t.2 2 (by decide)
    have i3 : ∀ t : Held (AS w w2 vs us), t.w.cell? ⟨w.heap.size, 3, none⟩ = some (.int .u64 (vs 3)) := fun t => t.ok.1.t.2 3 (by decide)
    have i4 : ∀ t : Held (AS w w2 vs us), t.w.cell? ⟨w.heap.size, 4, none⟩ = some (.int .u64 (vs 4)) := fun t => t.ok.1.t.2 4 (by decide)
    have i5 : ∀ t : Held (AS w w2 vs us), t.w.cell? ⟨w.heap.size, 5, none⟩ = some (.int .u64 (vs 5)) := fun t => t.ok.1.t.2 5 (by decide)
    have k0 : ∀ t : Held (AS w w2 vs us), t.w.cell? ⟨w.heap.size + 1, 0, none⟩ = some (.int .u64 (us 0)) := fun t => t.ok.1.u.2 0 (by decide)
    have k1 : ∀ t : Held (AS w w2 vs us), t.w.cell? ⟨w.heap.size + 1, 1, none⟩ = some (.int .u64 (us 1)) := fun t => t.ok.1.u.2 1 (by decide)
    have k2 : ∀ t : Held (AS w w2 vs us), t.w.cell? ⟨w.heap.size + 1, 2, none⟩ = some (.int .u64 (us 2)) := fun t => t.ok.1.u.2 2 (by decide)
    have k3 : ∀ t : Held (AS w w2 vs us), t.w.cell? ⟨w.heap.size + 1, 3, none⟩ = some (.int .u64 (us 3)) := fun t => t.ok.1.u.2 3 (by decide)
    have k4 : ∀ t : Held (AS w w2 vs us), t.w.cell? ⟨w.heap.size + 1, 4, none⟩ = some (.int .u64 (us 4)) := fun t => t.ok.1.u.2 4 (by decide)
    have k5 : ∀ t : Held (AS w w2 vs us), t.w.cell? ⟨w.heap.size + 1, 5, none⟩ = some (.int .u64 (us 5)) := fun t => t.ok.1.u.2 5 (by decide)
    clear p0_1 r0_1 p1_1 r1_1 p2_1 r2_1 p3_1 r3_1 p4_1 r4_1 p5_1 r5_1 p0_2 r0_2 p1_2 r1_2 p2_2 r2_2 p3_2 r3_2 p4_2 r4_2 p5_2 r5_2
    refine wp_region_held (S := AS w w2 vs us) (by kernel_rfl) (by kernel_rfl) (asKeep _ _ hS (Below.refl _ _).drew) ?_
    repeat (go_big_quiet_step (first
      | (go_at_call 7; with_reducible exact held_call (rec_W vs _ hvs) asKeep)
      | (go_at_call 7; with_reducible exact held_call (rec_W us _ hus) asKeep)
      | (go_at_call 8; with_reducible exact held_call (fixed4_V _) asKeep)))
    refine wpQuiet_nil ?_
    intro _ hw'
    obtain ⟨s6, hw''⟩ := hw'
    subst hw''
    go_wp2_with fail
    refine wp_region_held (S := AS w w2 vs us) (by kernel_rfl) (by kernel_rfl) (asKeep _ _ s6.ok (Below.refl _ _).drew) ?_
    repeat (go_big_quiet_step (fail))
    refine wpQuiet_nil ?_
    intro _ hw'
    obtain ⟨s7, hw''⟩ := hw'
    subst hw''
    go_wp2
    go_returns
    exact ⟨by simp, s7.ok.1.b⟩
set_option maxRecDepth 100000 in
theorem txApart_walk {H : Type} {enc : TypeId × Value → H} {base : Nat} (w : World) {d0 : DataW H} {p0 : List MemPlace} (v0 : Value) (o0 : Value.okWide Try.prog w .any base TTX v0) (w0 : DataW.Trod enc Try.prog w 0 (fun _ => true) true TTX v0 d0 p0) {d1 : DataW H} {p1 : List MemPlace} (v1 : Value) (o1 : Value.okWide Try.prog w .any base TTX v1) (w1 : DataW.Trod enc Try.prog w 0 (fun _ => true) true TTX v1 d1 p1) :
    Calls Try.prog 3 #[v0, v1] w fun e w' => e = .returned (.bool true) ∧ Below w.heap.size w w' := by
  obtain ⟨vs, hv, rfl⟩ := tx_open o0 w0
  obtain ⟨us, hu, rfl⟩ := tx_open o1 w1
  by_cases h1 : okTx vs <;> by_cases h2 : okTx us
  · exact apart_bb w vs us hv hu h1 h2 _ rfl
  · exact apart_bn w vs us hv hu h1 h2 _ rfl
  · exact apart_n w vs us hv hu h1 h2 _ rfl
  · exact apart_nn w vs us hv hu h1 h2 _ rfl
end Go.Proofs.Ytgcpnhnckbgjmaa
