/-
  mootref03.Same of one item in two places: true.
-/
import Derived.Test.YtcblbmjcfckgjaaDoorFix3
import Derived.Test.YtcblbmjcfckgjaaDoorRel
set_option linter.unusedVariables false
set_option linter.unusedSimpArgs false
namespace Go.Proofs.YtcblbmjcfckgjaaDoor
open Go.RowKit
variable {F E : Nat → Prop}
/-- The worlds of the two items' loop. -/
structure JC (w : World) (u v z u' v' z' : Value) (W : World) : Prop where
  b : Below w.heap.size w W
  s : SlotI W w.heap.size u v z
  t : SlotI W (w.heap.size + 1) u' v' z'
theorem JC.below {w : World} {u v z u' v' z' : Value} {W W' : World} (h : JC w u v z u' v' z' W) (hb : Below W.heap.size W W') : JC w u v z u' v' z' W' :=
  ⟨h.b.trans (hb.mono h.b.size), h.s.below hb, h.t.below hb⟩
theorem JC.cell {w : World} {u v z u' v' z' : Value} {W : World} (h : JC w u v z u' v' z' W) {b o : Nat} {x : Value} (hl : b < w.heap.size) (hc : w.cell? ⟨b, o, none⟩ = some x) : W.cell? ⟨b, o, none⟩ = some x := by
  rw [h.b.cell (p := ⟨b, o, none⟩) hl]; exact hc
def SameAt (F E : Nat → Prop) (k : Nat) : Prop := ∀ (x : Rlp.It) (u v z u' v' z' : Value) (w : World), IsIt F w k x u v z → IsIt E w k x u' v' z' →
    Calls Tryd.prog 10 #[.agg #[u, v, z], .agg #[u', v', z']] w fun e w' => e = .returned (.bool true) ∧ Below w.heap.size w w'
theorem SameAt.at {k : Nat} (h : SameAt F E k) (x : Rlp.It) (u v z u' v' z' : Value) (w : World) (h1 : IsIt F w k x u v z) (h2 : IsIt E w k x u' v' z') :
    Calls Tryd.prog 10 #[.agg #[u, v, z], .agg #[u', v', z']] w fun e w' => e = .returned (.bool true) ∧ Below w.heap.size w w' := h x u v z u' v' z' w h1 h2
set_option maxRecDepth 100000 in
set_option maxHeartbeats 4000000 in
theorem same_V : ∀ k : Nat, SameAt F E k := by
  intro k
  induction k with
  | zero => intro x u v z u' v' z' w h1; exact h1.elim
  | succ k ih =>
    intro x u v z u' v' z' w h1 h2
    obtain ⟨l, bs, its⟩ := x
    obtain ⟨rfl, ⟨a, c, rfl, hb1, hb2, hbn, hb⟩, a', c', rfl, hc1, hc2, h9⟩ := h1
    obtain ⟨rfl, ⟨d, e, rfl, kb1, kb2, kbn, kb⟩, d', e', rfl, kc1, kc2, k9⟩ := h2
    simp only [Rlp.It.items, Rlp.It.bytes, Rlp.It.list] at h9 hc1 hb1 hb k9 kc1 kb1 kb ⊢
    obtain ⟨n, hn⟩ : ∃ n, its.length = n := ⟨_, rfl⟩
    obtain ⟨m, hm⟩ : ∃ m, bs.length = m := ⟨_, rfl⟩
    rw [hn] at hc1 kc1 ⊢
    rw [hm] at hb1 kb1 ⊢
    have H9 := Lib.hid h9
    have K9 := Lib.hid k9
    have HN := Lib.hid hn
    have IH := Lib.hid ih
    unfold maxLen at hc2 kc2 hb2 kb2
    obtain ⟨W, hW⟩ : ∃ W, W = (w.alloc (.cells #[.bool l, .slice a m c, .slice a' n c'] TI)).alloc (.cells #[.bool l, .slice d m e, .slice d' n e'] TI) := ⟨_, rfl⟩
    have hbw : Below w.heap.size w W := by rw [hW]; exact ((Below.refl _ _).alloc (Nat.le_refl _) _).alloc (by simp) _
    have hcv : (convert TBS TS (.slice a m c)).run Tryd.prog W = .ok (strB bs) W := str_V hm hbn (hb.below hbw)
    have kcv : (convert TBS TS (.slice d m e)).run Tryd.prog W = .ok (strB bs) W := str_V hm kbn (kb.below hbw)
    have hg := run_guardn_str bs bs
    have he := run_neq_str bs bs
    have hd : decide (bs ≠ bs) = false := by simp
    have hll : (l != l) = false := by cases l <;> rfl
    rw [hW] at hcv kcv
    have HBW := Lib.hid hbw
    have HWW := Lib.hid hW
    clear hb kb h9 k9 hn hm ih hbw hW
    go_enter Tryd.func10, Tryd.ntmps10
    go_wp2
    go_loopw [5] (fun ii wr => ∃ j : Nat, j ≤ n ∧ ii = .int .i64 j ∧ Hid (JC w (.bool l) (.slice a m c) (.slice a' n c') (.bool l) (.slice d m e) (.slice d' n e') wr)) (fun ii _ => n - (intOf ii).toNat)
    case atStart =>
      rw [← HWW.out]
      refine ⟨0, by omega, rfl, HBW.out, ?_, ?_⟩
      · rw [HWW.out]; exact (SlotI.new w _ _ _).below ((Below.refl _ _).alloc (Nat.le_refl _) _)
      · rw [HWW.out]; exact ⟨by simp, by go_cell, by go_cell, by go_cell, by simp, by simp, by simp⟩
    case round =>
      obtain ⟨j, hj, rfl, HJ⟩ := hrel
      have s2 := HJ.out.s.c2
      have sl := HJ.out.s.lt
      by_cases hlt : j < n
      · have hl : j < its.length := by rw [HN.out]; exact hlt
        obtain ⟨b1, o1, u, v, z, ha, hF, hbl, c0, c1, c2, hx⟩ := H9.out j hl
        obtain ⟨b2, o2, u2, v2, z2, hd', kF, kbl, k0, k1, k2, kx⟩ := K9.out j hl
        obtain ⟨yl, ya, yn, yc, ya', yn', yc', rfl, rfl, rfl⟩ := hx.shape
        obtain ⟨xl, xa, xn, xc, xa', xn', xc', rfl, rfl, rfl⟩ := kx.shape
        subst ha
        subst hd'
        have HX := Lib.hid hx
        have KX := Lib.hid kx
        clear hx kx
        go_wp2_with fail
        refine wp_region_rel (JC w (.bool l) (.slice a m c) (.slice (some ⟨b1, o1, none⟩) n c') (.bool l) (.slice d m e) (.slice (some ⟨b2, o2, none⟩) n e')) (by kernel_rfl) (HJ.out.below (by (repeat' (first | (with_reducible exact Below.refl _ _) | (with_reducible refine Below.alloc ?_ ?_ _) | (with_reducible refine Below.drew ?_) | (with_reducible refine Below.setCell ?_ ?_ _) | (with_reducible refine Below.thn (by assumption) ?_ ?_) | (with_reducible refine below_drewN ?_ _) | go_size)))) ?_
        refine relR_pure 0 _ (by intro _ h; first | exact h | exact h.2) (by kernel_rfl) rfl (by kernel_rfl) (by kernel_rfl) (by go_simp) ?_
        apply Exists.intro
        refine ⟨fun W hW => ?_, fun K hK => ?_⟩
        · unfold effAt
          have s2 := hW.s.c2
          have t2 := hW.t.c2
          have d0 := hW.cell hbl c0
          have d1 := hW.cell hbl c1
          have d2 := hW.cell hbl c2
          have g0 := hW.cell kbl k0
          have g1 := hW.cell kbl k1
          have g2 := hW.cell kbl k2
          go_simp
          exact ⟨rfl, rfl⟩
        go_simp
        refine hK _ ?_
        clear hK K
        refine relR_pure 1 _ (by intro _ h; first | exact h | exact h.2) (by kernel_rfl) rfl (by kernel_rfl) (by kernel_rfl) (by go_simp) ?_
        apply Exists.intro
        refine ⟨fun W hW => ?_, fun K hK => ?_⟩
        · unfold effAt
          have s2 := hW.s.c2
          have t2 := hW.t.c2
          have d0 := hW.cell hbl c0
          have d1 := hW.cell hbl c1
          have d2 := hW.cell hbl c2
          have g0 := hW.cell kbl k0
          have g1 := hW.cell kbl k1
          have g2 := hW.cell kbl k2
          go_simp
          exact ⟨rfl, rfl⟩
        go_simp
        refine hK _ ?_
        clear hK K
        refine relR_pure 2 _ (by intro _ h; first | exact h | exact h.2) (by kernel_rfl) rfl (by kernel_rfl) (by kernel_rfl) (by go_simp) ?_
        apply Exists.intro
        refine ⟨fun W hW => ?_, fun K hK => ?_⟩
        · unfold effAt
          have s2 := hW.s.c2
          have t2 := hW.t.c2
          have d0 := hW.cell hbl c0
          have d1 := hW.cell hbl c1
          have d2 := hW.cell hbl c2
          have g0 := hW.cell kbl k0
          have g1 := hW.cell kbl k1
          have g2 := hW.cell kbl k2
          go_simp
          exact ⟨rfl, rfl⟩
        go_simp
        refine hK _ ?_
        clear hK K
        refine relR_pure 3 _ (by intro _ h; first | exact h | exact h.2) (by kernel_rfl) rfl (by kernel_rfl) (by kernel_rfl) (by go_simp) ?_
        apply Exists.intro
        refine ⟨fun W hW => ?_, fun K hK => ?_⟩
        · unfold effAt
          have s2 := hW.s.c2
          have t2 := hW.t.c2
          have d0 := hW.cell hbl c0
          have d1 := hW.cell hbl c1
          have d2 := hW.cell hbl c2
          have g0 := hW.cell kbl k0
          have g1 := hW.cell kbl k1
          have g2 := hW.cell kbl k2
          go_simp
          exact ⟨rfl, rfl⟩
        go_simp
        refine hK _ ?_
        clear hK K
        refine relR_pure 4 _ (by intro _ h; first | exact h | exact h.2) (by kernel_rfl) rfl (by kernel_rfl) (by kernel_rfl) (by go_simp) ?_
        apply Exists.intro
        refine ⟨fun W hW => ?_, fun K hK => ?_⟩
        · unfold effAt
          have s2 := hW.s.c2
          have t2 := hW.t.c2
          have d0 := hW.cell hbl c0
          have d1 := hW.cell hbl c1
          have d2 := hW.cell hbl c2
          have g0 := hW.cell kbl k0
          have g1 := hW.cell kbl k1
          have g2 := hW.cell kbl k2
          go_simp
          exact ⟨rfl, rfl⟩
        go_simp
        refine hK _ ?_
        clear hK K
        refine relR_pure 5 _ (by intro _ h; first | exact h | exact h.2) (by kernel_rfl) rfl (by kernel_rfl) (by kernel_rfl) (by go_simp) ?_
        apply Exists.intro
        refine ⟨fun W hW => ?_, fun K hK => ?_⟩
        · unfold effAt
          have s2 := hW.s.c2
          have t2 := hW.t.c2
          have d0 := hW.cell hbl c0
          have d1 := hW.cell hbl c1
          have d2 := hW.cell hbl c2
          have g0 := hW.cell kbl k0
          have g1 := hW.cell kbl k1
          have g2 := hW.cell kbl k2
          go_simp
          exact ⟨rfl, rfl⟩
        go_simp
        refine hK _ ?_
        clear hK K
        refine relR_pure 6 _ (by intro _ h; first | exact h | exact h.2) (by kernel_rfl) rfl (by kernel_rfl) (by kernel_rfl) (by go_simp) ?_
        apply Exists.intro
        refine ⟨fun W hW => ?_, fun K hK => ?_⟩
        · unfold effAt
          have s2 := hW.s.c2
          have t2 := hW.t.c2
          have d0 := hW.cell hbl c0
          have d1 := hW.cell hbl c1
          have d2 := hW.cell hbl c2
          have g0 := hW.cell kbl k0
          have g1 := hW.cell kbl k1
          have g2 := hW.cell kbl k2
          go_simp
          exact ⟨rfl, rfl⟩
        go_simp
        refine hK _ ?_
        clear hK K
        refine relR_pure 7 _ (by intro _ h; first | exact h | exact h.2) (by kernel_rfl) rfl (by kernel_rfl) (by kernel_rfl) (by go_simp) ?_
        apply Exists.intro
        refine ⟨fun W hW => ?_, fun K hK => ?_⟩
        · unfold effAt
          have s2 := hW.s.c2
          have t2 := hW.t.c2
          have d0 := hW.cell hbl c0
          have d1 := hW.cell hbl c1
          have d2 := hW.cell hbl c2
          have g0 := hW.cell kbl k0
          have g1 := hW.cell kbl k1
          have g2 := hW.cell kbl k2
          go_simp
          exact ⟨rfl, rfl⟩
        go_simp
        refine hK _ ?_
        clear hK K
        refine relR_pure 8 _ (by intro _ h; first | exact h | exact h.2) (by kernel_rfl) rfl (by kernel_rfl) (by kernel_rfl) (by go_simp) ?_
        apply Exists.intro
        refine ⟨fun W hW => ?_, fun K hK => ?_⟩
        · unfold effAt
          have s2 := hW.s.c2
          have t2 := hW.t.c2
          have d0 := hW.cell hbl c0
          have d1 := hW.cell hbl c1
          have d2 := hW.cell hbl c2
          have g0 := hW.cell kbl k0
          have g1 := hW.cell kbl k1
          have g2 := hW.cell kbl k2
          go_simp
          exact ⟨rfl, rfl⟩
        go_simp
        refine hK _ ?_
        clear hK K
        refine relR_pure 9 _ (by intro _ h; first | exact h | exact h.2) (by kernel_rfl) rfl (by kernel_rfl) (by kernel_rfl) (by go_simp) ?_
        apply Exists.intro
        refine ⟨fun W hW => ?_, fun K hK => ?_⟩
        · unfold effAt
          have s2 := hW.s.c2
          have t2 := hW.t.c2
          have d0 := hW.cell hbl c0
          have d1 := hW.cell hbl c1
          have d2 := hW.cell hbl c2
          have g0 := hW.cell kbl k0
          have g1 := hW.cell kbl k1
          have g2 := hW.cell kbl k2
          go_simp
          exact ⟨rfl, rfl⟩
        go_simp
        refine hK _ ?_
        clear hK K
        refine relR_call 10 _ rfl (by kernel_rfl) (by go_simp) Unit (fun _ => .bool true) (fun _ => JC w (.bool l) (.slice a m c) (.slice (some ⟨b1, o1, none⟩) n c') (.bool l) (.slice d m e) (.slice (some ⟨b2, o2, none⟩) n e')) (fun _ => JC w (.bool l) (.slice a m c) (.slice (some ⟨b1, o1, none⟩) n c') (.bool l) (.slice d m e) (.slice (some ⟨b2, o2, none⟩) n e')) (fun _ _ h => h) (fun W hW => ?_) (fun _ K hK => ?_)
        · unfold effAt
          go_simp
          change Calls _ _ _ _ _
          go_at_call 10
          refine (IH.out.at (its.getD j default) _ _ _ _ _ _ W (HX.out.move fun b hF hl => ⟨hF, by have := hW.b.size; omega, hW.b.block b hl⟩) (KX.out.move fun b hF hl => ⟨hF, by have := hW.b.size; omega, hW.b.block b hl⟩)).mono ?_
          rintro e w' ⟨rfl, hb⟩
          have hj2 := hW.below hb
          first | exact ⟨_, rfl, rfl, hj2⟩ | exact ⟨_, rfl, (), rfl, hj2, hj2⟩ | exact ⟨_, rfl, rfl, hj2, hj2⟩
        go_simp
        refine hK _ ?_
        clear hK K
        refine relR_pure 11 _ (by intro _ h; first | exact h | exact h.2) (by kernel_rfl) rfl (by kernel_rfl) (by kernel_rfl) (by go_simp) ?_
        apply Exists.intro
        refine ⟨fun W hW => ?_, fun K hK => ?_⟩
        · unfold effAt
          go_simp
          exact ⟨rfl, rfl⟩
        go_simp
        refine hK _ ?_
        clear hK K
        refine relR_end (by kernel_rfl) (fun W hW => ?_)
        have HJ2 := Lib.hid hW.2
        clear hW
        go_wp2
        go_roundw
        case rel => exact ⟨j + 1, by omega, by go_num, HJ2⟩
        case measure => simp [intOf]; omega
      · have hjn : n = j := by omega
        go_wp2
        go_returns
        exact ⟨rfl, HJ.out.b⟩
end Go.Proofs.YtcblbmjcfckgjaaDoor
