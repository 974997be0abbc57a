/-
  mootref03.Reader.item by its contract: the walk of the list behind a short head.
-/
import Derived.Test.YtgcpnhnckbgjmaaDoorRItemL
set_option linter.unusedVariables false
set_option linter.unusedSimpArgs false
namespace Go.Proofs.YtgcpnhnckbgjmaaDoor
open Go.RowKit
theorem wrap_up (D : Int) (h0 : 0 ≤ D) (h1 : D ≤ 15) : IntKind.i64.wrap (D + 1) = D + 1 := by
  simp [IntKind.wrap, IntKind.bits, IntKind.signed]
  omega
set_option maxRecDepth 100000 in
set_option maxHeartbeats 8000000 in
theorem ri_s192o (f : Nat) (w : World) (r bb off n c : Nat) (b : List UInt8) (i s : Nat) (D : Int) (hl : b.length = n) (hc : n ≤ c) (hcm : c ≤ maxLen) (hn : n ≤ 4096) (his : i < s) (hsn : s ≤ n) (hR : Rd w r (some ⟨bb, off, none⟩) n c i 0 0) (hb : BytesF (fun b => b < r) w (some ⟨bb, off, none⟩) b) (hD : D = 16 - (f + 1 : Nat)) (hf : f ≤ 15) (ih : RItemAt f) (d : Nat) (hy : (b.getD i 0).toNat = 192 + d) (hd : d < 56) (h : ¬ s - i - 1 < d) :
    Calls Tryd.prog 44 #[.pointer (some ⟨r, 0, none⟩), .int .i64 s, .int .i64 D] w (RItemRet w r (some ⟨bb, off, none⟩) n c (f + 1) (listEnd (Rlp.dList (Rlp.dItem b f) d (i + 1) (i + 1 + d) []) (i + 1 + d))) := by
  have IH := Lib.hid ih
  have HY := Lib.hid hb
  have HLn := Lib.hid hl
  have HM := Lib.hid hcm
  have HD := Lib.hid hD
  have hD0 : 0 ≤ D := by omega
  have hD1 : D ≤ 15 := by omega
  have hrl := hR.lt
  have hne : ¬ w.heap.size = r := by omega
  have hDw : IntKind.i64.wrap (D + 1) = D + 1 := wrap_up D hD0 hD1
  clear hD ih
  unfold maxLen at hcm
  have H := Lib.hid hR
  have rc0 := hR.c0
  have rc1 := hR.c1
  have rc2 : w.cell? ⟨r, 2, none⟩ = some (.int .i64 0) := hR.c2
  have rf1 := hR.f1
  have hlt := hR.lt
  have c0 : w.cell? ⟨bb, off + i, none⟩ = some (.int .u8 ((b.getD i 0).toNat : Int)) := (bytes_at hb i (by omega)).1
  have hbr : bb < r := (bytes_at hb i (by omega)).2
  have hbw : bb < w.heap.size := by omega
  have hDn : (D == 16) = false := by simp; omega
  have hYl := (b.getD i 0).toNat_lt
  obtain ⟨Y, hY⟩ : ∃ Y : Int, Y = ((b.getD i 0).toNat : Int) := ⟨_, rfl⟩
  rw [← hY] at c0
  have y1 : 128 ≤ Y := by omega
  have y2 : Y ≤ 255 := by omega
  have y3 : Y - 192 = (d : Int) := by omega
  have y4 : decide (Y ≥ 192) = true := by simp; omega
  have y5 : decide (192 ≤ Y) = true := by simp; omega
  have h3 : i + 1 + d ≤ s := by omega
  have HRC : Hid (RC w r (some ⟨bb, off, none⟩) n c (i + 1) ((w.setCell ⟨r, 1, none⟩ (.int .i64 ((i : Int) + 1))).alloc (.cells #[.bool false, .slice none 0 0, .slice none 0 0] TI))) := ⟨((Keep.refl r w).set rfl _).alloc _, (hR.setAt (i + 1) ((i : Int) + 1) (by omega)).below ((Below.refl _ _).alloc (Nat.le_refl _) (.cells #[.bool false, .slice none 0 0, .slice none 0 0] TI)), SlotI.newAt (w.setCell ⟨r, 1, none⟩ (.int .i64 ((i : Int) + 1))) w.heap.size (by simp) (.bool false) (.slice none 0 0) (.slice none 0 0)⟩
  clear hR hb hl hY hYl hy h
  go_enter Tryd.func44, Tryd.ntmps44
  go_wp2_with fail
  go_quiet (fail)
  go_wp2_with fail
  go_loopw [] (fun wr => LRel b (i + 1 + d) (Rlp.dList (Rlp.dItem b f) d (i + 1) (i + 1 + d) []) w r (some ⟨bb, off, none⟩) n c (w.heap.size + 1) f wr) (fun wr => LMeas r (i + 1 + d) wr)
  case atStart =>
    exact .inl ⟨0, 0, none, [], i + 1, d, ⟨(HRC.out.below (by (repeat' (first | (with_reducible exact Below.refl _ _) | (with_reducible refine Below.alloc ?_ ?_ _) | (with_reducible refine Below.drew ?_) | (with_reducible refine Below.setCell ?_ ?_ _) | (with_reducible refine Below.thn (by assumption) ?_ ?_) | (with_reducible refine below_drewN ?_ _) | go_size)))).k, (HRC.out.below (by (repeat' (first | (with_reducible exact Below.refl _ _) | (with_reducible refine Below.alloc ?_ ?_ _) | (with_reducible refine Below.drew ?_) | (with_reducible refine Below.setCell ?_ ?_ _) | (with_reducible refine Below.thn (by assumption) ?_ ?_) | (with_reducible refine below_drewN ?_ _) | go_size)))).s, SlotI.newAt _ _ (by simp) _ _ _, OwnI.nil _ _ _⟩, (HRC.out.below (by (repeat' (first | (with_reducible exact Below.refl _ _) | (with_reducible refine Below.alloc ?_ ?_ _) | (with_reducible refine Below.drew ?_) | (with_reducible refine Below.setCell ?_ ?_ _) | (with_reducible refine Below.thn (by assumption) ?_ ?_) | (with_reducible refine below_drewN ?_ _) | go_size)))).r, by omega, by omega, by omega, rfl⟩
  case round =>
    rcases hrel with ⟨q, cq, ao, its, x, g, hl⟩ | ⟨q, cq, ao, its, p, kk, jj, hl⟩
    · have HL := Lib.hid hl
      have r1 := hl.rd.c1
      have r2 : wr.cell? ⟨r, 2, none⟩ = some (.int .i64 0) := hl.rd.c2
      have hwr := hl.lc.x.lt
      by_cases hlt : x < i + 1 + d
      · have hlt2 : (x : Int) < (i : Int) + 1 + d := by omega
        have HQ : Hid (q ≤ 4096) := by have := hl.hq; show _ ≤ _; omega
        have HCall : Hid (∀ W, LC w r (w.heap.size + 1) (f + 1) q cq ao its W → Rd W r (some ⟨bb, off, none⟩) n c x 0 0 → Calls Tryd.prog 44 #[.pointer (some ⟨r, 0, none⟩), .int .i64 ((i : Int) + 1 + d), .int .i64 (D + 1)] W fun e w' => ∃ v : ItV, e = .returned (.agg #[.bool v.l, .slice v.a1 v.n1 v.c1, .slice v.a2 v.n2 v.c2]) ∧ L6 b f x (i + 1 + d) w r (some ⟨bb, off, none⟩) n c (w.heap.size + 1) q cq ao its v w') :=
          fun W h1 h2 => call_L6 (D := D) IH.out HLn.out hc HM.out hn hlt (by omega) HY.out (by have := HD.out; omega) (by omega) (by omega) hrl (Nat.lt_succ_self _) W h1 h2
        clear hl
        go_wp2_with fail
        refine wp_region_relG (fun _ => True) (fun W => LC w r (w.heap.size + 1) (f + 1) q cq ao its W ∧ Rd W r (some ⟨bb, off, none⟩) n c x 0 0) (by kernel_rfl) ⟨HL.out.lc.below (by (repeat' (first | (with_reducible exact Below.refl _ _) | (with_reducible refine Below.alloc ?_ ?_ _) | (with_reducible refine Below.drew ?_) | (with_reducible refine Below.setCell ?_ ?_ _) | (with_reducible refine Below.thn (by assumption) ?_ ?_) | (with_reducible refine below_drewN ?_ _) | go_size))), HL.out.rd.below (by (repeat' (first | (with_reducible exact Below.refl _ _) | (with_reducible refine Below.alloc ?_ ?_ _) | (with_reducible refine Below.drew ?_) | (with_reducible refine Below.setCell ?_ ?_ _) | (with_reducible refine Below.thn (by assumption) ?_ ?_) | (with_reducible refine below_drewN ?_ _) | go_size)))⟩ ?_
        refine relR_pure 0 _ (by intro _ _; trivial) (by kernel_rfl) rfl (by kernel_rfl) (by kernel_rfl) (by go_simp) ?_
        apply Exists.intro
        refine ⟨fun W hW => ?_, fun K hK => ?_⟩
        · unfold effAt
          go_simp
          exact ⟨rfl, rfl⟩
        go_simp
        refine hK _ ?_
        clear hK K
        refine relR_pure 2 _ (by intro _ _; trivial) (by kernel_rfl) rfl (by kernel_rfl) (by kernel_rfl) (by go_simp) ?_
        apply Exists.intro
        refine ⟨fun W hW => ?_, fun K hK => ?_⟩
        · unfold effAt
          go_simp
          exact ⟨rfl, rfl⟩
        go_simp
        refine hK _ ?_
        clear hK K
        refine relR_pure 3 _ (by intro _ _; trivial) (by kernel_rfl) rfl (by kernel_rfl) (by kernel_rfl) (by go_simp) ?_
        apply Exists.intro
        refine ⟨fun W hW => ?_, fun K hK => ?_⟩
        · unfold effAt
          go_simp
          exact ⟨rfl, rfl⟩
        go_simp
        refine hK _ ?_
        clear hK K
        refine relR_pure 4 _ (by intro _ _; trivial) (by kernel_rfl) rfl (by kernel_rfl) (by kernel_rfl) (by go_simp) ?_
        apply Exists.intro
        refine ⟨fun W hW => ?_, fun K hK => ?_⟩
        · unfold effAt
          go_simp
          exact ⟨rfl, rfl⟩
        go_simp
        refine hK _ ?_
        clear hK K
        refine relR_pure 5 _ (by intro _ _; trivial) (by kernel_rfl) rfl (by kernel_rfl) (by kernel_rfl) (by go_simp) ?_
        apply Exists.intro
        refine ⟨fun W hW => ?_, fun K hK => ?_⟩
        · unfold effAt
          go_simp
          exact ⟨rfl, rfl⟩
        go_simp
        refine hK _ ?_
        clear hK K
        refine relR_pair 1 6 (by kernel_rfl) ?_ ?_
        · skip
          refine relOp_call 1 _ rfl (by go_simp) Unit (fun _ => .slice ao q cq) (fun _ _ => True) (fun _ => (fun W => LC w r (w.heap.size + 1) (f + 1) q cq ao its W ∧ Rd W r (some ⟨bb, off, none⟩) n c x 0 0)) (fun _ _ _ => trivial) (fun W hW => ?_) (fun _ K hK => ?_)
          · have hx2 := hW.1.x.c2
            unfold effAt
            go_simp
            first | exact ⟨(), rfl, hW.1, trivial⟩ | exact ⟨(), rfl, hW, trivial⟩ | exact ⟨rfl, hW.1⟩ | exact ⟨rfl, hW⟩ | exact ⟨rfl, hW.1.1, hW.1.2⟩
          go_simp
          refine hK _ ?_
          clear hK K
          refine relR_call 6 _ rfl (by kernel_rfl) (by go_simp) ItV (fun v => .agg #[.bool v.l, .slice v.a1 v.n1 v.c1, .slice v.a2 v.n2 v.c2]) (fun _ _ => True) (fun v => L6 b f x (i + 1 + d) w r (some ⟨bb, off, none⟩) n c (w.heap.size + 1) q cq ao its v) (fun _ _ _ => trivial) (fun W hW => ?_) (fun v K hK => ?_)
          · unfold effAt
            go_simp
            change Calls _ _ _ _ _
            with_reducible refine (HCall.out W (hW.1.1) (hW.1.2)).mono ?_
            rintro e w' ⟨v, he, h6⟩
            first | exact ⟨_, he, v, rfl, h6⟩ | exact ⟨_, he, v, rfl, h6, trivial⟩
          go_simp
          refine hK _ ?_
          clear hK K
          refine relR_call 7 _ rfl (by kernel_rfl) (by go_simp) Nat (fun g => .slice (some ⟨g, 0, none⟩) 1 1) (fun _ _ => True) (fun g => L7 b f x (i + 1 + d) w r (some ⟨bb, off, none⟩) n c (w.heap.size + 1) q cq ao its v g) (fun _ _ _ => trivial) (fun W hW => ?_) (fun g K hK => ?_)
          · unfold effAt
            go_simp
            have h7 : L7 b f x (i + 1 + d) w r (some ⟨bb, off, none⟩) n c (w.heap.size + 1) q cq ao its v W.heap.size (W.alloc (.cells #[.bool v.l, .slice v.a1 v.n1 v.c1, .slice v.a2 v.n2 v.c2] TI)) := ⟨hW.1.below ((Below.refl _ _).alloc (Nat.le_refl _) _), by go_cell, by go_cell, by go_cell⟩
            first | exact ⟨W.heap.size, rfl, h7⟩ | exact ⟨W.heap.size, rfl, h7, trivial⟩
          go_simp
          refine hK _ ?_
          clear hK K
          refine relR_call 8 _ rfl (by kernel_rfl) (by go_simp) RowOf (fun z => .slice z.a (q + 1) z.c) (fun _ _ => True) (fun z => L8 b f x (i + 1 + d) w r (some ⟨bb, off, none⟩) n c (w.heap.size + 1) q cq ao its v z) (fun _ _ _ => trivial) (fun W hW => ?_) (fun z K hK => ?_)
          · exact L7.app hW.1 HQ.out hrl (Nat.lt_succ_self _) (.tmp 210) (.tmp 216) rfl rfl rfl
          go_simp
          refine hK _ ?_
          clear hK K
          refine relR_pure 9 _ (by intro _ _; trivial) (by kernel_rfl) rfl (by kernel_rfl) (by kernel_rfl) (by go_simp) ?_
          apply Exists.intro
          refine ⟨fun W hW => ?_, fun K hK => ?_⟩
          · unfold effAt
            go_simp
            exact ⟨rfl, rfl⟩
          go_simp
          refine hK _ ?_
          clear hK K
          refine relR_call 10 _ rfl (by kernel_rfl) (by go_simp) Unit (fun _ => undef) (fun _ _ => True) (fun _ => L10 b f x (i + 1 + d) w r (some ⟨bb, off, none⟩) n c (w.heap.size + 1) q its v z) (fun _ _ _ => trivial) (fun W hW => ?_) (fun _ K hK => ?_)
          · have hx2 := hW.1.sx.c2
            have hxf := hW.1.sx.f2
            have h10 := L10.of hW.1 hrl (Nat.lt_succ_self _)
            unfold effAt
            go_simp
            first | exact ⟨(), rfl, h10, trivial⟩ | exact ⟨rfl, h10⟩ | exact h10
          go_simp
          refine hK _ ?_
          clear hK K
          refine relR_end (by kernel_rfl) (fun W hW => ?_)
          have hrm := L10.rel hW.1 HL.out hlt (by rw [HLn.out]; exact hn) (by rw [HLn.out]; omega)
          have HRM := Lib.hid hrm
          clear hrm hW
          go_wp2
          go_roundw
          case rel => exact HRM.out.1
          case measure => exact HRM.out.2
        · skip
          refine relOp_call 6 _ rfl (by go_simp) ItV (fun v => .agg #[.bool v.l, .slice v.a1 v.n1 v.c1, .slice v.a2 v.n2 v.c2]) (fun _ _ => True) (fun v => L6 b f x (i + 1 + d) w r (some ⟨bb, off, none⟩) n c (w.heap.size + 1) q cq ao its v) (fun _ _ _ => trivial) (fun W hW => ?_) (fun v K hK => ?_)
          · unfold effAt
            go_simp
            change Calls _ _ _ _ _
            with_reducible refine (HCall.out W (hW.1) (hW.2)).mono ?_
            rintro e w' ⟨v, he, h6⟩
            first | exact ⟨_, he, v, rfl, h6⟩ | exact ⟨_, he, v, rfl, h6, trivial⟩
          go_simp
          refine hK _ ?_
          clear hK K
          refine relR_pair 1 7 (by kernel_rfl) ?_ ?_
          · skip
            refine relOp_call 1 _ rfl (by go_simp) Unit (fun _ => .slice ao q cq) (fun _ _ => True) (fun _ => (fun W => L6 b f x (i + 1 + d) w r (some ⟨bb, off, none⟩) n c (w.heap.size + 1) q cq ao its v W)) (fun _ _ _ => trivial) (fun W hW => ?_) (fun _ K hK => ?_)
            · have hx2 := hW.1.lc.x.c2
              unfold effAt
              go_simp
              first | exact ⟨(), rfl, hW.1, trivial⟩ | exact ⟨(), rfl, hW, trivial⟩ | exact ⟨rfl, hW.1⟩ | exact ⟨rfl, hW⟩ | exact ⟨rfl, hW.1.1, hW.1.2⟩
            go_simp
            refine hK _ ?_
            clear hK K
            refine relR_call 7 _ rfl (by kernel_rfl) (by go_simp) Nat (fun g => .slice (some ⟨g, 0, none⟩) 1 1) (fun _ _ => True) (fun g => L7 b f x (i + 1 + d) w r (some ⟨bb, off, none⟩) n c (w.heap.size + 1) q cq ao its v g) (fun _ _ _ => trivial) (fun W hW => ?_) (fun g K hK => ?_)
            · unfold effAt
              go_simp
              have h7 : L7 b f x (i + 1 + d) w r (some ⟨bb, off, none⟩) n c (w.heap.size + 1) q cq ao its v W.heap.size (W.alloc (.cells #[.bool v.l, .slice v.a1 v.n1 v.c1, .slice v.a2 v.n2 v.c2] TI)) := ⟨hW.1.below ((Below.refl _ _).alloc (Nat.le_refl _) _), by go_cell, by go_cell, by go_cell⟩
              first | exact ⟨W.heap.size, rfl, h7⟩ | exact ⟨W.heap.size, rfl, h7, trivial⟩
            go_simp
            refine hK _ ?_
            clear hK K
            refine relR_call 8 _ rfl (by kernel_rfl) (by go_simp) RowOf (fun z => .slice z.a (q + 1) z.c) (fun _ _ => True) (fun z => L8 b f x (i + 1 + d) w r (some ⟨bb, off, none⟩) n c (w.heap.size + 1) q cq ao its v z) (fun _ _ _ => trivial) (fun W hW => ?_) (fun z K hK => ?_)
            · exact L7.app hW.1 HQ.out hrl (Nat.lt_succ_self _) (.tmp 210) (.tmp 216) rfl rfl rfl
            go_simp
            refine hK _ ?_
            clear hK K
            refine relR_pure 9 _ (by intro _ _; trivial) (by kernel_rfl) rfl (by kernel_rfl) (by kernel_rfl) (by go_simp) ?_
            apply Exists.intro
            refine ⟨fun W hW => ?_, fun K hK => ?_⟩
            · unfold effAt
              go_simp
              exact ⟨rfl, rfl⟩
            go_simp
            refine hK _ ?_
            clear hK K
            refine relR_call 10 _ rfl (by kernel_rfl) (by go_simp) Unit (fun _ => undef) (fun _ _ => True) (fun _ => L10 b f x (i + 1 + d) w r (some ⟨bb, off, none⟩) n c (w.heap.size + 1) q its v z) (fun _ _ _ => trivial) (fun W hW => ?_) (fun _ K hK => ?_)
            · have hx2 := hW.1.sx.c2
              have hxf := hW.1.sx.f2
              have h10 := L10.of hW.1 hrl (Nat.lt_succ_self _)
              unfold effAt
              go_simp
              first | exact ⟨(), rfl, h10, trivial⟩ | exact ⟨rfl, h10⟩ | exact h10
            go_simp
            refine hK _ ?_
            clear hK K
            refine relR_end (by kernel_rfl) (fun W hW => ?_)
            have hrm := L10.rel hW.1 HL.out hlt (by rw [HLn.out]; exact hn) (by rw [HLn.out]; omega)
            have HRM := Lib.hid hrm
            clear hrm hW
            go_wp2
            go_roundw
            case rel => exact HRM.out.1
            case measure => exact HRM.out.2
          · skip
            refine relOp_call 7 _ rfl (by go_simp) Nat (fun g => .slice (some ⟨g, 0, none⟩) 1 1) (fun _ _ => True) (fun g => L7 b f x (i + 1 + d) w r (some ⟨bb, off, none⟩) n c (w.heap.size + 1) q cq ao its v g) (fun _ _ _ => trivial) (fun W hW => ?_) (fun g K hK => ?_)
            · unfold effAt
              go_simp
              have h7 : L7 b f x (i + 1 + d) w r (some ⟨bb, off, none⟩) n c (w.heap.size + 1) q cq ao its v W.heap.size (W.alloc (.cells #[.bool v.l, .slice v.a1 v.n1 v.c1, .slice v.a2 v.n2 v.c2] TI)) := ⟨hW.1.below ((Below.refl _ _).alloc (Nat.le_refl _) _), by go_cell, by go_cell, by go_cell⟩
              first | exact ⟨W.heap.size, rfl, h7⟩ | exact ⟨W.heap.size, rfl, h7, trivial⟩
            go_simp
            refine hK _ ?_
            clear hK K
            refine relR_call 1 _ rfl (by kernel_rfl) (by go_simp) Unit (fun _ => .slice ao q cq) (fun _ _ => True) (fun _ => (fun W => L7 b f x (i + 1 + d) w r (some ⟨bb, off, none⟩) n c (w.heap.size + 1) q cq ao its v g W)) (fun _ _ _ => trivial) (fun W hW => ?_) (fun _ K hK => ?_)
            · have hx2 := hW.1.l6.lc.x.c2
              unfold effAt
              go_simp
              first | exact ⟨(), rfl, hW.1, trivial⟩ | exact ⟨(), rfl, hW, trivial⟩ | exact ⟨rfl, hW.1⟩ | exact ⟨rfl, hW⟩ | exact ⟨rfl, hW.1.1, hW.1.2⟩
            go_simp
            refine hK _ ?_
            clear hK K
            refine relR_call 8 _ rfl (by kernel_rfl) (by go_simp) RowOf (fun z => .slice z.a (q + 1) z.c) (fun _ _ => True) (fun z => L8 b f x (i + 1 + d) w r (some ⟨bb, off, none⟩) n c (w.heap.size + 1) q cq ao its v z) (fun _ _ _ => trivial) (fun W hW => ?_) (fun z K hK => ?_)
            · exact L7.app hW.1 HQ.out hrl (Nat.lt_succ_self _) (.tmp 210) (.tmp 216) rfl rfl rfl
            go_simp
            refine hK _ ?_
            clear hK K
            refine relR_pure 9 _ (by intro _ _; trivial) (by kernel_rfl) rfl (by kernel_rfl) (by kernel_rfl) (by go_simp) ?_
            apply Exists.intro
            refine ⟨fun W hW => ?_, fun K hK => ?_⟩
            · unfold effAt
              go_simp
              exact ⟨rfl, rfl⟩
            go_simp
            refine hK _ ?_
            clear hK K
            refine relR_call 10 _ rfl (by kernel_rfl) (by go_simp) Unit (fun _ => undef) (fun _ _ => True) (fun _ => L10 b f x (i + 1 + d) w r (some ⟨bb, off, none⟩) n c (w.heap.size + 1) q its v z) (fun _ _ _ => trivial) (fun W hW => ?_) (fun _ K hK => ?_)
            · have hx2 := hW.1.sx.c2
              have hxf := hW.1.sx.f2
              have h10 := L10.of hW.1 hrl (Nat.lt_succ_self _)
              unfold effAt
              go_simp
              first | exact ⟨(), rfl, h10, trivial⟩ | exact ⟨rfl, h10⟩ | exact h10
            go_simp
            refine hK _ ?_
            clear hK K
            refine relR_end (by kernel_rfl) (fun W hW => ?_)
            have hrm := L10.rel hW.1 HL.out hlt (by rw [HLn.out]; exact hn) (by rw [HLn.out]; omega)
            have HRM := Lib.hid hrm
            clear hrm hW
            go_wp2
            go_roundw
            case rel => exact HRM.out.1
            case measure => exact HRM.out.2
      · have hxT : x = i + 1 + d := by have := hl.hx; omega
        have hlt2 : ¬ ((x : Int) < (i : Int) + 1 + d) := by omega
        have hR : Rlp.dList (Rlp.dItem b f) d (i + 1) (i + 1 + d) [] = .ok its := by rw [← hl.d, dList_end hlt]
        have HR := Lib.hid hR
        have q0 := hl.lc.s.c0
        have q1 := hl.lc.s.c1
        have q2 := hl.lc.s.c2
        have f0 := hl.lc.s.f0
        have f1 := hl.lc.s.f1
        have f2 := hl.lc.s.f2
        have p0 := hl.lc.x.c0
        have p1 := hl.lc.x.c1
        have p2 := hl.lc.x.c2
        have hs0 := hl.lc.s.lt
        have HxT := Lib.hid hxT
        clear hl hR hxT
        go_wp2
        refine bodyPost_ret (by simp [results, Tryd.results44, go_sem, q0, q1, q2]; try rfl) rfl ?_
        rw [HR.out]
        refine RItemRet.fine (((HL.out.lc.k.setNew (Nat.le_refl _) _).setNew (Nat.le_refl _) _).setNew (Nat.le_refl _) _) (HL.out.lc.isIt (Nat.lt_succ_self _) fun b hb hl => ⟨by simpa using hl, ?_⟩) (((((HxT.out ▸ HL.out.rd)).setOther (q := ⟨w.heap.size, 0, none⟩) hne _).setOther (q := ⟨w.heap.size, 1, none⟩) hne _).setOther (q := ⟨w.heap.size, 2, none⟩) hne _)
        rw [Below.heap_setCell _ _ _ _ (by simp; omega), Below.heap_setCell _ _ _ _ (by simp; omega), Below.heap_setCell _ _ _ _ (by simp; omega)]
    · have HL := Lib.hid hl
      have r1 := hl.rd.c1
      have r2 := hl.rd.c2
      have hkk : ((kk : Int) == 0) = false := by have := hl.hk; simp; omega
      have hwr := hl.lc.x.lt
      have hR := hl.e
      have HR := Lib.hid hR
      have q0 := hl.lc.s.c0
      have q1 := hl.lc.s.c1
      have q2 := hl.lc.s.c2
      have f0 := hl.lc.s.f0
      have f1 := hl.lc.s.f1
      have f2 := hl.lc.s.f2
      have p0 := hl.lc.x.c0
      have p1 := hl.lc.x.c1
      have p2 := hl.lc.x.c2
      have hs0 := hl.lc.s.lt
      clear hl hR
      by_cases hlt : (jj : Int) < (i : Int) + 1 + d
      all_goals
        go_wp2
        refine bodyPost_ret (by simp [results, Tryd.results44, go_sem, q0, q1, q2]; try rfl) rfl ?_
        rw [HR.out]
        refine ⟨((HL.out.lc.k.setNew (Nat.le_refl _) _).setNew (Nat.le_refl _) _).setNew (Nat.le_refl _) _, .mk true [] its, _, _, _, rfl, HL.out.lc.isIt (Nat.lt_succ_self _) fun b hb hl => ⟨by simpa using hl, ?_⟩, HL.out.hk, jj, ((HL.out.rd.setOther (q := ⟨w.heap.size, 0, none⟩) hne _).setOther (q := ⟨w.heap.size, 1, none⟩) hne _).setOther (q := ⟨w.heap.size, 2, none⟩) hne _⟩
        rw [Below.heap_setCell _ _ _ _ (by simp; omega), Below.heap_setCell _ _ _ _ (by simp; omega), Below.heap_setCell _ _ _ _ (by simp; omega)]
end Go.Proofs.YtgcpnhnckbgjmaaDoor
