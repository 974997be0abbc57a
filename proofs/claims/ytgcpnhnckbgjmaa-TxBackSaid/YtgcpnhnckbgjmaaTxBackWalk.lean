/-
  TxBack: the walk.
-/
import Derived.Test.YtgcpnhnckbgjmaaTxBk
set_option linter.unusedVariables false
set_option linter.unusedSimpArgs false
namespace Go.Proofs.Ytgcpnhnckbgjmaa
open Go.RowKit
set_option maxRecDepth 100000 in
set_option maxHeartbeats 16000000 in
theorem back_V (w : World) (a0 : Option Addr) (n0 c0 : Nat) (z : Nat → Nat → Nat) (hm0 : n0 ≤ maxLen) (hz : IsTxs w a0 n0 z) (a1 : Option Addr) (n1 c1 : Nat) (sj : Nat → AC) (jk : List (List UInt8)) (hl1 : jk.length = n1) (hm1 : n1 ≤ maxLen) (hj : BsAt (fun _ => True) w a1 sj jk) :
    Calls Try.prog 5 #[.slice a0 n0 c0, .slice a1 n1 c1] w fun e w' => e = .returned (.bool true) ∧ Below w.heap.size w w' := by
  have HZ := Lib.hid hz
  have HJ := Lib.hid hj
  have HL1 := Lib.hid hl1
  unfold maxLen at hm0 hm1
  clear hz hj hl1
  go_enter Try.func5, Try.ntmps5
  go_wp2_with (first
    | (go_at_call 8; (with_reducible refine (fixed4_V _).mono ?_); rintro e w1 ⟨rfl, hb1⟩; have HB1 := Lib.hid hb1; clear hb1))
  have hBX : BX w none 0 0 none 0 0 (fun _ => ⟨none, 0⟩) [] [] w1 := ⟨HB1.out, OwnS.nil _ _ _ _, World.ownsRow_nil _ _ _ _, rfl, (fun k hk => by simp [Value.ownBlock] at hk), (fun l hl => by simp at hl)⟩
  have HBX := Lib.hid hBX
  clear hBX
  go_loopw [5, 6, 7, 8, 9, 10, 11, 12, 13, 14, 23] (fun all want ii tt bb ee uu ff vv e2 idx wr => ∃ (j na ca nw cw : Nat) (aa aw : Option Addr) (S : Nat → AC) (ls : List (List UInt8)) (ts : List (Nat → Nat)), j ≤ n0 ∧ idx = .int .i64 j ∧ all = .slice aa na ca ∧ want = .slice aw nw cw ∧ na ≤ 8 ∧ nw ≤ na ∧ Hid (BX w aa na ca aw nw cw S ls ts wr) ∧ Hid ((ls.filterMap tOpt).map nrm = ts.map nrm)) (fun _ _ _ _ _ _ _ _ _ _ idx _ => n0 - (intOf idx).toNat)
  case atStart => exact ⟨0, 0, 0, 0, 0, none, none, _, [], [], by omega, rfl, rfl, rfl, by omega, by omega, HBX.out, rfl⟩
  case round =>
    obtain ⟨j, na, ca, nw, cw, aa, aw, S, ls, ts, hj, rfl, rfl, rfl, hna, hnw, HR, HE⟩ := hrel
    by_cases hlt : j < n0
    · obtain ⟨b, off, rfl, hbl, hc, hwd⟩ := HZ.out j hlt
      have x0 := (HR.out.b.cell (p := ⟨b, off + j * 6, none⟩) hbl).trans (hc 0 (by decide))
      have x1 := (HR.out.b.cell (p := ⟨b, off + j * 6 + 1, none⟩) hbl).trans (hc 1 (by decide))
      have x2 := (HR.out.b.cell (p := ⟨b, off + j * 6 + 2, none⟩) hbl).trans (hc 2 (by decide))
      have x3 := (HR.out.b.cell (p := ⟨b, off + j * 6 + 3, none⟩) hbl).trans (hc 3 (by decide))
      have x4 := (HR.out.b.cell (p := ⟨b, off + j * 6 + 4, none⟩) hbl).trans (hc 4 (by decide))
      have x5 := (HR.out.b.cell (p := ⟨b, off + j * 6 + 5, none⟩) hbl).trans (hc 5 (by decide))
      obtain ⟨vs, hvs⟩ : ∃ vs, z j = vs := ⟨_, rfl⟩
      rw [hvs] at x0 x1 x2 x3 x4 x5 hwd
      have HW := Lib.hid hwd
      clear hc hvs hwd HBX HB1
      by_cases ho : okTx vs
      · have HO := Lib.hid ho
        clear ho
        obtain ⟨us, hus1, hus2⟩ : ∃ us, tDec (Rlp.form (tItem vs)) = .ok us ∧ sameT us vs = true := ⟨_, tdec_back vs HW.out HO.out, (sameT_iff _ _).2 fun k hk => tNum_t vs HW.out k hk⟩
        have htl := tForm_len vs
        obtain ⟨L, hL⟩ : ∃ L, Rlp.form (tItem vs) = L := ⟨_, rfl⟩
        rw [hL] at hus1 htl
        have HFL := Lib.hid hL
        have HTL := Lib.hid htl
        have HUS := Lib.hid hus1
        have HSM := Lib.hid hus2
        have eqt := fun W => (neq_tx us vs W).trans (by rw [hus2])
        have gt := fun (o : BinOp) (x y : Operand) (xs ys : Array Value) (W : World) => guard_tx o x y xs ys W
        have HNe := Lib.hid HR.out.lt
        clear hus1 hus2 hL htl
        by_cases h8 : na < 8
        · go_wp2_with (first
            | (go_at_call 6; (with_reducible refine (tenc_ok vs _ HW.out HO.out).mono ?_); rintro e w3 ⟨an, n3, c3, rfl, ho3, hb3⟩; rw [HFL.out] at ho3; have HR3 := Lib.hid ((HR.out.below ((Below.refl _ _).alloc (Nat.le_refl _) (.cells #[.int .u64 (vs 0), .int .u64 (vs 1), .int .u64 (vs 2), .int .u64 (vs 3), .int .u64 (vs 4), .int .u64 (vs 5)] TTX))).below hb3); have HT3 := Lib.hid ((TXC.new wr vs _ rfl).below hb3); have HO3 : Hid (OwnB w3 wr.heap.size an n3 c3 L) := (ho3.le (by simp)); clear hb3 ho3)
            | (go_at_call 13; (with_reducible refine (tdec_good _ an n3 c3 _ HO3.out.len HO3.out.cap.1 HO3.out.cap.2.1 HO3.out.bytes us HUS.out).mono ?_); rintro e w4 ⟨rfl, hb4⟩; have HR4 := Lib.hid (HR3.out.below hb4); have HT4 := Lib.hid (HT3.out.below hb4); have HO4 := Lib.hid (HO3.out.below hb4); have t0 := HT4.out.2 0 (by decide); have t1 := HT4.out.2 1 (by decide); have t2 := HT4.out.2 2 (by decide); have t3 := HT4.out.2 3 (by decide); have t4 := HT4.out.2 4 (by decide); have t5 := HT4.out.2 5 (by decide); have hs4 := HT4.out.1; clear hb4))
          have hn3 : n3 ≤ 100 := by have := HO4.out.len; have := HTL.out; omega
          have HZ0 : Hid (Q0 w aa na ca aw nw cw S ls ts an L wr.heap.size vs ((w4.alloc (.cells #[.int .u64 (us 0), .int .u64 (us 1), .int .u64 (us 2), .int .u64 (us 3), .int .u64 (us 4), .int .u64 (us 5)] TTX)).drew)) := by
            have hb : Below w4.heap.size w4 ((w4.alloc (.cells #[.int .u64 (us 0), .int .u64 (us 1), .int .u64 (us 2), .int .u64 (us 3), .int .u64 (us 4), .int .u64 (us 5)] TTX)).drew) := ((Below.refl _ _).alloc (Nat.le_refl _) _).drew
            exact ⟨HR4.out.below hb, (HO4.out.bytes.move fun b hF hl => ⟨HNe.out b (.inl hF), hl, rfl⟩).below hb, (HT4.out.kp (HNe.out _ (.inl (Nat.le_refl _)))).below hb⟩
          have HP : Hid (n3 ≤ c3 ∧ c3 ≤ maxLen ∧ (an = none → c3 = 0)) := HO4.out.cap
          have HLn : Hid (L.length = n3) := HO4.out.len
          clear t0 t1 t2 t3 t4 t5 x0 x1 x2 x3 x4 x5 eqt gt
          refine wp_region_relG (TXC wr.heap.size vs) (Q0 w aa na ca aw nw cw S ls ts an L wr.heap.size vs) (by kernel_rfl) HZ0.out ?_
          refine relR_pure 0 _ (by intro _ h; first | exact h | exact h.2 | exact h.k.txc) (by kernel_rfl) rfl (by kernel_rfl) (by kernel_rfl) (by go_simp) ?_
          apply Exists.intro
          refine ⟨fun W hW => ?_, fun K hK => ?_⟩
          · unfold effAt
            go_simp
            exact ⟨rfl, rfl⟩
          go_simp
          refine hK _ ?_
          clear hK K
          refine relR_pure 1 _ (by intro _ h; first | exact h | exact h.2 | exact h.k.txc) (by kernel_rfl) rfl (by kernel_rfl) (by kernel_rfl) (by go_simp) ?_
          apply Exists.intro
          refine ⟨fun W hW => ?_, fun K hK => ?_⟩
          · unfold effAt
            go_simp
            exact ⟨rfl, rfl⟩
          go_simp
          refine hK _ ?_
          clear hK K
          refine relR_pure 4 _ (by intro _ h; first | exact h | exact h.2 | exact h.k.txc) (by kernel_rfl) rfl (by kernel_rfl) (by kernel_rfl) (by go_simp) ?_
          apply Exists.intro
          refine ⟨fun W hW => ?_, fun K hK => ?_⟩
          · unfold effAt
            go_simp
            exact ⟨rfl, rfl⟩
          go_simp
          refine hK _ ?_
          clear hK K
          refine relR_pure 5 _ (by intro _ h; first | exact h | exact h.2 | exact h.k.txc) (by kernel_rfl) rfl (by kernel_rfl) (by kernel_rfl) (by go_simp) ?_
          apply Exists.intro
          refine ⟨fun W hW => ?_, fun K hK => ?_⟩
          · unfold effAt
            have c0 := hW.2 0 (by decide)
            have c1 := hW.2 1 (by decide)
            have c2 := hW.2 2 (by decide)
            have c3 := hW.2 3 (by decide)
            have c4 := hW.2 4 (by decide)
            have c5 := hW.2 5 (by decide)
            go_simp
            exact ⟨rfl, rfl⟩
          go_simp
          refine hK _ ?_
          clear hK K
          apply once (fun z y W => BX w z.a (na + 1) z.c y.a (nw + 1) y.c (updS S na ⟨an, c3⟩) (ls ++ [L]) (ts ++ [vs]) W)
          case main =>
            intro key
            refine relR_pair 2 6 (by kernel_rfl) ?_ ?_
            · skip
              refine relOp_call 2 _ rfl (by go_simp) Nat (fun g => .slice (some ⟨g, 0, none⟩) 1 1) (fun _ => TXC wr.heap.size vs) (fun g1 W => Q0 w aa na ca aw nw cw S ls ts an L wr.heap.size vs W ∧ Kp (.slice aa na ca) (.slice aw nw cw) g1 [.slice an n3 c3] W) (fun _ _ h => h) (fun W hW => ?_) (fun g1 K hK => ?_)
              · have h2 : Q0 w aa na ca aw nw cw S ls ts an L wr.heap.size vs (W.alloc (.cells #[.slice an n3 c3] TBS)) ∧ Kp (.slice aa na ca) (.slice aw nw cw) W.heap.size [.slice an n3 c3] (W.alloc (.cells #[.slice an n3 c3] TBS)) := ⟨hW.below ((Below.refl _ _).alloc (Nat.le_refl _) _), hW.x.kp _ _⟩
                unfold effAt
                go_simp
                exact ⟨W.heap.size, rfl, h2, h2.1.k.txc⟩
              go_simp
              refine hK _ ?_
              clear hK K
              refine relR_pair 3 6 (by kernel_rfl) ?_ ?_
              · skip
                refine relOp_call 3 _ rfl (by go_simp) AC (fun z => .slice z.a (na + 1) z.c) (fun _ => TXC wr.heap.size vs) (fun z W => Q3 w na aw nw cw (updS S na ⟨an, c3⟩) (ls ++ [L]) ts wr.heap.size vs z W) (fun _ _ h => h) (fun W hW => ?_) (fun z K hK => ?_)
                · have q := hW.1.1
                  exact appS_eff (p := ⟨an, c3⟩) q.x (by omega) HLn.out hW.1.2 HP.out q.y hn3 (.tmp 50) (.tmp 52) rfl rfl rfl (fun z W' hx hg hw => ⟨⟨hx, q.k.left hg hw⟩, (q.k.left hg hw).txc⟩)
                go_simp
                refine hK _ ?_
                clear hK K
                refine relR_call 6 _ rfl (by kernel_rfl) (by go_simp) Nat (fun g => .slice (some ⟨g, 0, none⟩) 1 1) (fun _ => TXC wr.heap.size vs) (fun g2 W => Q3 w na aw nw cw (updS S na ⟨an, c3⟩) (ls ++ [L]) ts wr.heap.size vs z W ∧ Kp (.slice z.a (na + 1) z.c) (.slice aw nw cw) g2 (txC vs) W) (fun _ _ h => h) (fun W hW => ?_) (fun g2 K hK => ?_)
                · have c0 := hW.2.2 0 (by decide)
                  have h6 : Q3 w na aw nw cw (updS S na ⟨an, c3⟩) (ls ++ [L]) ts wr.heap.size vs z (W.alloc (.cells #[.int .u64 (vs 0), .int .u64 (vs 1), .int .u64 (vs 2), .int .u64 (vs 3), .int .u64 (vs 4), .int .u64 (vs 5)] TTX)) ∧ Kp (.slice z.a (na + 1) z.c) (.slice aw nw cw) W.heap.size (txC vs) (W.alloc (.cells #[.int .u64 (vs 0), .int .u64 (vs 1), .int .u64 (vs 2), .int .u64 (vs 3), .int .u64 (vs 4), .int .u64 (vs 5)] TTX)) := ⟨hW.1.below ((Below.refl _ _).alloc (Nat.le_refl _) _), hW.1.x.kp (txC vs) _⟩
                  unfold effAt
                  go_simp
                  exact ⟨W.heap.size, rfl, h6, h6.1.k.txc⟩
                go_simp
                refine hK _ ?_
                clear hK K
                refine relR_call 7 _ rfl (by kernel_rfl) (by go_simp) AC (fun y => .slice y.a (nw + 1) y.c) (fun _ => TXC wr.heap.size vs) (fun y W => BX w z.a (na + 1) z.c y.a (nw + 1) y.c (updS S na ⟨an, c3⟩) (ls ++ [L]) (ts ++ [vs]) W) (fun _ _ h => h) (fun W hW => ?_) (fun y K hK => ?_)
                · exact appT_eff hW.1.1.x (by omega) hW.1.2 (.tmp 54) (.tmp 56) rfl rfl rfl (fun y W' hx hg hw => ⟨hx, (hW.1.1.k.right hg hw).txc⟩)
                go_simp
                refine hK _ ?_
                clear hK K
                refine relR_pure 8 _ (by intro _ h; first | exact h | exact h.2 | exact h.k.txc) (by kernel_rfl) rfl (by kernel_rfl) (by kernel_rfl) (by go_simp) ?_
                apply Exists.intro
                refine ⟨fun W hW => ?_, fun K hK => ?_⟩
                · unfold effAt
                  go_simp
                  exact ⟨rfl, rfl⟩
                go_simp
                refine hK _ ?_
                clear hK K
                refine relR_pure 9 _ (by intro _ h; first | exact h | exact h.2 | exact h.k.txc) (by kernel_rfl) rfl (by kernel_rfl) (by kernel_rfl) (by go_simp) ?_
                apply Exists.intro
                refine ⟨fun W hW => ?_, fun K hK => ?_⟩
                · unfold effAt
                  go_simp
                  exact ⟨rfl, rfl⟩
                go_simp
                refine hK _ ?_
                clear hK K
                refine relR_end (by kernel_rfl) (fun W hW => ?_)
                exact key g1 g2 z y W hW.1
              · skip
                refine relOp_call 6 _ rfl (by go_simp) Nat (fun g => .slice (some ⟨g, 0, none⟩) 1 1) (fun _ => TXC wr.heap.size vs) (fun g2 W => Q0 w aa na ca aw nw cw S ls ts an L wr.heap.size vs W ∧ Kp (.slice aa na ca) (.slice aw nw cw) g1 [.slice an n3 c3] W ∧ Kp (.slice aa na ca) (.slice aw nw cw) g2 (txC vs) W) (fun _ _ h => h) (fun W hW => ?_) (fun g2 K hK => ?_)
                · have c0 := hW.2.2 0 (by decide)
                  have h6 : Q0 w aa na ca aw nw cw S ls ts an L wr.heap.size vs (W.alloc (.cells #[.int .u64 (vs 0), .int .u64 (vs 1), .int .u64 (vs 2), .int .u64 (vs 3), .int .u64 (vs 4), .int .u64 (vs 5)] TTX)) ∧ Kp (.slice aa na ca) (.slice aw nw cw) g1 [.slice an n3 c3] (W.alloc (.cells #[.int .u64 (vs 0), .int .u64 (vs 1), .int .u64 (vs 2), .int .u64 (vs 3), .int .u64 (vs 4), .int .u64 (vs 5)] TTX)) ∧ Kp (.slice aa na ca) (.slice aw nw cw) W.heap.size (txC vs) (W.alloc (.cells #[.int .u64 (vs 0), .int .u64 (vs 1), .int .u64 (vs 2), .int .u64 (vs 3), .int .u64 (vs 4), .int .u64 (vs 5)] TTX)) := ⟨hW.1.1.below ((Below.refl _ _).alloc (Nat.le_refl _) _), hW.1.2.below ((Below.refl _ _).alloc (Nat.le_refl _) _), hW.1.1.x.kp (txC vs) _⟩
                  unfold effAt
                  go_simp
                  exact ⟨W.heap.size, rfl, h6, h6.1.k.txc⟩
                go_simp
                refine hK _ ?_
                clear hK K
                refine relR_call 3 _ rfl (by kernel_rfl) (by go_simp) AC (fun z => .slice z.a (na + 1) z.c) (fun _ => TXC wr.heap.size vs) (fun z W => Q3 w na aw nw cw (updS S na ⟨an, c3⟩) (ls ++ [L]) ts wr.heap.size vs z W ∧ Kp (.slice z.a (na + 1) z.c) (.slice aw nw cw) g2 (txC vs) W) (fun _ _ h => h) (fun W hW => ?_) (fun z K hK => ?_)
                · have q := hW.1.1
                  exact appS_eff (p := ⟨an, c3⟩) q.x (by omega) HLn.out hW.1.2.1 HP.out q.y hn3 (.tmp 50) (.tmp 52) rfl rfl rfl (fun z W' hx hg hw => ⟨⟨⟨hx, q.k.left hg hw⟩, hW.1.2.2.left hg hw⟩, (q.k.left hg hw).txc⟩)
                go_simp
                refine hK _ ?_
                clear hK K
                refine relR_call 7 _ rfl (by kernel_rfl) (by go_simp) AC (fun y => .slice y.a (nw + 1) y.c) (fun _ => TXC wr.heap.size vs) (fun y W => BX w z.a (na + 1) z.c y.a (nw + 1) y.c (updS S na ⟨an, c3⟩) (ls ++ [L]) (ts ++ [vs]) W) (fun _ _ h => h) (fun W hW => ?_) (fun y K hK => ?_)
                · exact appT_eff hW.1.1.x (by omega) hW.1.2 (.tmp 54) (.tmp 56) rfl rfl rfl (fun y W' hx hg hw => ⟨hx, (hW.1.1.k.right hg hw).txc⟩)
                go_simp
                refine hK _ ?_
                clear hK K
                refine relR_pure 8 _ (by intro _ h; first | exact h | exact h.2 | exact h.k.txc) (by kernel_rfl) rfl (by kernel_rfl) (by kernel_rfl) (by go_simp) ?_
                apply Exists.intro
                refine ⟨fun W hW => ?_, fun K hK => ?_⟩
                · unfold effAt
                  go_simp
                  exact ⟨rfl, rfl⟩
                go_simp
                refine hK _ ?_
                clear hK K
                refine relR_pure 9 _ (by intro _ h; first | exact h | exact h.2 | exact h.k.txc) (by kernel_rfl) rfl (by kernel_rfl) (by kernel_rfl) (by go_simp) ?_
                apply Exists.intro
                refine ⟨fun W hW => ?_, fun K hK => ?_⟩
                · unfold effAt
                  go_simp
                  exact ⟨rfl, rfl⟩
                go_simp
                refine hK _ ?_
                clear hK K
                refine relR_end (by kernel_rfl) (fun W hW => ?_)
                exact key g1 g2 z y W hW.1
            · skip
              refine relOp_call 6 _ rfl (by go_simp) Nat (fun g => .slice (some ⟨g, 0, none⟩) 1 1) (fun _ => TXC wr.heap.size vs) (fun g2 W => Q0 w aa na ca aw nw cw S ls ts an L wr.heap.size vs W ∧ Kp (.slice aa na ca) (.slice aw nw cw) g2 (txC vs) W) (fun _ _ h => h) (fun W hW => ?_) (fun g2 K hK => ?_)
              · have c0 := hW.k.txc.2 0 (by decide)
                have h6 : Q0 w aa na ca aw nw cw S ls ts an L wr.heap.size vs (W.alloc (.cells #[.int .u64 (vs 0), .int .u64 (vs 1), .int .u64 (vs 2), .int .u64 (vs 3), .int .u64 (vs 4), .int .u64 (vs 5)] TTX)) ∧ Kp (.slice aa na ca) (.slice aw nw cw) W.heap.size (txC vs) (W.alloc (.cells #[.int .u64 (vs 0), .int .u64 (vs 1), .int .u64 (vs 2), .int .u64 (vs 3), .int .u64 (vs 4), .int .u64 (vs 5)] TTX)) := ⟨hW.below ((Below.refl _ _).alloc (Nat.le_refl _) _), hW.x.kp (txC vs) _⟩
                unfold effAt
                go_simp
                exact ⟨W.heap.size, rfl, h6, h6.1.k.txc⟩
              go_simp
              refine hK _ ?_
              clear hK K
              refine relR_call 2 _ rfl (by kernel_rfl) (by go_simp) Nat (fun g => .slice (some ⟨g, 0, none⟩) 1 1) (fun _ => TXC wr.heap.size vs) (fun g1 W => Q0 w aa na ca aw nw cw S ls ts an L wr.heap.size vs W ∧ Kp (.slice aa na ca) (.slice aw nw cw) g1 [.slice an n3 c3] W ∧ Kp (.slice aa na ca) (.slice aw nw cw) g2 (txC vs) W) (fun _ _ h => h) (fun W hW => ?_) (fun g1 K hK => ?_)
              · have h2 : Q0 w aa na ca aw nw cw S ls ts an L wr.heap.size vs (W.alloc (.cells #[.slice an n3 c3] TBS)) ∧ Kp (.slice aa na ca) (.slice aw nw cw) W.heap.size [.slice an n3 c3] (W.alloc (.cells #[.slice an n3 c3] TBS)) ∧ Kp (.slice aa na ca) (.slice aw nw cw) g2 (txC vs) (W.alloc (.cells #[.slice an n3 c3] TBS)) := ⟨hW.1.1.below ((Below.refl _ _).alloc (Nat.le_refl _) _), hW.1.1.x.kp _ _, hW.1.2.below ((Below.refl _ _).alloc (Nat.le_refl _) _)⟩
                unfold effAt
                go_simp
                exact ⟨W.heap.size, rfl, h2, h2.1.k.txc⟩
              go_simp
              refine hK _ ?_
              clear hK K
              refine relR_call 3 _ rfl (by kernel_rfl) (by go_simp) AC (fun z => .slice z.a (na + 1) z.c) (fun _ => TXC wr.heap.size vs) (fun z W => Q3 w na aw nw cw (updS S na ⟨an, c3⟩) (ls ++ [L]) ts wr.heap.size vs z W ∧ Kp (.slice z.a (na + 1) z.c) (.slice aw nw cw) g2 (txC vs) W) (fun _ _ h => h) (fun W hW => ?_) (fun z K hK => ?_)
              · have q := hW.1.1
                exact appS_eff (p := ⟨an, c3⟩) q.x (by omega) HLn.out hW.1.2.1 HP.out q.y hn3 (.tmp 50) (.tmp 52) rfl rfl rfl (fun z W' hx hg hw => ⟨⟨⟨hx, q.k.left hg hw⟩, hW.1.2.2.left hg hw⟩, (q.k.left hg hw).txc⟩)
              go_simp
              refine hK _ ?_
              clear hK K
              refine relR_call 7 _ rfl (by kernel_rfl) (by go_simp) AC (fun y => .slice y.a (nw + 1) y.c) (fun _ => TXC wr.heap.size vs) (fun y W => BX w z.a (na + 1) z.c y.a (nw + 1) y.c (updS S na ⟨an, c3⟩) (ls ++ [L]) (ts ++ [vs]) W) (fun _ _ h => h) (fun W hW => ?_) (fun y K hK => ?_)
              · exact appT_eff hW.1.1.x (by omega) hW.1.2 (.tmp 54) (.tmp 56) rfl rfl rfl (fun y W' hx hg hw => ⟨hx, (hW.1.1.k.right hg hw).txc⟩)
              go_simp
              refine hK _ ?_
              clear hK K
              refine relR_pure 8 _ (by intro _ h; first | exact h | exact h.2 | exact h.k.txc) (by kernel_rfl) rfl (by kernel_rfl) (by kernel_rfl) (by go_simp) ?_
              apply Exists.intro
              refine ⟨fun W hW => ?_, fun K hK => ?_⟩
              · unfold effAt
                go_simp
                exact ⟨rfl, rfl⟩
              go_simp
              refine hK _ ?_
              clear hK K
              refine relR_pure 9 _ (by intro _ h; first | exact h | exact h.2 | exact h.k.txc) (by kernel_rfl) rfl (by kernel_rfl) (by kernel_rfl) (by go_simp) ?_
              apply Exists.intro
              refine ⟨fun W hW => ?_, fun K hK => ?_⟩
              · unfold effAt
                go_simp
                exact ⟨rfl, rfl⟩
              go_simp
              refine hK _ ?_
              clear hK K
              refine relR_end (by kernel_rfl) (fun W hW => ?_)
              exact key g1 g2 z y W hW.1
          case rest =>
            intro g1 g2 z y W hW
            have HF := Lib.hid hW
            clear hW
            have HE2 : Hid (((ls ++ [L]).filterMap tOpt).map nrm = (ts ++ [vs]).map nrm) := nrm_app HE.out (tOpt_ok HUS.out) ((sameT_nrm _ _).1 HSM.out)

            by_cases hji : j < n1
            · obtain ⟨b1, o1, rfl, hbl1, hcj⟩ := HJ.out.row j (by rw [HL1.out]; exact hji)
              have hjb := HJ.out.byt j (by rw [HL1.out]; exact hji)
              have hjp := HJ.out.len j (by rw [HL1.out]; exact hji)
              obtain ⟨J, hJ⟩ : ∃ J, jk.getD j [] = J := ⟨_, rfl⟩
              obtain ⟨m, hm⟩ : ∃ m, J.length = m := ⟨_, rfl⟩
              obtain ⟨⟨ya, yc⟩, hy⟩ : ∃ p : AC, sj j = p := ⟨_, rfl⟩
              rw [hJ, hy] at hcj hjb hjp
              rw [hm] at hcj hjp
              have HM := Lib.hid hm
              have HCJ := Lib.hid hcj
              have HJB := Lib.hid hjb
              have HJP := Lib.hid hjp
              have hj2 := (HF.out.b.cell (p := ⟨b1, o1 + j, none⟩) hbl1).trans hcj
              clear hJ hm hy hcj hjb hjp
              by_cases h8b : na + 1 < 8
              · by_cases h100 : m < 100
                · rcases ht : tDec J with r | ks
                  · have HTD := Lib.hid ht
                    clear ht
                    go_wp2_with (first
                      | (go_at_call 13; (with_reducible refine (tdec_wrong _ ya m yc J HM.out HJP.out.1 HJP.out.2.1 (HJB.out.below HF.out.b) r HTD.out).mono ?_); rintro e w5 ⟨ty, tx, rfl, hb5⟩; have HR5 := Lib.hid (HF.out.below hb5); have hj5 := (HR5.out.b.cell (p := ⟨b1, o1 + j, none⟩) hbl1).trans HCJ.out; have hb15 : b1 < w5.heap.size := (by have := HR5.out.b.size; omega); clear hb5)
                      | (at_builtin; have HRx := Lib.hid ((HR5.out.below ((Below.refl _ _).alloc (Nat.le_refl _) (.cells #[.int .u64 0, .int .u64 0, .int .u64 0, .int .u64 0, .int .u64 0, .int .u64 0] TTX))).below ((Below.refl _ _).alloc (Nat.le_refl _) (.cells #[.slice ya m yc] TBS))); refine wpList_append_R rtB rfl (.tmp 89) (.tmp 94) rfl w.heap.size _ (na + 1) _ _ (w5.heap.size + 1) 1 [.slice ya m yc] HRx.out.s.row rfl (newC (by simp)) (by simp [Value.oneCell']) (Sm.of (by omega)) (by unfold maxLen; omega) HRx.out.b.size rfl rfl ?_; intro ao' c' w7 ho hg hw; have HR7 := Lib.hid (HRx.out.appN ⟨ya, yc⟩ HM.out HJP.out HJB.out (by omega) ho hg hw); clear ho hg hw))
                    go_roundw
                    case rel => exact ⟨j + 1, na + 1 + 1, _, nw + 1, _, _, _, _, _, _, by omega, by go_num, rfl, rfl, by omega, by omega, HR7.out, nrm_bad HE2.out (tOpt_bad HTD.out)⟩
                    case measure => simp [intOf]; omega
                  · have HTD := Lib.hid ht
                    clear ht
                    go_wp2_with (first
                      | (go_at_call 13; (with_reducible refine (tdec_good _ ya m yc J HM.out HJP.out.1 HJP.out.2.1 (HJB.out.below HF.out.b) ks HTD.out).mono ?_); rintro e w5 ⟨rfl, hb5⟩; have HR5 := Lib.hid (HF.out.below hb5); have hj5 := (HR5.out.b.cell (p := ⟨b1, o1 + j, none⟩) hbl1).trans HCJ.out; have hb15 : b1 < w5.heap.size := (by have := HR5.out.b.size; omega); clear hb5)
                      | (at_builtin; have HRt := Lib.hid ((HR5.out.below ((Below.refl _ _).alloc (Nat.le_refl _) (.cells #[.int .u64 (ks 0), .int .u64 (ks 1), .int .u64 (ks 2), .int .u64 (ks 3), .int .u64 (ks 4), .int .u64 (ks 5)] TTX))).below ((Below.refl _ _).alloc (Nat.le_refl _) (.cells #[.int .u64 (ks 0), .int .u64 (ks 1), .int .u64 (ks 2), .int .u64 (ks 3), .int .u64 (ks 4), .int .u64 (ks 5)] TTX))); refine wpList_append_R rtT rfl (.tmp 85) (.tmp 87) rfl w.heap.size _ (nw + 1) _ _ (w5.heap.size + 1) 1 (txC ks) HRt.out.t rfl (newC (by simp)) (txC_one ks) (Sm.of (by omega)) (by unfold maxLen; omega) HRt.out.b.size rfl rfl ?_; intro at' ct w6 ho hg hw; have HR6 := Lib.hid (HRt.out.appT ho hg hw); have hj6 := (HR6.out.b.cell (p := ⟨b1, o1 + j, none⟩) hbl1).trans HCJ.out; have hb16 : b1 < w6.heap.size := (by have := HR6.out.b.size; omega); clear ho hg hw)
                      | (at_builtin; have HRx := Lib.hid (HR6.out.below ((Below.refl _ _).alloc (Nat.le_refl _) (.cells #[.slice ya m yc] TBS))); refine wpList_append_R rtB rfl (.tmp 89) (.tmp 94) rfl w.heap.size _ (na + 1) _ _ w6.heap.size 1 [.slice ya m yc] HRx.out.s.row rfl (newC (by simp)) (by simp [Value.oneCell']) (Sm.of (by omega)) (by unfold maxLen; omega) HRx.out.b.size rfl rfl ?_; intro ao' c' w7 ho hg hw; have HR7 := Lib.hid (HRx.out.appN ⟨ya, yc⟩ HM.out HJP.out HJB.out (by omega) ho hg hw); clear ho hg hw))
                    go_roundw
                    case rel => exact ⟨j + 1, na + 1 + 1, _, nw + 1 + 1, _, _, _, _, _, _, by omega, by go_num, rfl, rfl, by omega, by omega, HR7.out, nrm_app HE2.out (tOpt_ok HTD.out) rfl⟩
                    case measure => simp [intOf]; omega
                · go_wp2
                  go_roundw
                  case rel => exact ⟨j + 1, na + 1, _, nw + 1, _, _, _, _, _, _, by omega, by go_num, rfl, rfl, by omega, by omega, HF.out, HE2.out⟩
                  case measure => simp [intOf]; omega
              · go_wp2
                go_roundw
                case rel => exact ⟨j + 1, na + 1, _, nw + 1, _, _, _, _, _, _, by omega, by go_num, rfl, rfl, by omega, by omega, HF.out, HE2.out⟩
                case measure => simp [intOf]; omega
            · go_wp2
              go_roundw
              case rel => exact ⟨j + 1, na + 1, _, nw + 1, _, _, _, _, _, _, by omega, by go_num, rfl, rfl, by omega, by omega, HF.out, HE2.out⟩
              case measure => simp [intOf]; omega
        · by_cases hji : j < n1
          · go_wp2_with (first
              | (go_at_call 6; (with_reducible refine (tenc_ok vs _ HW.out HO.out).mono ?_); rintro e w3 ⟨an, n3, c3, rfl, ho3, hb3⟩; rw [HFL.out] at ho3; have HR3 := Lib.hid ((HR.out.below ((Below.refl _ _).alloc (Nat.le_refl _) (.cells #[.int .u64 (vs 0), .int .u64 (vs 1), .int .u64 (vs 2), .int .u64 (vs 3), .int .u64 (vs 4), .int .u64 (vs 5)] TTX))).below hb3); have HT3 := Lib.hid ((TXC.new wr vs _ rfl).below hb3); have HO3 : Hid (OwnB w3 wr.heap.size an n3 c3 L) := (ho3.le (by simp)); clear hb3 ho3)
              | (go_at_call 13; (with_reducible refine (tdec_good _ an n3 c3 _ HO3.out.len HO3.out.cap.1 HO3.out.cap.2.1 HO3.out.bytes us HUS.out).mono ?_); rintro e w4 ⟨rfl, hb4⟩; have HR4 := Lib.hid (HR3.out.below hb4); have HT4 := Lib.hid (HT3.out.below hb4); have HO4 := Lib.hid (HO3.out.below hb4); have t0 := HT4.out.2 0 (by decide); have t1 := HT4.out.2 1 (by decide); have t2 := HT4.out.2 2 (by decide); have t3 := HT4.out.2 3 (by decide); have t4 := HT4.out.2 4 (by decide); have t5 := HT4.out.2 5 (by decide); have hs4 := HT4.out.1; clear hb4))
            have HF := Lib.hid (HR4.out.below ((Below.refl _ _).alloc (Nat.le_refl _) (.cells #[.int .u64 (us 0), .int .u64 (us 1), .int .u64 (us 2), .int .u64 (us 3), .int .u64 (us 4), .int .u64 (us 5)] TTX)))
            go_roundw
            case rel => exact ⟨j + 1, na, _, nw, _, _, _, _, _, _, by omega, by go_num, rfl, rfl, by omega, by omega, HF.out, HE.out⟩
            case measure => simp [intOf]; omega
          · go_wp2_with (first
              | (go_at_call 6; (with_reducible refine (tenc_ok vs _ HW.out HO.out).mono ?_); rintro e w3 ⟨an, n3, c3, rfl, ho3, hb3⟩; rw [HFL.out] at ho3; have HR3 := Lib.hid ((HR.out.below ((Below.refl _ _).alloc (Nat.le_refl _) (.cells #[.int .u64 (vs 0), .int .u64 (vs 1), .int .u64 (vs 2), .int .u64 (vs 3), .int .u64 (vs 4), .int .u64 (vs 5)] TTX))).below hb3); have HT3 := Lib.hid ((TXC.new wr vs _ rfl).below hb3); have HO3 : Hid (OwnB w3 wr.heap.size an n3 c3 L) := (ho3.le (by simp)); clear hb3 ho3)
              | (go_at_call 13; (with_reducible refine (tdec_good _ an n3 c3 _ HO3.out.len HO3.out.cap.1 HO3.out.cap.2.1 HO3.out.bytes us HUS.out).mono ?_); rintro e w4 ⟨rfl, hb4⟩; have HR4 := Lib.hid (HR3.out.below hb4); have HT4 := Lib.hid (HT3.out.below hb4); have HO4 := Lib.hid (HO3.out.below hb4); have t0 := HT4.out.2 0 (by decide); have t1 := HT4.out.2 1 (by decide); have t2 := HT4.out.2 2 (by decide); have t3 := HT4.out.2 3 (by decide); have t4 := HT4.out.2 4 (by decide); have t5 := HT4.out.2 5 (by decide); have hs4 := HT4.out.1; clear hb4))
            have HF := Lib.hid (HR4.out.below ((Below.refl _ _).alloc (Nat.le_refl _) (.cells #[.int .u64 (us 0), .int .u64 (us 1), .int .u64 (us 2), .int .u64 (us 3), .int .u64 (us 4), .int .u64 (us 5)] TTX)))
            go_roundw
            case rel => exact ⟨j + 1, na, _, nw, _, _, _, _, _, _, by omega, by go_num, rfl, rfl, by omega, by omega, HF.out, HE.out⟩
            case measure => simp [intOf]; omega
      · have HO := Lib.hid ho
        clear ho
        go_wp2_with (first
          | (go_at_call 6; (with_reducible refine (tenc_bad vs _ HW.out HO.out).mono ?_); rintro e w3 ⟨rfl, hb3⟩; have HR3 := Lib.hid ((HR.out.below ((Below.refl _ _).alloc (Nat.le_refl _) (.cells #[.int .u64 (vs 0), .int .u64 (vs 1), .int .u64 (vs 2), .int .u64 (vs 3), .int .u64 (vs 4), .int .u64 (vs 5)] TTX))).below hb3); clear hb3))
        go_roundw
        case rel => exact ⟨j + 1, na, ca, nw, cw, aa, aw, S, ls, ts, by omega, by go_num, rfl, rfl, hna, hnw, HR3.out, HE.out⟩
        case measure => simp [intOf]; omega
    · have hjn : j = n0 := by omega
      subst hjn
      have hs := HR.out.s.len
      have hll := HR.out.l
      have hsl := (sameL_nrm _ _).2 HE.out
      have hnt := HR.out.n
      obtain ⟨us, hus⟩ : ∃ us, ls.filterMap tOpt = us := ⟨_, rfl⟩
      have hul : us.length = nw := by rw [← hnt, ← hsl.1, hus]
      have hut : uTxs (ls.map fun l => .mk false l []) (ls.map fun l => Rlp.It.mk false l []).length = us := by rw [List.length_map, uTxs_b, hus]
      obtain ⟨ns, hns⟩ : ∃ ns, uBad (ls.map fun l => .mk false l []) (ls.map fun l => Rlp.It.mk false l []).length = ns := ⟨_, rfl⟩
      obtain ⟨nb, hnb⟩ : ∃ nb, ns.length = nb := ⟨_, rfl⟩
      have hsum : nw + nb = na := by
        have h := uSum (ls.map fun l => .mk false l []) (ls.map fun l => Rlp.It.mk false l []).length (Nat.le_refl _)
        rw [hut, hns, hul, hnb, List.length_map, hs] at h
        exact h
      rw [hus] at hsl
      have HUD := Lib.hid (uDec_b ls (by omega) hll)
      have HS := Lib.hid hs
      have HLL := Lib.hid hll
      have HSL := Lib.hid hsl
      have HUL := Lib.hid hul
      have HUT := Lib.hid hut
      have HNS := Lib.hid hns
      have HNB := Lib.hid hnb
      have HBS := Lib.hid HR.out.s.bsAt
      have HTW : Hid (TxsAt (fun b => w.heap.size ≤ b) wr aw ts) := OwnT.at (c := cw) (by unfold OwnT; rw [hnt]; exact HR.out.t)
      have HNT := Lib.hid hnt
      clear hs hll hsl hnt hus hul hut hns hnb HBX HB1
      go_wp2_with (first
        | (go_at_call 11; (with_reducible refine (bat_good _ aa na ca S ls HS.out hna HBS.out HLL.out).mono ?_); rintro e w5 ⟨an, n5, c5, rfl, ho5, hb5⟩; have HR5 := Lib.hid (HR.out.below hb5); have HTW5 := Lib.hid (HTW.out.below hb5); have HO5 := Lib.hid ho5; clear hb5 ho5)
        | (go_at_call 9; (with_reducible refine (unb_good _ an n5 c5 _ HO5.out.len HO5.out.cap.1 HO5.out.cap.2.1 HO5.out.bytes _ HUD.out us ns HUT.out HNS.out nw nb HUL.out HNB.out).mono ?_); rintro e w6 ⟨ax, cx, ay, cy, rfl, ht, hn, hb6⟩; have HR6 := Lib.hid (HR5.out.below hb6); have HTW6 := Lib.hid (HTW5.out.below hb6); have HLT6 := Lib.hid ht; clear hb6 ht hn)
        | (go_at_call 12; (with_reducible refine (same4_V _ ax nw cx aw nw cw us ts HUL.out HNT.out (by unfold maxLen; omega) (by unfold maxLen; omega) (OwnT.at (base := w5.heap.size) (by rw [HUL.out]; exact HLT6.out)) HTW6.out).mono ?_); rintro e w8 ⟨⟨q, rfl, hq⟩, hb8⟩; have hqt : q = true := hq.2 HSL.out; subst hqt; have HR8 := Lib.hid (HR6.out.below hb8); clear hb8 hq))
      go_returns
      exact ⟨by simp; omega, HR8.out.b⟩
set_option maxRecDepth 100000 in
theorem txBack_walk {H : Type} {enc : TypeId × Value → H} {base : Nat} (w : World) {d0 : DataW H} {p0 : List MemPlace} (v0 : Value) (o0 : Value.okWide Try.prog w .any base TTS v0) (w0 : DataW.Trod enc Try.prog w 0 (fun _ => true) true TTS v0 d0 p0) {d1 : DataW H} {p1 : List MemPlace} (v1 : Value) (o1 : Value.okWide Try.prog w .any base TBB v1) (w1 : DataW.Trod enc Try.prog w 0 (fun _ => true) true TBB v1 d1 p1) :
    Calls Try.prog 5 #[v0, v1] w fun e w' => e = .returned (.bool true) ∧ Below w.heap.size w w' := by
  obtain ⟨a0, n0, c0, rfl⟩ := Go.WideShapes.okWide_slice Try.underlying35 o0
  obtain ⟨a1, n1, c1, rfl⟩ := Go.WideShapes.okWide_slice Try.underlying39 o1
  obtain ⟨f0, h0⟩ := w0
  obtain ⟨f1, h1⟩ := w1
  simp only [Value.cells] at h0 h1
  obtain ⟨l0, m0, z, hz⟩ := txs_open h0
  obtain ⟨l1, m1, s, ls, hl, hb⟩ := bs_open h1
  exact back_V w a0 n0 c0 z (Nat.le_trans l0 m0) hz a1 n1 c1 s ls hl (Nat.le_trans l1 m1) hb
end Go.Proofs.Ytgcpnhnckbgjmaa
