/-
  TxCodes: the walk.
-/
import Derived.Test.YtgcpnhnckbgjmaaDoorRBigG
import Derived.Test.YtgcpnhnckbgjmaaDoorValG
import Derived.Test.YtgcpnhnckbgjmaaDoorTxSameG
set_option linter.unusedVariables false
set_option linter.unusedSimpArgs false
namespace Go.Proofs.YtgcpnhnckbgjmaaDoor
open Go.RowKit
open Go.Extern.Stop (cell)
variable {F : Nat → Prop}
theorem enc_ok (vs : Nat → Nat) (w : World) (hv : wide vs) (ho : okTx vs) : Calls Tryd.prog 5 #[.agg #[.int .u64 (vs 0), .int .u64 (vs 1), .int .u64 (vs 2), .int .u64 (vs 3), .int .u64 (vs 4), .int .u64 (vs 5)]] w fun e w' => ∃ ao n c, e = .returned (.tuple #[.slice ao n c, .nilIface]) ∧ OwnB w' w.heap.size ao n c (Rlp.form (tItem vs)) ∧ Below w.heap.size w w' := by
  refine (tenc_V vs w (fun k hk => hv k hk)).mono ?_
  rintro e w' ⟨hb, ⟨_, ao, n, c, he, hw⟩ | ⟨hn, _⟩⟩
  · exact ⟨ao, n, c, he, hw, hb⟩
  · exact absurd ho hn
theorem enc_no (vs : Nat → Nat) (w : World) (hv : wide vs) (ho : ¬ okTx vs) : Calls Tryd.prog 5 #[.agg #[.int .u64 (vs 0), .int .u64 (vs 1), .int .u64 (vs 2), .int .u64 (vs 3), .int .u64 (vs 4), .int .u64 (vs 5)]] w fun e w' => e = .returned (.tuple #[.slice none 0 0, .iface TE (.int .i64 2)]) ∧ Below w.heap.size w w' := by
  refine (tenc_V vs w (fun k hk => hv k hk)).mono ?_
  rintro e w' ⟨hb, ⟨h, _⟩ | ⟨_, he⟩⟩
  · exact absurd h ho
  · exact ⟨he, hb⟩
theorem rec_X (vs : Nat → Nat) (w : World) (hv : wide vs) : Calls Tryd.prog 11 #[.agg #[.int .u64 (vs 0), .int .u64 (vs 1), .int .u64 (vs 2), .int .u64 (vs 3), .int .u64 (vs 4), .int .u64 (vs 5)]] w (fun e w' => e = .returned (.agg ((recL vs).map cell).toArray) ∧ Below w.heap.size w w') := rec_V vs w (fun k hk => hv k hk)
theorem zero_eq (W : World) : (binOp .eql TTX ZT ZT).run Tryd.prog W = .ok (.bool true) W := eql_tx (fun _ => 0) (fun _ => 0) W
theorem tdec_nz {b : List UInt8} {p : Option Nat} {c : Nat} (h : tDec b = .error (p, c)) : ((c : Int) == 0) = false := by
  have : c ≠ 0 := by
    unfold tDec at h
    split at h
    · rename_i p' c' hd
      injection h with h; injection h with h1 h2
      subst h2
      exact decode_ne hd
    · split at h
      · injection h with h; injection h with h1 h2; subst h2; decide
      · split at h
        · rename_i j c' hs
          injection h with h; injection h with h1 h2
          subst h2
          have hb : ∀ (g j c : Nat) (its : List Rlp.It), tScan its g j = some (p.getD 0, c) → c ≠ 0 := by
            intro g
            induction g with
            | zero => intro j c its h; cases h
            | succ g ih =>
              intro j c its h
              rw [tScan] at h
              split at h
              · rename_i c2 hc
                injection h with h; injection h with _ h
                subst h
                unfold tBad at hc
                split at hc
                · rename_i hne
                  injection hc with hc; subst hc; exact hne
                · split at hc
                  · injection hc with hc; subst hc; decide
                  · cases hc
              · exact ih _ _ _ h
          exact hb _ _ _ _ (by rw [← h1]; exact hs)
        · cases h
  simp; omega
theorem eql_self (l : List UInt8) (w : World) : (binOp .eql TS (strB l) (strB l)).run Tryd.prog w = .ok (.bool true) w := (run_eql_str l l w).trans (by rw [decide_eq_true rfl])
theorem zc {g : Nat} {W : World} (h : TXC g (fun _ => 0) W) (i : Nat) (hi : i < 6) : W.cell? ⟨g, i, none⟩ = some (.int .u64 0) := h.2 i hi
theorem nil_str (w : World) : (convert TBS TS (.slice none 0 0)).run Tryd.prog w = .ok (strB []) w := str_V (F := fun _ => True) rfl (fun _ => rfl) (fun i hi => by simp at hi)
set_option maxRecDepth 100000 in
set_option maxHeartbeats 16000000 in
theorem codes_ok_ok (w : World) (vs : Nat → Nat) (hv : wide vs) (ho : okTx vs) (a1 : Option Addr) (len1 cap1 : Nat) (bs : List UInt8) (hl : bs.length = len1) (hlc : len1 ≤ cap1) (hcm : cap1 ≤ maxLen) (hn : a1 = none → cap1 = 0) (hb : BytesF (fun _ => True) w a1 bs) (hs : Sm (0 + len1)) (he : ErrType w) (us : Nat → Nat) (hd : tDec bs = .ok us) :
    Calls Tryd.prog 3 #[txV vs, .slice a1 len1 cap1] w fun e w' => e = .returned (.bool true) ∧ Below w.heap.size w w' := by
  have HW := Lib.hid hv
  have HO := Lib.hid ho
  have HL := Lib.hid hl
  have HN := Lib.hid hn
  have HS := Lib.hid hs
  have HBy := Lib.hid hb
  have HD := Lib.hid hd
  have HCM := Lib.hid hcm
  skip
  have HB0 : Hid (Below w.heap.size w (w.alloc (.cells #[.int .u64 (vs 0), .int .u64 (vs 1), .int .u64 (vs 2), .int .u64 (vs 3), .int .u64 (vs 4), .int .u64 (vs 5)] TTX))) := (Below.refl _ _).alloc (Nat.le_refl _) _
  have HT0 := Lib.hid (txc_new w vs TTX _ rfl)
  have HE0 : Hid (ErrType (w.alloc (.cells #[.int .u64 (vs 0), .int .u64 (vs 1), .int .u64 (vs 2), .int .u64 (vs 3), .int .u64 (vs 4), .int .u64 (vs 5)] TTX))) := he.below ((Below.refl _ _).alloc (Nat.le_refl _) _)
  have eqt := fun W => (eql_tx us us W).trans (by rw [(sameT_iff us us).2 fun _ _ => rfl])
  have eqr := fun W => (eql_rec (recL vs) (recL vs) (recL_len _) (recL_len _) W).trans (by rw [beq_self_eq_true])
  have gt := fun (o : BinOp) (x y : Operand) (xs ys : Array Value) (W : World) => guard_tx o x y xs ys W
  have gr := fun (o : BinOp) (x y : Operand) (xs ys : Array Value) (W : World) => guard_rec o x y xs ys W
  have es := eql_self (Rlp.form (tItem vs))
  have eg := run_guard_str (Rlp.form (tItem vs)) (Rlp.form (tItem vs))
  have es2 := eql_self bs
  have eg2 := run_guard_str bs bs
  unfold maxLen at hcm
  unfold txV
  clear hv ho hl hn hs hb hd he
  go_enter Tryd.func3, Tryd.ntmps3
  go_wp2_with (first
    | (go_at_call 5; (with_reducible refine (enc_ok vs _ HW.out HO.out).mono ?_); rintro e w1 ⟨xa, xn, xc, rfl, hx, hb⟩; have HB1 := Lib.hid (HB0.out.trans (hb.mono HB0.out.size)); have HT1 := Lib.hid (HT0.out.below hb); have HE1 := Lib.hid (HE0.out.below hb); have t0_1 := HT1.out.2 0 (by decide); have t1_1 := HT1.out.2 1 (by decide); have t2_1 := HT1.out.2 2 (by decide); have t3_1 := HT1.out.2 3 (by decide); have t4_1 := HT1.out.2 4 (by decide); have t5_1 := HT1.out.2 5 (by decide); have ts_1 := HT1.out.1; have HX1 := Lib.hid hx; clear hb hx)
    | (go_at_call 6; (with_reducible refine (rtenc_ok vs _ HW.out HO.out).mono ?_); rintro e w2 ⟨hb, ya, yn, yc, rfl, hy⟩; have HB2 := Lib.hid (HB1.out.trans (hb.mono HB1.out.size)); have HT2 := Lib.hid (HT1.out.below hb); have HE2 := Lib.hid (HE1.out.below hb); have HX2 := Lib.hid (HX1.out.below hb); have t0_2 := HT2.out.2 0 (by decide); have t1_2 := HT2.out.2 1 (by decide); have t2_2 := HT2.out.2 2 (by decide); have t3_2 := HT2.out.2 3 (by decide); have t4_2 := HT2.out.2 4 (by decide); have t5_2 := HT2.out.2 5 (by decide); have ts_2 := HT2.out.1; have HY2 := Lib.hid hy; clear hb hy)
    | (at_builtin; refine wpList_append_B rfl (.tmp 25) (.tmp 26) rfl w2.heap.size (some ⟨w2.heap.size, 0, none⟩) 0 0 [] a1 len1 cap1 bs (own_none w2) (HBy.out.below (HB2.out.alloc HB2.out.size _)) rfl rfl HL.out HN.out HS.out (by simp) ?_; intro ma mc w3 ho hg _; have hbb : Below w2.heap.size w2 w3 := (((Below.refl _ _).alloc (Nat.le_refl _) _).trans (grown_below hg (own_none w2) (Nat.le_refl _) (by simp))); have HB3 := Lib.hid (HB2.out.trans (hbb.mono HB2.out.size)); have HT3 := Lib.hid (HT2.out.below hbb); have HE3 := Lib.hid (HE2.out.below hbb); have HX3 := Lib.hid (HX2.out.below hbb); have HY3 := Lib.hid (HY2.out.below hbb); have t0_3 := HT3.out.2 0 (by decide); have t1_3 := HT3.out.2 1 (by decide); have t2_3 := HT3.out.2 2 (by decide); have t3_3 := HT3.out.2 3 (by decide); have t4_3 := HT3.out.2 4 (by decide); have t5_3 := HT3.out.2 5 (by decide); have ts_3 := HT3.out.1; have HM3 : Hid (OwnB w3 w2.heap.size ma len1 mc bs) := (by show OwnB _ _ _ _ _ _; simpa using ho); clear ho hg hbb)
    | (go_at_call 7; (with_reducible refine (tdec_V _ ma len1 mc bs HL.out HM3.out.cap.1 HM3.out.cap.2.1 HM3.out.bytes).mono ?_); rintro e w4 ⟨hb4, he⟩; rw [HD.out] at he; subst he; have hbb : Below w3.heap.size w3 (w4.alloc (.cells #[.int .u64 (us 0), .int .u64 (us 1), .int .u64 (us 2), .int .u64 (us 3), .int .u64 (us 4), .int .u64 (us 5)] TTX)) := (hb4.alloc hb4.size _); have HB4 := Lib.hid (HB3.out.trans (hbb.mono HB3.out.size)); have HT4 := Lib.hid (HT3.out.below hbb); have HE4 := Lib.hid (HE3.out.below hbb); have HX4 := Lib.hid (HX3.out.below hbb); have HY4 := Lib.hid (HY3.out.below hbb); have HM4 := Lib.hid (HM3.out.below hbb); have HU4 : Hid (TXC w4.heap.size us (w4.alloc (.cells #[.int .u64 (us 0), .int .u64 (us 1), .int .u64 (us 2), .int .u64 (us 3), .int .u64 (us 4), .int .u64 (us 5)] TTX))) := (txc_new w4 us TTX _ rfl); clear hb4 hbb)
    | (go_at_call 8; (with_reducible refine (rtdec_V _ a1 len1 cap1 bs HL.out hlc HCM.out (HBy.out.below HB4.out)).mono ?_); rintro e w5 ⟨hb5, he⟩; rw [HD.out] at he; subst he; have hbb : Below (w4.alloc (.cells #[.int .u64 (us 0), .int .u64 (us 1), .int .u64 (us 2), .int .u64 (us 3), .int .u64 (us 4), .int .u64 (us 5)] TTX)).heap.size (w4.alloc (.cells #[.int .u64 (us 0), .int .u64 (us 1), .int .u64 (us 2), .int .u64 (us 3), .int .u64 (us 4), .int .u64 (us 5)] TTX)) (w5.alloc (.cells #[.int .u64 (us 0), .int .u64 (us 1), .int .u64 (us 2), .int .u64 (us 3), .int .u64 (us 4), .int .u64 (us 5)] TTX)) := (hb5.alloc hb5.size _); have HB5 := Lib.hid (HB4.out.trans (hbb.mono HB4.out.size)); have HT5 := Lib.hid (HT4.out.below hbb); have HE5 := Lib.hid (HE4.out.below hbb); have HX5 := Lib.hid (HX4.out.below hbb); have HY5 := Lib.hid (HY4.out.below hbb); have HM5 := Lib.hid (HM4.out.below hbb); have HU5 := Lib.hid (HU4.out.below hbb); have HV5 : Hid (TXC w5.heap.size us (w5.alloc (.cells #[.int .u64 (us 0), .int .u64 (us 1), .int .u64 (us 2), .int .u64 (us 3), .int .u64 (us 4), .int .u64 (us 5)] TTX))) := (txc_new w5 us TTX _ rfl); clear hb5 hbb))
  obtain ⟨W5, hW5⟩ : ∃ W5, (w5.alloc (.cells #[.int .u64 (us 0), .int .u64 (us 1), .int .u64 (us 2), .int .u64 (us 3), .int .u64 (us 4), .int .u64 (us 5)] TTX)) = W5 := ⟨_, rfl⟩
  rw [hW5] at HB5 HT5 HE5 HX5 HY5 HM5 HU5 HV5 ⊢
  clear hW5
  have keep : ∀ W W', (fun W => Below W5.heap.size W5 W) W → Below W.heap.size W W' → (fun W => Below W5.heap.size W5 W) W' := fun W W' h hb => h.trans (hb.mono h.size)
  have hne : Nonempty (Held (fun W => Below W5.heap.size W5 W)) := ⟨⟨_, Below.refl _ _⟩⟩
  have ht0 : ∀ s : Held (fun W => Below W5.heap.size W5 W), s.w.cell? ⟨w.heap.size, 0, none⟩ = some (.int .u64 (vs 0)) := fun s => (HT5.out.below s.ok).2 0 (by decide)
  have ht1 : ∀ s : Held (fun W => Below W5.heap.size W5 W), s.w.cell? ⟨w.heap.size, 1, none⟩ = some (.int .u64 (vs 1)) := fun s => (HT5.out.below s.ok).2 1 (by decide)
  have ht2 : ∀ s : Held (fun W => Below W5.heap.size W5 W), s.w.cell? ⟨w.heap.size, 2, none⟩ = some (.int .u64 (vs 2)) := fun s => (HT5.out.below s.ok).2 2 (by decide)
  have ht3 : ∀ s : Held (fun W => Below W5.heap.size W5 W), s.w.cell? ⟨w.heap.size, 3, none⟩ = some (.int .u64 (vs 3)) := fun s => (HT5.out.below s.ok).2 3 (by decide)
  have ht4 : ∀ s : Held (fun W => Below W5.heap.size W5 W), s.w.cell? ⟨w.heap.size, 4, none⟩ = some (.int .u64 (vs 4)) := fun s => (HT5.out.below s.ok).2 4 (by decide)
  have ht5 : ∀ s : Held (fun W => Below W5.heap.size W5 W), s.w.cell? ⟨w.heap.size, 5, none⟩ = some (.int .u64 (vs 5)) := fun s => (HT5.out.below s.ok).2 5 (by decide)
  have hu0 : ∀ s : Held (fun W => Below W5.heap.size W5 W), s.w.cell? ⟨w4.heap.size, 0, none⟩ = some (.int .u64 (us 0)) := fun s => (HU5.out.below s.ok).2 0 (by decide)
  have hu1 : ∀ s : Held (fun W => Below W5.heap.size W5 W), s.w.cell? ⟨w4.heap.size, 1, none⟩ = some (.int .u64 (us 1)) := fun s => (HU5.out.below s.ok).2 1 (by decide)
  have hu2 : ∀ s : Held (fun W => Below W5.heap.size W5 W), s.w.cell? ⟨w4.heap.size, 2, none⟩ = some (.int .u64 (us 2)) := fun s => (HU5.out.below s.ok).2 2 (by decide)
  have hu3 : ∀ s : Held (fun W => Below W5.heap.size W5 W), s.w.cell? ⟨w4.heap.size, 3, none⟩ = some (.int .u64 (us 3)) := fun s => (HU5.out.below s.ok).2 3 (by decide)
  have hu4 : ∀ s : Held (fun W => Below W5.heap.size W5 W), s.w.cell? ⟨w4.heap.size, 4, none⟩ = some (.int .u64 (us 4)) := fun s => (HU5.out.below s.ok).2 4 (by decide)
  have hu5 : ∀ s : Held (fun W => Below W5.heap.size W5 W), s.w.cell? ⟨w4.heap.size, 5, none⟩ = some (.int .u64 (us 5)) := fun s => (HU5.out.below s.ok).2 5 (by decide)
  have hv0 : ∀ s : Held (fun W => Below W5.heap.size W5 W), s.w.cell? ⟨w5.heap.size, 0, none⟩ = some (.int .u64 (us 0)) := fun s => (HV5.out.below s.ok).2 0 (by decide)
  have hv1 : ∀ s : Held (fun W => Below W5.heap.size W5 W), s.w.cell? ⟨w5.heap.size, 1, none⟩ = some (.int .u64 (us 1)) := fun s => (HV5.out.below s.ok).2 1 (by decide)
  have hv2 : ∀ s : Held (fun W => Below W5.heap.size W5 W), s.w.cell? ⟨w5.heap.size, 2, none⟩ = some (.int .u64 (us 2)) := fun s => (HV5.out.below s.ok).2 2 (by decide)
  have hv3 : ∀ s : Held (fun W => Below W5.heap.size W5 W), s.w.cell? ⟨w5.heap.size, 3, none⟩ = some (.int .u64 (us 3)) := fun s => (HV5.out.below s.ok).2 3 (by decide)
  have hv4 : ∀ s : Held (fun W => Below W5.heap.size W5 W), s.w.cell? ⟨w5.heap.size, 4, none⟩ = some (.int .u64 (us 4)) := fun s => (HV5.out.below s.ok).2 4 (by decide)
  have hv5 : ∀ s : Held (fun W => Below W5.heap.size W5 W), s.w.cell? ⟨w5.heap.size, 5, none⟩ = some (.int .u64 (us 5)) := fun s => (HV5.out.below s.ok).2 5 (by decide)
  have cx : ∀ s : Held (fun W => Below W5.heap.size W5 W), (convert TBS TS (.slice xa xn xc)).run Tryd.prog s.w = .ok (strB (Rlp.form (tItem vs))) s.w := fun s => (HX5.out.below s.ok).str
  have cy : ∀ s : Held (fun W => Below W5.heap.size W5 W), (convert TBS TS (.slice ya yn yc)).run Tryd.prog s.w = .ok (strB (Rlp.form (tItem vs))) s.w := fun s => (HY5.out.below s.ok).str
  have cm : ∀ s : Held (fun W => Below W5.heap.size W5 W), (convert TBS TS (.slice ma len1 mc)).run Tryd.prog s.w = .ok (strB bs) s.w := fun s => (HM5.out.below s.ok).str
  have cb : ∀ s : Held (fun W => Below W5.heap.size W5 W), (convert TBS TS (.slice a1 len1 cap1)).run Tryd.prog s.w = .ok (strB bs) s.w := fun s => str_V HL.out HN.out ((HBy.out.below HB5.out).below s.ok)
  have hE : ∀ s : Held (fun W => Below W5.heap.size W5 W), Hid (ErrType s.w) := fun s => HE5.out.below s.ok
  clear HT0 HE0 HB0 HB1 HB2 HB3 HB4
  refine wp_region_held (S := (fun W => Below W5.heap.size W5 W)) (by kernel_rfl) (by kernel_rfl) (keep _ _ (Below.refl _ _) (Below.refl _ _).drew) ?_
  repeat (go_big_quiet_step (first
    | (go_at_call 9; with_reducible exact held_call (fixed4_V _) keep)
    | (go_at_call 10; with_reducible exact held_call (wrong_nil _ _) keep)
    | (go_at_call 10; with_reducible exact held_call (wrong_nil _ _) keep)
    | (go_at_call 11; with_reducible exact held_call (rec_X vs _ HW.out) keep)
    | (go_at_call 12; with_reducible exact held_call (rrec_V vs _ HW.out) keep)))
  refine wpQuiet_nil ?_
  intro _ hw'
  obtain ⟨s6, hw''⟩ := hw'
  subst hw''
  go_wp2
  go_returns
  exact ⟨by simp, HB5.out.trans (s6.ok.mono HB5.out.size)⟩
set_option maxRecDepth 100000 in
set_option maxHeartbeats 16000000 in
theorem codes_ok_none (w : World) (vs : Nat → Nat) (hv : wide vs) (ho : okTx vs) (a1 : Option Addr) (len1 cap1 : Nat) (bs : List UInt8) (hl : bs.length = len1) (hlc : len1 ≤ cap1) (hcm : cap1 ≤ maxLen) (hn : a1 = none → cap1 = 0) (hb : BytesF (fun _ => True) w a1 bs) (hs : Sm (0 + len1)) (he : ErrType w) (k : Nat) (hd : tDec bs = .error (none, k)) :
    Calls Tryd.prog 3 #[txV vs, .slice a1 len1 cap1] w fun e w' => e = .returned (.bool true) ∧ Below w.heap.size w w' := by
  have HW := Lib.hid hv
  have HO := Lib.hid ho
  have HL := Lib.hid hl
  have HN := Lib.hid hn
  have HS := Lib.hid hs
  have HBy := Lib.hid hb
  have HD := Lib.hid hd
  have HCM := Lib.hid hcm
  have NZ := Lib.hid (tdec_nz hd)
  have HB0 : Hid (Below w.heap.size w (w.alloc (.cells #[.int .u64 (vs 0), .int .u64 (vs 1), .int .u64 (vs 2), .int .u64 (vs 3), .int .u64 (vs 4), .int .u64 (vs 5)] TTX))) := (Below.refl _ _).alloc (Nat.le_refl _) _
  have HT0 := Lib.hid (txc_new w vs TTX _ rfl)
  have HE0 : Hid (ErrType (w.alloc (.cells #[.int .u64 (vs 0), .int .u64 (vs 1), .int .u64 (vs 2), .int .u64 (vs 3), .int .u64 (vs 4), .int .u64 (vs 5)] TTX))) := he.below ((Below.refl _ _).alloc (Nat.le_refl _) _)
  have eqt := fun W => zero_eq W
  have eqr := fun W => (eql_rec (recL vs) (recL vs) (recL_len _) (recL_len _) W).trans (by rw [beq_self_eq_true])
  have gt := fun (o : BinOp) (x y : Operand) (xs ys : Array Value) (W : World) => guard_tx o x y xs ys W
  have gr := fun (o : BinOp) (x y : Operand) (xs ys : Array Value) (W : World) => guard_rec o x y xs ys W
  have es := eql_self (Rlp.form (tItem vs))
  have eg := run_guard_str (Rlp.form (tItem vs)) (Rlp.form (tItem vs))
  have es2 := eql_self bs
  have eg2 := run_guard_str bs bs
  unfold maxLen at hcm
  unfold txV
  clear hv ho hl hn hs hb hd he
  go_enter Tryd.func3, Tryd.ntmps3
  go_wp2_with (first
    | (go_at_call 5; (with_reducible refine (enc_ok vs _ HW.out HO.out).mono ?_); rintro e w1 ⟨xa, xn, xc, rfl, hx, hb⟩; have HB1 := Lib.hid (HB0.out.trans (hb.mono HB0.out.size)); have HT1 := Lib.hid (HT0.out.below hb); have HE1 := Lib.hid (HE0.out.below hb); have t0_1 := HT1.out.2 0 (by decide); have t1_1 := HT1.out.2 1 (by decide); have t2_1 := HT1.out.2 2 (by decide); have t3_1 := HT1.out.2 3 (by decide); have t4_1 := HT1.out.2 4 (by decide); have t5_1 := HT1.out.2 5 (by decide); have ts_1 := HT1.out.1; have HX1 := Lib.hid hx; clear hb hx)
    | (go_at_call 6; (with_reducible refine (rtenc_ok vs _ HW.out HO.out).mono ?_); rintro e w2 ⟨hb, ya, yn, yc, rfl, hy⟩; have HB2 := Lib.hid (HB1.out.trans (hb.mono HB1.out.size)); have HT2 := Lib.hid (HT1.out.below hb); have HE2 := Lib.hid (HE1.out.below hb); have HX2 := Lib.hid (HX1.out.below hb); have t0_2 := HT2.out.2 0 (by decide); have t1_2 := HT2.out.2 1 (by decide); have t2_2 := HT2.out.2 2 (by decide); have t3_2 := HT2.out.2 3 (by decide); have t4_2 := HT2.out.2 4 (by decide); have t5_2 := HT2.out.2 5 (by decide); have ts_2 := HT2.out.1; have HY2 := Lib.hid hy; clear hb hy)
    | (at_builtin; refine wpList_append_B rfl (.tmp 25) (.tmp 26) rfl w2.heap.size (some ⟨w2.heap.size, 0, none⟩) 0 0 [] a1 len1 cap1 bs (own_none w2) (HBy.out.below (HB2.out.alloc HB2.out.size _)) rfl rfl HL.out HN.out HS.out (by simp) ?_; intro ma mc w3 ho hg _; have hbb : Below w2.heap.size w2 w3 := (((Below.refl _ _).alloc (Nat.le_refl _) _).trans (grown_below hg (own_none w2) (Nat.le_refl _) (by simp))); have HB3 := Lib.hid (HB2.out.trans (hbb.mono HB2.out.size)); have HT3 := Lib.hid (HT2.out.below hbb); have HE3 := Lib.hid (HE2.out.below hbb); have HX3 := Lib.hid (HX2.out.below hbb); have HY3 := Lib.hid (HY2.out.below hbb); have t0_3 := HT3.out.2 0 (by decide); have t1_3 := HT3.out.2 1 (by decide); have t2_3 := HT3.out.2 2 (by decide); have t3_3 := HT3.out.2 3 (by decide); have t4_3 := HT3.out.2 4 (by decide); have t5_3 := HT3.out.2 5 (by decide); have ts_3 := HT3.out.1; have HM3 : Hid (OwnB w3 w2.heap.size ma len1 mc bs) := (by show OwnB _ _ _ _ _ _; simpa using ho); clear ho hg hbb)
    | (go_at_call 7; (with_reducible refine (tdec_V _ ma len1 mc bs HL.out HM3.out.cap.1 HM3.out.cap.2.1 HM3.out.bytes).mono ?_); rintro e w4 ⟨hb4, he⟩; rw [HD.out] at he; subst he; have hbb : Below w3.heap.size w3 (w4.alloc (.cells #[.int .u64 0, .int .u64 0, .int .u64 0, .int .u64 0, .int .u64 0, .int .u64 0] TTX)) := (hb4.alloc hb4.size _); have HB4 := Lib.hid (HB3.out.trans (hbb.mono HB3.out.size)); have HT4 := Lib.hid (HT3.out.below hbb); have HE4 := Lib.hid (HE3.out.below hbb); have HX4 := Lib.hid (HX3.out.below hbb); have HY4 := Lib.hid (HY3.out.below hbb); have HM4 := Lib.hid (HM3.out.below hbb); have HU4 : Hid (TXC w4.heap.size (fun _ => 0) (w4.alloc (.cells #[.int .u64 0, .int .u64 0, .int .u64 0, .int .u64 0, .int .u64 0, .int .u64 0] TTX))) := (txc_new w4 (fun _ => 0) TTX _ rfl); clear hb4 hbb)
    | (go_at_call 8; (with_reducible refine (rtdec_V _ a1 len1 cap1 bs HL.out hlc HCM.out (HBy.out.below HB4.out)).mono ?_); rintro e w5 ⟨hb5, he⟩; rw [HD.out] at he; subst he; have hbb : Below (w4.alloc (.cells #[.int .u64 0, .int .u64 0, .int .u64 0, .int .u64 0, .int .u64 0, .int .u64 0] TTX)).heap.size (w4.alloc (.cells #[.int .u64 0, .int .u64 0, .int .u64 0, .int .u64 0, .int .u64 0, .int .u64 0] TTX)) (w5.alloc (.cells #[.int .u64 0, .int .u64 0, .int .u64 0, .int .u64 0, .int .u64 0, .int .u64 0] TTX)) := (hb5.alloc hb5.size _); have HB5 := Lib.hid (HB4.out.trans (hbb.mono HB4.out.size)); have HT5 := Lib.hid (HT4.out.below hbb); have HE5 := Lib.hid (HE4.out.below hbb); have HX5 := Lib.hid (HX4.out.below hbb); have HY5 := Lib.hid (HY4.out.below hbb); have HM5 := Lib.hid (HM4.out.below hbb); have HU5 := Lib.hid (HU4.out.below hbb); have HV5 : Hid (TXC w5.heap.size (fun _ => 0) (w5.alloc (.cells #[.int .u64 0, .int .u64 0, .int .u64 0, .int .u64 0, .int .u64 0, .int .u64 0] TTX))) := (txc_new w5 (fun _ => 0) TTX _ rfl); clear hb5 hbb))
  obtain ⟨W5, hW5⟩ : ∃ W5, (w5.alloc (.cells #[.int .u64 0, .int .u64 0, .int .u64 0, .int .u64 0, .int .u64 0, .int .u64 0] TTX)) = W5 := ⟨_, rfl⟩
  rw [hW5] at HB5 HT5 HE5 HX5 HY5 HM5 HU5 HV5 ⊢
  clear hW5
  have keep : ∀ W W', (fun W => Below W5.heap.size W5 W) W → Below W.heap.size W W' → (fun W => Below W5.heap.size W5 W) W' := fun W W' h hb => h.trans (hb.mono h.size)
  have hne : Nonempty (Held (fun W => Below W5.heap.size W5 W)) := ⟨⟨_, Below.refl _ _⟩⟩
  have ht0 : ∀ s : Held (fun W => Below W5.heap.size W5 W), s.w.cell? ⟨w.heap.size, 0, none⟩ = some (.int .u64 (vs 0)) := fun s => (HT5.out.below s.ok).2 0 (by decide)
  have ht1 : ∀ s : Held (fun W => Below W5.heap.size W5 W), s.w.cell? ⟨w.heap.size, 1, none⟩ = some (.int .u64 (vs 1)) := fun s => (HT5.out.below s.ok).2 1 (by decide)
  have ht2 : ∀ s : Held (fun W => Below W5.heap.size W5 W), s.w.cell? ⟨w.heap.size, 2, none⟩ = some (.int .u64 (vs 2)) := fun s => (HT5.out.below s.ok).2 2 (by decide)
  have ht3 : ∀ s : Held (fun W => Below W5.heap.size W5 W), s.w.cell? ⟨w.heap.size, 3, none⟩ = some (.int .u64 (vs 3)) := fun s => (HT5.out.below s.ok).2 3 (by decide)
  have ht4 : ∀ s : Held (fun W => Below W5.heap.size W5 W), s.w.cell? ⟨w.heap.size, 4, none⟩ = some (.int .u64 (vs 4)) := fun s => (HT5.out.below s.ok).2 4 (by decide)
  have ht5 : ∀ s : Held (fun W => Below W5.heap.size W5 W), s.w.cell? ⟨w.heap.size, 5, none⟩ = some (.int .u64 (vs 5)) := fun s => (HT5.out.below s.ok).2 5 (by decide)
  have hu0 : ∀ s : Held (fun W => Below W5.heap.size W5 W), s.w.cell? ⟨w4.heap.size, 0, none⟩ = some (.int .u64 0) := fun s => zc (HU5.out.below s.ok) 0 (by decide)
  have hu1 : ∀ s : Held (fun W => Below W5.heap.size W5 W), s.w.cell? ⟨w4.heap.size, 1, none⟩ = some (.int .u64 0) := fun s => zc (HU5.out.below s.ok) 1 (by decide)
  have hu2 : ∀ s : Held (fun W => Below W5.heap.size W5 W), s.w.cell? ⟨w4.heap.size, 2, none⟩ = some (.int .u64 0) := fun s => zc (HU5.out.below s.ok) 2 (by decide)
  have hu3 : ∀ s : Held (fun W => Below W5.heap.size W5 W), s.w.cell? ⟨w4.heap.size, 3, none⟩ = some (.int .u64 0) := fun s => zc (HU5.out.below s.ok) 3 (by decide)
  have hu4 : ∀ s : Held (fun W => Below W5.heap.size W5 W), s.w.cell? ⟨w4.heap.size, 4, none⟩ = some (.int .u64 0) := fun s => zc (HU5.out.below s.ok) 4 (by decide)
  have hu5 : ∀ s : Held (fun W => Below W5.heap.size W5 W), s.w.cell? ⟨w4.heap.size, 5, none⟩ = some (.int .u64 0) := fun s => zc (HU5.out.below s.ok) 5 (by decide)
  have hv0 : ∀ s : Held (fun W => Below W5.heap.size W5 W), s.w.cell? ⟨w5.heap.size, 0, none⟩ = some (.int .u64 0) := fun s => zc (HV5.out.below s.ok) 0 (by decide)
  have hv1 : ∀ s : Held (fun W => Below W5.heap.size W5 W), s.w.cell? ⟨w5.heap.size, 1, none⟩ = some (.int .u64 0) := fun s => zc (HV5.out.below s.ok) 1 (by decide)
  have hv2 : ∀ s : Held (fun W => Below W5.heap.size W5 W), s.w.cell? ⟨w5.heap.size, 2, none⟩ = some (.int .u64 0) := fun s => zc (HV5.out.below s.ok) 2 (by decide)
  have hv3 : ∀ s : Held (fun W => Below W5.heap.size W5 W), s.w.cell? ⟨w5.heap.size, 3, none⟩ = some (.int .u64 0) := fun s => zc (HV5.out.below s.ok) 3 (by decide)
  have hv4 : ∀ s : Held (fun W => Below W5.heap.size W5 W), s.w.cell? ⟨w5.heap.size, 4, none⟩ = some (.int .u64 0) := fun s => zc (HV5.out.below s.ok) 4 (by decide)
  have hv5 : ∀ s : Held (fun W => Below W5.heap.size W5 W), s.w.cell? ⟨w5.heap.size, 5, none⟩ = some (.int .u64 0) := fun s => zc (HV5.out.below s.ok) 5 (by decide)
  have cx : ∀ s : Held (fun W => Below W5.heap.size W5 W), (convert TBS TS (.slice xa xn xc)).run Tryd.prog s.w = .ok (strB (Rlp.form (tItem vs))) s.w := fun s => (HX5.out.below s.ok).str
  have cy : ∀ s : Held (fun W => Below W5.heap.size W5 W), (convert TBS TS (.slice ya yn yc)).run Tryd.prog s.w = .ok (strB (Rlp.form (tItem vs))) s.w := fun s => (HY5.out.below s.ok).str
  have cm : ∀ s : Held (fun W => Below W5.heap.size W5 W), (convert TBS TS (.slice ma len1 mc)).run Tryd.prog s.w = .ok (strB bs) s.w := fun s => (HM5.out.below s.ok).str
  have cb : ∀ s : Held (fun W => Below W5.heap.size W5 W), (convert TBS TS (.slice a1 len1 cap1)).run Tryd.prog s.w = .ok (strB bs) s.w := fun s => str_V HL.out HN.out ((HBy.out.below HB5.out).below s.ok)
  have hE : ∀ s : Held (fun W => Below W5.heap.size W5 W), Hid (ErrType s.w) := fun s => HE5.out.below s.ok
  clear HT0 HE0 HB0 HB1 HB2 HB3 HB4
  refine wp_region_held (S := (fun W => Below W5.heap.size W5 W)) (by kernel_rfl) (by kernel_rfl) (keep _ _ (Below.refl _ _) (Below.refl _ _).drew) ?_
  repeat (go_big_quiet_step (first
    | (go_at_call 9; with_reducible exact held_call (fixed4_V _) keep)
    | (go_at_call 10; with_reducible exact held_call (wrong_nil _ _) keep)
    | (go_at_call 10; with_reducible exact held_call (wrong_num _ k NZ.out (hE _)) keep)
    | (go_at_call 11; with_reducible exact held_call (rec_X vs _ HW.out) keep)
    | (go_at_call 12; with_reducible exact held_call (rrec_V vs _ HW.out) keep)))
  refine wpQuiet_nil ?_
  intro _ hw'
  obtain ⟨s6, hw''⟩ := hw'
  subst hw''
  go_wp2
  go_returns
  exact ⟨by simp, HB5.out.trans (s6.ok.mono HB5.out.size)⟩
set_option maxRecDepth 100000 in
set_option maxHeartbeats 16000000 in
theorem codes_ok_some (w : World) (vs : Nat → Nat) (hv : wide vs) (ho : okTx vs) (a1 : Option Addr) (len1 cap1 : Nat) (bs : List UInt8) (hl : bs.length = len1) (hlc : len1 ≤ cap1) (hcm : cap1 ≤ maxLen) (hn : a1 = none → cap1 = 0) (hb : BytesF (fun _ => True) w a1 bs) (hs : Sm (0 + len1)) (he : ErrType w) (p k : Nat) (hd : tDec bs = .error (some p, k)) :
    Calls Tryd.prog 3 #[txV vs, .slice a1 len1 cap1] w fun e w' => e = .returned (.bool true) ∧ Below w.heap.size w w' := by
  have HW := Lib.hid hv
  have HO := Lib.hid ho
  have HL := Lib.hid hl
  have HN := Lib.hid hn
  have HS := Lib.hid hs
  have HBy := Lib.hid hb
  have HD := Lib.hid hd
  have HCM := Lib.hid hcm
  have NZ := Lib.hid (tdec_nz hd)
  have HB0 : Hid (Below w.heap.size w (w.alloc (.cells #[.int .u64 (vs 0), .int .u64 (vs 1), .int .u64 (vs 2), .int .u64 (vs 3), .int .u64 (vs 4), .int .u64 (vs 5)] TTX))) := (Below.refl _ _).alloc (Nat.le_refl _) _
  have HT0 := Lib.hid (txc_new w vs TTX _ rfl)
  have HE0 : Hid (ErrType (w.alloc (.cells #[.int .u64 (vs 0), .int .u64 (vs 1), .int .u64 (vs 2), .int .u64 (vs 3), .int .u64 (vs 4), .int .u64 (vs 5)] TTX))) := he.below ((Below.refl _ _).alloc (Nat.le_refl _) _)
  have eqt := fun W => zero_eq W
  have eqr := fun W => (eql_rec (recL vs) (recL vs) (recL_len _) (recL_len _) W).trans (by rw [beq_self_eq_true])
  have gt := fun (o : BinOp) (x y : Operand) (xs ys : Array Value) (W : World) => guard_tx o x y xs ys W
  have gr := fun (o : BinOp) (x y : Operand) (xs ys : Array Value) (W : World) => guard_rec o x y xs ys W
  have es := eql_self (Rlp.form (tItem vs))
  have eg := run_guard_str (Rlp.form (tItem vs)) (Rlp.form (tItem vs))
  have es2 := eql_self bs
  have eg2 := run_guard_str bs bs
  unfold maxLen at hcm
  unfold txV
  clear hv ho hl hn hs hb hd he
  go_enter Tryd.func3, Tryd.ntmps3
  go_wp2_with (first
    | (go_at_call 5; (with_reducible refine (enc_ok vs _ HW.out HO.out).mono ?_); rintro e w1 ⟨xa, xn, xc, rfl, hx, hb⟩; have HB1 := Lib.hid (HB0.out.trans (hb.mono HB0.out.size)); have HT1 := Lib.hid (HT0.out.below hb); have HE1 := Lib.hid (HE0.out.below hb); have t0_1 := HT1.out.2 0 (by decide); have t1_1 := HT1.out.2 1 (by decide); have t2_1 := HT1.out.2 2 (by decide); have t3_1 := HT1.out.2 3 (by decide); have t4_1 := HT1.out.2 4 (by decide); have t5_1 := HT1.out.2 5 (by decide); have ts_1 := HT1.out.1; have HX1 := Lib.hid hx; clear hb hx)
    | (go_at_call 6; (with_reducible refine (rtenc_ok vs _ HW.out HO.out).mono ?_); rintro e w2 ⟨hb, ya, yn, yc, rfl, hy⟩; have HB2 := Lib.hid (HB1.out.trans (hb.mono HB1.out.size)); have HT2 := Lib.hid (HT1.out.below hb); have HE2 := Lib.hid (HE1.out.below hb); have HX2 := Lib.hid (HX1.out.below hb); have t0_2 := HT2.out.2 0 (by decide); have t1_2 := HT2.out.2 1 (by decide); have t2_2 := HT2.out.2 2 (by decide); have t3_2 := HT2.out.2 3 (by decide); have t4_2 := HT2.out.2 4 (by decide); have t5_2 := HT2.out.2 5 (by decide); have ts_2 := HT2.out.1; have HY2 := Lib.hid hy; clear hb hy)
    | (at_builtin; refine wpList_append_B rfl (.tmp 25) (.tmp 26) rfl w2.heap.size (some ⟨w2.heap.size, 0, none⟩) 0 0 [] a1 len1 cap1 bs (own_none w2) (HBy.out.below (HB2.out.alloc HB2.out.size _)) rfl rfl HL.out HN.out HS.out (by simp) ?_; intro ma mc w3 ho hg _; have hbb : Below w2.heap.size w2 w3 := (((Below.refl _ _).alloc (Nat.le_refl _) _).trans (grown_below hg (own_none w2) (Nat.le_refl _) (by simp))); have HB3 := Lib.hid (HB2.out.trans (hbb.mono HB2.out.size)); have HT3 := Lib.hid (HT2.out.below hbb); have HE3 := Lib.hid (HE2.out.below hbb); have HX3 := Lib.hid (HX2.out.below hbb); have HY3 := Lib.hid (HY2.out.below hbb); have t0_3 := HT3.out.2 0 (by decide); have t1_3 := HT3.out.2 1 (by decide); have t2_3 := HT3.out.2 2 (by decide); have t3_3 := HT3.out.2 3 (by decide); have t4_3 := HT3.out.2 4 (by decide); have t5_3 := HT3.out.2 5 (by decide); have ts_3 := HT3.out.1; have HM3 : Hid (OwnB w3 w2.heap.size ma len1 mc bs) := (by show OwnB _ _ _ _ _ _; simpa using ho); clear ho hg hbb)
    | (go_at_call 7; (with_reducible refine (tdec_V _ ma len1 mc bs HL.out HM3.out.cap.1 HM3.out.cap.2.1 HM3.out.bytes).mono ?_); rintro e w4 ⟨hb4, he⟩; rw [HD.out] at he; obtain ⟨q, rfl, hf⟩ := he; have hbb : Below w3.heap.size w3 (w4.alloc (.cells #[.int .u64 0, .int .u64 0, .int .u64 0, .int .u64 0, .int .u64 0, .int .u64 0] TTX)) := (hb4.alloc hb4.size _); have HB4 := Lib.hid (HB3.out.trans (hbb.mono HB3.out.size)); have HT4 := Lib.hid (HT3.out.below hbb); have HE4 := Lib.hid (HE3.out.below hbb); have HX4 := Lib.hid (HX3.out.below hbb); have HY4 := Lib.hid (HY3.out.below hbb); have HM4 := Lib.hid (HM3.out.below hbb); have HU4 : Hid (TXC w4.heap.size (fun _ => 0) (w4.alloc (.cells #[.int .u64 0, .int .u64 0, .int .u64 0, .int .u64 0, .int .u64 0, .int .u64 0] TTX))) := (txc_new w4 (fun _ => 0) TTX _ rfl); have HF4 := Lib.hid (hf.below ((Below.refl _ _).alloc (Nat.le_refl _) (.cells #[.int .u64 0, .int .u64 0, .int .u64 0, .int .u64 0, .int .u64 0, .int .u64 0] TTX))); clear hb4 hbb hf)
    | (go_at_call 8; (with_reducible refine (rtdec_V _ a1 len1 cap1 bs HL.out hlc HCM.out (HBy.out.below HB4.out)).mono ?_); rintro e w5 ⟨hb5, he⟩; rw [HD.out] at he; subst he; have hbb : Below (w4.alloc (.cells #[.int .u64 0, .int .u64 0, .int .u64 0, .int .u64 0, .int .u64 0, .int .u64 0] TTX)).heap.size (w4.alloc (.cells #[.int .u64 0, .int .u64 0, .int .u64 0, .int .u64 0, .int .u64 0, .int .u64 0] TTX)) (w5.alloc (.cells #[.int .u64 0, .int .u64 0, .int .u64 0, .int .u64 0, .int .u64 0, .int .u64 0] TTX)) := (hb5.alloc hb5.size _); have HB5 := Lib.hid (HB4.out.trans (hbb.mono HB4.out.size)); have HT5 := Lib.hid (HT4.out.below hbb); have HE5 := Lib.hid (HE4.out.below hbb); have HX5 := Lib.hid (HX4.out.below hbb); have HY5 := Lib.hid (HY4.out.below hbb); have HM5 := Lib.hid (HM4.out.below hbb); have HU5 := Lib.hid (HU4.out.below hbb); have HF5 := Lib.hid (HF4.out.below hbb); have HV5 : Hid (TXC w5.heap.size (fun _ => 0) (w5.alloc (.cells #[.int .u64 0, .int .u64 0, .int .u64 0, .int .u64 0, .int .u64 0, .int .u64 0] TTX))) := (txc_new w5 (fun _ => 0) TTX _ rfl); clear hb5 hbb))
  obtain ⟨W5, hW5⟩ : ∃ W5, (w5.alloc (.cells #[.int .u64 0, .int .u64 0, .int .u64 0, .int .u64 0, .int .u64 0, .int .u64 0] TTX)) = W5 := ⟨_, rfl⟩
  rw [hW5] at HB5 HT5 HE5 HX5 HY5 HM5 HU5 HF5 HV5 ⊢
  clear hW5
  have keep : ∀ W W', (fun W => Below W5.heap.size W5 W) W → Below W.heap.size W W' → (fun W => Below W5.heap.size W5 W) W' := fun W W' h hb => h.trans (hb.mono h.size)
  have hne : Nonempty (Held (fun W => Below W5.heap.size W5 W)) := ⟨⟨_, Below.refl _ _⟩⟩
  have ht0 : ∀ s : Held (fun W => Below W5.heap.size W5 W), s.w.cell? ⟨w.heap.size, 0, none⟩ = some (.int .u64 (vs 0)) := fun s => (HT5.out.below s.ok).2 0 (by decide)
  have ht1 : ∀ s : Held (fun W => Below W5.heap.size W5 W), s.w.cell? ⟨w.heap.size, 1, none⟩ = some (.int .u64 (vs 1)) := fun s => (HT5.out.below s.ok).2 1 (by decide)
  have ht2 : ∀ s : Held (fun W => Below W5.heap.size W5 W), s.w.cell? ⟨w.heap.size, 2, none⟩ = some (.int .u64 (vs 2)) := fun s => (HT5.out.below s.ok).2 2 (by decide)
  have ht3 : ∀ s : Held (fun W => Below W5.heap.size W5 W), s.w.cell? ⟨w.heap.size, 3, none⟩ = some (.int .u64 (vs 3)) := fun s => (HT5.out.below s.ok).2 3 (by decide)
  have ht4 : ∀ s : Held (fun W => Below W5.heap.size W5 W), s.w.cell? ⟨w.heap.size, 4, none⟩ = some (.int .u64 (vs 4)) := fun s => (HT5.out.below s.ok).2 4 (by decide)
  have ht5 : ∀ s : Held (fun W => Below W5.heap.size W5 W), s.w.cell? ⟨w.heap.size, 5, none⟩ = some (.int .u64 (vs 5)) := fun s => (HT5.out.below s.ok).2 5 (by decide)
  have hu0 : ∀ s : Held (fun W => Below W5.heap.size W5 W), s.w.cell? ⟨w4.heap.size, 0, none⟩ = some (.int .u64 0) := fun s => zc (HU5.out.below s.ok) 0 (by decide)
  have hu1 : ∀ s : Held (fun W => Below W5.heap.size W5 W), s.w.cell? ⟨w4.heap.size, 1, none⟩ = some (.int .u64 0) := fun s => zc (HU5.out.below s.ok) 1 (by decide)
  have hu2 : ∀ s : Held (fun W => Below W5.heap.size W5 W), s.w.cell? ⟨w4.heap.size, 2, none⟩ = some (.int .u64 0) := fun s => zc (HU5.out.below s.ok) 2 (by decide)
  have hu3 : ∀ s : Held (fun W => Below W5.heap.size W5 W), s.w.cell? ⟨w4.heap.size, 3, none⟩ = some (.int .u64 0) := fun s => zc (HU5.out.below s.ok) 3 (by decide)
  have hu4 : ∀ s : Held (fun W => Below W5.heap.size W5 W), s.w.cell? ⟨w4.heap.size, 4, none⟩ = some (.int .u64 0) := fun s => zc (HU5.out.below s.ok) 4 (by decide)
  have hu5 : ∀ s : Held (fun W => Below W5.heap.size W5 W), s.w.cell? ⟨w4.heap.size, 5, none⟩ = some (.int .u64 0) := fun s => zc (HU5.out.below s.ok) 5 (by decide)
  have hv0 : ∀ s : Held (fun W => Below W5.heap.size W5 W), s.w.cell? ⟨w5.heap.size, 0, none⟩ = some (.int .u64 0) := fun s => zc (HV5.out.below s.ok) 0 (by decide)
  have hv1 : ∀ s : Held (fun W => Below W5.heap.size W5 W), s.w.cell? ⟨w5.heap.size, 1, none⟩ = some (.int .u64 0) := fun s => zc (HV5.out.below s.ok) 1 (by decide)
  have hv2 : ∀ s : Held (fun W => Below W5.heap.size W5 W), s.w.cell? ⟨w5.heap.size, 2, none⟩ = some (.int .u64 0) := fun s => zc (HV5.out.below s.ok) 2 (by decide)
  have hv3 : ∀ s : Held (fun W => Below W5.heap.size W5 W), s.w.cell? ⟨w5.heap.size, 3, none⟩ = some (.int .u64 0) := fun s => zc (HV5.out.below s.ok) 3 (by decide)
  have hv4 : ∀ s : Held (fun W => Below W5.heap.size W5 W), s.w.cell? ⟨w5.heap.size, 4, none⟩ = some (.int .u64 0) := fun s => zc (HV5.out.below s.ok) 4 (by decide)
  have hv5 : ∀ s : Held (fun W => Below W5.heap.size W5 W), s.w.cell? ⟨w5.heap.size, 5, none⟩ = some (.int .u64 0) := fun s => zc (HV5.out.below s.ok) 5 (by decide)
  have cx : ∀ s : Held (fun W => Below W5.heap.size W5 W), (convert TBS TS (.slice xa xn xc)).run Tryd.prog s.w = .ok (strB (Rlp.form (tItem vs))) s.w := fun s => (HX5.out.below s.ok).str
  have cy : ∀ s : Held (fun W => Below W5.heap.size W5 W), (convert TBS TS (.slice ya yn yc)).run Tryd.prog s.w = .ok (strB (Rlp.form (tItem vs))) s.w := fun s => (HY5.out.below s.ok).str
  have cm : ∀ s : Held (fun W => Below W5.heap.size W5 W), (convert TBS TS (.slice ma len1 mc)).run Tryd.prog s.w = .ok (strB bs) s.w := fun s => (HM5.out.below s.ok).str
  have cb : ∀ s : Held (fun W => Below W5.heap.size W5 W), (convert TBS TS (.slice a1 len1 cap1)).run Tryd.prog s.w = .ok (strB bs) s.w := fun s => str_V HL.out HN.out ((HBy.out.below HB5.out).below s.ok)
  have hE : ∀ s : Held (fun W => Below W5.heap.size W5 W), Hid (ErrType s.w) := fun s => HE5.out.below s.ok
  have hF : ∀ s : Held (fun W => Below W5.heap.size W5 W), FaultAt s.w q p k := fun s => HF5.out.below s.ok
  clear HT0 HE0 HB0 HB1 HB2 HB3 HB4
  refine wp_region_held (S := (fun W => Below W5.heap.size W5 W)) (by kernel_rfl) (by kernel_rfl) (keep _ _ (Below.refl _ _) (Below.refl _ _).drew) ?_
  repeat (go_big_quiet_step (first
    | (go_at_call 9; with_reducible exact held_call (fixed4_V _) keep)
    | (go_at_call 10; with_reducible exact held_call (wrong_nil _ _) keep)
    | (go_at_call 10; with_reducible exact held_call (wrong_fault _ q p k _ _ rfl rfl NZ.out (hE _) (hF _)) keep)
    | (go_at_call 11; with_reducible exact held_call (rec_X vs _ HW.out) keep)
    | (go_at_call 12; with_reducible exact held_call (rrec_V vs _ HW.out) keep)))
  refine wpQuiet_nil ?_
  intro _ hw'
  obtain ⟨s6, hw''⟩ := hw'
  subst hw''
  go_wp2
  go_returns
  exact ⟨by simp, HB5.out.trans (s6.ok.mono HB5.out.size)⟩
set_option maxRecDepth 100000 in
set_option maxHeartbeats 16000000 in
theorem codes_no_ok (w : World) (vs : Nat → Nat) (hv : wide vs) (ho : ¬ okTx vs) (a1 : Option Addr) (len1 cap1 : Nat) (bs : List UInt8) (hl : bs.length = len1) (hlc : len1 ≤ cap1) (hcm : cap1 ≤ maxLen) (hn : a1 = none → cap1 = 0) (hb : BytesF (fun _ => True) w a1 bs) (hs : Sm (0 + len1)) (he : ErrType w) (us : Nat → Nat) (hd : tDec bs = .ok us) :
    Calls Tryd.prog 3 #[txV vs, .slice a1 len1 cap1] w fun e w' => e = .returned (.bool true) ∧ Below w.heap.size w w' := by
  have HW := Lib.hid hv
  have HO := Lib.hid ho
  have HL := Lib.hid hl
  have HN := Lib.hid hn
  have HS := Lib.hid hs
  have HBy := Lib.hid hb
  have HD := Lib.hid hd
  have HCM := Lib.hid hcm
  skip
  have HB0 : Hid (Below w.heap.size w (w.alloc (.cells #[.int .u64 (vs 0), .int .u64 (vs 1), .int .u64 (vs 2), .int .u64 (vs 3), .int .u64 (vs 4), .int .u64 (vs 5)] TTX))) := (Below.refl _ _).alloc (Nat.le_refl _) _
  have HT0 := Lib.hid (txc_new w vs TTX _ rfl)
  have HE0 : Hid (ErrType (w.alloc (.cells #[.int .u64 (vs 0), .int .u64 (vs 1), .int .u64 (vs 2), .int .u64 (vs 3), .int .u64 (vs 4), .int .u64 (vs 5)] TTX))) := he.below ((Below.refl _ _).alloc (Nat.le_refl _) _)
  have eqt := fun W => (eql_tx us us W).trans (by rw [(sameT_iff us us).2 fun _ _ => rfl])
  have eqr := fun W => (eql_rec (recL vs) (recL vs) (recL_len _) (recL_len _) W).trans (by rw [beq_self_eq_true])
  have gt := fun (o : BinOp) (x y : Operand) (xs ys : Array Value) (W : World) => guard_tx o x y xs ys W
  have gr := fun (o : BinOp) (x y : Operand) (xs ys : Array Value) (W : World) => guard_rec o x y xs ys W
  have es := eql_self (([] : List UInt8))
  have eg := run_guard_str (([] : List UInt8)) (([] : List UInt8))
  have es2 := eql_self bs
  have eg2 := run_guard_str bs bs
  unfold maxLen at hcm
  unfold txV
  clear hv ho hl hn hs hb hd he
  go_enter Tryd.func3, Tryd.ntmps3
  go_wp2_with (first
    | (go_at_call 5; (with_reducible refine (enc_no vs _ HW.out HO.out).mono ?_); rintro e w1 ⟨rfl, hb⟩; have HB1 := Lib.hid (HB0.out.trans (hb.mono HB0.out.size)); have HT1 := Lib.hid (HT0.out.below hb); have HE1 := Lib.hid (HE0.out.below hb); have t0_1 := HT1.out.2 0 (by decide); have t1_1 := HT1.out.2 1 (by decide); have t2_1 := HT1.out.2 2 (by decide); have t3_1 := HT1.out.2 3 (by decide); have t4_1 := HT1.out.2 4 (by decide); have t5_1 := HT1.out.2 5 (by decide); have ts_1 := HT1.out.1; clear hb)
    | (go_at_call 6; (with_reducible refine (rtenc_bad vs _ HO.out).mono ?_); rintro e w2 ⟨hb, rfl⟩; have HB2 := Lib.hid (HB1.out.trans (hb.mono HB1.out.size)); have HT2 := Lib.hid (HT1.out.below hb); have HE2 := Lib.hid (HE1.out.below hb); have t0_2 := HT2.out.2 0 (by decide); have t1_2 := HT2.out.2 1 (by decide); have t2_2 := HT2.out.2 2 (by decide); have t3_2 := HT2.out.2 3 (by decide); have t4_2 := HT2.out.2 4 (by decide); have t5_2 := HT2.out.2 5 (by decide); have ts_2 := HT2.out.1; clear hb)
    | (at_builtin; refine wpList_append_B rfl (.tmp 25) (.tmp 26) rfl w2.heap.size (some ⟨w2.heap.size, 0, none⟩) 0 0 [] a1 len1 cap1 bs (own_none w2) (HBy.out.below (HB2.out.alloc HB2.out.size _)) rfl rfl HL.out HN.out HS.out (by simp) ?_; intro ma mc w3 ho hg _; have hbb : Below w2.heap.size w2 w3 := (((Below.refl _ _).alloc (Nat.le_refl _) _).trans (grown_below hg (own_none w2) (Nat.le_refl _) (by simp))); have HB3 := Lib.hid (HB2.out.trans (hbb.mono HB2.out.size)); have HT3 := Lib.hid (HT2.out.below hbb); have HE3 := Lib.hid (HE2.out.below hbb); have t0_3 := HT3.out.2 0 (by decide); have t1_3 := HT3.out.2 1 (by decide); have t2_3 := HT3.out.2 2 (by decide); have t3_3 := HT3.out.2 3 (by decide); have t4_3 := HT3.out.2 4 (by decide); have t5_3 := HT3.out.2 5 (by decide); have ts_3 := HT3.out.1; have HM3 : Hid (OwnB w3 w2.heap.size ma len1 mc bs) := (by show OwnB _ _ _ _ _ _; simpa using ho); clear ho hg hbb)
    | (go_at_call 7; (with_reducible refine (tdec_V _ ma len1 mc bs HL.out HM3.out.cap.1 HM3.out.cap.2.1 HM3.out.bytes).mono ?_); rintro e w4 ⟨hb4, he⟩; rw [HD.out] at he; subst he; have hbb : Below w3.heap.size w3 (w4.alloc (.cells #[.int .u64 (us 0), .int .u64 (us 1), .int .u64 (us 2), .int .u64 (us 3), .int .u64 (us 4), .int .u64 (us 5)] TTX)) := (hb4.alloc hb4.size _); have HB4 := Lib.hid (HB3.out.trans (hbb.mono HB3.out.size)); have HT4 := Lib.hid (HT3.out.below hbb); have HE4 := Lib.hid (HE3.out.below hbb); have HM4 := Lib.hid (HM3.out.below hbb); have HU4 : Hid (TXC w4.heap.size us (w4.alloc (.cells #[.int .u64 (us 0), .int .u64 (us 1), .int .u64 (us 2), .int .u64 (us 3), .int .u64 (us 4), .int .u64 (us 5)] TTX))) := (txc_new w4 us TTX _ rfl); clear hb4 hbb)
    | (go_at_call 8; (with_reducible refine (rtdec_V _ a1 len1 cap1 bs HL.out hlc HCM.out (HBy.out.below HB4.out)).mono ?_); rintro e w5 ⟨hb5, he⟩; rw [HD.out] at he; subst he; have hbb : Below (w4.alloc (.cells #[.int .u64 (us 0), .int .u64 (us 1), .int .u64 (us 2), .int .u64 (us 3), .int .u64 (us 4), .int .u64 (us 5)] TTX)).heap.size (w4.alloc (.cells #[.int .u64 (us 0), .int .u64 (us 1), .int .u64 (us 2), .int .u64 (us 3), .int .u64 (us 4), .int .u64 (us 5)] TTX)) (w5.alloc (.cells #[.int .u64 (us 0), .int .u64 (us 1), .int .u64 (us 2), .int .u64 (us 3), .int .u64 (us 4), .int .u64 (us 5)] TTX)) := (hb5.alloc hb5.size _); have HB5 := Lib.hid (HB4.out.trans (hbb.mono HB4.out.size)); have HT5 := Lib.hid (HT4.out.below hbb); have HE5 := Lib.hid (HE4.out.below hbb); have HM5 := Lib.hid (HM4.out.below hbb); have HU5 := Lib.hid (HU4.out.below hbb); have HV5 : Hid (TXC w5.heap.size us (w5.alloc (.cells #[.int .u64 (us 0), .int .u64 (us 1), .int .u64 (us 2), .int .u64 (us 3), .int .u64 (us 4), .int .u64 (us 5)] TTX))) := (txc_new w5 us TTX _ rfl); clear hb5 hbb))
  obtain ⟨W5, hW5⟩ : ∃ W5, (w5.alloc (.cells #[.int .u64 (us 0), .int .u64 (us 1), .int .u64 (us 2), .int .u64 (us 3), .int .u64 (us 4), .int .u64 (us 5)] TTX)) = W5 := ⟨_, rfl⟩
  rw [hW5] at HB5 HT5 HE5 HM5 HU5 HV5 ⊢
  clear hW5
  have keep : ∀ W W', (fun W => Below W5.heap.size W5 W) W → Below W.heap.size W W' → (fun W => Below W5.heap.size W5 W) W' := fun W W' h hb => h.trans (hb.mono h.size)
  have hne : Nonempty (Held (fun W => Below W5.heap.size W5 W)) := ⟨⟨_, Below.refl _ _⟩⟩
  have ht0 : ∀ s : Held (fun W => Below W5.heap.size W5 W), s.w.cell? ⟨w.heap.size, 0, none⟩ = some (.int .u64 (vs 0)) := fun s => (HT5.out.below s.ok).2 0 (by decide)
  have ht1 : ∀ s : Held (fun W => Below W5.heap.size W5 W), s.w.cell? ⟨w.heap.size, 1, none⟩ = some (.int .u64 (vs 1)) := fun s => (HT5.out.below s.ok).2 1 (by decide)
  have ht2 : ∀ s : Held (fun W => Below W5.heap.size W5 W), s.w.cell? ⟨w.heap.size, 2, none⟩ = some (.int .u64 (vs 2)) := fun s => (HT5.out.below s.ok).2 2 (by decide)
  have ht3 : ∀ s : Held (fun W => Below W5.heap.size W5 W), s.w.cell? ⟨w.heap.size, 3, none⟩ = some (.int .u64 (vs 3)) := fun s => (HT5.out.below s.ok).2 3 (by decide)
  have ht4 : ∀ s : Held (fun W => Below W5.heap.size W5 W), s.w.cell? ⟨w.heap.size, 4, none⟩ = some (.int .u64 (vs 4)) := fun s => (HT5.out.below s.ok).2 4 (by decide)
  have ht5 : ∀ s : Held (fun W => Below W5.heap.size W5 W), s.w.cell? ⟨w.heap.size, 5, none⟩ = some (.int .u64 (vs 5)) := fun s => (HT5.out.below s.ok).2 5 (by decide)
  have hu0 : ∀ s : Held (fun W => Below W5.heap.size W5 W), s.w.cell? ⟨w4.heap.size, 0, none⟩ = some (.int .u64 (us 0)) := fun s => (HU5.out.below s.ok).2 0 (by decide)
  have hu1 : ∀ s : Held (fun W => Below W5.heap.size W5 W), s.w.cell? ⟨w4.heap.size, 1, none⟩ = some (.int .u64 (us 1)) := fun s => (HU5.out.below s.ok).2 1 (by decide)
  have hu2 : ∀ s : Held (fun W => Below W5.heap.size W5 W), s.w.cell? ⟨w4.heap.size, 2, none⟩ = some (.int .u64 (us 2)) := fun s => (HU5.out.below s.ok).2 2 (by decide)
  have hu3 : ∀ s : Held (fun W => Below W5.heap.size W5 W), s.w.cell? ⟨w4.heap.size, 3, none⟩ = some (.int .u64 (us 3)) := fun s => (HU5.out.below s.ok).2 3 (by decide)
  have hu4 : ∀ s : Held (fun W => Below W5.heap.size W5 W), s.w.cell? ⟨w4.heap.size, 4, none⟩ = some (.int .u64 (us 4)) := fun s => (HU5.out.below s.ok).2 4 (by decide)
  have hu5 : ∀ s : Held (fun W => Below W5.heap.size W5 W), s.w.cell? ⟨w4.heap.size, 5, none⟩ = some (.int .u64 (us 5)) := fun s => (HU5.out.below s.ok).2 5 (by decide)
  have hv0 : ∀ s : Held (fun W => Below W5.heap.size W5 W), s.w.cell? ⟨w5.heap.size, 0, none⟩ = some (.int .u64 (us 0)) := fun s => (HV5.out.below s.ok).2 0 (by decide)
  have hv1 : ∀ s : Held (fun W => Below W5.heap.size W5 W), s.w.cell? ⟨w5.heap.size, 1, none⟩ = some (.int .u64 (us 1)) := fun s => (HV5.out.below s.ok).2 1 (by decide)
  have hv2 : ∀ s : Held (fun W => Below W5.heap.size W5 W), s.w.cell? ⟨w5.heap.size, 2, none⟩ = some (.int .u64 (us 2)) := fun s => (HV5.out.below s.ok).2 2 (by decide)
  have hv3 : ∀ s : Held (fun W => Below W5.heap.size W5 W), s.w.cell? ⟨w5.heap.size, 3, none⟩ = some (.int .u64 (us 3)) := fun s => (HV5.out.below s.ok).2 3 (by decide)
  have hv4 : ∀ s : Held (fun W => Below W5.heap.size W5 W), s.w.cell? ⟨w5.heap.size, 4, none⟩ = some (.int .u64 (us 4)) := fun s => (HV5.out.below s.ok).2 4 (by decide)
  have hv5 : ∀ s : Held (fun W => Below W5.heap.size W5 W), s.w.cell? ⟨w5.heap.size, 5, none⟩ = some (.int .u64 (us 5)) := fun s => (HV5.out.below s.ok).2 5 (by decide)
  have cx : ∀ s : Held (fun W => Below W5.heap.size W5 W), (convert TBS TS (.slice none 0 0)).run Tryd.prog s.w = .ok (strB []) s.w := fun s => nil_str _
  have cm : ∀ s : Held (fun W => Below W5.heap.size W5 W), (convert TBS TS (.slice ma len1 mc)).run Tryd.prog s.w = .ok (strB bs) s.w := fun s => (HM5.out.below s.ok).str
  have cb : ∀ s : Held (fun W => Below W5.heap.size W5 W), (convert TBS TS (.slice a1 len1 cap1)).run Tryd.prog s.w = .ok (strB bs) s.w := fun s => str_V HL.out HN.out ((HBy.out.below HB5.out).below s.ok)
  have hE : ∀ s : Held (fun W => Below W5.heap.size W5 W), Hid (ErrType s.w) := fun s => HE5.out.below s.ok
  clear HT0 HE0 HB0 HB1 HB2 HB3 HB4
  refine wp_region_held (S := (fun W => Below W5.heap.size W5 W)) (by kernel_rfl) (by kernel_rfl) (keep _ _ (Below.refl _ _) (Below.refl _ _).drew) ?_
  repeat (go_big_quiet_step (first
    | (go_at_call 9; with_reducible exact held_call (fixed4_V _) keep)
    | (go_at_call 10; with_reducible exact held_call (wrong_num _ 2 (by decide) (hE _)) keep)
    | (go_at_call 10; with_reducible exact held_call (wrong_nil _ _) keep)
    | (go_at_call 11; with_reducible exact held_call (rec_X vs _ HW.out) keep)
    | (go_at_call 12; with_reducible exact held_call (rrec_V vs _ HW.out) keep)))
  refine wpQuiet_nil ?_
  intro _ hw'
  obtain ⟨s6, hw''⟩ := hw'
  subst hw''
  go_wp2
  go_returns
  exact ⟨by simp, HB5.out.trans (s6.ok.mono HB5.out.size)⟩
set_option maxRecDepth 100000 in
set_option maxHeartbeats 16000000 in
theorem codes_no_none (w : World) (vs : Nat → Nat) (hv : wide vs) (ho : ¬ okTx vs) (a1 : Option Addr) (len1 cap1 : Nat) (bs : List UInt8) (hl : bs.length = len1) (hlc : len1 ≤ cap1) (hcm : cap1 ≤ maxLen) (hn : a1 = none → cap1 = 0) (hb : BytesF (fun _ => True) w a1 bs) (hs : Sm (0 + len1)) (he : ErrType w) (k : Nat) (hd : tDec bs = .error (none, k)) :
    Calls Tryd.prog 3 #[txV vs, .slice a1 len1 cap1] w fun e w' => e = .returned (.bool true) ∧ Below w.heap.size w w' := by
  have HW := Lib.hid hv
  have HO := Lib.hid ho
  have HL := Lib.hid hl
  have HN := Lib.hid hn
  have HS := Lib.hid hs
  have HBy := Lib.hid hb
  have HD := Lib.hid hd
  have HCM := Lib.hid hcm
  have NZ := Lib.hid (tdec_nz hd)
  have HB0 : Hid (Below w.heap.size w (w.alloc (.cells #[.int .u64 (vs 0), .int .u64 (vs 1), .int .u64 (vs 2), .int .u64 (vs 3), .int .u64 (vs 4), .int .u64 (vs 5)] TTX))) := (Below.refl _ _).alloc (Nat.le_refl _) _
  have HT0 := Lib.hid (txc_new w vs TTX _ rfl)
  have HE0 : Hid (ErrType (w.alloc (.cells #[.int .u64 (vs 0), .int .u64 (vs 1), .int .u64 (vs 2), .int .u64 (vs 3), .int .u64 (vs 4), .int .u64 (vs 5)] TTX))) := he.below ((Below.refl _ _).alloc (Nat.le_refl _) _)
  have eqt := fun W => zero_eq W
  have eqr := fun W => (eql_rec (recL vs) (recL vs) (recL_len _) (recL_len _) W).trans (by rw [beq_self_eq_true])
  have gt := fun (o : BinOp) (x y : Operand) (xs ys : Array Value) (W : World) => guard_tx o x y xs ys W
  have gr := fun (o : BinOp) (x y : Operand) (xs ys : Array Value) (W : World) => guard_rec o x y xs ys W
  have es := eql_self (([] : List UInt8))
  have eg := run_guard_str (([] : List UInt8)) (([] : List UInt8))
  have es2 := eql_self bs
  have eg2 := run_guard_str bs bs
  unfold maxLen at hcm
  unfold txV
  clear hv ho hl hn hs hb hd he
  go_enter Tryd.func3, Tryd.ntmps3
  go_wp2_with (first
    | (go_at_call 5; (with_reducible refine (enc_no vs _ HW.out HO.out).mono ?_); rintro e w1 ⟨rfl, hb⟩; have HB1 := Lib.hid (HB0.out.trans (hb.mono HB0.out.size)); have HT1 := Lib.hid (HT0.out.below hb); have HE1 := Lib.hid (HE0.out.below hb); have t0_1 := HT1.out.2 0 (by decide); have t1_1 := HT1.out.2 1 (by decide); have t2_1 := HT1.out.2 2 (by decide); have t3_1 := HT1.out.2 3 (by decide); have t4_1 := HT1.out.2 4 (by decide); have t5_1 := HT1.out.2 5 (by decide); have ts_1 := HT1.out.1; clear hb)
    | (go_at_call 6; (with_reducible refine (rtenc_bad vs _ HO.out).mono ?_); rintro e w2 ⟨hb, rfl⟩; have HB2 := Lib.hid (HB1.out.trans (hb.mono HB1.out.size)); have HT2 := Lib.hid (HT1.out.below hb); have HE2 := Lib.hid (HE1.out.below hb); have t0_2 := HT2.out.2 0 (by decide); have t1_2 := HT2.out.2 1 (by decide); have t2_2 := HT2.out.2 2 (by decide); have t3_2 := HT2.out.2 3 (by decide); have t4_2 := HT2.out.2 4 (by decide); have t5_2 := HT2.out.2 5 (by decide); have ts_2 := HT2.out.1; clear hb)
    | (at_builtin; refine wpList_append_B rfl (.tmp 25) (.tmp 26) rfl w2.heap.size (some ⟨w2.heap.size, 0, none⟩) 0 0 [] a1 len1 cap1 bs (own_none w2) (HBy.out.below (HB2.out.alloc HB2.out.size _)) rfl rfl HL.out HN.out HS.out (by simp) ?_; intro ma mc w3 ho hg _; have hbb : Below w2.heap.size w2 w3 := (((Below.refl _ _).alloc (Nat.le_refl _) _).trans (grown_below hg (own_none w2) (Nat.le_refl _) (by simp))); have HB3 := Lib.hid (HB2.out.trans (hbb.mono HB2.out.size)); have HT3 := Lib.hid (HT2.out.below hbb); have HE3 := Lib.hid (HE2.out.below hbb); have t0_3 := HT3.out.2 0 (by decide); have t1_3 := HT3.out.2 1 (by decide); have t2_3 := HT3.out.2 2 (by decide); have t3_3 := HT3.out.2 3 (by decide); have t4_3 := HT3.out.2 4 (by decide); have t5_3 := HT3.out.2 5 (by decide); have ts_3 := HT3.out.1; have HM3 : Hid (OwnB w3 w2.heap.size ma len1 mc bs) := (by show OwnB _ _ _ _ _ _; simpa using ho); clear ho hg hbb)
    | (go_at_call 7; (with_reducible refine (tdec_V _ ma len1 mc bs HL.out HM3.out.cap.1 HM3.out.cap.2.1 HM3.out.bytes).mono ?_); rintro e w4 ⟨hb4, he⟩; rw [HD.out] at he; subst he; have hbb : Below w3.heap.size w3 (w4.alloc (.cells #[.int .u64 0, .int .u64 0, .int .u64 0, .int .u64 0, .int .u64 0, .int .u64 0] TTX)) := (hb4.alloc hb4.size _); have HB4 := Lib.hid (HB3.out.trans (hbb.mono HB3.out.size)); have HT4 := Lib.hid (HT3.out.below hbb); have HE4 := Lib.hid (HE3.out.below hbb); have HM4 := Lib.hid (HM3.out.below hbb); have HU4 : Hid (TXC w4.heap.size (fun _ => 0) (w4.alloc (.cells #[.int .u64 0, .int .u64 0, .int .u64 0, .int .u64 0, .int .u64 0, .int .u64 0] TTX))) := (txc_new w4 (fun _ => 0) TTX _ rfl); clear hb4 hbb)
    | (go_at_call 8; (with_reducible refine (rtdec_V _ a1 len1 cap1 bs HL.out hlc HCM.out (HBy.out.below HB4.out)).mono ?_); rintro e w5 ⟨hb5, he⟩; rw [HD.out] at he; subst he; have hbb : Below (w4.alloc (.cells #[.int .u64 0, .int .u64 0, .int .u64 0, .int .u64 0, .int .u64 0, .int .u64 0] TTX)).heap.size (w4.alloc (.cells #[.int .u64 0, .int .u64 0, .int .u64 0, .int .u64 0, .int .u64 0, .int .u64 0] TTX)) (w5.alloc (.cells #[.int .u64 0, .int .u64 0, .int .u64 0, .int .u64 0, .int .u64 0, .int .u64 0] TTX)) := (hb5.alloc hb5.size _); have HB5 := Lib.hid (HB4.out.trans (hbb.mono HB4.out.size)); have HT5 := Lib.hid (HT4.out.below hbb); have HE5 := Lib.hid (HE4.out.below hbb); have HM5 := Lib.hid (HM4.out.below hbb); have HU5 := Lib.hid (HU4.out.below hbb); have HV5 : Hid (TXC w5.heap.size (fun _ => 0) (w5.alloc (.cells #[.int .u64 0, .int .u64 0, .int .u64 0, .int .u64 0, .int .u64 0, .int .u64 0] TTX))) := (txc_new w5 (fun _ => 0) TTX _ rfl); clear hb5 hbb))
  obtain ⟨W5, hW5⟩ : ∃ W5, (w5.alloc (.cells #[.int .u64 0, .int .u64 0, .int .u64 0, .int .u64 0, .int .u64 0, .int .u64 0] TTX)) = W5 := ⟨_, rfl⟩
  rw [hW5] at HB5 HT5 HE5 HM5 HU5 HV5 ⊢
  clear hW5
  have keep : ∀ W W', (fun W => Below W5.heap.size W5 W) W → Below W.heap.size W W' → (fun W => Below W5.heap.size W5 W) W' := fun W W' h hb => h.trans (hb.mono h.size)
  have hne : Nonempty (Held (fun W => Below W5.heap.size W5 W)) := ⟨⟨_, Below.refl _ _⟩⟩
  have ht0 : ∀ s : Held (fun W => Below W5.heap.size W5 W), s.w.cell? ⟨w.heap.size, 0, none⟩ = some (.int .u64 (vs 0)) := fun s => (HT5.out.below s.ok).2 0 (by decide)
  have ht1 : ∀ s : Held (fun W => Below W5.heap.size W5 W), s.w.cell? ⟨w.heap.size, 1, none⟩ = some (.int .u64 (vs 1)) := fun s => (HT5.out.below s.ok).2 1 (by decide)
  have ht2 : ∀ s : Held (fun W => Below W5.heap.size W5 W), s.w.cell? ⟨w.heap.size, 2, none⟩ = some (.int .u64 (vs 2)) := fun s => (HT5.out.below s.ok).2 2 (by decide)
  have ht3 : ∀ s : Held (fun W => Below W5.heap.size W5 W), s.w.cell? ⟨w.heap.size, 3, none⟩ = some (.int .u64 (vs 3)) := fun s => (HT5.out.below s.ok).2 3 (by decide)
  have ht4 : ∀ s : Held (fun W => Below W5.heap.size W5 W), s.w.cell? ⟨w.heap.size, 4, none⟩ = some (.int .u64 (vs 4)) := fun s => (HT5.out.below s.ok).2 4 (by decide)
  have ht5 : ∀ s : Held (fun W => Below W5.heap.size W5 W), s.w.cell? ⟨w.heap.size, 5, none⟩ = some (.int .u64 (vs 5)) := fun s => (HT5.out.below s.ok).2 5 (by decide)
  have hu0 : ∀ s : Held (fun W => Below W5.heap.size W5 W), s.w.cell? ⟨w4.heap.size, 0, none⟩ = some (.int .u64 0) := fun s => zc (HU5.out.below s.ok) 0 (by decide)
  have hu1 : ∀ s : Held (fun W => Below W5.heap.size W5 W), s.w.cell? ⟨w4.heap.size, 1, none⟩ = some (.int .u64 0) := fun s => zc (HU5.out.below s.ok) 1 (by decide)
  have hu2 : ∀ s : Held (fun W => Below W5.heap.size W5 W), s.w.cell? ⟨w4.heap.size, 2, none⟩ = some (.int .u64 0) := fun s => zc (HU5.out.below s.ok) 2 (by decide)
  have hu3 : ∀ s : Held (fun W => Below W5.heap.size W5 W), s.w.cell? ⟨w4.heap.size, 3, none⟩ = some (.int .u64 0) := fun s => zc (HU5.out.below s.ok) 3 (by decide)
  have hu4 : ∀ s : Held (fun W => Below W5.heap.size W5 W), s.w.cell? ⟨w4.heap.size, 4, none⟩ = some (.int .u64 0) := fun s => zc (HU5.out.below s.ok) 4 (by decide)
  have hu5 : ∀ s : Held (fun W => Below W5.heap.size W5 W), s.w.cell? ⟨w4.heap.size, 5, none⟩ = some (.int .u64 0) := fun s => zc (HU5.out.below s.ok) 5 (by decide)
  have hv0 : ∀ s : Held (fun W => Below W5.heap.size W5 W), s.w.cell? ⟨w5.heap.size, 0, none⟩ = some (.int .u64 0) := fun s => zc (HV5.out.below s.ok) 0 (by decide)
  have hv1 : ∀ s : Held (fun W => Below W5.heap.size W5 W), s.w.cell? ⟨w5.heap.size, 1, none⟩ = some (.int .u64 0) := fun s => zc (HV5.out.below s.ok) 1 (by decide)
  have hv2 : ∀ s : Held (fun W => Below W5.heap.size W5 W), s.w.cell? ⟨w5.heap.size, 2, none⟩ = some (.int .u64 0) := fun s => zc (HV5.out.below s.ok) 2 (by decide)
  have hv3 : ∀ s : Held (fun W => Below W5.heap.size W5 W), s.w.cell? ⟨w5.heap.size, 3, none⟩ = some (.int .u64 0) := fun s => zc (HV5.out.below s.ok) 3 (by decide)
  have hv4 : ∀ s : Held (fun W => Below W5.heap.size W5 W), s.w.cell? ⟨w5.heap.size, 4, none⟩ = some (.int .u64 0) := fun s => zc (HV5.out.below s.ok) 4 (by decide)
  have hv5 : ∀ s : Held (fun W => Below W5.heap.size W5 W), s.w.cell? ⟨w5.heap.size, 5, none⟩ = some (.int .u64 0) := fun s => zc (HV5.out.below s.ok) 5 (by decide)
  have cx : ∀ s : Held (fun W => Below W5.heap.size W5 W), (convert TBS TS (.slice none 0 0)).run Tryd.prog s.w = .ok (strB []) s.w := fun s => nil_str _
  have cm : ∀ s : Held (fun W => Below W5.heap.size W5 W), (convert TBS TS (.slice ma len1 mc)).run Tryd.prog s.w = .ok (strB bs) s.w := fun s => (HM5.out.below s.ok).str
  have cb : ∀ s : Held (fun W => Below W5.heap.size W5 W), (convert TBS TS (.slice a1 len1 cap1)).run Tryd.prog s.w = .ok (strB bs) s.w := fun s => str_V HL.out HN.out ((HBy.out.below HB5.out).below s.ok)
  have hE : ∀ s : Held (fun W => Below W5.heap.size W5 W), Hid (ErrType s.w) := fun s => HE5.out.below s.ok
  clear HT0 HE0 HB0 HB1 HB2 HB3 HB4
  refine wp_region_held (S := (fun W => Below W5.heap.size W5 W)) (by kernel_rfl) (by kernel_rfl) (keep _ _ (Below.refl _ _) (Below.refl _ _).drew) ?_
  repeat (go_big_quiet_step (first
    | (go_at_call 9; with_reducible exact held_call (fixed4_V _) keep)
    | (go_at_call 10; with_reducible exact held_call (wrong_num _ 2 (by decide) (hE _)) keep)
    | (go_at_call 10; with_reducible exact held_call (wrong_num _ k NZ.out (hE _)) keep)
    | (go_at_call 11; with_reducible exact held_call (rec_X vs _ HW.out) keep)
    | (go_at_call 12; with_reducible exact held_call (rrec_V vs _ HW.out) keep)))
  refine wpQuiet_nil ?_
  intro _ hw'
  obtain ⟨s6, hw''⟩ := hw'
  subst hw''
  go_wp2
  go_returns
  exact ⟨by simp, HB5.out.trans (s6.ok.mono HB5.out.size)⟩
set_option maxRecDepth 100000 in
set_option maxHeartbeats 16000000 in
theorem codes_no_some (w : World) (vs : Nat → Nat) (hv : wide vs) (ho : ¬ okTx vs) (a1 : Option Addr) (len1 cap1 : Nat) (bs : List UInt8) (hl : bs.length = len1) (hlc : len1 ≤ cap1) (hcm : cap1 ≤ maxLen) (hn : a1 = none → cap1 = 0) (hb : BytesF (fun _ => True) w a1 bs) (hs : Sm (0 + len1)) (he : ErrType w) (p k : Nat) (hd : tDec bs = .error (some p, k)) :
    Calls Tryd.prog 3 #[txV vs, .slice a1 len1 cap1] w fun e w' => e = .returned (.bool true) ∧ Below w.heap.size w w' := by
  have HW := Lib.hid hv
  have HO := Lib.hid ho
  have HL := Lib.hid hl
  have HN := Lib.hid hn
  have HS := Lib.hid hs
  have HBy := Lib.hid hb
  have HD := Lib.hid hd
  have HCM := Lib.hid hcm
  have NZ := Lib.hid (tdec_nz hd)
  have HB0 : Hid (Below w.heap.size w (w.alloc (.cells #[.int .u64 (vs 0), .int .u64 (vs 1), .int .u64 (vs 2), .int .u64 (vs 3), .int .u64 (vs 4), .int .u64 (vs 5)] TTX))) := (Below.refl _ _).alloc (Nat.le_refl _) _
  have HT0 := Lib.hid (txc_new w vs TTX _ rfl)
  have HE0 : Hid (ErrType (w.alloc (.cells #[.int .u64 (vs 0), .int .u64 (vs 1), .int .u64 (vs 2), .int .u64 (vs 3), .int .u64 (vs 4), .int .u64 (vs 5)] TTX))) := he.below ((Below.refl _ _).alloc (Nat.le_refl _) _)
  have eqt := fun W => zero_eq W
  have eqr := fun W => (eql_rec (recL vs) (recL vs) (recL_len _) (recL_len _) W).trans (by rw [beq_self_eq_true])
  have gt := fun (o : BinOp) (x y : Operand) (xs ys : Array Value) (W : World) => guard_tx o x y xs ys W
  have gr := fun (o : BinOp) (x y : Operand) (xs ys : Array Value) (W : World) => guard_rec o x y xs ys W
  have es := eql_self (([] : List UInt8))
  have eg := run_guard_str (([] : List UInt8)) (([] : List UInt8))
  have es2 := eql_self bs
  have eg2 := run_guard_str bs bs
  unfold maxLen at hcm
  unfold txV
  clear hv ho hl hn hs hb hd he
  go_enter Tryd.func3, Tryd.ntmps3
  go_wp2_with (first
    | (go_at_call 5; (with_reducible refine (enc_no vs _ HW.out HO.out).mono ?_); rintro e w1 ⟨rfl, hb⟩; have HB1 := Lib.hid (HB0.out.trans (hb.mono HB0.out.size)); have HT1 := Lib.hid (HT0.out.below hb); have HE1 := Lib.hid (HE0.out.below hb); have t0_1 := HT1.out.2 0 (by decide); have t1_1 := HT1.out.2 1 (by decide); have t2_1 := HT1.out.2 2 (by decide); have t3_1 := HT1.out.2 3 (by decide); have t4_1 := HT1.out.2 4 (by decide); have t5_1 := HT1.out.2 5 (by decide); have ts_1 := HT1.out.1; clear hb)
    | (go_at_call 6; (with_reducible refine (rtenc_bad vs _ HO.out).mono ?_); rintro e w2 ⟨hb, rfl⟩; have HB2 := Lib.hid (HB1.out.trans (hb.mono HB1.out.size)); have HT2 := Lib.hid (HT1.out.below hb); have HE2 := Lib.hid (HE1.out.below hb); have t0_2 := HT2.out.2 0 (by decide); have t1_2 := HT2.out.2 1 (by decide); have t2_2 := HT2.out.2 2 (by decide); have t3_2 := HT2.out.2 3 (by decide); have t4_2 := HT2.out.2 4 (by decide); have t5_2 := HT2.out.2 5 (by decide); have ts_2 := HT2.out.1; clear hb)
    | (at_builtin; refine wpList_append_B rfl (.tmp 25) (.tmp 26) rfl w2.heap.size (some ⟨w2.heap.size, 0, none⟩) 0 0 [] a1 len1 cap1 bs (own_none w2) (HBy.out.below (HB2.out.alloc HB2.out.size _)) rfl rfl HL.out HN.out HS.out (by simp) ?_; intro ma mc w3 ho hg _; have hbb : Below w2.heap.size w2 w3 := (((Below.refl _ _).alloc (Nat.le_refl _) _).trans (grown_below hg (own_none w2) (Nat.le_refl _) (by simp))); have HB3 := Lib.hid (HB2.out.trans (hbb.mono HB2.out.size)); have HT3 := Lib.hid (HT2.out.below hbb); have HE3 := Lib.hid (HE2.out.below hbb); have t0_3 := HT3.out.2 0 (by decide); have t1_3 := HT3.out.2 1 (by decide); have t2_3 := HT3.out.2 2 (by decide); have t3_3 := HT3.out.2 3 (by decide); have t4_3 := HT3.out.2 4 (by decide); have t5_3 := HT3.out.2 5 (by decide); have ts_3 := HT3.out.1; have HM3 : Hid (OwnB w3 w2.heap.size ma len1 mc bs) := (by show OwnB _ _ _ _ _ _; simpa using ho); clear ho hg hbb)
    | (go_at_call 7; (with_reducible refine (tdec_V _ ma len1 mc bs HL.out HM3.out.cap.1 HM3.out.cap.2.1 HM3.out.bytes).mono ?_); rintro e w4 ⟨hb4, he⟩; rw [HD.out] at he; obtain ⟨q, rfl, hf⟩ := he; have hbb : Below w3.heap.size w3 (w4.alloc (.cells #[.int .u64 0, .int .u64 0, .int .u64 0, .int .u64 0, .int .u64 0, .int .u64 0] TTX)) := (hb4.alloc hb4.size _); have HB4 := Lib.hid (HB3.out.trans (hbb.mono HB3.out.size)); have HT4 := Lib.hid (HT3.out.below hbb); have HE4 := Lib.hid (HE3.out.below hbb); have HM4 := Lib.hid (HM3.out.below hbb); have HU4 : Hid (TXC w4.heap.size (fun _ => 0) (w4.alloc (.cells #[.int .u64 0, .int .u64 0, .int .u64 0, .int .u64 0, .int .u64 0, .int .u64 0] TTX))) := (txc_new w4 (fun _ => 0) TTX _ rfl); have HF4 := Lib.hid (hf.below ((Below.refl _ _).alloc (Nat.le_refl _) (.cells #[.int .u64 0, .int .u64 0, .int .u64 0, .int .u64 0, .int .u64 0, .int .u64 0] TTX))); clear hb4 hbb hf)
    | (go_at_call 8; (with_reducible refine (rtdec_V _ a1 len1 cap1 bs HL.out hlc HCM.out (HBy.out.below HB4.out)).mono ?_); rintro e w5 ⟨hb5, he⟩; rw [HD.out] at he; subst he; have hbb : Below (w4.alloc (.cells #[.int .u64 0, .int .u64 0, .int .u64 0, .int .u64 0, .int .u64 0, .int .u64 0] TTX)).heap.size (w4.alloc (.cells #[.int .u64 0, .int .u64 0, .int .u64 0, .int .u64 0, .int .u64 0, .int .u64 0] TTX)) (w5.alloc (.cells #[.int .u64 0, .int .u64 0, .int .u64 0, .int .u64 0, .int .u64 0, .int .u64 0] TTX)) := (hb5.alloc hb5.size _); have HB5 := Lib.hid (HB4.out.trans (hbb.mono HB4.out.size)); have HT5 := Lib.hid (HT4.out.below hbb); have HE5 := Lib.hid (HE4.out.below hbb); have HM5 := Lib.hid (HM4.out.below hbb); have HU5 := Lib.hid (HU4.out.below hbb); have HF5 := Lib.hid (HF4.out.below hbb); have HV5 : Hid (TXC w5.heap.size (fun _ => 0) (w5.alloc (.cells #[.int .u64 0, .int .u64 0, .int .u64 0, .int .u64 0, .int .u64 0, .int .u64 0] TTX))) := (txc_new w5 (fun _ => 0) TTX _ rfl); clear hb5 hbb))
  obtain ⟨W5, hW5⟩ : ∃ W5, (w5.alloc (.cells #[.int .u64 0, .int .u64 0, .int .u64 0, .int .u64 0, .int .u64 0, .int .u64 0] TTX)) = W5 := ⟨_, rfl⟩
  rw [hW5] at HB5 HT5 HE5 HM5 HU5 HF5 HV5 ⊢
  clear hW5
  have keep : ∀ W W', (fun W => Below W5.heap.size W5 W) W → Below W.heap.size W W' → (fun W => Below W5.heap.size W5 W) W' := fun W W' h hb => h.trans (hb.mono h.size)
  have hne : Nonempty (Held (fun W => Below W5.heap.size W5 W)) := ⟨⟨_, Below.refl _ _⟩⟩
  have ht0 : ∀ s : Held (fun W => Below W5.heap.size W5 W), s.w.cell? ⟨w.heap.size, 0, none⟩ = some (.int .u64 (vs 0)) := fun s => (HT5.out.below s.ok).2 0 (by decide)
  have ht1 : ∀ s : Held (fun W => Below W5.heap.size W5 W), s.w.cell? ⟨w.heap.size, 1, none⟩ = some (.int .u64 (vs 1)) := fun s => (HT5.out.below s.ok).2 1 (by decide)
  have ht2 : ∀ s : Held (fun W => Below W5.heap.size W5 W), s.w.cell? ⟨w.heap.size, 2, none⟩ = some (.int .u64 (vs 2)) := fun s => (HT5.out.below s.ok).2 2 (by decide)
  have ht3 : ∀ s : Held (fun W => Below W5.heap.size W5 W), s.w.cell? ⟨w.heap.size, 3, none⟩ = some (.int .u64 (vs 3)) := fun s => (HT5.out.below s.ok).2 3 (by decide)
  have ht4 : ∀ s : Held (fun W => Below W5.heap.size W5 W), s.w.cell? ⟨w.heap.size, 4, none⟩ = some (.int .u64 (vs 4)) := fun s => (HT5.out.below s.ok).2 4 (by decide)
  have ht5 : ∀ s : Held (fun W => Below W5.heap.size W5 W), s.w.cell? ⟨w.heap.size, 5, none⟩ = some (.int .u64 (vs 5)) := fun s => (HT5.out.below s.ok).2 5 (by decide)
  have hu0 : ∀ s : Held (fun W => Below W5.heap.size W5 W), s.w.cell? ⟨w4.heap.size, 0, none⟩ = some (.int .u64 0) := fun s => zc (HU5.out.below s.ok) 0 (by decide)
  have hu1 : ∀ s : Held (fun W => Below W5.heap.size W5 W), s.w.cell? ⟨w4.heap.size, 1, none⟩ = some (.int .u64 0) := fun s => zc (HU5.out.below s.ok) 1 (by decide)
  have hu2 : ∀ s : Held (fun W => Below W5.heap.size W5 W), s.w.cell? ⟨w4.heap.size, 2, none⟩ = some (.int .u64 0) := fun s => zc (HU5.out.below s.ok) 2 (by decide)
  have hu3 : ∀ s : Held (fun W => Below W5.heap.size W5 W), s.w.cell? ⟨w4.heap.size, 3, none⟩ = some (.int .u64 0) := fun s => zc (HU5.out.below s.ok) 3 (by decide)
  have hu4 : ∀ s : Held (fun W => Below W5.heap.size W5 W), s.w.cell? ⟨w4.heap.size, 4, none⟩ = some (.int .u64 0) := fun s => zc (HU5.out.below s.ok) 4 (by decide)
  have hu5 : ∀ s : Held (fun W => Below W5.heap.size W5 W), s.w.cell? ⟨w4.heap.size, 5, none⟩ = some (.int .u64 0) := fun s => zc (HU5.out.below s.ok) 5 (by decide)
  have hv0 : ∀ s : Held (fun W => Below W5.heap.size W5 W), s.w.cell? ⟨w5.heap.size, 0, none⟩ = some (.int .u64 0) := fun s => zc (HV5.out.below s.ok) 0 (by decide)
  have hv1 : ∀ s : Held (fun W => Below W5.heap.size W5 W), s.w.cell? ⟨w5.heap.size, 1, none⟩ = some (.int .u64 0) := fun s => zc (HV5.out.below s.ok) 1 (by decide)
  have hv2 : ∀ s : Held (fun W => Below W5.heap.size W5 W), s.w.cell? ⟨w5.heap.size, 2, none⟩ = some (.int .u64 0) := fun s => zc (HV5.out.below s.ok) 2 (by decide)
  have hv3 : ∀ s : Held (fun W => Below W5.heap.size W5 W), s.w.cell? ⟨w5.heap.size, 3, none⟩ = some (.int .u64 0) := fun s => zc (HV5.out.below s.ok) 3 (by decide)
  have hv4 : ∀ s : Held (fun W => Below W5.heap.size W5 W), s.w.cell? ⟨w5.heap.size, 4, none⟩ = some (.int .u64 0) := fun s => zc (HV5.out.below s.ok) 4 (by decide)
  have hv5 : ∀ s : Held (fun W => Below W5.heap.size W5 W), s.w.cell? ⟨w5.heap.size, 5, none⟩ = some (.int .u64 0) := fun s => zc (HV5.out.below s.ok) 5 (by decide)
  have cx : ∀ s : Held (fun W => Below W5.heap.size W5 W), (convert TBS TS (.slice none 0 0)).run Tryd.prog s.w = .ok (strB []) s.w := fun s => nil_str _
  have cm : ∀ s : Held (fun W => Below W5.heap.size W5 W), (convert TBS TS (.slice ma len1 mc)).run Tryd.prog s.w = .ok (strB bs) s.w := fun s => (HM5.out.below s.ok).str
  have cb : ∀ s : Held (fun W => Below W5.heap.size W5 W), (convert TBS TS (.slice a1 len1 cap1)).run Tryd.prog s.w = .ok (strB bs) s.w := fun s => str_V HL.out HN.out ((HBy.out.below HB5.out).below s.ok)
  have hE : ∀ s : Held (fun W => Below W5.heap.size W5 W), Hid (ErrType s.w) := fun s => HE5.out.below s.ok
  have hF : ∀ s : Held (fun W => Below W5.heap.size W5 W), FaultAt s.w q p k := fun s => HF5.out.below s.ok
  clear HT0 HE0 HB0 HB1 HB2 HB3 HB4
  refine wp_region_held (S := (fun W => Below W5.heap.size W5 W)) (by kernel_rfl) (by kernel_rfl) (keep _ _ (Below.refl _ _) (Below.refl _ _).drew) ?_
  repeat (go_big_quiet_step (first
    | (go_at_call 9; with_reducible exact held_call (fixed4_V _) keep)
    | (go_at_call 10; with_reducible exact held_call (wrong_num _ 2 (by decide) (hE _)) keep)
    | (go_at_call 10; with_reducible exact held_call (wrong_fault _ q p k _ _ rfl rfl NZ.out (hE _) (hF _)) keep)
    | (go_at_call 11; with_reducible exact held_call (rec_X vs _ HW.out) keep)
    | (go_at_call 12; with_reducible exact held_call (rrec_V vs _ HW.out) keep)))
  refine wpQuiet_nil ?_
  intro _ hw'
  obtain ⟨s6, hw''⟩ := hw'
  subst hw''
  go_wp2
  go_returns
  exact ⟨by simp, HB5.out.trans (s6.ok.mono HB5.out.size)⟩
theorem smR {n : Nat} (h : n ≤ 140737488351232) : Sm (0 + n) := by unfold Sm; omega
set_option maxRecDepth 100000 in
theorem txCodes_walk {H : Type} {enc : TypeId × Value → H} {base : Nat} (w : World) {d0 : DataW H} {p0 : List MemPlace} (v0 : Value) (o0 : Value.okWide Tryd.prog w .any base TTX v0) (w0 : DataW.Trod enc Tryd.prog w 0 (fun _ => true) true TTX v0 d0 p0) (a1 : Option Addr) (len1 cap1 : Nat) (z1 : List Int) (w1 : IsRow .u8 w a1 len1 cap1 z1) (reach1 : len1 ≤ 140737488351232) (laid : laidMetH Tryd.prog Rows.txCodesRow.laid w) :
    Calls Tryd.prog 3 #[v0, .slice a1 len1 cap1] w fun e w' => e = .returned (.bool true) ∧ Below w.heap.size w w' := by
  obtain ⟨vs, hv, rfl⟩ := tx_open o0 w0
  obtain ⟨h1, h2, h3, h4, h5⟩ := row_all w1
  have he := errType_of_laid laid
  by_cases ho : okTx vs
  · rcases hd : tDec (rowB z1 len1) with ⟨p, k⟩ | us
    · cases p with
      | none => exact codes_ok_none w vs hv ho a1 len1 cap1 _ h1 h2 h3 h4 h5 (smR reach1) he k hd
      | some p => exact codes_ok_some w vs hv ho a1 len1 cap1 _ h1 h2 h3 h4 h5 (smR reach1) he p k hd
    · exact codes_ok_ok w vs hv ho a1 len1 cap1 _ h1 h2 h3 h4 h5 (smR reach1) he us hd
  · rcases hd : tDec (rowB z1 len1) with ⟨p, k⟩ | us
    · cases p with
      | none => exact codes_no_none w vs hv ho a1 len1 cap1 _ h1 h2 h3 h4 h5 (smR reach1) he k hd
      | some p => exact codes_no_some w vs hv ho a1 len1 cap1 _ h1 h2 h3 h4 h5 (smR reach1) he p k hd
    · exact codes_no_ok w vs hv ho a1 len1 cap1 _ h1 h2 h3 h4 h5 (smR reach1) he us hd
end Go.Proofs.YtgcpnhnckbgjmaaDoor
