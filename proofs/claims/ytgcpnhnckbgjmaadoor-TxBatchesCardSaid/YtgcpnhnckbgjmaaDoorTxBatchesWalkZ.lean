/-
  TxBatches: the walk.
-/
import Derived.Test.YtgcpnhnckbgjmaaDoorTxSameG
import Derived.Test.YtgcpnhnckbgjmaaDoorValG
set_option linter.unusedVariables false
set_option linter.unusedSimpArgs false
namespace Go.Proofs.YtgcpnhnckbgjmaaDoor
open Go.RowKit
variable {F : Nat → Prop}
theorem bself (l : List UInt8) (w : World) : (binOp .eql TS (strB l) (strB l)).run Tryd.prog w = .ok (.bool true) w := (run_eql_str l l w).trans (by rw [decide_eq_true rfl])
theorem nils (w : World) : (convert TBS TS (.slice none 0 0)).run Tryd.prog w = .ok (strB []) w := str_V (F := fun _ => True) rfl (fun _ => rfl) (fun i hi => by simp at hi)
theorem bat_five {ls : List (List UInt8)} {k : Nat} (h : bat ls = .error k) : k = 5 := by
  unfold bat at h
  split at h
  · injection h with h; exact h.symm
  · rw [enc_b] at h
    split at h
    · injection h with h; exact h.symm
    · cases h
theorem udec_ne {b : List UInt8} {p : Option Nat} {c : Nat} (h : uDec b = .error (p, c)) : ((c : Int) == 0) = false := by
  have : c ≠ 0 := by
    unfold uDec at h
    split at h
    · rename_i p' c' hd
      injection h with h; injection h with h1 h2
      subst h2
      exact decode_ne hd
    · split at h
      · injection h with h; injection h with h1 h2; subst h2; decide
      · split at h
        · injection h with h; injection h with h1 h2; subst h2; decide
        · cases h
  simp; omega
theorem no_txs (F : Nat → Prop) (w : World) : TxsAt F w none [] := fun i hi => by simp at hi
theorem no_ns (F : Nat → Prop) (w : World) : NsAt F w none [] := fun i hi => by simp at hi
theorem uDec_len8 {b : List UInt8} {its : List Rlp.It} (h : uDec b = .ok its) : its.length ≤ 8 := by
  unfold uDec at h
  split at h
  · cases h
  · split at h
    · cases h
    · split at h
      · cases h
      · injection h with h; subst h; omega
set_option maxRecDepth 100000 in
set_option maxHeartbeats 16000000 in
theorem batches_ok_ok (w : World) (a0 : Option Addr) (len0 cap0 : Nat) (s : Nat → AC) (ls : List (List UInt8)) (hln : ls.length = len0) (hm0 : len0 ≤ maxLen) (hls : BsAt (fun _ => True) w a0 s ls) (M : Nat) (hM : ∀ i, i < ls.length → (ls.getD i []).length ≤ M) (hrm : Room M 2) (hsm : Hid (Sm (4096 + (M + 9)))) (xs : List UInt8) (hbat : bat ls = .ok xs) (a1 : Option Addr) (len1 cap1 : Nat) (bs : List UInt8) (hl : bs.length = len1) (hlc : len1 ≤ cap1) (hcm : cap1 ≤ maxLen) (hn : a1 = none → cap1 = 0) (hb : BytesF (fun _ => True) w a1 bs) (hs : Hid (Sm (0 + len1))) (he : ErrType w) (its : List Rlp.It) (hd : uDec bs = .ok its) :
    Calls Tryd.prog 4 #[.slice a0 len0 cap0, .slice a1 len1 cap1] w fun e w' => e = .returned (.bool true) ∧ Below w.heap.size w w' := by
  have HLN := Lib.hid hln
  have HLs := Lib.hid hls
  have HM := Lib.hid hM
  have HRm := Lib.hid hrm
  have HSm := hsm
  have HBat := Lib.hid hbat
  have HL := Lib.hid hl
  have HN := Lib.hid hn
  have HS := hs
  have HBy := Lib.hid hb
  have HD := Lib.hid hd
  have HCM := Lib.hid hcm
  skip
  have HB0 : Hid (Below w.heap.size w w) := Below.refl _ _
  have HE0 := Lib.hid he
  have h8 := uDec_len8 hd
  obtain ⟨ts, hts⟩ : ∃ ts, uTxs its its.length = ts := ⟨_, rfl⟩
  obtain ⟨ns, hns⟩ : ∃ ns, uBad its its.length = ns := ⟨_, rfl⟩
  obtain ⟨nl, hnl⟩ : ∃ nl, ts.length = nl := ⟨_, rfl⟩
  obtain ⟨nb, hnb⟩ : ∃ nb, ns.length = nb := ⟨_, rfl⟩
  have h1 := uTxs_len its its.length
  have h2 := uBad_len its its.length
  rw [hts, hnl] at h1
  rw [hns, hnb] at h2
  have HTs := Lib.hid hts
  have HNs := Lib.hid hns
  have HTl := Lib.hid hnl
  have HNl := Lib.hid hnb
  have HTm : Hid (nl ≤ maxLen) := by show _ ≤ _; unfold maxLen; omega
  have HNm : Hid (nb ≤ maxLen) := by show _ ≤ _; unfold maxLen; omega
  clear hts hns hnl hnb h1 h2 h8
  have es := bself (xs)
  have eg := run_guard_str (xs) (xs)
  unfold maxLen at hcm
  clear hln hls hM hrm hsm hbat hl hn hs hb hd he
  go_enter Tryd.func4, Tryd.ntmps4
  go_wp2_with (first
    | (go_at_call 13; (with_reducible refine (bat_V w a0 len0 cap0 s ls HLN.out hm0 HLs.out M HM.out HRm.out).mono ?_); rintro e w1 he; rw [HBat.out] at he; obtain ⟨xa, xn, xc, rfl, hx, hb⟩ := he; have HB1 := Lib.hid (HB0.out.trans (hb.mono HB0.out.size)); have HE1 := Lib.hid (HE0.out.below hb); have HX1 := Lib.hid hx; clear hb hx)
    | (go_at_call 14; (with_reducible refine (rbat_V w1 a0 len0 cap0 s ls HLN.out hm0 (HLs.out.below HB1.out) M HM.out HSm.out).mono ?_); rintro e w2 ⟨hb, he⟩; rw [HBat.out] at he; obtain ⟨ya, yn, yc, rfl, hy⟩ := he; have HB2 := Lib.hid (HB1.out.trans (hb.mono HB1.out.size)); have HE2 := Lib.hid (HE1.out.below hb); have HX2 := Lib.hid (HX1.out.below hb); have HY2 := Lib.hid hy; clear hb hy)
    | (at_builtin; refine wpList_append_B rfl (.tmp 27) (.tmp 28) rfl w2.heap.size (some ⟨w2.heap.size, 0, none⟩) 0 0 [] a1 len1 cap1 bs (own_none w2) (HBy.out.below (HB2.out.alloc HB2.out.size _)) rfl rfl HL.out HN.out HS.out (by simp) ?_; intro ma mc w3 ho hg _; have hbb : Below w2.heap.size w2 w3 := (((Below.refl _ _).alloc (Nat.le_refl _) _).trans (grown_below hg (own_none w2) (Nat.le_refl _) (by simp))); have HB3 := Lib.hid (HB2.out.trans (hbb.mono HB2.out.size)); have HE3 := Lib.hid (HE2.out.below hbb); have HX3 := Lib.hid (HX2.out.below hbb); have HY3 := Lib.hid (HY2.out.below hbb); have HM3 : Hid (OwnB w3 w2.heap.size ma len1 mc bs) := (by show OwnB _ _ _ _ _ _; simpa using ho); clear ho hg hbb)
    | (go_at_call 15; (with_reducible refine (unb_V w3 ma len1 mc bs HL.out HM3.out.cap.1 HM3.out.cap.2.1 HM3.out.bytes).mono ?_); rintro e w4 ⟨hb, he⟩; rw [HD.out] at he; obtain ⟨al, nl1, cl, ab, nb1, cb, rfl, e1, e2, ht, hn⟩ := he; rw [HTs.out] at e1 ht; rw [HNs.out] at e2 hn; rw [HTl.out] at e1; rw [HNl.out] at e2; have e3 := e1.symm; have e4 := e2.symm; subst e3; subst e4; clear e1 e2; have HB4 := Lib.hid (HB3.out.trans (hb.mono HB3.out.size)); have HE4 := Lib.hid (HE3.out.below hb); have HX4 := Lib.hid (HX3.out.below hb); have HY4 := Lib.hid (HY3.out.below hb); have HA4 : Hid (OwnT w4 w3.heap.size (.slice al nl cl) ts) := ht; have HC4 : Hid (OwnN w4 w3.heap.size (.slice ab nb cb) ns) := hn; clear hb ht hn)
    | (go_at_call 16; (with_reducible refine (runb_V w4 a1 len1 cap1 bs HL.out hlc HCM.out (HBy.out.below HB4.out)).mono ?_); rintro e w5 ⟨hb, he⟩; rw [HD.out] at he; obtain ⟨dl, nl2, dc, db, nb2, ec, rfl, e1, e2, ht, hn⟩ := he; rw [HTs.out] at e1 ht; rw [HNs.out] at e2 hn; rw [HTl.out] at e1; rw [HNl.out] at e2; have e3 := e1.symm; have e4 := e2.symm; subst e3; subst e4; clear e1 e2; have HB5 := Lib.hid (HB4.out.trans (hb.mono HB4.out.size)); have HE5 := Lib.hid (HE4.out.below hb); have HX5 := Lib.hid (HX4.out.below hb); have HY5 := Lib.hid (HY4.out.below hb); have HA5 := Lib.hid (HA4.out.below hb); have HC5 := Lib.hid (HC4.out.below hb); have HG5 : Hid (OwnT w5 w4.heap.size (.slice dl nl dc) ts) := ht; have HH5 : Hid (OwnN w5 w4.heap.size (.slice db nb ec) ns) := hn; clear hb ht hn)
    | (go_at_call 9; (with_reducible refine (fixed4_V _).mono ?_); rintro e w6 ⟨rfl, hb⟩; have HB6 := Lib.hid (HB5.out.trans (hb.mono HB5.out.size)); have HE6 := Lib.hid (HE5.out.below hb); have HX6 := Lib.hid (HX5.out.below hb); have HY6 := Lib.hid (HY5.out.below hb); have HA6 := Lib.hid (HA5.out.below hb); have HC6 := Lib.hid (HC5.out.below hb); have HG6 := Lib.hid (HG5.out.below hb); have HH6 := Lib.hid (HH5.out.below hb); have cx := HX6.out.str; have cy := HY6.out.str; clear hb)
    | (go_at_call 10; (with_reducible refine (wrong_nil _ _).mono ?_); rintro e w7 ⟨rfl, hb⟩; have HB7 := Lib.hid (HB6.out.trans (hb.mono HB6.out.size)); have HE7 := Lib.hid (HE6.out.below hb); have HX7 := Lib.hid (HX6.out.below hb); have HY7 := Lib.hid (HY6.out.below hb); have HA7 := Lib.hid (HA6.out.below hb); have HC7 := Lib.hid (HC6.out.below hb); have HG7 := Lib.hid (HG6.out.below hb); have HH7 := Lib.hid (HH6.out.below hb); clear hb)
    | (go_at_call 17; (with_reducible refine (same4_T w7 al nl cl dl dc ts HTl.out HTm.out (OwnT.at (base := w3.heap.size) (by rw [HTl.out]; exact HA7.out)) (OwnT.at (base := w4.heap.size) (by rw [HTl.out]; exact HG7.out))).mono ?_); rintro e w8 ⟨rfl, hb⟩; have HB8 := Lib.hid (HB7.out.trans (hb.mono HB7.out.size)); have HE8 := Lib.hid (HE7.out.below hb); have HX8 := Lib.hid (HX7.out.below hb); have HY8 := Lib.hid (HY7.out.below hb); have HA8 := Lib.hid (HA7.out.below hb); have HC8 := Lib.hid (HC7.out.below hb); have HG8 := Lib.hid (HG7.out.below hb); have HH8 := Lib.hid (HH7.out.below hb); clear hb)
    | (go_at_call 18; (with_reducible refine (ints4_V w8 ab nb cb db ec ns HNl.out HNm.out (OwnN.at (base := w3.heap.size) (by rw [HNl.out]; exact HC8.out)) (OwnN.at (base := w4.heap.size) (by rw [HNl.out]; exact HH8.out))).mono ?_); rintro e w9 ⟨rfl, hb⟩; have HB9 := Lib.hid (HB8.out.trans (hb.mono HB8.out.size)); have HE9 := Lib.hid (HE8.out.below hb); have HX9 := Lib.hid (HX8.out.below hb); have HY9 := Lib.hid (HY8.out.below hb); have HA9 := Lib.hid (HA8.out.below hb); have HC9 := Lib.hid (HC8.out.below hb); have HG9 := Lib.hid (HG8.out.below hb); have HH9 := Lib.hid (HH8.out.below hb); clear hb)
    | (go_at_call 10; (with_reducible refine (wrong_nil _ _).mono ?_); rintro e w10 ⟨rfl, hb⟩; have HB10 := Lib.hid (HB9.out.trans (hb.mono HB9.out.size)); clear hb))
  go_returns
  exact ⟨by simp, HB10.out⟩
set_option maxRecDepth 100000 in
set_option maxHeartbeats 16000000 in
theorem batches_ok_none (w : World) (a0 : Option Addr) (len0 cap0 : Nat) (s : Nat → AC) (ls : List (List UInt8)) (hln : ls.length = len0) (hm0 : len0 ≤ maxLen) (hls : BsAt (fun _ => True) w a0 s ls) (M : Nat) (hM : ∀ i, i < ls.length → (ls.getD i []).length ≤ M) (hrm : Room M 2) (hsm : Hid (Sm (4096 + (M + 9)))) (xs : List UInt8) (hbat : bat ls = .ok xs) (a1 : Option Addr) (len1 cap1 : Nat) (bs : List UInt8) (hl : bs.length = len1) (hlc : len1 ≤ cap1) (hcm : cap1 ≤ maxLen) (hn : a1 = none → cap1 = 0) (hb : BytesF (fun _ => True) w a1 bs) (hs : Hid (Sm (0 + len1))) (he : ErrType w) (k : Nat) (hd : uDec bs = .error (none, k)) :
    Calls Tryd.prog 4 #[.slice a0 len0 cap0, .slice a1 len1 cap1] w fun e w' => e = .returned (.bool true) ∧ Below w.heap.size w w' := by
  have HLN := Lib.hid hln
  have HLs := Lib.hid hls
  have HM := Lib.hid hM
  have HRm := Lib.hid hrm
  have HSm := hsm
  have HBat := Lib.hid hbat
  have HL := Lib.hid hl
  have HN := Lib.hid hn
  have HS := hs
  have HBy := Lib.hid hb
  have HD := Lib.hid hd
  have HCM := Lib.hid hcm
  have NZ := Lib.hid (udec_ne hd)
  have HB0 : Hid (Below w.heap.size w w) := Below.refl _ _
  have HE0 := Lib.hid he
  have es := bself (xs)
  have eg := run_guard_str (xs) (xs)
  unfold maxLen at hcm
  clear hln hls hM hrm hsm hbat hl hn hs hb hd he
  go_enter Tryd.func4, Tryd.ntmps4
  go_wp2_with (first
    | (go_at_call 13; (with_reducible refine (bat_V w a0 len0 cap0 s ls HLN.out hm0 HLs.out M HM.out HRm.out).mono ?_); rintro e w1 he; rw [HBat.out] at he; obtain ⟨xa, xn, xc, rfl, hx, hb⟩ := he; have HB1 := Lib.hid (HB0.out.trans (hb.mono HB0.out.size)); have HE1 := Lib.hid (HE0.out.below hb); have HX1 := Lib.hid hx; clear hb hx)
    | (go_at_call 14; (with_reducible refine (rbat_V w1 a0 len0 cap0 s ls HLN.out hm0 (HLs.out.below HB1.out) M HM.out HSm.out).mono ?_); rintro e w2 ⟨hb, he⟩; rw [HBat.out] at he; obtain ⟨ya, yn, yc, rfl, hy⟩ := he; have HB2 := Lib.hid (HB1.out.trans (hb.mono HB1.out.size)); have HE2 := Lib.hid (HE1.out.below hb); have HX2 := Lib.hid (HX1.out.below hb); have HY2 := Lib.hid hy; clear hb hy)
    | (at_builtin; refine wpList_append_B rfl (.tmp 27) (.tmp 28) rfl w2.heap.size (some ⟨w2.heap.size, 0, none⟩) 0 0 [] a1 len1 cap1 bs (own_none w2) (HBy.out.below (HB2.out.alloc HB2.out.size _)) rfl rfl HL.out HN.out HS.out (by simp) ?_; intro ma mc w3 ho hg _; have hbb : Below w2.heap.size w2 w3 := (((Below.refl _ _).alloc (Nat.le_refl _) _).trans (grown_below hg (own_none w2) (Nat.le_refl _) (by simp))); have HB3 := Lib.hid (HB2.out.trans (hbb.mono HB2.out.size)); have HE3 := Lib.hid (HE2.out.below hbb); have HX3 := Lib.hid (HX2.out.below hbb); have HY3 := Lib.hid (HY2.out.below hbb); have HM3 : Hid (OwnB w3 w2.heap.size ma len1 mc bs) := (by show OwnB _ _ _ _ _ _; simpa using ho); clear ho hg hbb)
    | (go_at_call 15; (with_reducible refine (unb_V w3 ma len1 mc bs HL.out HM3.out.cap.1 HM3.out.cap.2.1 HM3.out.bytes).mono ?_); rintro e w4 ⟨hb, he⟩; rw [HD.out] at he; subst he; have HB4 := Lib.hid (HB3.out.trans (hb.mono HB3.out.size)); have HE4 := Lib.hid (HE3.out.below hb); have HX4 := Lib.hid (HX3.out.below hb); have HY4 := Lib.hid (HY3.out.below hb); clear hb)
    | (go_at_call 16; (with_reducible refine (runb_V w4 a1 len1 cap1 bs HL.out hlc HCM.out (HBy.out.below HB4.out)).mono ?_); rintro e w5 ⟨hb, he⟩; rw [HD.out] at he; subst he; have HB5 := Lib.hid (HB4.out.trans (hb.mono HB4.out.size)); have HE5 := Lib.hid (HE4.out.below hb); have HX5 := Lib.hid (HX4.out.below hb); have HY5 := Lib.hid (HY4.out.below hb); clear hb)
    | (go_at_call 9; (with_reducible refine (fixed4_V _).mono ?_); rintro e w6 ⟨rfl, hb⟩; have HB6 := Lib.hid (HB5.out.trans (hb.mono HB5.out.size)); have HE6 := Lib.hid (HE5.out.below hb); have HX6 := Lib.hid (HX5.out.below hb); have HY6 := Lib.hid (HY5.out.below hb); have cx := HX6.out.str; have cy := HY6.out.str; clear hb)
    | (go_at_call 10; (with_reducible refine (wrong_nil _ _).mono ?_); rintro e w7 ⟨rfl, hb⟩; have HB7 := Lib.hid (HB6.out.trans (hb.mono HB6.out.size)); have HE7 := Lib.hid (HE6.out.below hb); have HX7 := Lib.hid (HX6.out.below hb); have HY7 := Lib.hid (HY6.out.below hb); clear hb)
    | (go_at_call 17; (with_reducible refine (same4_T w7 none 0 0 none 0 [] rfl (by decide) (no_txs (fun _ => True) _) (no_txs (fun _ => True) _)).mono ?_); rintro e w8 ⟨rfl, hb⟩; have HB8 := Lib.hid (HB7.out.trans (hb.mono HB7.out.size)); have HE8 := Lib.hid (HE7.out.below hb); have HX8 := Lib.hid (HX7.out.below hb); have HY8 := Lib.hid (HY7.out.below hb); clear hb)
    | (go_at_call 18; (with_reducible refine (ints4_V w8 none 0 0 none 0 [] rfl (by decide) (no_ns (fun _ => True) _) (no_ns (fun _ => True) _)).mono ?_); rintro e w9 ⟨rfl, hb⟩; have HB9 := Lib.hid (HB8.out.trans (hb.mono HB8.out.size)); have HE9 := Lib.hid (HE8.out.below hb); have HX9 := Lib.hid (HX8.out.below hb); have HY9 := Lib.hid (HY8.out.below hb); clear hb)
    | (go_at_call 10; (with_reducible refine (wrong_num _ k NZ.out HE9).mono ?_); rintro e w10 ⟨rfl, hb⟩; have HB10 := Lib.hid (HB9.out.trans (hb.mono HB9.out.size)); clear hb))
  go_returns
  exact ⟨by simp, HB10.out⟩
set_option maxRecDepth 100000 in
set_option maxHeartbeats 16000000 in
theorem batches_ok_some (w : World) (a0 : Option Addr) (len0 cap0 : Nat) (s : Nat → AC) (ls : List (List UInt8)) (hln : ls.length = len0) (hm0 : len0 ≤ maxLen) (hls : BsAt (fun _ => True) w a0 s ls) (M : Nat) (hM : ∀ i, i < ls.length → (ls.getD i []).length ≤ M) (hrm : Room M 2) (hsm : Hid (Sm (4096 + (M + 9)))) (xs : List UInt8) (hbat : bat ls = .ok xs) (a1 : Option Addr) (len1 cap1 : Nat) (bs : List UInt8) (hl : bs.length = len1) (hlc : len1 ≤ cap1) (hcm : cap1 ≤ maxLen) (hn : a1 = none → cap1 = 0) (hb : BytesF (fun _ => True) w a1 bs) (hs : Hid (Sm (0 + len1))) (he : ErrType w) (p k : Nat) (hd : uDec bs = .error (some p, k)) :
    Calls Tryd.prog 4 #[.slice a0 len0 cap0, .slice a1 len1 cap1] w fun e w' => e = .returned (.bool true) ∧ Below w.heap.size w w' := by
  have HLN := Lib.hid hln
  have HLs := Lib.hid hls
  have HM := Lib.hid hM
  have HRm := Lib.hid hrm
  have HSm := hsm
  have HBat := Lib.hid hbat
  have HL := Lib.hid hl
  have HN := Lib.hid hn
  have HS := hs
  have HBy := Lib.hid hb
  have HD := Lib.hid hd
  have HCM := Lib.hid hcm
  have NZ := Lib.hid (udec_ne hd)
  have HB0 : Hid (Below w.heap.size w w) := Below.refl _ _
  have HE0 := Lib.hid he
  have es := bself (xs)
  have eg := run_guard_str (xs) (xs)
  unfold maxLen at hcm
  clear hln hls hM hrm hsm hbat hl hn hs hb hd he
  go_enter Tryd.func4, Tryd.ntmps4
  go_wp2_with (first
    | (go_at_call 13; (with_reducible refine (bat_V w a0 len0 cap0 s ls HLN.out hm0 HLs.out M HM.out HRm.out).mono ?_); rintro e w1 he; rw [HBat.out] at he; obtain ⟨xa, xn, xc, rfl, hx, hb⟩ := he; have HB1 := Lib.hid (HB0.out.trans (hb.mono HB0.out.size)); have HE1 := Lib.hid (HE0.out.below hb); have HX1 := Lib.hid hx; clear hb hx)
    | (go_at_call 14; (with_reducible refine (rbat_V w1 a0 len0 cap0 s ls HLN.out hm0 (HLs.out.below HB1.out) M HM.out HSm.out).mono ?_); rintro e w2 ⟨hb, he⟩; rw [HBat.out] at he; obtain ⟨ya, yn, yc, rfl, hy⟩ := he; have HB2 := Lib.hid (HB1.out.trans (hb.mono HB1.out.size)); have HE2 := Lib.hid (HE1.out.below hb); have HX2 := Lib.hid (HX1.out.below hb); have HY2 := Lib.hid hy; clear hb hy)
    | (at_builtin; refine wpList_append_B rfl (.tmp 27) (.tmp 28) rfl w2.heap.size (some ⟨w2.heap.size, 0, none⟩) 0 0 [] a1 len1 cap1 bs (own_none w2) (HBy.out.below (HB2.out.alloc HB2.out.size _)) rfl rfl HL.out HN.out HS.out (by simp) ?_; intro ma mc w3 ho hg _; have hbb : Below w2.heap.size w2 w3 := (((Below.refl _ _).alloc (Nat.le_refl _) _).trans (grown_below hg (own_none w2) (Nat.le_refl _) (by simp))); have HB3 := Lib.hid (HB2.out.trans (hbb.mono HB2.out.size)); have HE3 := Lib.hid (HE2.out.below hbb); have HX3 := Lib.hid (HX2.out.below hbb); have HY3 := Lib.hid (HY2.out.below hbb); have HM3 : Hid (OwnB w3 w2.heap.size ma len1 mc bs) := (by show OwnB _ _ _ _ _ _; simpa using ho); clear ho hg hbb)
    | (go_at_call 15; (with_reducible refine (unb_V w3 ma len1 mc bs HL.out HM3.out.cap.1 HM3.out.cap.2.1 HM3.out.bytes).mono ?_); rintro e w4 ⟨hb, he⟩; rw [HD.out] at he; obtain ⟨q, rfl, hf⟩ := he; have HB4 := Lib.hid (HB3.out.trans (hb.mono HB3.out.size)); have HE4 := Lib.hid (HE3.out.below hb); have HX4 := Lib.hid (HX3.out.below hb); have HY4 := Lib.hid (HY3.out.below hb); have HF4 := Lib.hid hf; clear hb hf)
    | (go_at_call 16; (with_reducible refine (runb_V w4 a1 len1 cap1 bs HL.out hlc HCM.out (HBy.out.below HB4.out)).mono ?_); rintro e w5 ⟨hb, he⟩; rw [HD.out] at he; subst he; have HB5 := Lib.hid (HB4.out.trans (hb.mono HB4.out.size)); have HE5 := Lib.hid (HE4.out.below hb); have HX5 := Lib.hid (HX4.out.below hb); have HY5 := Lib.hid (HY4.out.below hb); have HF5 := Lib.hid (HF4.out.below hb); clear hb)
    | (go_at_call 9; (with_reducible refine (fixed4_V _).mono ?_); rintro e w6 ⟨rfl, hb⟩; have HB6 := Lib.hid (HB5.out.trans (hb.mono HB5.out.size)); have HE6 := Lib.hid (HE5.out.below hb); have HX6 := Lib.hid (HX5.out.below hb); have HY6 := Lib.hid (HY5.out.below hb); have HF6 := Lib.hid (HF5.out.below hb); have cx := HX6.out.str; have cy := HY6.out.str; clear hb)
    | (go_at_call 10; (with_reducible refine (wrong_nil _ _).mono ?_); rintro e w7 ⟨rfl, hb⟩; have HB7 := Lib.hid (HB6.out.trans (hb.mono HB6.out.size)); have HE7 := Lib.hid (HE6.out.below hb); have HX7 := Lib.hid (HX6.out.below hb); have HY7 := Lib.hid (HY6.out.below hb); have HF7 := Lib.hid (HF6.out.below hb); clear hb)
    | (go_at_call 17; (with_reducible refine (same4_T w7 none 0 0 none 0 [] rfl (by decide) (no_txs (fun _ => True) _) (no_txs (fun _ => True) _)).mono ?_); rintro e w8 ⟨rfl, hb⟩; have HB8 := Lib.hid (HB7.out.trans (hb.mono HB7.out.size)); have HE8 := Lib.hid (HE7.out.below hb); have HX8 := Lib.hid (HX7.out.below hb); have HY8 := Lib.hid (HY7.out.below hb); have HF8 := Lib.hid (HF7.out.below hb); clear hb)
    | (go_at_call 18; (with_reducible refine (ints4_V w8 none 0 0 none 0 [] rfl (by decide) (no_ns (fun _ => True) _) (no_ns (fun _ => True) _)).mono ?_); rintro e w9 ⟨rfl, hb⟩; have HB9 := Lib.hid (HB8.out.trans (hb.mono HB8.out.size)); have HE9 := Lib.hid (HE8.out.below hb); have HX9 := Lib.hid (HX8.out.below hb); have HY9 := Lib.hid (HY8.out.below hb); have HF9 := Lib.hid (HF8.out.below hb); clear hb)
    | (go_at_call 10; (with_reducible refine (wrong_fault _ q p k _ _ rfl rfl NZ.out HE9 HF9.out).mono ?_); rintro e w10 ⟨rfl, hb⟩; have HB10 := Lib.hid (HB9.out.trans (hb.mono HB9.out.size)); clear hb))
  go_returns
  exact ⟨by simp, HB10.out⟩
set_option maxRecDepth 100000 in
set_option maxHeartbeats 16000000 in
theorem batches_no_ok (w : World) (a0 : Option Addr) (len0 cap0 : Nat) (s : Nat → AC) (ls : List (List UInt8)) (hln : ls.length = len0) (hm0 : len0 ≤ maxLen) (hls : BsAt (fun _ => True) w a0 s ls) (M : Nat) (hM : ∀ i, i < ls.length → (ls.getD i []).length ≤ M) (hrm : Room M 2) (hsm : Hid (Sm (4096 + (M + 9))))  (hbat : bat ls = .error 5) (a1 : Option Addr) (len1 cap1 : Nat) (bs : List UInt8) (hl : bs.length = len1) (hlc : len1 ≤ cap1) (hcm : cap1 ≤ maxLen) (hn : a1 = none → cap1 = 0) (hb : BytesF (fun _ => True) w a1 bs) (hs : Hid (Sm (0 + len1))) (he : ErrType w) (its : List Rlp.It) (hd : uDec bs = .ok its) :
    Calls Tryd.prog 4 #[.slice a0 len0 cap0, .slice a1 len1 cap1] w fun e w' => e = .returned (.bool true) ∧ Below w.heap.size w w' := by
  have HLN := Lib.hid hln
  have HLs := Lib.hid hls
  have HM := Lib.hid hM
  have HRm := Lib.hid hrm
  have HSm := hsm
  have HBat := Lib.hid hbat
  have HL := Lib.hid hl
  have HN := Lib.hid hn
  have HS := hs
  have HBy := Lib.hid hb
  have HD := Lib.hid hd
  have HCM := Lib.hid hcm
  skip
  have HB0 : Hid (Below w.heap.size w w) := Below.refl _ _
  have HE0 := Lib.hid he
  have h8 := uDec_len8 hd
  obtain ⟨ts, hts⟩ : ∃ ts, uTxs its its.length = ts := ⟨_, rfl⟩
  obtain ⟨ns, hns⟩ : ∃ ns, uBad its its.length = ns := ⟨_, rfl⟩
  obtain ⟨nl, hnl⟩ : ∃ nl, ts.length = nl := ⟨_, rfl⟩
  obtain ⟨nb, hnb⟩ : ∃ nb, ns.length = nb := ⟨_, rfl⟩
  have h1 := uTxs_len its its.length
  have h2 := uBad_len its its.length
  rw [hts, hnl] at h1
  rw [hns, hnb] at h2
  have HTs := Lib.hid hts
  have HNs := Lib.hid hns
  have HTl := Lib.hid hnl
  have HNl := Lib.hid hnb
  have HTm : Hid (nl ≤ maxLen) := by show _ ≤ _; unfold maxLen; omega
  have HNm : Hid (nb ≤ maxLen) := by show _ ≤ _; unfold maxLen; omega
  clear hts hns hnl hnb h1 h2 h8
  have es := bself (([] : List UInt8))
  have eg := run_guard_str (([] : List UInt8)) (([] : List UInt8))
  unfold maxLen at hcm
  clear hln hls hM hrm hsm hbat hl hn hs hb hd he
  go_enter Tryd.func4, Tryd.ntmps4
  go_wp2_with (first
    | (go_at_call 13; (with_reducible refine (bat_V w a0 len0 cap0 s ls HLN.out hm0 HLs.out M HM.out HRm.out).mono ?_); rintro e w1 he; rw [HBat.out] at he; obtain ⟨rfl, hb⟩ := he; have HB1 := Lib.hid (HB0.out.trans (hb.mono HB0.out.size)); have HE1 := Lib.hid (HE0.out.below hb); clear hb)
    | (go_at_call 14; (with_reducible refine (rbat_V w1 a0 len0 cap0 s ls HLN.out hm0 (HLs.out.below HB1.out) M HM.out HSm.out).mono ?_); rintro e w2 ⟨hb, he⟩; rw [HBat.out] at he; subst he; have HB2 := Lib.hid (HB1.out.trans (hb.mono HB1.out.size)); have HE2 := Lib.hid (HE1.out.below hb); clear hb)
    | (at_builtin; refine wpList_append_B rfl (.tmp 27) (.tmp 28) rfl w2.heap.size (some ⟨w2.heap.size, 0, none⟩) 0 0 [] a1 len1 cap1 bs (own_none w2) (HBy.out.below (HB2.out.alloc HB2.out.size _)) rfl rfl HL.out HN.out HS.out (by simp) ?_; intro ma mc w3 ho hg _; have hbb : Below w2.heap.size w2 w3 := (((Below.refl _ _).alloc (Nat.le_refl _) _).trans (grown_below hg (own_none w2) (Nat.le_refl _) (by simp))); have HB3 := Lib.hid (HB2.out.trans (hbb.mono HB2.out.size)); have HE3 := Lib.hid (HE2.out.below hbb); have HM3 : Hid (OwnB w3 w2.heap.size ma len1 mc bs) := (by show OwnB _ _ _ _ _ _; simpa using ho); clear ho hg hbb)
    | (go_at_call 15; (with_reducible refine (unb_V w3 ma len1 mc bs HL.out HM3.out.cap.1 HM3.out.cap.2.1 HM3.out.bytes).mono ?_); rintro e w4 ⟨hb, he⟩; rw [HD.out] at he; obtain ⟨al, nl1, cl, ab, nb1, cb, rfl, e1, e2, ht, hn⟩ := he; rw [HTs.out] at e1 ht; rw [HNs.out] at e2 hn; rw [HTl.out] at e1; rw [HNl.out] at e2; have e3 := e1.symm; have e4 := e2.symm; subst e3; subst e4; clear e1 e2; have HB4 := Lib.hid (HB3.out.trans (hb.mono HB3.out.size)); have HE4 := Lib.hid (HE3.out.below hb); have HA4 : Hid (OwnT w4 w3.heap.size (.slice al nl cl) ts) := ht; have HC4 : Hid (OwnN w4 w3.heap.size (.slice ab nb cb) ns) := hn; clear hb ht hn)
    | (go_at_call 16; (with_reducible refine (runb_V w4 a1 len1 cap1 bs HL.out hlc HCM.out (HBy.out.below HB4.out)).mono ?_); rintro e w5 ⟨hb, he⟩; rw [HD.out] at he; obtain ⟨dl, nl2, dc, db, nb2, ec, rfl, e1, e2, ht, hn⟩ := he; rw [HTs.out] at e1 ht; rw [HNs.out] at e2 hn; rw [HTl.out] at e1; rw [HNl.out] at e2; have e3 := e1.symm; have e4 := e2.symm; subst e3; subst e4; clear e1 e2; have HB5 := Lib.hid (HB4.out.trans (hb.mono HB4.out.size)); have HE5 := Lib.hid (HE4.out.below hb); have HA5 := Lib.hid (HA4.out.below hb); have HC5 := Lib.hid (HC4.out.below hb); have HG5 : Hid (OwnT w5 w4.heap.size (.slice dl nl dc) ts) := ht; have HH5 : Hid (OwnN w5 w4.heap.size (.slice db nb ec) ns) := hn; clear hb ht hn)
    | (go_at_call 9; (with_reducible refine (fixed4_V _).mono ?_); rintro e w6 ⟨rfl, hb⟩; have HB6 := Lib.hid (HB5.out.trans (hb.mono HB5.out.size)); have HE6 := Lib.hid (HE5.out.below hb); have HA6 := Lib.hid (HA5.out.below hb); have HC6 := Lib.hid (HC5.out.below hb); have HG6 := Lib.hid (HG5.out.below hb); have HH6 := Lib.hid (HH5.out.below hb); have cx := nils w6; clear hb)
    | (go_at_call 10; (with_reducible refine (wrong_num _ 5 (by decide) HE6).mono ?_); rintro e w7 ⟨rfl, hb⟩; have HB7 := Lib.hid (HB6.out.trans (hb.mono HB6.out.size)); have HE7 := Lib.hid (HE6.out.below hb); have HA7 := Lib.hid (HA6.out.below hb); have HC7 := Lib.hid (HC6.out.below hb); have HG7 := Lib.hid (HG6.out.below hb); have HH7 := Lib.hid (HH6.out.below hb); clear hb)
    | (go_at_call 17; (with_reducible refine (same4_T w7 al nl cl dl dc ts HTl.out HTm.out (OwnT.at (base := w3.heap.size) (by rw [HTl.out]; exact HA7.out)) (OwnT.at (base := w4.heap.size) (by rw [HTl.out]; exact HG7.out))).mono ?_); rintro e w8 ⟨rfl, hb⟩; have HB8 := Lib.hid (HB7.out.trans (hb.mono HB7.out.size)); have HE8 := Lib.hid (HE7.out.below hb); have HA8 := Lib.hid (HA7.out.below hb); have HC8 := Lib.hid (HC7.out.below hb); have HG8 := Lib.hid (HG7.out.below hb); have HH8 := Lib.hid (HH7.out.below hb); clear hb)
    | (go_at_call 18; (with_reducible refine (ints4_V w8 ab nb cb db ec ns HNl.out HNm.out (OwnN.at (base := w3.heap.size) (by rw [HNl.out]; exact HC8.out)) (OwnN.at (base := w4.heap.size) (by rw [HNl.out]; exact HH8.out))).mono ?_); rintro e w9 ⟨rfl, hb⟩; have HB9 := Lib.hid (HB8.out.trans (hb.mono HB8.out.size)); have HE9 := Lib.hid (HE8.out.below hb); have HA9 := Lib.hid (HA8.out.below hb); have HC9 := Lib.hid (HC8.out.below hb); have HG9 := Lib.hid (HG8.out.below hb); have HH9 := Lib.hid (HH8.out.below hb); clear hb)
    | (go_at_call 10; (with_reducible refine (wrong_nil _ _).mono ?_); rintro e w10 ⟨rfl, hb⟩; have HB10 := Lib.hid (HB9.out.trans (hb.mono HB9.out.size)); clear hb))
  go_returns
  exact ⟨by simp, HB10.out⟩
set_option maxRecDepth 100000 in
set_option maxHeartbeats 16000000 in
theorem batches_no_none (w : World) (a0 : Option Addr) (len0 cap0 : Nat) (s : Nat → AC) (ls : List (List UInt8)) (hln : ls.length = len0) (hm0 : len0 ≤ maxLen) (hls : BsAt (fun _ => True) w a0 s ls) (M : Nat) (hM : ∀ i, i < ls.length → (ls.getD i []).length ≤ M) (hrm : Room M 2) (hsm : Hid (Sm (4096 + (M + 9))))  (hbat : bat ls = .error 5) (a1 : Option Addr) (len1 cap1 : Nat) (bs : List UInt8) (hl : bs.length = len1) (hlc : len1 ≤ cap1) (hcm : cap1 ≤ maxLen) (hn : a1 = none → cap1 = 0) (hb : BytesF (fun _ => True) w a1 bs) (hs : Hid (Sm (0 + len1))) (he : ErrType w) (k : Nat) (hd : uDec bs = .error (none, k)) :
    Calls Tryd.prog 4 #[.slice a0 len0 cap0, .slice a1 len1 cap1] w fun e w' => e = .returned (.bool true) ∧ Below w.heap.size w w' := by
  have HLN := Lib.hid hln
  have HLs := Lib.hid hls
  have HM := Lib.hid hM
  have HRm := Lib.hid hrm
  have HSm := hsm
  have HBat := Lib.hid hbat
  have HL := Lib.hid hl
  have HN := Lib.hid hn
  have HS := hs
  have HBy := Lib.hid hb
  have HD := Lib.hid hd
  have HCM := Lib.hid hcm
  have NZ := Lib.hid (udec_ne hd)
  have HB0 : Hid (Below w.heap.size w w) := Below.refl _ _
  have HE0 := Lib.hid he
  have es := bself (([] : List UInt8))
  have eg := run_guard_str (([] : List UInt8)) (([] : List UInt8))
  unfold maxLen at hcm
  clear hln hls hM hrm hsm hbat hl hn hs hb hd he
  go_enter Tryd.func4, Tryd.ntmps4
  go_wp2_with (first
    | (go_at_call 13; (with_reducible refine (bat_V w a0 len0 cap0 s ls HLN.out hm0 HLs.out M HM.out HRm.out).mono ?_); rintro e w1 he; rw [HBat.out] at he; obtain ⟨rfl, hb⟩ := he; have HB1 := Lib.hid (HB0.out.trans (hb.mono HB0.out.size)); have HE1 := Lib.hid (HE0.out.below hb); clear hb)
    | (go_at_call 14; (with_reducible refine (rbat_V w1 a0 len0 cap0 s ls HLN.out hm0 (HLs.out.below HB1.out) M HM.out HSm.out).mono ?_); rintro e w2 ⟨hb, he⟩; rw [HBat.out] at he; subst he; have HB2 := Lib.hid (HB1.out.trans (hb.mono HB1.out.size)); have HE2 := Lib.hid (HE1.out.below hb); clear hb)
    | (at_builtin; refine wpList_append_B rfl (.tmp 27) (.tmp 28) rfl w2.heap.size (some ⟨w2.heap.size, 0, none⟩) 0 0 [] a1 len1 cap1 bs (own_none w2) (HBy.out.below (HB2.out.alloc HB2.out.size _)) rfl rfl HL.out HN.out HS.out (by simp) ?_; intro ma mc w3 ho hg _; have hbb : Below w2.heap.size w2 w3 := (((Below.refl _ _).alloc (Nat.le_refl _) _).trans (grown_below hg (own_none w2) (Nat.le_refl _) (by simp))); have HB3 := Lib.hid (HB2.out.trans (hbb.mono HB2.out.size)); have HE3 := Lib.hid (HE2.out.below hbb); have HM3 : Hid (OwnB w3 w2.heap.size ma len1 mc bs) := (by show OwnB _ _ _ _ _ _; simpa using ho); clear ho hg hbb)
    | (go_at_call 15; (with_reducible refine (unb_V w3 ma len1 mc bs HL.out HM3.out.cap.1 HM3.out.cap.2.1 HM3.out.bytes).mono ?_); rintro e w4 ⟨hb, he⟩; rw [HD.out] at he; subst he; have HB4 := Lib.hid (HB3.out.trans (hb.mono HB3.out.size)); have HE4 := Lib.hid (HE3.out.below hb); clear hb)
    | (go_at_call 16; (with_reducible refine (runb_V w4 a1 len1 cap1 bs HL.out hlc HCM.out (HBy.out.below HB4.out)).mono ?_); rintro e w5 ⟨hb, he⟩; rw [HD.out] at he; subst he; have HB5 := Lib.hid (HB4.out.trans (hb.mono HB4.out.size)); have HE5 := Lib.hid (HE4.out.below hb); clear hb)
    | (go_at_call 9; (with_reducible refine (fixed4_V _).mono ?_); rintro e w6 ⟨rfl, hb⟩; have HB6 := Lib.hid (HB5.out.trans (hb.mono HB5.out.size)); have HE6 := Lib.hid (HE5.out.below hb); have cx := nils w6; clear hb)
    | (go_at_call 10; (with_reducible refine (wrong_num _ 5 (by decide) HE6).mono ?_); rintro e w7 ⟨rfl, hb⟩; have HB7 := Lib.hid (HB6.out.trans (hb.mono HB6.out.size)); have HE7 := Lib.hid (HE6.out.below hb); clear hb)
    | (go_at_call 17; (with_reducible refine (same4_T w7 none 0 0 none 0 [] rfl (by decide) (no_txs (fun _ => True) _) (no_txs (fun _ => True) _)).mono ?_); rintro e w8 ⟨rfl, hb⟩; have HB8 := Lib.hid (HB7.out.trans (hb.mono HB7.out.size)); have HE8 := Lib.hid (HE7.out.below hb); clear hb)
    | (go_at_call 18; (with_reducible refine (ints4_V w8 none 0 0 none 0 [] rfl (by decide) (no_ns (fun _ => True) _) (no_ns (fun _ => True) _)).mono ?_); rintro e w9 ⟨rfl, hb⟩; have HB9 := Lib.hid (HB8.out.trans (hb.mono HB8.out.size)); have HE9 := Lib.hid (HE8.out.below hb); clear hb)
    | (go_at_call 10; (with_reducible refine (wrong_num _ k NZ.out HE9).mono ?_); rintro e w10 ⟨rfl, hb⟩; have HB10 := Lib.hid (HB9.out.trans (hb.mono HB9.out.size)); clear hb))
  go_returns
  exact ⟨by simp, HB10.out⟩
set_option maxRecDepth 100000 in
set_option maxHeartbeats 16000000 in
theorem batches_no_some (w : World) (a0 : Option Addr) (len0 cap0 : Nat) (s : Nat → AC) (ls : List (List UInt8)) (hln : ls.length = len0) (hm0 : len0 ≤ maxLen) (hls : BsAt (fun _ => True) w a0 s ls) (M : Nat) (hM : ∀ i, i < ls.length → (ls.getD i []).length ≤ M) (hrm : Room M 2) (hsm : Hid (Sm (4096 + (M + 9))))  (hbat : bat ls = .error 5) (a1 : Option Addr) (len1 cap1 : Nat) (bs : List UInt8) (hl : bs.length = len1) (hlc : len1 ≤ cap1) (hcm : cap1 ≤ maxLen) (hn : a1 = none → cap1 = 0) (hb : BytesF (fun _ => True) w a1 bs) (hs : Hid (Sm (0 + len1))) (he : ErrType w) (p k : Nat) (hd : uDec bs = .error (some p, k)) :
    Calls Tryd.prog 4 #[.slice a0 len0 cap0, .slice a1 len1 cap1] w fun e w' => e = .returned (.bool true) ∧ Below w.heap.size w w' := by
  have HLN := Lib.hid hln
  have HLs := Lib.hid hls
  have HM := Lib.hid hM
  have HRm := Lib.hid hrm
  have HSm := hsm
  have HBat := Lib.hid hbat
  have HL := Lib.hid hl
  have HN := Lib.hid hn
  have HS := hs
  have HBy := Lib.hid hb
  have HD := Lib.hid hd
  have HCM := Lib.hid hcm
  have NZ := Lib.hid (udec_ne hd)
  have HB0 : Hid (Below w.heap.size w w) := Below.refl _ _
  have HE0 := Lib.hid he
  have es := bself (([] : List UInt8))
  have eg := run_guard_str (([] : List UInt8)) (([] : List UInt8))
  unfold maxLen at hcm
  clear hln hls hM hrm hsm hbat hl hn hs hb hd he
  go_enter Tryd.func4, Tryd.ntmps4
  go_wp2_with (first
    | (go_at_call 13; (with_reducible refine (bat_V w a0 len0 cap0 s ls HLN.out hm0 HLs.out M HM.out HRm.out).mono ?_); rintro e w1 he; rw [HBat.out] at he; obtain ⟨rfl, hb⟩ := he; have HB1 := Lib.hid (HB0.out.trans (hb.mono HB0.out.size)); have HE1 := Lib.hid (HE0.out.below hb); clear hb)
    | (go_at_call 14; (with_reducible refine (rbat_V w1 a0 len0 cap0 s ls HLN.out hm0 (HLs.out.below HB1.out) M HM.out HSm.out).mono ?_); rintro e w2 ⟨hb, he⟩; rw [HBat.out] at he; subst he; have HB2 := Lib.hid (HB1.out.trans (hb.mono HB1.out.size)); have HE2 := Lib.hid (HE1.out.below hb); clear hb)
    | (at_builtin; refine wpList_append_B rfl (.tmp 27) (.tmp 28) rfl w2.heap.size (some ⟨w2.heap.size, 0, none⟩) 0 0 [] a1 len1 cap1 bs (own_none w2) (HBy.out.below (HB2.out.alloc HB2.out.size _)) rfl rfl HL.out HN.out HS.out (by simp) ?_; intro ma mc w3 ho hg _; have hbb : Below w2.heap.size w2 w3 := (((Below.refl _ _).alloc (Nat.le_refl _) _).trans (grown_below hg (own_none w2) (Nat.le_refl _) (by simp))); have HB3 := Lib.hid (HB2.out.trans (hbb.mono HB2.out.size)); have HE3 := Lib.hid (HE2.out.below hbb); have HM3 : Hid (OwnB w3 w2.heap.size ma len1 mc bs) := (by show OwnB _ _ _ _ _ _; simpa using ho); clear ho hg hbb)
    | (go_at_call 15; (with_reducible refine (unb_V w3 ma len1 mc bs HL.out HM3.out.cap.1 HM3.out.cap.2.1 HM3.out.bytes).mono ?_); rintro e w4 ⟨hb, he⟩; rw [HD.out] at he; obtain ⟨q, rfl, hf⟩ := he; have HB4 := Lib.hid (HB3.out.trans (hb.mono HB3.out.size)); have HE4 := Lib.hid (HE3.out.below hb); have HF4 := Lib.hid hf; clear hb hf)
    | (go_at_call 16; (with_reducible refine (runb_V w4 a1 len1 cap1 bs HL.out hlc HCM.out (HBy.out.below HB4.out)).mono ?_); rintro e w5 ⟨hb, he⟩; rw [HD.out] at he; subst he; have HB5 := Lib.hid (HB4.out.trans (hb.mono HB4.out.size)); have HE5 := Lib.hid (HE4.out.below hb); have HF5 := Lib.hid (HF4.out.below hb); clear hb)
    | (go_at_call 9; (with_reducible refine (fixed4_V _).mono ?_); rintro e w6 ⟨rfl, hb⟩; have HB6 := Lib.hid (HB5.out.trans (hb.mono HB5.out.size)); have HE6 := Lib.hid (HE5.out.below hb); have HF6 := Lib.hid (HF5.out.below hb); have cx := nils w6; clear hb)
    | (go_at_call 10; (with_reducible refine (wrong_num _ 5 (by decide) HE6).mono ?_); rintro e w7 ⟨rfl, hb⟩; have HB7 := Lib.hid (HB6.out.trans (hb.mono HB6.out.size)); have HE7 := Lib.hid (HE6.out.below hb); have HF7 := Lib.hid (HF6.out.below hb); clear hb)
    | (go_at_call 17; (with_reducible refine (same4_T w7 none 0 0 none 0 [] rfl (by decide) (no_txs (fun _ => True) _) (no_txs (fun _ => True) _)).mono ?_); rintro e w8 ⟨rfl, hb⟩; have HB8 := Lib.hid (HB7.out.trans (hb.mono HB7.out.size)); have HE8 := Lib.hid (HE7.out.below hb); have HF8 := Lib.hid (HF7.out.below hb); clear hb)
    | (go_at_call 18; (with_reducible refine (ints4_V w8 none 0 0 none 0 [] rfl (by decide) (no_ns (fun _ => True) _) (no_ns (fun _ => True) _)).mono ?_); rintro e w9 ⟨rfl, hb⟩; have HB9 := Lib.hid (HB8.out.trans (hb.mono HB8.out.size)); have HE9 := Lib.hid (HE8.out.below hb); have HF9 := Lib.hid (HF8.out.below hb); clear hb)
    | (go_at_call 10; (with_reducible refine (wrong_fault _ q p k _ _ rfl rfl NZ.out HE9 HF9.out).mono ?_); rintro e w10 ⟨rfl, hb⟩; have HB10 := Lib.hid (HB9.out.trans (hb.mono HB9.out.size)); clear hb))
  go_returns
  exact ⟨by simp, HB10.out⟩
set_option maxRecDepth 100000 in
theorem txBatches_walk {H : Type} {enc : TypeId × Value → H} {base : Nat} (w : World) {d0 : DataW H} {p0 : List MemPlace} (v0 : Value) (o0 : Value.okWide Tryd.prog w .any base TBB v0) (w0 : DataW.Trod enc Tryd.prog w 0 (fun _ => true) true TBB v0 d0 p0) (reach0 : (d0.weights Tryd.prog TBB).all (· ≤ reachBytes) = true) (a1 : Option Addr) (len1 cap1 : Nat) (z1 : List Int) (w1 : IsRow .u8 w a1 len1 cap1 z1) (reach1 : len1 ≤ 140737488351232) (laid : laidMetH Tryd.prog Rows.txBatchesRow.laid w) :
    Calls Tryd.prog 4 #[v0, .slice a1 len1 cap1] w fun e w' => e = .returned (.bool true) ∧ Below w.heap.size w w' := by
  obtain ⟨a0, n0, c0, rfl⟩ := Go.WideShapes.okWide_slice Tryd.underlying42 o0
  obtain ⟨f0, h0⟩ := w0
  simp only [Value.cells] at h0
  obtain ⟨l0, m0, s, ls, hln, hls, hlM⟩ := bs_openR h0 reach0
  obtain ⟨h1, h2, h3, h4, h5⟩ := row_all w1
  have he := errType_of_laid laid
  obtain ⟨M, hMe⟩ : ∃ M, 140737488351232 = M := ⟨_, rfl⟩
  have hRm : Room M 2 := ⟨by unfold Sm; omega⟩
  have hSm : Hid (Sm (4096 + (M + 9))) := by show Sm _; unfold Sm; omega
  have hS1 : Hid (Sm (0 + len1)) := by show Sm _; unfold Sm; omega
  rw [hMe] at hlM
  clear hMe reach1
  rcases hbat : bat ls with k0 | xs
  · have := bat_five hbat
    subst this
    rcases hd : uDec (rowB z1 len1) with ⟨p, k⟩ | its
    · cases p with
      | none => exact batches_no_none w a0 n0 c0 s ls hln (Nat.le_trans l0 m0) hls M hlM hRm hSm hbat a1 len1 cap1 _ h1 h2 h3 h4 h5 hS1 he k hd
      | some p => exact batches_no_some w a0 n0 c0 s ls hln (Nat.le_trans l0 m0) hls M hlM hRm hSm hbat a1 len1 cap1 _ h1 h2 h3 h4 h5 hS1 he p k hd
    · exact batches_no_ok w a0 n0 c0 s ls hln (Nat.le_trans l0 m0) hls M hlM hRm hSm hbat a1 len1 cap1 _ h1 h2 h3 h4 h5 hS1 he its hd
  · rcases hd : uDec (rowB z1 len1) with ⟨p, k⟩ | its
    · cases p with
      | none => exact batches_ok_none w a0 n0 c0 s ls hln (Nat.le_trans l0 m0) hls M hlM hRm hSm xs hbat a1 len1 cap1 _ h1 h2 h3 h4 h5 hS1 he k hd
      | some p => exact batches_ok_some w a0 n0 c0 s ls hln (Nat.le_trans l0 m0) hls M hlM hRm hSm xs hbat a1 len1 cap1 _ h1 h2 h3 h4 h5 hS1 he p k hd
    · exact batches_ok_ok w a0 n0 c0 s ls hln (Nat.le_trans l0 m0) hls M hlM hRm hSm xs hbat a1 len1 cap1 _ h1 h2 h3 h4 h5 hS1 he its hd
end Go.Proofs.YtgcpnhnckbgjmaaDoor
