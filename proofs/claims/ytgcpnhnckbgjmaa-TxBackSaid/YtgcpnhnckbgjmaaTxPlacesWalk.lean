/-
  TxPlaces: the walk.
-/
import Derived.Test.YtgcpnhnckbgjmaaTxBPl
import Derived.Test.YtgcpnhnckbgjmaaTxFix
import Derived.Test.YtgcpnhnckbgjmaaTxApartWalk
set_option linter.unusedVariables false
set_option linter.unusedSimpArgs false
namespace Go.Proofs.Ytgcpnhnckbgjmaa
open Go.RowKit
variable {F : Nat → Prop}
theorem right4_V (vs : Nat → Nat) (w : World) (ho : okTx vs) :
    Calls Try.prog 10 #[.agg #[.int .u64 (vs 0), .int .u64 (vs 1), .int .u64 (vs 2), .int .u64 (vs 3), .int .u64 (vs 4), .int .u64 (vs 5)]] w fun e w' => e = .returned (.bool true) ∧ Below w.heap.size w w' := by
  have h0 := ho 0 (by decide)
  have h1 := ho 1 (by decide)
  have h4 := ho 4 (by decide)
  simp [inn] at h0 h1 h4
  clear ho
  go_enter Try.func10, Try.ntmps10
  go_wp2
  go_returns
  exact ⟨by simp; omega, by (repeat' (first | (with_reducible exact Below.refl _ _) | (with_reducible refine Below.alloc ?_ ?_ _) | (with_reducible refine Below.drew ?_) | (with_reducible refine Below.setCell ?_ ?_ _) | (with_reducible refine Below.thn (by assumption) ?_ ?_) | (with_reducible refine below_drewN ?_ _) | go_size))⟩
theorem unb_wrong (w : World) (a : Option Addr) (n c : Nat) (b : List UInt8) (hl : b.length = n) (hc : n ≤ c) (hcm : c ≤ maxLen) (hb : BytesF F w a b) (r : Option Nat × Nat) (h : uDec b = .error r) :
    Calls Try.prog 9 #[.slice a n c] w fun e w' => ∃ ty x, e = .returned (.tuple #[.slice none 0 0, .slice none 0 0, .iface ty x]) ∧ Below w.heap.size w w' := by
  refine (unb_V w a n c b hl hc hcm hb).mono ?_
  rw [h]
  obtain ⟨p, k⟩ := r
  cases p with
  | none => rintro e w' ⟨hb, he⟩; exact ⟨_, _, he, hb⟩
  | some p => rintro e w' ⟨hb, q, he, _⟩; exact ⟨_, _, he, hb⟩
theorem unb_good (w : World) (a : Option Addr) (n c : Nat) (b : List UInt8) (hl : b.length = n) (hc : n ≤ c) (hcm : c ≤ maxLen) (hb : BytesF F w a b) (its : List Rlp.It) (h : uDec b = .ok its) (ts : List (Nat → Nat)) (ns : List Nat) (ht : uTxs its its.length = ts) (hn : uBad its its.length = ns) (nl nb : Nat) (hnl : ts.length = nl) (hnb : ns.length = nb) :
    Calls Try.prog 9 #[.slice a n c] w fun e w' => ∃ al cl ab cb, e = .returned (.tuple #[.slice al nl cl, .slice ab nb cb, .nilIface]) ∧ OwnT w' w.heap.size (.slice al nl cl) ts ∧ OwnN w' w.heap.size (.slice ab nb cb) ns ∧ Below w.heap.size w w' := by
  refine (unb_V w a n c b hl hc hcm hb).mono ?_
  rw [h]
  rintro e w' ⟨hb, al, nl', cl, ab, nb', cb, rfl, h1, h2, h3, h4⟩
  rw [ht] at h1 h3
  rw [hn] at h2 h4
  subst hnl; subst hnb; subst h1; subst h2
  exact ⟨al, cl, ab, cb, rfl, h3, h4, hb⟩
set_option maxRecDepth 100000 in
set_option maxHeartbeats 8000000 in
theorem places_err (w : World) (a0 : Option Addr) (len0 cap0 : Nat) (bs : List UInt8) (hl : bs.length = len0) (hcm : cap0 ≤ maxLen) (hn : a0 = none → cap0 = 0) (hb : BytesF (fun _ => True) w a0 bs) (hs : Sm (0 + len0)) (r : Option Nat × Nat) (h : uDec bs = .error r) :
    Calls Try.prog 4 #[.slice a0 len0 cap0] w fun e w' => e = .returned (.bool true) ∧ Below w.heap.size w w' := by
  have HL := Lib.hid hl
  have HN := Lib.hid hn
  have HY := Lib.hid hb
  have HD := Lib.hid h
  have HS := Lib.hid hs
  unfold maxLen at hcm
  clear hl hn hb h hs
  go_enter Try.func4, Try.ntmps4
  go_wp2_with (first
    | (at_builtin; refine wpList_append_B rfl (.tmp 18) (.tmp 19) rfl w.heap.size (some ⟨w.heap.size, 0, none⟩) 0 0 [] a0 len0 cap0 bs (own_none w) (HY.out.below ((Below.refl _ _).alloc (Nat.le_refl _) _)) rfl rfl HL.out HN.out HS.out (by simp) ?_; intro ao c1 w1 ho hg _; have hbb : Below w.heap.size w w1 := (((Below.refl _ _).alloc (Nat.le_refl _) _).trans (grown_below hg (own_none w) (Nat.le_refl _) (by simp))); have HM1 : Hid (OwnB w1 w.heap.size ao len0 c1 bs) := (by show OwnB _ _ _ _ _ _; simpa using ho); have HB1 := Lib.hid hbb; clear ho hg hbb)
    | (go_at_call 9; (with_reducible refine (unb_wrong _ ao len0 c1 bs HL.out HM1.out.cap.1 HM1.out.cap.2.1 HM1.out.bytes r HD.out).mono ?_); rintro e w2 ⟨ty, x, rfl, hb2⟩; have HB2 : Hid (Below w.heap.size w w2) := (HB1.out.trans (hb2.mono HB1.out.size)); clear hb2)
    | (go_at_call 8; (with_reducible refine (fixed4_V _).mono ?_); rintro e w3 ⟨rfl, hb3⟩; have HB3 : Hid (Below w.heap.size w w3) := (HB2.out.trans (hb3.mono HB2.out.size)); clear hb3))
  go_returns
  exact ⟨rfl, HB3.out⟩
theorem bat_good (w : World) (a : Option Addr) (n c : Nat) (s : Nat → AC) (ls : List (List UInt8)) (hn : ls.length = n) (h8 : n ≤ 8) (hB : BsAt F w a s ls) (hl : ∀ l ∈ ls, l.length ≤ 100) :
    Calls Try.prog 11 #[.slice a n c] w fun e w' => ∃ ao m c, e = .returned (.tuple #[.slice ao m c, .nilIface]) ∧ OwnB w' w.heap.size ao m c (Rlp.form (bItem ls)) ∧ Below w.heap.size w w' := by
  have h := bat_V w a n c s ls hn (by unfold maxLen; omega) hB 100 (fun i hi => by
    rw [List.getD_eq_getElem?_getD, List.getElem?_eq_getElem hi]; exact hl _ (List.getElem_mem hi)) ⟨Sm.of (by omega)⟩
  rw [bat_ok ls (by omega) hl] at h
  exact h
/-- The bytes of the first transactions. -/
def fm (ts : List (Nat → Nat)) (j : Nat) : List (List UInt8) := (ts.take j).map fun t => Rlp.form (tItem t)
theorem fm_succ (ts : List (Nat → Nat)) (j : Nat) (hj : j < ts.length) : fm ts (j + 1) = fm ts j ++ [Rlp.form (tItem (ts.getD j (fun _ => 0)))] := by
  unfold fm
  rw [List.take_add_one, List.getD_eq_getElem?_getD, List.getElem?_eq_getElem hj, List.map_append]; rfl
theorem fm_len (ts : List (Nat → Nat)) (j : Nat) : ∀ l ∈ fm ts j, l.length ≤ 100 := fun l hl => by
  unfold fm at hl
  rw [List.mem_map] at hl
  obtain ⟨t, _, rfl⟩ := hl
  have := tForm_len t
  omega
theorem TxsAt.keep {w w' : World} {B : Nat} {a : Option Addr} {ts : List (Nat → Nat)} (h : TxsAt (fun b => b < B) w a ts) (hb : Below B w w') : TxsAt (fun b => b < B) w' a ts := fun i hi => by
  obtain ⟨b, off, e, hF, hl, hc⟩ := h i hi
  exact ⟨b, off, e, hF, by have := hb.size; omega, fun j hj => by rw [hb.cell (p := ⟨b, off + (i * 6 + j), none⟩) hF]; exact hc j hj⟩
structure PW (w : World) (B : Nat) (ts : List (Nat → Nat)) (al : Option Addr) (j : Nat) (S : Nat → AC) (aa : Option Addr) (ca : Nat) (W : World) : Prop where
  b : Below w.heap.size w W
  hB : w.heap.size ≤ B
  lt : B ≤ W.heap.size
  t : TxsAt (fun b => b < B) W al ts
  s : OwnS W B (.slice aa j ca) (.slice none 0 0) j S (fm ts j)
theorem PW.below {w : World} {B : Nat} {ts : List (Nat → Nat)} {al : Option Addr} {j : Nat} {S : Nat → AC} {aa : Option Addr} {ca : Nat} {W W' : World} (h : PW w B ts al j S aa ca W) (hb : Below W.heap.size W W') : PW w B ts al j S aa ca W' :=
  ⟨h.b.trans (hb.mono h.b.size), h.hB, by have := h.lt; have := hb.size; omega, h.t.keep (hb.mono h.lt), h.s.below hb⟩
theorem PW.app {w : World} {B : Nat} {ts : List (Nat → Nat)} {al : Option Addr} {j : Nat} {S : Nat → AC} {aa a' : Option Addr} {ca c' : Nat} {W W' : World} (h : PW w B ts al j S aa ca W) (hj : j < ts.length) {base : Nat} (hk : ∀ k, (Value.slice aa j ca).ownBlock = some k → k < base) {an : Option Addr} {n c : Nat} {l : List UInt8} (hl : Rlp.form (tItem (ts.getD j (fun _ => 0))) = l) (hO : OwnB W base an n c l)
    (ho : W'.ownsRow B TBS 1 (.slice a' (j + 1) c') (j + 1) (slC S (fm ts j) j ++ [.slice an n c])) (hg : W.grownBy W' (Value.slice aa j ca).ownBlock)
    (hw : (Value.slice a' (j + 1) c').ownBlock = (Value.slice aa j ca).ownBlock ∨ (Value.slice a' (j + 1) c').ownBlock = some W.heap.size) : PW w B ts al (j + 1) (updS S j ⟨an, c⟩) a' c' W' := by
  have hb : Below B W W' := grownR_below hg h.s.row (Nat.le_refl _) h.lt
  have e := hO.len
  subst e
  refine ⟨h.b.trans (hb.mono h.hB), h.hB, by have := hg.size; have := h.lt; omega, h.t.keep hb, ?_⟩
  rw [fm_succ ts j hj, hl]
  exact OwnS.app (p := ⟨an, c⟩) h.s hO.cap (hO.bytes.move fun b hF hl => ⟨⟨fun e => by have := hk _ e; omega, fun e => by simp [Value.ownBlock] at e⟩, hl, rfl⟩) ho hg hw
set_option maxRecDepth 100000 in
set_option maxHeartbeats 8000000 in
theorem places_ok (w : World) (a0 : Option Addr) (len0 cap0 : Nat) (bs : List UInt8) (hl : bs.length = len0) (hcm : cap0 ≤ maxLen) (hn : a0 = none → cap0 = 0) (hb : BytesF (fun _ => True) w a0 bs) (hs : Sm (0 + len0)) (its : List Rlp.It) (h : uDec bs = .ok its) :
    Calls Try.prog 4 #[.slice a0 len0 cap0] w fun e w' => e = .returned (.bool true) ∧ Below w.heap.size w w' := by
  have HL := Lib.hid hl
  have HN := Lib.hid hn
  have HY := Lib.hid hb
  have HD := Lib.hid h
  have HS := Lib.hid hs
  have h8 := uDec_len h
  obtain ⟨m, hm⟩ : ∃ m, its.length = m := ⟨_, rfl⟩
  obtain ⟨ts, hts⟩ : ∃ ts, uTxs its m = ts := ⟨_, rfl⟩
  obtain ⟨ns, hns⟩ : ∃ ns, uBad its m = ns := ⟨_, rfl⟩
  obtain ⟨nl, hnl⟩ : ∃ nl, ts.length = nl := ⟨_, rfl⟩
  obtain ⟨nb, hnb⟩ : ∃ nb, ns.length = nb := ⟨_, rfl⟩
  have hsum : nl + nb = m := by rw [← hnl, ← hnb, ← hts, ← hns]; exact uSum its m (by omega)
  have HT := Lib.hid hts
  have HNs := Lib.hid hns
  have HNL := Lib.hid hnl
  have HNB := Lib.hid hnb
  have hlt : ∀ i, i < nb → ns.getD i 0 < m := fun i hi => by rw [← hns]; exact uBad_lt its m i (by rw [hns, hnb]; exact hi)
  have hup : ∀ i, i + 1 < nb → ns.getD i 0 < ns.getD (i + 1) 0 := fun i hi => by rw [← hns]; exact uBad_up its m i (by rw [hns, hnb]; exact hi)
  have hok : ∀ t ∈ ts, wide t ∧ okTx t := fun t ht => uTxs_ok (its := its) (j := m) (by rw [hts]; exact ht)
  have HM := Lib.hid hm
  have HLt := Lib.hid hlt
  have HUp := Lib.hid hup
  have HOk := Lib.hid hok
  rw [hm] at h8
  unfold maxLen at hcm
  clear hl hn hb h hs hm hts hns hnl hnb hlt hup hok
  go_enter Try.func4, Try.ntmps4
  go_wp2_with (first
    | (at_builtin; refine wpList_append_B rfl (.tmp 18) (.tmp 19) rfl w.heap.size (some ⟨w.heap.size, 0, none⟩) 0 0 [] a0 len0 cap0 bs (own_none w) (HY.out.below ((Below.refl _ _).alloc (Nat.le_refl _) _)) rfl rfl HL.out HN.out HS.out (by simp) ?_; intro ao c1 w1 ho hg _; have hbb : Below w.heap.size w w1 := (((Below.refl _ _).alloc (Nat.le_refl _) _).trans (grown_below hg (own_none w) (Nat.le_refl _) (by simp))); have HM1 : Hid (OwnB w1 w.heap.size ao len0 c1 bs) := (by show OwnB _ _ _ _ _ _; simpa using ho); have HB1 := Lib.hid hbb; clear ho hg hbb)
    | (go_at_call 9; (with_reducible refine (unb_good _ ao len0 c1 bs HL.out HM1.out.cap.1 HM1.out.cap.2.1 HM1.out.bytes its HD.out ts ns (by rw [HM.out]; exact HT.out) (by rw [HM.out]; exact HNs.out) nl nb HNL.out HNB.out).mono ?_); rintro e w2 ⟨al, cl, ab, cb, rfl, ht, hn, hb2⟩; have HB2 : Hid (Below w.heap.size w w2) := (HB1.out.trans (hb2.mono HB1.out.size)); have HLT := Lib.hid ht; have HLN := Lib.hid hn; clear hb2 ht hn))
  have HAT := Lib.hid (OwnN.at (c := cb) (a := ab) (ns := ns) (base := w1.heap.size) (w := w2) (by rw [HNB.out]; exact HLN.out))
  go_loopw [6, 7, 46] (fun ii pp idx wr => ∃ j : Nat, j ≤ nb ∧ idx = .int .i64 j ∧ wr = w2) (fun _ _ idx _ => nb - (intOf idx).toNat)
  case atStart => exact ⟨0, by omega, rfl, rfl⟩
  case round =>
    obtain ⟨j, hj, rfl, hww⟩ := hrel
    have hww' := hww.symm
    subst hww'
    clear hww
    by_cases hlt : j < nb
    · obtain ⟨g, off, rfl, _, hgl, hc⟩ := HAT.out j (by rw [HNB.out]; exact hlt)
      have hP := HLt.out j hlt
      obtain ⟨P, hPe⟩ : ∃ P, ns.getD j 0 = P := ⟨_, rfl⟩
      have HPe := Lib.hid hPe
      rw [hPe] at hc hP
      clear hPe
      by_cases h0 : j = 0
      · subst h0
        rw [Nat.add_zero] at hc
        go_wp2
        go_roundw
        case rel => exact ⟨1, by omega, by go_num, by simp⟩
        case measure => simp [intOf]; omega
      · obtain ⟨Q, hQe⟩ : ∃ Q, ns.getD (j - 1) 0 = Q := ⟨_, rfl⟩
        have hPQ : Q < P := by
          have := HUp.out (j - 1) (by omega)
          rw [show j - 1 + 1 = j by omega, HPe.out, hQe] at this
          exact this
        obtain ⟨g', off', e, _, _, hc2⟩ := HAT.out (j - 1) (by rw [HNB.out]; omega)
        injection e with e; injection e with e1 e2
        subst e1; subst e2
        rw [hQe] at hc2
        clear hQe
        go_wp2
        go_roundw
        case rel => exact ⟨j + 1, by omega, by go_num, by simp⟩
        case measure => simp [intOf]; omega
    · have hjn : j = nb := by omega
      subst hjn
      go_wp2
      have hPW : PW w w2.heap.size ts al 0 (fun _ => ⟨none, 0⟩) none 0 w2 := ⟨HB2.out, HB2.out.size, Nat.le_refl _, fun i hi => (by
        obtain ⟨b, off, e, _, hl, hc⟩ := OwnT.at (c := cl) (a := al) (ts := ts) (base := w1.heap.size) (w := w2) (by rw [HNL.out]; exact HLT.out) i hi
        exact ⟨b, off, e, hl, hl, hc⟩), OwnS.nil _ _ _ _⟩
      have HPW := Lib.hid hPW
      clear hPW
      go_loopw [8, 10, 11, 12, 78] (fun all tt xx ff idx W => ∃ (j ca : Nat) (aa : Option Addr) (S : Nat → AC), j ≤ nl ∧ idx = .int .i64 j ∧ all = .slice aa j ca ∧ Hid (PW w w2.heap.size ts al j S aa ca W)) (fun _ _ _ _ idx _ => nl - (intOf idx).toNat)
      case atStart => exact ⟨0, 0, none, _, by omega, rfl, rfl, HPW.out⟩
      case round =>
        obtain ⟨k, ca, aa, S, hk, rfl, rfl, HR⟩ := hrel
        by_cases hltk : k < nl
        · obtain ⟨g, off, rfl, hgl, x0, x1, x2, x3, x4, x5⟩ := HR.out.t.cells k (by rw [HNL.out]; exact hltk)
          have hvo : wide (ts.getD k (fun _ => 0)) ∧ okTx (ts.getD k (fun _ => 0)) := by
            rw [List.getD_eq_getElem?_getD, List.getElem?_eq_getElem (by rw [HNL.out]; exact hltk)]
            exact HOk.out _ (List.getElem_mem _)
          obtain ⟨vs, hvs⟩ : ∃ vs, ts.getD k (fun _ => 0) = vs := ⟨_, rfl⟩
          rw [hvs] at x0 x1 x2 x3 x4 x5 hvo
          have HV := Lib.hid hvs
          have HVO := Lib.hid hvo
          have HK := Lib.hid (HR.out.s.row.lt)
          clear hvs hvo
          go_wp2_with (first
            | (go_at_call 10; (with_reducible refine (right4_V vs _ HVO.out.2).mono ?_); rintro e w3 ⟨rfl, hb3⟩; have HR3 := Lib.hid ((HR.out.below ((Below.refl _ _).alloc (Nat.le_refl _) (.cells #[.int .u64 (vs 0), .int .u64 (vs 1), .int .u64 (vs 2), .int .u64 (vs 3), .int .u64 (vs 4), .int .u64 (vs 5)] TTX))).below hb3); have HT3 := Lib.hid ((TXC.new wr vs _ rfl).below hb3); have t0 := HT3.out.2 0 (by decide); have t1 := HT3.out.2 1 (by decide); have t2 := HT3.out.2 2 (by decide); have t3 := HT3.out.2 3 (by decide); have t4 := HT3.out.2 4 (by decide); have t5 := HT3.out.2 5 (by decide); have hs3 : wr.heap.size ≤ w3.heap.size := (by have := hb3.size; simp at this; omega); clear hb3)
            | (go_at_call 6; (with_reducible refine (tenc_ok vs _ HVO.out.1 HVO.out.2).mono ?_); rintro e w5 ⟨an, n5, c5, rfl, ho5, hb5⟩; have HR5 := Lib.hid (HR3.out.below hb5); have HO5 := Lib.hid ho5; clear hb5 ho5)
            | (at_builtin; have HRx := Lib.hid (HR5.out.below ((Below.refl _ _).alloc (Nat.le_refl _) (.cells #[.slice an n5 c5] TBS))); have HOx := Lib.hid (HO5.out.below ((Below.refl _ _).alloc (Nat.le_refl _) (.cells #[.slice an n5 c5] TBS))); have hz5 := HR5.out.lt; refine wpList_append_R rtB rfl (.tmp 92) (.tmp 94) rfl w2.heap.size aa k ca _ w5.heap.size 1 [.slice an n5 c5] HRx.out.s.row rfl (newC rfl) (by simp [Value.oneCell']) (Sm.of (by omega)) (by unfold maxLen; omega) (by simp; omega) rfl rfl ?_; intro ao' c' w6 ho hg hw; have HR6 := Lib.hid (HRx.out.app (by rw [HNL.out]; exact hltk) (base := w3.heap.size) (fun q hq => Nat.lt_of_lt_of_le (HK.out q hq).2 hs3) (congrArg _ (congrArg _ HV.out)) HOx.out ho hg hw); clear ho hg hw))
          go_roundw
          case rel => exact ⟨k + 1, c', ao', _, by omega, by go_num, rfl, HR6.out⟩
          case measure => simp [intOf]; omega
        · have hkn : k = nl := by omega
          subst hkn
          have hfl : (fm ts k).length = k := HR.out.s.len
          have hft : fm ts k = ts.map fun t => Rlp.form (tItem t) := by unfold fm; rw [List.take_of_length_le (by rw [HNL.out]; exact Nat.le_refl _)]
          have hnr := filterMap_forms ts HOk.out
          rw [← hft] at hnr
          obtain ⟨ls, hls⟩ : ∃ ls, fm ts k = ls := ⟨_, rfl⟩
          have hll := fm_len ts k
          have hsl := (sameL_nrm _ _).2 hnr
          have hfk : (ls.filterMap tOpt).length = k := by have := congrArg List.length hnr; rw [hls] at this; simpa [HNL.out] using this
          rw [hls] at hfl hll hsl
          have HB := Lib.hid (HR.out.s.bsAt)
          rw [hls] at HB
          obtain ⟨us, hus⟩ : ∃ us, ls.filterMap tOpt = us := ⟨_, rfl⟩
          have hut : uTxs (ls.map fun l => .mk false l []) (ls.map fun l => Rlp.It.mk false l []).length = us := by rw [List.length_map, uTxs_b, hus]
          have hub : uBad (ls.map fun l => .mk false l []) (ls.map fun l => Rlp.It.mk false l []).length = [] := by
            have h := uSum (ls.map fun l => .mk false l []) (ls.map fun l => Rlp.It.mk false l []).length (Nat.le_refl _)
            rw [hut, ← hus, hfk] at h
            rw [List.length_map, hfl] at h
            rw [List.length_map, hfl]
            exact List.length_eq_zero_iff.1 (by omega)
          rw [hus] at hfk hsl
          have hk8 : k ≤ 8 := by omega
          have HUD := Lib.hid (uDec_b ls (by omega) hll)
          have HUT := Lib.hid hut
          have HUB := Lib.hid hub
          have HFK := Lib.hid hfk
          have HFL := Lib.hid hfl
          have HLL := Lib.hid hll
          have HSL := Lib.hid hsl
          clear hfl hft hnr hll hsl hfk hut hub hls hus
          go_wp2_with (first
            | (go_at_call 11; (with_reducible refine (bat_good _ aa k ca S ls HFL.out hk8 HB.out HLL.out).mono ?_); rintro e w5 ⟨an, n5, c5, rfl, ho5, hb5⟩; have HR5 := Lib.hid (HR.out.below hb5); have HO5 := Lib.hid ho5; clear hb5 ho5)
            | (go_at_call 9; (with_reducible refine (unb_good _ an n5 c5 _ HO5.out.len HO5.out.cap.1 HO5.out.cap.2.1 HO5.out.bytes _ HUD.out us [] HUT.out HUB.out k 0 HFK.out rfl).mono ?_); rintro e w6 ⟨ax, cx, ay, cy, rfl, ht, hn, hb6⟩; have HR6 := Lib.hid (HR5.out.below hb6); have HLT6 := Lib.hid ht; clear hb6 ht hn)
            | (go_at_call 8; (with_reducible refine (fixed4_V _).mono ?_); rintro e w7 ⟨rfl, hb7⟩; have HR7 := Lib.hid (HR6.out.below hb7); have HLT7 := Lib.hid (HLT6.out.below hb7); clear hb7)
            | (go_at_call 12; (with_reducible refine (same4_V _ ax k cx al k cl us ts HFK.out HNL.out (by unfold maxLen; omega) (by unfold maxLen; omega) (OwnT.at (base := w5.heap.size) (by rw [HFK.out]; exact HLT7.out)) HR7.out.t).mono ?_); rintro e w8 ⟨⟨q, rfl, hq⟩, hb8⟩; have hqt : q = true := hq.2 HSL.out; subst hqt; have HR8 := Lib.hid (HR7.out.below hb8); clear hb8 hq))
          go_returns
          exact ⟨rfl, HR8.out.b⟩
theorem reachSm {n : Nat} (h : n ≤ 140737488351232) : Sm (0 + n) := by unfold Sm; omega
theorem txPlaces_walk (w : World) (a0 : Option Addr) (len0 cap0 : Nat) (z0 : List Int) (w0 : IsRow .u8 w a0 len0 cap0 z0) (reach0 : len0 ≤ 140737488351232) :
    Calls Try.prog 4 #[.slice a0 len0 cap0] w fun e w' => e = .returned (.bool true) ∧ Below w.heap.size w w' := by
  obtain ⟨h1, _, h3, h4, h5⟩ := row_all w0
  cases h : uDec (rowB z0 len0) with
  | error r => exact places_err w a0 len0 cap0 _ h1 h3 h4 h5 (reachSm reach0) r h
  | ok its => exact places_ok w a0 len0 cap0 _ h1 h3 h4 h5 (reachSm reach0) its h
end Go.Proofs.Ytgcpnhnckbgjmaa
