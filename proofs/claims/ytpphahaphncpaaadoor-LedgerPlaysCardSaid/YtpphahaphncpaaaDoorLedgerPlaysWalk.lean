/-
  The walk of LedgerPlays: it returns true for every input.
-/
import Derived.Test.YtpphahaphncpaaaDoorLedOps
import Derived.Test.YtpphahaphncpaaaDoorLaid
set_option linter.unusedVariables false
set_option linter.unusedSimpArgs false
namespace Go.Proofs.YtpphahaphncpaaaDoor
open Go.RowKit Go.ChangeShapes Go.WideShapes

abbrev TOP : TypeId := 32
theorem number18_nil (w : World) : Calls Tryd.prog 14 #[.nilIface] w fun e w' => e = .returned (.int .i64 0) ∧ Below w.heap.size w w' := by
  go_enter Tryd.func14, Tryd.ntmps14
  go_wp2_with (go_at_call 22; (with_reducible refine (why_nil _).mono ?_); rintro e1 w1 ⟨rfl, hb1⟩; obtain ⟨hc1, hf1⟩ := bcell hb1; have hz1 := hb1.size; (try simp at hz1))
  go_returns
  exact ⟨rfl, hb1⟩
theorem number18_num (a : Int) (w : World) (h : Hid (ErrType w)) : Calls Tryd.prog 14 #[.iface 42 (.int .i64 a)] w fun e w' => e = .returned (.int .i64 a) ∧ Below w.heap.size w w' := by
  go_enter Tryd.func14, Tryd.ntmps14
  go_wp2_with (go_at_call 22; (with_reducible refine (why_num a _ h).mono ?_); rintro e1 w1 ⟨rfl, hb1⟩; obtain ⟨hc1, hf1⟩ := bcell hb1; have hz1 := hb1.size; (try simp at hz1))
  go_returns
  exact ⟨rfl, hb1⟩
section
variable {S : LS} {es : List Ev}
theorem dIn_ok (h : Rel S es) (p : Nat) (b v : Int) (h0 : 0 ≤ v) (h1 : S.inn + v ≤ 281474976710656) : doE es ⟨1, p, b, v⟩ = (0, 0, es ++ [⟨1, p, b, v⟩]) := by
  have hi := h.inn
  have := (h.ev.sum 1 (-1)).1
  unfold doE; rw [if_pos rfl, if_neg]; show ¬ (281474976710656 < v ∨ 281474976710656 < sumE es 1 (-1) + v); omega
theorem dIn_big (h : Rel S es) (p : Nat) (b v : Int) (h1 : 281474976710656 < S.inn + v) : doE es ⟨1, p, b, v⟩ = (0, 2, es) := by
  have hi := h.inn
  unfold doE; rw [if_pos rfl, if_pos]; show 281474976710656 < v ∨ 281474976710656 < sumE es 1 (-1) + v; omega
theorem dOut_ok (h : Rel S es) (p : Nat) (b v : Int) (hp : p < 8) (h1 : v ≤ S.bal p) : doE es ⟨2, p, b, v⟩ = (0, 0, es ++ [⟨2, p, b, v⟩]) := by
  have hb := h.bal p hp
  unfold doE; rw [if_neg (by simp), if_pos rfl, if_neg]; show ¬ balE es p < v; omega
theorem dOut_few (h : Rel S es) (p : Nat) (b v : Int) (hp : p < 8) (h1 : S.bal p < v) : doE es ⟨2, p, b, v⟩ = (0, 21, es) := by
  have hb := h.bal p hp
  unfold doE; rw [if_neg (by simp), if_pos rfl, if_pos]; show balE es p < v; omega
theorem dLock_ok (h : Rel S es) (p : Nat) (b v : Int) (hp : p < 8) (h1 : v ≤ S.bal p) : doE es ⟨3, p, b, v⟩ = ((S.bonds.length : Int), 0, es ++ [⟨3, p, b, v⟩]) := by
  have hb := h.bal p hp
  unfold doE; rw [if_neg (by simp), if_neg (by simp), if_pos rfl, if_neg, h.cnt]; show ¬ balE es p < v; omega
theorem dLock_few (h : Rel S es) (p : Nat) (b v : Int) (hp : p < 8) (h1 : S.bal p < v) : doE es ⟨3, p, b, v⟩ = (0, 21, es) := by
  have hb := h.bal p hp
  unfold doE; rw [if_neg (by simp), if_neg (by simp), if_pos rfl, if_pos]; show balE es p < v; omega
theorem dGive_none (h : Rel S es) (p : Nat) (b v : Int) (h1 : b < 0 ∨ (S.bonds.length : Int) ≤ b) : doE es ⟨4, p, b, v⟩ = (0, 4, es) := by
  unfold doE; rw [if_neg (by simp), if_neg (by simp), if_neg (by simp), if_pos]; show b < 0 ∨ ((scan b es).1 : Int) ≤ b; rw [h.cnt]; exact h1
theorem dGive_twice (h : Rel S es) (p n : Nat) (v : Int) (h1 : n < S.bonds.length) (h2 : (S.bond n).2 = true) : doE es ⟨4, p, n, v⟩ = (0, 41, es) := by
  unfold doE
  rw [if_neg (by simp), if_neg (by simp), if_neg (by simp), if_neg (by show ¬ ((n : Int) < 0 ∨ ((scan (n : Int) es).1 : Int) ≤ (n : Int)); rw [h.cnt]; omega), if_pos]
  show (scan (n : Int) es).2.2 = true
  rw [(h.bond n h1).2]; exact h2
theorem dGive_ok (h : Rel S es) (p n : Nat) (v : Int) (h1 : n < S.bonds.length) (h2 : (S.bond n).2 = false) : doE es ⟨4, p, n, v⟩ = (0, 0, es ++ [⟨4, p, n, (S.bond n).1⟩]) := by
  unfold doE
  rw [if_neg (by simp), if_neg (by simp), if_neg (by simp), if_neg (by show ¬ ((n : Int) < 0 ∨ ((scan (n : Int) es).1 : Int) ≤ (n : Int)); rw [h.cnt]; omega), if_neg]
  · show (0, 0, es ++ [(⟨4, p, n, (scan (n : Int) es).2.1⟩ : Ev)]) = _
    rw [(h.bond n h1).1]
  · show ¬ (scan (n : Int) es).2.2 = true
    rw [(h.bond n h1).2, h2]; decide
theorem rbal (h : Rel S es) (p : Nat) (hp : p < 8) : balE es p = S.bal p := (h.bal p hp).symm
end
/-- The worlds of a round's tests: the ledger and the list lie as they were. -/
def PS (W0 : World) (b t : Nat) (S : LS) (es : List Ev) (v : Value) (W : World) : Prop := W.cell? ⟨t, 0, none⟩ = some v ∧ t < W.heap.size ∧ Below W0.heap.size W0 W ∧ W.ownsRow (t + 1) TEV 4 v es.length (flatE es) ∧ Led W b (b + 1) S
theorem psKeep {W0 : World} {b t : Nat} {S : LS} {es : List Ev} {v : Value} : ∀ W W', PS W0 b t S es v W → Below W.heap.size W W' → PS W0 b t S es v W' := by
  rintro W W' ⟨h0, h1, h2, h3, h4⟩ hb
  have hs := hb.size
  exact ⟨by rw [hb.cell (p := ⟨t, 0, none⟩) h1]; exact h0, by omega, h2.trans (hb.mono (by have := h2.size; omega)), ownsRow_below h3 hb, h4.kept hb⟩
theorem ps_own {W0 : World} {b t : Nat} {S : LS} {es : List Ev} {v : Value} (s : Held (PS W0 b t S es v)) : s.w.ownsRow (t + 1) TEV 4 v es.length (flatE es) := s.ok.2.2.2.1
theorem ps_led {W0 : World} {b t : Nat} {S : LS} {es : List Ev} {v : Value} (s : Held (PS W0 b t S es v)) : Led s.w b (b + 1) S := s.ok.2.2.2.2
/-- The worlds of the last kind's test. -/
def PT (W0 : World) (t O : Nat) (v : Value) (f : Nat → Value) (es : List Ev) (W : World) : Prop := (W.cell? ⟨t, 0, none⟩ = some v ∧ W.rowIs O TOP 4 f) ∧ t < W.heap.size ∧ Below W0.heap.size W0 W ∧ W.ownsRow (t + 1) TEV 4 v es.length (flatE es)
theorem ptKeep {W0 : World} {t O : Nat} {v : Value} {f : Nat → Value} {es : List Ev} : ∀ W W', PT W0 t O v f es W → Below W.heap.size W W' → PT W0 t O v f es W' := by
  rintro W W' ⟨⟨h0, h1⟩, h2, h3, h4⟩ hb
  have hs := hb.size
  exact ⟨⟨by rw [hb.cell (p := ⟨t, 0, none⟩) h2]; exact h0, rowIs_keep h1 hb⟩, by omega, h3.trans (hb.mono (by have := h3.size; omega)), ownsRow_below h4 hb⟩
theorem pt_own {W0 : World} {t O : Nat} {v : Value} {f : Nat → Value} {es : List Ev} (s : Held (PT W0 t O v f es)) : s.w.ownsRow (t + 1) TEV 4 v es.length (flatE es) := s.ok.2.2.2
theorem kd1 : (1 : Int) = 1 ∨ (1 : Int) = 2 ∨ (1 : Int) = 3 ∨ (1 : Int) = 4 := by omega
theorem kd2 : (2 : Int) = 1 ∨ (2 : Int) = 2 ∨ (2 : Int) = 3 ∨ (2 : Int) = 4 := by omega
theorem kd3 : (3 : Int) = 1 ∨ (3 : Int) = 2 ∨ (3 : Int) = 3 ∨ (3 : Int) = 4 := by omega
theorem kd4 : (4 : Int) = 1 ∨ (4 : Int) = 2 ∨ (4 : Int) = 3 ∨ (4 : Int) = 4 := by omega
theorem op_row (ek ep eb ev : Int) (w : World) : (w.alloc (.cells #[.int .i64 ek, .int .i64 ep, .int .i64 eb, .int .u64 ev] TOP)).rowIs w.heap.size TOP 4 (evf ⟨ek, ep, eb, ev⟩) := by
  refine World.rowIs_alloc _ _ _ _ ?_
  intro i hi
  have hi : i < 4 := hi
  rcases (by omega : i = 0 ∨ i = 1 ∨ i = 2 ∨ i = 3) with rfl | rfl | rfl | rfl <;> rfl

set_option maxRecDepth 100000 in
set_option maxHeartbeats 16000000 in
theorem ledgerPlays_walk {H : Type} {enc : TypeId × Value → H} {base : Nat} (w : World) {d0 : DataW H} {p0 : List MemPlace} (v0 : Value) (o0 : Value.okWide Tryd.prog w .any base TOS v0) (w0 : DataW.Trod enc Tryd.prog w 0 (fun _ => true) true TOS v0 d0 p0) (laid : laidMetH Tryd.prog Rows.ledgerPlaysRow.laid w) :
    Calls Tryd.prog 3 #[v0] w fun e w' => e = .returned (.bool true) ∧ Below w.heap.size w w' := by
  have HE : Hid (ErrType w) := errType_of_laid laid
  obtain ⟨a0, len, cap, rfl⟩ := okWide_slice Tryd.underlying22 o0
  obtain ⟨fuel, hf⟩ := w0
  simp only [Value.cells] at hf
  obtain ⟨hlc, hcm, z, hz⟩ := ops_open hf
  unfold maxLen at hcm
  have HZ := Lib.hid hz
  clear hf hz o0 laid
  go_enter Tryd.func3, Tryd.ntmps3
  go_wp2_with (first
    | (go_at_call 4; (with_reducible refine (new_calls _).mono ?_); rintro e wa ⟨rfl, hLa, hba⟩; have HLa := Lib.hid hLa; have HBa := Lib.hid hba; have hza : w.heap.size < wa.heap.size := (hLa.row.choose_spec.1.lt); clear hLa hba)
    | (go_at_call 5; (with_reducible refine (fixed18_calls _).mono ?_); rintro e wb ⟨rfl, hbb⟩; have HBb := Lib.hid hbb; have hzb := hbb.size; (simp at hzb); clear hbb))
  have HL0 : Hid (Led wb w.heap.size (w.heap.size + 1) LS.zero) := (HLa.out.kept ((Below.refl _ _).alloc (Nat.le_refl _) _)).kept HBb.out
  have HR0 : Hid (RL wb wa.heap.size (wa.heap.size + 1) []) := by
    refine RL.below ?_ HBb.out
    refine ⟨by omega, ⟨by simp, fun e he => by simp at he⟩, .slice none 0 0, ?_, World.ownsRow_nil _ _ _ _⟩
    refine World.rowIs_alloc _ _ _ _ ?_
    intro i hi
    have hi : i < 1 := hi
    have : i = 0 := by omega
    subst this; rfl
  have HB0 : Hid (Below w.heap.size w wb) := (HBa.out.alloc (by omega) _).trans (HBb.out.mono (by simp; omega))
  have hsb : wa.heap.size < wb.heap.size := by omega
  go_loopw [30] (fun i wr => ∃ (k : Nat) (S : LS) (es : List Ev), k ≤ len ∧ i = .int .i64 k ∧ es.length ≤ k ∧ Hid (Rel S es) ∧ Hid (Led wr w.heap.size (w.heap.size + 1) S) ∧ Hid (RL wr wa.heap.size (wa.heap.size + 1) es) ∧ Below w.heap.size w wr ∧ wa.heap.size < wr.heap.size) (fun i _ => len - (intOf i).toNat)
  case atStart => exact ⟨0, LS.zero, [], by omega, rfl, by simp, Rel.zero, HL0.out, HR0.out, HB0.out, hsb⟩
  case round =>
    obtain ⟨k, S, es, hk, rfl, hel, HRel, HLr, HRr, hbr, hsr⟩ := hrel
    by_cases hlt : k < len
    · obtain ⟨xb, xo, rfl, hxb, hx, hv0, hv1⟩ := HZ.out k hlt
      have x0 : wr.cell? ⟨xb, xo + k * 4, none⟩ = (z k).cells[0]? := by
        rw [hbr.cell (p := ⟨xb, xo + k * 4, none⟩) hxb]; exact hx 0 (by decide)
      have x1 : wr.cell? ⟨xb, xo + k * 4 + 1, none⟩ = (z k).cells[1]? := by
        rw [hbr.cell (p := ⟨xb, xo + k * 4 + 1, none⟩) hxb, Nat.add_assoc]; exact hx 1 (by decide)
      have x2 : wr.cell? ⟨xb, xo + k * 4 + 2, none⟩ = (z k).cells[2]? := by
        rw [hbr.cell (p := ⟨xb, xo + k * 4 + 2, none⟩) hxb, Nat.add_assoc]; exact hx 2 (by decide)
      have x3 : wr.cell? ⟨xb, xo + k * 4 + 3, none⟩ = (z k).cells[3]? := by
        rw [hbr.cell (p := ⟨xb, xo + k * 4 + 3, none⟩) hxb, Nat.add_assoc]; exact hx 3 (by decide)
      clear hx
      generalize z k = e at x0 x1 x2 x3 hv0 hv1
      obtain ⟨ek, ep, eb, ev⟩ := e
      simp only [Ev.cells, List.getElem?_cons_zero, List.getElem?_cons_succ] at x0 x1 x2 x3 hv0 hv1
      have HV1 := Lib.hid hv1
      clear hv1
      have oo := op_row ek ep eb ev wr
      have o0 := (oo.cell (i := 0) (by decide)).trans (congrArg some (evf0 _))
      have o1 := (oo.cell (i := 1) (by decide)).trans (congrArg some (evf1 _))
      have o2 := (oo.cell (i := 2) (by decide)).trans (congrArg some (evf2 _))
      have o3 := (oo.cell (i := 3) (by decide)).trans (congrArg some (evf3 _))
      simp only at o0 o1 o2 o3
      have HOO := Lib.hid oo
      clear oo
      by_cases h150 : 150 ≤ k
      · go_wp2
        go_returns
        exact ⟨rfl, hbr.alloc (by omega) _⟩
      have hes : es.length < 150 := by omega
      have HLA := Lib.hid (HLr.out.kept ((Below.refl _ _).alloc (Nat.le_refl _) (.cells #[.int .i64 ek, .int .i64 ep, .int .i64 eb, .int .u64 ev] TOP)))
      have HRA := Lib.hid (HRr.out.below ((Below.refl _ _).alloc (Nat.le_refl _) (.cells #[.int .i64 ek, .int .i64 ep, .int .i64 eb, .int .u64 ev] TOP)))
      have hba : Below w.heap.size w (wr.alloc (.cells #[.int .i64 ek, .int .i64 ep, .int .i64 eb, .int .u64 ev] TOP)) := hbr.alloc (by omega) _
      have hsa : wa.heap.size + 1 < (wr.alloc (.cells #[.int .i64 ek, .int .i64 ep, .int .i64 eb, .int .u64 ev] TOP)).heap.size := by simp; omega
      by_cases k1 : ek = 1
      · subst k1
        by_cases hpb : ep < 0 ∨ 8 ≤ ep
        · as_aux_lemma =>
            have HPB := Lib.hid hpb
            clear hpb
            obtain ⟨L, hL⟩ : ∃ L, S.lk = L := ⟨_, rfl⟩
            obtain ⟨I0, hI⟩ : ∃ x, S.inn = x := ⟨_, rfl⟩
            obtain ⟨O0, hO⟩ : ∃ x, S.out = x := ⟨_, rfl⟩
            have HLk := Lib.hid hL
            have HIn := Lib.hid hI
            have HOut := Lib.hid hO
            have HRel3 : Hid (Rel S es) := HRel.out
            have hes3 : es.length ≤ k + 1 := by omega
            clear hL hI hO
            go_wp2_with (first
              | (go_at_call 6; (with_reducible refine (payIn_bad w.heap.size ep ev _ HPB.out).mono ?_); rintro e w' ⟨rfl, rfl⟩)
              | (go_at_call 13; (with_reducible refine (do_bad wa.heap.size 1 ep eb ev _ HPB.out).mono ?_); rintro e w3 ⟨rfl, hb3⟩; have hz3 := hb3.size; (try simp at hz3); have HB3 : Hid (Below w.heap.size w w3) := hba.trans (hb3.mono (by simp; omega)); have HL3 : Hid (Led w3 w.heap.size (w.heap.size + 1) S) := HLA.out.kept hb3; have HR3 : Hid (RL w3 wa.heap.size (wa.heap.size + 1) es) := HRA.out.below hb3; clear hb3)
              | (go_at_call 14; (with_reducible refine (number18_num 2 w3 (Lib.hid (HE.out.below HB3.out))).mono ?_); rintro e w4 ⟨rfl, hb4⟩; have HL4 : Hid (Led w4 w.heap.size (w.heap.size + 1) S) := HL3.out.kept hb4; have HR4 : Hid (RL w4 wa.heap.size (wa.heap.size + 1) es) := HR3.out.below hb4; have hz4 := hb4.size; have HB4 : Hid (Below w.heap.size w w4) := HB3.out.trans (hb4.mono (by omega)); clear hb4)
              | (go_at_call 15; (with_reducible refine (locked_V w.heap.size (w.heap.size + 1) L S w4 HL4.out HLk.out).mono ?_); rintro e w' ⟨rfl, rfl⟩))
            obtain ⟨v, hrv, hov⟩ := HR4.out.row
            have hvt := hrv.lt
            have HTC : Hid (w4.cell? ⟨wa.heap.size, 0, none⟩ = some v) := hrv.cell (by decide)
            have HOV := Lib.hid hov
            have HEv : Hid (Evs es) := HRel3.out.ev
            clear hrv hov
            go_loopw [13, 134] (fun sm i wr => ∃ q : Nat, q ≤ 8 ∧ i = .int .i64 q ∧ sm = .int .u64 (L + osum S.bal q) ∧ Below w4.heap.size w4 wr) (fun _ i _ => 8 - (intOf i).toNat)
            case atStart => exact ⟨0, by omega, rfl, by simp [osum], Below.refl _ _⟩
            case round =>
              obtain ⟨q, hq, rfl, rfl, hbi⟩ := hrel
              have hzi := hbi.size
              have HLi := Lib.hid (HL4.out.kept hbi)
              have HOi := Lib.hid (ownsRow_below HOV.out hbi)
              have ti : wr.cell? ⟨wa.heap.size, 0, none⟩ = some v := by rw [hbi.cell (p := ⟨wa.heap.size, 0, none⟩) hvt]; exact HTC.out
              have ob := osum_le S.bal HRel3.out.nn q 8 (by omega) hq
              rw [osum8] at ob
              have ot := HRel3.out.tot
              have o1 := HRel3.out.l0
              have o2 := HRel3.out.on
              have o3 := HRel3.out.im
              rw [HLk.out] at ot o1
              by_cases hlq : q < 8
              · have bq0 := HRel3.out.nn q hlq
                have bq1 := HRel3.out.bm q hlq
                have eo : Hid (osum S.bal (q + 1) = osum S.bal q + S.bal q) := rfl
                obtain ⟨oq, hoq⟩ : ∃ x, x = osum S.bal q := ⟨_, rfl⟩
                obtain ⟨bq, hbq⟩ : ∃ x, x = S.bal q := ⟨_, rfl⟩
                have HBQ : Hid (S.bal q = bq) := hbq.symm
                have HBE : Hid (balE es (q : Int) = bq) := (rbal HRel3.out q hlq).trans hbq.symm
                have HOQ := Lib.hid hoq
                rw [← hoq] at ob ⊢
                rw [← hbq] at bq0 bq1
                have s1 : 0 ≤ L + oq := by omega
                have s2 : L + oq ≤ 281474976710656 := by omega
                clear ob ot hoq hbq o1 o2 o3
                go_wp2_with (first
                  | (go_at_call 10; (with_reducible refine (balance_V w.heap.size (w.heap.size + 1) q (q : Int) bq S wr HLi.out rfl hlq HBQ.out).mono ?_); rintro e w' ⟨rfl, rfl⟩)
                  | (go_at_call 12; (with_reducible refine (rbalance_V (wa.heap.size + 1) es.length v es (q : Int) bq wr HOi.out rfl HEv.out HBE.out bq0).mono ?_); rintro e w5 ⟨rfl, hb5⟩))
                go_roundw
                case rel => exact ⟨q + 1, by omega, by go_num, by rw [eo.out, HBQ.out, ← HOQ.out]; go_num, hbi.trans (hb5.mono (by omega))⟩
                case measure => simp [intOf]; omega
              · have hq8 : 8 = q := by omega
                subst hq8
                rw [osum8] at ob ⊢
                have s80 := ob.1
                clear hlq hq ob
                obtain ⟨sm, hsm⟩ : ∃ x, x = L + sum8 S.bal := ⟨_, rfl⟩
                rw [← hsm]
                have HI0 : Hid (S.inn = I0) := HIn.out
                obtain ⟨s3, hs3⟩ : ∃ x, sumE es 3 (-1) = x := ⟨_, rfl⟩
                obtain ⟨s4, hs4⟩ : ∃ x, sumE es 4 (-1) = x := ⟨_, rfl⟩
                have e34 := HRel3.out.lk
                rw [hs3, hs4, HLk.out] at e34
                rw [HIn.out, HOut.out] at ot
                rw [HOut.out] at o2
                rw [HIn.out] at o3
                have E1 : IntKind.u64.wrap (O0 + sm) = I0 := by rw [IntKind.wrap_u64]; omega
                have E2 : IntKind.u64.wrap (s3 - s4) = L := by rw [IntKind.wrap_u64]; omega
                have HS1 : Hid (sumE es 1 (-1) = I0) := HRel3.out.inn.symm.trans HIn.out
                have HS2 : Hid (sumE es 2 (-1) = O0) := HRel3.out.out.symm.trans HOut.out
                have HS3 := Lib.hid hs3
                have HS4 := Lib.hid hs4
                clear hs3 hs4 e34 ot o1 o2 o3 hsm ti HOi s80
                go_wp2_with (go_at_call 16; (with_reducible refine (flows_V w.heap.size (w.heap.size + 1) I0 O0 S wr HLi.out HIn.out HOut.out).mono ?_); rintro e w6 ⟨rfl, hb6⟩; have HB6 := Lib.hid hb6; have hz6 := hb6.size; clear hb6)
                have hb46 : Below w4.heap.size w4 w6 := hbi.trans (HB6.out.mono (by omega))
                have hS : PS w4 w.heap.size wa.heap.size S es v w6 := ⟨by rw [hb46.cell (p := ⟨wa.heap.size, 0, none⟩) hvt]; exact HTC.out, by omega, hb46, ownsRow_below HOV.out hb46, HL4.out.kept hb46⟩
                have hne : Nonempty (Held (PS w4 w.heap.size wa.heap.size S es v)) := ⟨⟨_, hS⟩⟩
                have i0 : ∀ t : Held (PS w4 w.heap.size wa.heap.size S es v), t.w.cell? ⟨wa.heap.size, 0, none⟩ = some v := fun t => t.ok.1
                refine wp_region_held (S := PS w4 w.heap.size wa.heap.size S es v) (by kernel_rfl) (by kernel_rfl) (psKeep _ _ hS (Below.refl _ _).drew) ?_
                repeat (go_big_quiet_step (first
                    | (go_at_call 17; with_reducible exact held_call (sum_V (wa.heap.size + 1) es.length v es 1 (-1) I0 _ (ps_own _) rfl HEv.out HS1.out) psKeep)
                    | (go_at_call 17; with_reducible exact held_call (sum_V (wa.heap.size + 1) es.length v es 2 (-1) O0 _ (ps_own _) rfl HEv.out HS2.out) psKeep)
                    | (go_at_call 17; with_reducible exact held_call (sum_V (wa.heap.size + 1) es.length v es 3 (-1) s3 _ (ps_own _) rfl HEv.out HS3.out) psKeep)
                    | (go_at_call 17; with_reducible exact held_call (sum_V (wa.heap.size + 1) es.length v es 4 (-1) s4 _ (ps_own _) rfl HEv.out HS4.out) psKeep)
                    | (go_at_call 15; with_reducible exact held_same (locked_V w.heap.size (w.heap.size + 1) L S _ (ps_led _) HLk.out))))
                refine wpQuiet_nil ?_
                intro W hw'
                obtain ⟨s6, hw'⟩ := hw'
                have hSW : PS w4 w.heap.size wa.heap.size S es v W := by rw [hw']; exact s6.ok
                have HSW := Lib.hid hSW
                clear i0 hw' s6 hSW hS hne hb46
                go_wp2
                go_roundw
                case rel => exact ⟨k + 1, S, es, by omega, by go_num, hes3, HRel3.out, HSW.out.2.2.2.2, HR4.out.below HSW.out.2.2.1, HB4.out.trans (HSW.out.2.2.1.mono (by omega)), HSW.out.2.1⟩
                case measure => simp [intOf]; omega
        obtain ⟨p, rfl⟩ := Int.eq_ofNat_of_zero_le (show 0 ≤ ep by omega)
        have hp : p < 8 := by omega
        by_cases hbig : 281474976710656 < S.inn + ev
        · as_aux_lemma =>
            have HDO := Lib.hid (show doE es ⟨1, (p : Int), eb, ev⟩ = (0, 2, es) from dIn_big HRel.out p eb ev hbig)
            have HBG := Lib.hid hbig
            clear hbig
            obtain ⟨L, hL⟩ : ∃ L, S.lk = L := ⟨_, rfl⟩
            obtain ⟨I0, hI⟩ : ∃ x, S.inn = x := ⟨_, rfl⟩
            obtain ⟨O0, hO⟩ : ∃ x, S.out = x := ⟨_, rfl⟩
            have HLk := Lib.hid hL
            have HIn := Lib.hid hI
            have HOut := Lib.hid hO
            have HRel3 : Hid (Rel S es) := HRel.out
            have hes3 : es.length ≤ k + 1 := by omega
            clear hL hI hO
            go_wp2_with (first
              | (go_at_call 6; (with_reducible refine (payIn_bigV w.heap.size (w.heap.size + 1) p (p : Int) ev S _ HLA.out rfl hp hv0 HBG.out).mono ?_); rintro e w' ⟨rfl, rfl⟩)
              | (go_at_call 13; (with_reducible refine (do_V wa.heap.size (wa.heap.size + 1) es es 1 (p : Int) eb ev 0 2 _ HRA.out kd1 (by omega) (by omega) hv0 (by simp; omega) hes (by rw [rbal HRel.out p hp]; exact HRel.out.nn p hp) (by rw [rbal HRel.out p hp]; exact HRel.out.bm p hp) HDO.out).mono ?_); rintro e w3 ⟨rfl, hR3, hk3⟩; have HR3 := Lib.hid hR3; have hz3 := hk3.below.size; (try simp at hz3); have HB3 : Hid (Below w.heap.size w w3) := hba.trans (hk3.below.mono (by omega)); have HL3 : Hid (Led w3 w.heap.size (w.heap.size + 1) S) := HLA.out.keptR hk3; clear hR3 hk3)
              | (go_at_call 14; (with_reducible refine (number18_num 2 w3 (Lib.hid (HE.out.below HB3.out))).mono ?_); rintro e w4 ⟨rfl, hb4⟩; have HL4 : Hid (Led w4 w.heap.size (w.heap.size + 1) S) := HL3.out.kept hb4; have HR4 : Hid (RL w4 wa.heap.size (wa.heap.size + 1) es) := HR3.out.below hb4; have hz4 := hb4.size; have HB4 : Hid (Below w.heap.size w w4) := HB3.out.trans (hb4.mono (by omega)); clear hb4)
              | (go_at_call 15; (with_reducible refine (locked_V w.heap.size (w.heap.size + 1) L S w4 HL4.out HLk.out).mono ?_); rintro e w' ⟨rfl, rfl⟩))
            obtain ⟨v, hrv, hov⟩ := HR4.out.row
            have hvt := hrv.lt
            have HTC : Hid (w4.cell? ⟨wa.heap.size, 0, none⟩ = some v) := hrv.cell (by decide)
            have HOV := Lib.hid hov
            have HEv : Hid (Evs es) := HRel3.out.ev
            clear hrv hov
            go_loopw [13, 134] (fun sm i wr => ∃ q : Nat, q ≤ 8 ∧ i = .int .i64 q ∧ sm = .int .u64 (L + osum S.bal q) ∧ Below w4.heap.size w4 wr) (fun _ i _ => 8 - (intOf i).toNat)
            case atStart => exact ⟨0, by omega, rfl, by simp [osum], Below.refl _ _⟩
            case round =>
              obtain ⟨q, hq, rfl, rfl, hbi⟩ := hrel
              have hzi := hbi.size
              have HLi := Lib.hid (HL4.out.kept hbi)
              have HOi := Lib.hid (ownsRow_below HOV.out hbi)
              have ti : wr.cell? ⟨wa.heap.size, 0, none⟩ = some v := by rw [hbi.cell (p := ⟨wa.heap.size, 0, none⟩) hvt]; exact HTC.out
              have ob := osum_le S.bal HRel3.out.nn q 8 (by omega) hq
              rw [osum8] at ob
              have ot := HRel3.out.tot
              have o1 := HRel3.out.l0
              have o2 := HRel3.out.on
              have o3 := HRel3.out.im
              rw [HLk.out] at ot o1
              by_cases hlq : q < 8
              · have bq0 := HRel3.out.nn q hlq
                have bq1 := HRel3.out.bm q hlq
                have eo : Hid (osum S.bal (q + 1) = osum S.bal q + S.bal q) := rfl
                obtain ⟨oq, hoq⟩ : ∃ x, x = osum S.bal q := ⟨_, rfl⟩
                obtain ⟨bq, hbq⟩ : ∃ x, x = S.bal q := ⟨_, rfl⟩
                have HBQ : Hid (S.bal q = bq) := hbq.symm
                have HBE : Hid (balE es (q : Int) = bq) := (rbal HRel3.out q hlq).trans hbq.symm
                have HOQ := Lib.hid hoq
                rw [← hoq] at ob ⊢
                rw [← hbq] at bq0 bq1
                have s1 : 0 ≤ L + oq := by omega
                have s2 : L + oq ≤ 281474976710656 := by omega
                clear ob ot hoq hbq o1 o2 o3
                go_wp2_with (first
                  | (go_at_call 10; (with_reducible refine (balance_V w.heap.size (w.heap.size + 1) q (q : Int) bq S wr HLi.out rfl hlq HBQ.out).mono ?_); rintro e w' ⟨rfl, rfl⟩)
                  | (go_at_call 12; (with_reducible refine (rbalance_V (wa.heap.size + 1) es.length v es (q : Int) bq wr HOi.out rfl HEv.out HBE.out bq0).mono ?_); rintro e w5 ⟨rfl, hb5⟩))
                go_roundw
                case rel => exact ⟨q + 1, by omega, by go_num, by rw [eo.out, HBQ.out, ← HOQ.out]; go_num, hbi.trans (hb5.mono (by omega))⟩
                case measure => simp [intOf]; omega
              · have hq8 : 8 = q := by omega
                subst hq8
                rw [osum8] at ob ⊢
                have s80 := ob.1
                clear hlq hq ob
                obtain ⟨sm, hsm⟩ : ∃ x, x = L + sum8 S.bal := ⟨_, rfl⟩
                rw [← hsm]
                have HI0 : Hid (S.inn = I0) := HIn.out
                obtain ⟨s3, hs3⟩ : ∃ x, sumE es 3 (-1) = x := ⟨_, rfl⟩
                obtain ⟨s4, hs4⟩ : ∃ x, sumE es 4 (-1) = x := ⟨_, rfl⟩
                have e34 := HRel3.out.lk
                rw [hs3, hs4, HLk.out] at e34
                rw [HIn.out, HOut.out] at ot
                rw [HOut.out] at o2
                rw [HIn.out] at o3
                have E1 : IntKind.u64.wrap (O0 + sm) = I0 := by rw [IntKind.wrap_u64]; omega
                have E2 : IntKind.u64.wrap (s3 - s4) = L := by rw [IntKind.wrap_u64]; omega
                have HS1 : Hid (sumE es 1 (-1) = I0) := HRel3.out.inn.symm.trans HIn.out
                have HS2 : Hid (sumE es 2 (-1) = O0) := HRel3.out.out.symm.trans HOut.out
                have HS3 := Lib.hid hs3
                have HS4 := Lib.hid hs4
                clear hs3 hs4 e34 ot o1 o2 o3 hsm ti HOi s80
                go_wp2_with (go_at_call 16; (with_reducible refine (flows_V w.heap.size (w.heap.size + 1) I0 O0 S wr HLi.out HIn.out HOut.out).mono ?_); rintro e w6 ⟨rfl, hb6⟩; have HB6 := Lib.hid hb6; have hz6 := hb6.size; clear hb6)
                have hb46 : Below w4.heap.size w4 w6 := hbi.trans (HB6.out.mono (by omega))
                have hS : PS w4 w.heap.size wa.heap.size S es v w6 := ⟨by rw [hb46.cell (p := ⟨wa.heap.size, 0, none⟩) hvt]; exact HTC.out, by omega, hb46, ownsRow_below HOV.out hb46, HL4.out.kept hb46⟩
                have hne : Nonempty (Held (PS w4 w.heap.size wa.heap.size S es v)) := ⟨⟨_, hS⟩⟩
                have i0 : ∀ t : Held (PS w4 w.heap.size wa.heap.size S es v), t.w.cell? ⟨wa.heap.size, 0, none⟩ = some v := fun t => t.ok.1
                refine wp_region_held (S := PS w4 w.heap.size wa.heap.size S es v) (by kernel_rfl) (by kernel_rfl) (psKeep _ _ hS (Below.refl _ _).drew) ?_
                repeat (go_big_quiet_step (first
                    | (go_at_call 17; with_reducible exact held_call (sum_V (wa.heap.size + 1) es.length v es 1 (-1) I0 _ (ps_own _) rfl HEv.out HS1.out) psKeep)
                    | (go_at_call 17; with_reducible exact held_call (sum_V (wa.heap.size + 1) es.length v es 2 (-1) O0 _ (ps_own _) rfl HEv.out HS2.out) psKeep)
                    | (go_at_call 17; with_reducible exact held_call (sum_V (wa.heap.size + 1) es.length v es 3 (-1) s3 _ (ps_own _) rfl HEv.out HS3.out) psKeep)
                    | (go_at_call 17; with_reducible exact held_call (sum_V (wa.heap.size + 1) es.length v es 4 (-1) s4 _ (ps_own _) rfl HEv.out HS4.out) psKeep)
                    | (go_at_call 15; with_reducible exact held_same (locked_V w.heap.size (w.heap.size + 1) L S _ (ps_led _) HLk.out))))
                refine wpQuiet_nil ?_
                intro W hw'
                obtain ⟨s6, hw'⟩ := hw'
                have hSW : PS w4 w.heap.size wa.heap.size S es v W := by rw [hw']; exact s6.ok
                have HSW := Lib.hid hSW
                clear i0 hw' s6 hSW hS hne hb46
                go_wp2
                go_roundw
                case rel => exact ⟨k + 1, S, es, by omega, by go_num, hes3, HRel3.out, HSW.out.2.2.2.2, HR4.out.below HSW.out.2.2.1, HB4.out.trans (HSW.out.2.2.1.mono (by omega)), HSW.out.2.1⟩
                case measure => simp [intOf]; omega
        · as_aux_lemma =>
            have hbg : S.inn + ev ≤ 281474976710656 := by omega
            have HDO := Lib.hid (show doE es ⟨1, (p : Int), eb, ev⟩ = (0, 0, es ++ [(⟨1, (p : Int), eb, ev⟩ : Ev)]) from dIn_ok HRel.out p eb ev hv0 hbg)
            have HBG := Lib.hid hbg
            clear hbig hbg
            obtain ⟨L, hL⟩ : ∃ L, (S.payIn p ev).lk = L := ⟨_, rfl⟩
            obtain ⟨I0, hI⟩ : ∃ x, (S.payIn p ev).inn = x := ⟨_, rfl⟩
            obtain ⟨O0, hO⟩ : ∃ x, (S.payIn p ev).out = x := ⟨_, rfl⟩
            have HLk := Lib.hid hL
            have HIn := Lib.hid hI
            have HOut := Lib.hid hO
            have HRel3 : Hid (Rel (S.payIn p ev) (es ++ [(⟨1, (p : Int), eb, ev⟩ : Ev)])) := HRel.out.payIn p eb ev hes hp hv0 HBG.out
            have hes3 : (es ++ [(⟨1, (p : Int), eb, ev⟩ : Ev)]).length ≤ k + 1 := by simp; omega
            clear hL hI hO
            go_wp2_with (first
              | (go_at_call 6; (with_reducible refine (payIn_V w.heap.size (w.heap.size + 1) p (p : Int) ev S (S.payIn p ev) _ HLA.out rfl hp hv0 HBG.out rfl HRel3.out.ok).mono ?_); rintro e w2 ⟨rfl, hL2, hk2⟩; have HL2 := Lib.hid hL2; have hz2 := hk2.below.size; (try simp at hz2); have HB2 : Hid (Below w.heap.size w w2) := hba.trans hk2.below; have HR2 := Lib.hid (HRA.out.kept hk2); have ho2 := rowIs_other HOO.out hk2 (by decide) (by decide); have p0 := (ho2.cell (i := 0) (by decide)).trans (congrArg some (evf0 _)); have p1 := (ho2.cell (i := 1) (by decide)).trans (congrArg some (evf1 _)); have p2 := (ho2.cell (i := 2) (by decide)).trans (congrArg some (evf2 _)); have p3 := (ho2.cell (i := 3) (by decide)).trans (congrArg some (evf3 _)); (simp only at p0 p1 p2 p3); clear hL2 hk2 ho2)
              | (go_at_call 13; (with_reducible refine (do_V wa.heap.size (wa.heap.size + 1) es (es ++ [(⟨1, (p : Int), eb, ev⟩ : Ev)]) 1 (p : Int) eb ev 0 0 _ HR2.out kd1 (by omega) (by omega) hv0 (by omega) hes (by rw [rbal HRel.out p hp]; exact HRel.out.nn p hp) (by rw [rbal HRel.out p hp]; exact HRel.out.bm p hp) HDO.out).mono ?_); rintro e w3 ⟨rfl, hR3, hk3⟩; have HR3 := Lib.hid hR3; have hz3 := hk3.below.size; (try simp at hz3); have HB3 : Hid (Below w.heap.size w w3) := HB2.out.trans (hk3.below.mono (by omega)); have HL3 : Hid (Led w3 w.heap.size (w.heap.size + 1) (S.payIn p ev)) := HL2.out.keptR hk3; clear hR3 hk3)
              | (go_at_call 14; (with_reducible refine (number18_nil w3).mono ?_); rintro e w4 ⟨rfl, hb4⟩; have HL4 : Hid (Led w4 w.heap.size (w.heap.size + 1) (S.payIn p ev)) := HL3.out.kept hb4; have HR4 : Hid (RL w4 wa.heap.size (wa.heap.size + 1) (es ++ [(⟨1, (p : Int), eb, ev⟩ : Ev)])) := HR3.out.below hb4; have hz4 := hb4.size; have HB4 : Hid (Below w.heap.size w w4) := HB3.out.trans (hb4.mono (by omega)); clear hb4)
              | (go_at_call 15; (with_reducible refine (locked_V w.heap.size (w.heap.size + 1) L (S.payIn p ev) w4 HL4.out HLk.out).mono ?_); rintro e w' ⟨rfl, rfl⟩))
            obtain ⟨v, hrv, hov⟩ := HR4.out.row
            have hvt := hrv.lt
            have HTC : Hid (w4.cell? ⟨wa.heap.size, 0, none⟩ = some v) := hrv.cell (by decide)
            have HOV := Lib.hid hov
            have HEv : Hid (Evs (es ++ [(⟨1, (p : Int), eb, ev⟩ : Ev)])) := HRel3.out.ev
            clear hrv hov
            go_loopw [13, 134] (fun sm i wr => ∃ q : Nat, q ≤ 8 ∧ i = .int .i64 q ∧ sm = .int .u64 (L + osum (S.payIn p ev).bal q) ∧ Below w4.heap.size w4 wr) (fun _ i _ => 8 - (intOf i).toNat)
            case atStart => exact ⟨0, by omega, rfl, by simp [osum], Below.refl _ _⟩
            case round =>
              obtain ⟨q, hq, rfl, rfl, hbi⟩ := hrel
              have hzi := hbi.size
              have HLi := Lib.hid (HL4.out.kept hbi)
              have HOi := Lib.hid (ownsRow_below HOV.out hbi)
              have ti : wr.cell? ⟨wa.heap.size, 0, none⟩ = some v := by rw [hbi.cell (p := ⟨wa.heap.size, 0, none⟩) hvt]; exact HTC.out
              have ob := osum_le (S.payIn p ev).bal HRel3.out.nn q 8 (by omega) hq
              rw [osum8] at ob
              have ot := HRel3.out.tot
              have o1 := HRel3.out.l0
              have o2 := HRel3.out.on
              have o3 := HRel3.out.im
              rw [HLk.out] at ot o1
              by_cases hlq : q < 8
              · have bq0 := HRel3.out.nn q hlq
                have bq1 := HRel3.out.bm q hlq
                have eo : Hid (osum (S.payIn p ev).bal (q + 1) = osum (S.payIn p ev).bal q + (S.payIn p ev).bal q) := rfl
                obtain ⟨oq, hoq⟩ : ∃ x, x = osum (S.payIn p ev).bal q := ⟨_, rfl⟩
                obtain ⟨bq, hbq⟩ : ∃ x, x = (S.payIn p ev).bal q := ⟨_, rfl⟩
                have HBQ : Hid ((S.payIn p ev).bal q = bq) := hbq.symm
                have HBE : Hid (balE (es ++ [(⟨1, (p : Int), eb, ev⟩ : Ev)]) (q : Int) = bq) := (rbal HRel3.out q hlq).trans hbq.symm
                have HOQ := Lib.hid hoq
                rw [← hoq] at ob ⊢
                rw [← hbq] at bq0 bq1
                have s1 : 0 ≤ L + oq := by omega
                have s2 : L + oq ≤ 281474976710656 := by omega
                clear ob ot hoq hbq o1 o2 o3
                go_wp2_with (first
                  | (go_at_call 10; (with_reducible refine (balance_V w.heap.size (w.heap.size + 1) q (q : Int) bq (S.payIn p ev) wr HLi.out rfl hlq HBQ.out).mono ?_); rintro e w' ⟨rfl, rfl⟩)
                  | (go_at_call 12; (with_reducible refine (rbalance_V (wa.heap.size + 1) (es ++ [(⟨1, (p : Int), eb, ev⟩ : Ev)]).length v (es ++ [(⟨1, (p : Int), eb, ev⟩ : Ev)]) (q : Int) bq wr HOi.out rfl HEv.out HBE.out bq0).mono ?_); rintro e w5 ⟨rfl, hb5⟩))
                go_roundw
                case rel => exact ⟨q + 1, by omega, by go_num, by rw [eo.out, HBQ.out, ← HOQ.out]; go_num, hbi.trans (hb5.mono (by omega))⟩
                case measure => simp [intOf]; omega
              · have hq8 : 8 = q := by omega
                subst hq8
                rw [osum8] at ob ⊢
                have s80 := ob.1
                clear hlq hq ob
                obtain ⟨sm, hsm⟩ : ∃ x, x = L + sum8 (S.payIn p ev).bal := ⟨_, rfl⟩
                rw [← hsm]
                have HI0 : Hid ((S.payIn p ev).inn = I0) := HIn.out
                obtain ⟨s3, hs3⟩ : ∃ x, sumE (es ++ [(⟨1, (p : Int), eb, ev⟩ : Ev)]) 3 (-1) = x := ⟨_, rfl⟩
                obtain ⟨s4, hs4⟩ : ∃ x, sumE (es ++ [(⟨1, (p : Int), eb, ev⟩ : Ev)]) 4 (-1) = x := ⟨_, rfl⟩
                have e34 := HRel3.out.lk
                rw [hs3, hs4, HLk.out] at e34
                rw [HIn.out, HOut.out] at ot
                rw [HOut.out] at o2
                rw [HIn.out] at o3
                have E1 : IntKind.u64.wrap (O0 + sm) = I0 := by rw [IntKind.wrap_u64]; omega
                have E2 : IntKind.u64.wrap (s3 - s4) = L := by rw [IntKind.wrap_u64]; omega
                have HS1 : Hid (sumE (es ++ [(⟨1, (p : Int), eb, ev⟩ : Ev)]) 1 (-1) = I0) := HRel3.out.inn.symm.trans HIn.out
                have HS2 : Hid (sumE (es ++ [(⟨1, (p : Int), eb, ev⟩ : Ev)]) 2 (-1) = O0) := HRel3.out.out.symm.trans HOut.out
                have HS3 := Lib.hid hs3
                have HS4 := Lib.hid hs4
                clear hs3 hs4 e34 ot o1 o2 o3 hsm ti HOi s80
                go_wp2_with (go_at_call 16; (with_reducible refine (flows_V w.heap.size (w.heap.size + 1) I0 O0 (S.payIn p ev) wr HLi.out HIn.out HOut.out).mono ?_); rintro e w6 ⟨rfl, hb6⟩; have HB6 := Lib.hid hb6; have hz6 := hb6.size; clear hb6)
                have hb46 : Below w4.heap.size w4 w6 := hbi.trans (HB6.out.mono (by omega))
                have hS : PS w4 w.heap.size wa.heap.size (S.payIn p ev) (es ++ [(⟨1, (p : Int), eb, ev⟩ : Ev)]) v w6 := ⟨by rw [hb46.cell (p := ⟨wa.heap.size, 0, none⟩) hvt]; exact HTC.out, by omega, hb46, ownsRow_below HOV.out hb46, HL4.out.kept hb46⟩
                have hne : Nonempty (Held (PS w4 w.heap.size wa.heap.size (S.payIn p ev) (es ++ [(⟨1, (p : Int), eb, ev⟩ : Ev)]) v)) := ⟨⟨_, hS⟩⟩
                have i0 : ∀ t : Held (PS w4 w.heap.size wa.heap.size (S.payIn p ev) (es ++ [(⟨1, (p : Int), eb, ev⟩ : Ev)]) v), t.w.cell? ⟨wa.heap.size, 0, none⟩ = some v := fun t => t.ok.1
                refine wp_region_held (S := PS w4 w.heap.size wa.heap.size (S.payIn p ev) (es ++ [(⟨1, (p : Int), eb, ev⟩ : Ev)]) v) (by kernel_rfl) (by kernel_rfl) (psKeep _ _ hS (Below.refl _ _).drew) ?_
                repeat (go_big_quiet_step (first
                    | (go_at_call 17; with_reducible exact held_call (sum_V (wa.heap.size + 1) (es ++ [(⟨1, (p : Int), eb, ev⟩ : Ev)]).length v (es ++ [(⟨1, (p : Int), eb, ev⟩ : Ev)]) 1 (-1) I0 _ (ps_own _) rfl HEv.out HS1.out) psKeep)
                    | (go_at_call 17; with_reducible exact held_call (sum_V (wa.heap.size + 1) (es ++ [(⟨1, (p : Int), eb, ev⟩ : Ev)]).length v (es ++ [(⟨1, (p : Int), eb, ev⟩ : Ev)]) 2 (-1) O0 _ (ps_own _) rfl HEv.out HS2.out) psKeep)
                    | (go_at_call 17; with_reducible exact held_call (sum_V (wa.heap.size + 1) (es ++ [(⟨1, (p : Int), eb, ev⟩ : Ev)]).length v (es ++ [(⟨1, (p : Int), eb, ev⟩ : Ev)]) 3 (-1) s3 _ (ps_own _) rfl HEv.out HS3.out) psKeep)
                    | (go_at_call 17; with_reducible exact held_call (sum_V (wa.heap.size + 1) (es ++ [(⟨1, (p : Int), eb, ev⟩ : Ev)]).length v (es ++ [(⟨1, (p : Int), eb, ev⟩ : Ev)]) 4 (-1) s4 _ (ps_own _) rfl HEv.out HS4.out) psKeep)
                    | (go_at_call 15; with_reducible exact held_same (locked_V w.heap.size (w.heap.size + 1) L (S.payIn p ev) _ (ps_led _) HLk.out))))
                refine wpQuiet_nil ?_
                intro W hw'
                obtain ⟨s6, hw'⟩ := hw'
                have hSW : PS w4 w.heap.size wa.heap.size (S.payIn p ev) (es ++ [(⟨1, (p : Int), eb, ev⟩ : Ev)]) v W := by rw [hw']; exact s6.ok
                have HSW := Lib.hid hSW
                clear i0 hw' s6 hSW hS hne hb46
                go_wp2
                go_roundw
                case rel => exact ⟨k + 1, S.payIn p ev, es ++ [(⟨1, (p : Int), eb, ev⟩ : Ev)], by omega, by go_num, hes3, HRel3.out, HSW.out.2.2.2.2, HR4.out.below HSW.out.2.2.1, HB4.out.trans (HSW.out.2.2.1.mono (by omega)), HSW.out.2.1⟩
                case measure => simp [intOf]; omega
      by_cases k2 : ek = 2
      · subst k2
        clear k1
        by_cases hpb : ep < 0 ∨ 8 ≤ ep
        · as_aux_lemma =>
            have HPB := Lib.hid hpb
            clear hpb
            obtain ⟨L, hL⟩ : ∃ L, S.lk = L := ⟨_, rfl⟩
            obtain ⟨I0, hI⟩ : ∃ x, S.inn = x := ⟨_, rfl⟩
            obtain ⟨O0, hO⟩ : ∃ x, S.out = x := ⟨_, rfl⟩
            have HLk := Lib.hid hL
            have HIn := Lib.hid hI
            have HOut := Lib.hid hO
            have HRel3 : Hid (Rel S es) := HRel.out
            have hes3 : es.length ≤ k + 1 := by omega
            clear hL hI hO
            go_wp2_with (first
              | (go_at_call 7; (with_reducible refine (payOut_bad w.heap.size ep ev _ HPB.out).mono ?_); rintro e w' ⟨rfl, rfl⟩)
              | (go_at_call 13; (with_reducible refine (do_bad wa.heap.size 2 ep eb ev _ HPB.out).mono ?_); rintro e w3 ⟨rfl, hb3⟩; have hz3 := hb3.size; (try simp at hz3); have HB3 : Hid (Below w.heap.size w w3) := hba.trans (hb3.mono (by simp; omega)); have HL3 : Hid (Led w3 w.heap.size (w.heap.size + 1) S) := HLA.out.kept hb3; have HR3 : Hid (RL w3 wa.heap.size (wa.heap.size + 1) es) := HRA.out.below hb3; clear hb3)
              | (go_at_call 14; (with_reducible refine (number18_num 2 w3 (Lib.hid (HE.out.below HB3.out))).mono ?_); rintro e w4 ⟨rfl, hb4⟩; have HL4 : Hid (Led w4 w.heap.size (w.heap.size + 1) S) := HL3.out.kept hb4; have HR4 : Hid (RL w4 wa.heap.size (wa.heap.size + 1) es) := HR3.out.below hb4; have hz4 := hb4.size; have HB4 : Hid (Below w.heap.size w w4) := HB3.out.trans (hb4.mono (by omega)); clear hb4)
              | (go_at_call 15; (with_reducible refine (locked_V w.heap.size (w.heap.size + 1) L S w4 HL4.out HLk.out).mono ?_); rintro e w' ⟨rfl, rfl⟩))
            obtain ⟨v, hrv, hov⟩ := HR4.out.row
            have hvt := hrv.lt
            have HTC : Hid (w4.cell? ⟨wa.heap.size, 0, none⟩ = some v) := hrv.cell (by decide)
            have HOV := Lib.hid hov
            have HEv : Hid (Evs es) := HRel3.out.ev
            clear hrv hov
            go_loopw [13, 134] (fun sm i wr => ∃ q : Nat, q ≤ 8 ∧ i = .int .i64 q ∧ sm = .int .u64 (L + osum S.bal q) ∧ Below w4.heap.size w4 wr) (fun _ i _ => 8 - (intOf i).toNat)
            case atStart => exact ⟨0, by omega, rfl, by simp [osum], Below.refl _ _⟩
            case round =>
              obtain ⟨q, hq, rfl, rfl, hbi⟩ := hrel
              have hzi := hbi.size
              have HLi := Lib.hid (HL4.out.kept hbi)
              have HOi := Lib.hid (ownsRow_below HOV.out hbi)
              have ti : wr.cell? ⟨wa.heap.size, 0, none⟩ = some v := by rw [hbi.cell (p := ⟨wa.heap.size, 0, none⟩) hvt]; exact HTC.out
              have ob := osum_le S.bal HRel3.out.nn q 8 (by omega) hq
              rw [osum8] at ob
              have ot := HRel3.out.tot
              have o1 := HRel3.out.l0
              have o2 := HRel3.out.on
              have o3 := HRel3.out.im
              rw [HLk.out] at ot o1
              by_cases hlq : q < 8
              · have bq0 := HRel3.out.nn q hlq
                have bq1 := HRel3.out.bm q hlq
                have eo : Hid (osum S.bal (q + 1) = osum S.bal q + S.bal q) := rfl
                obtain ⟨oq, hoq⟩ : ∃ x, x = osum S.bal q := ⟨_, rfl⟩
                obtain ⟨bq, hbq⟩ : ∃ x, x = S.bal q := ⟨_, rfl⟩
                have HBQ : Hid (S.bal q = bq) := hbq.symm
                have HBE : Hid (balE es (q : Int) = bq) := (rbal HRel3.out q hlq).trans hbq.symm
                have HOQ := Lib.hid hoq
                rw [← hoq] at ob ⊢
                rw [← hbq] at bq0 bq1
                have s1 : 0 ≤ L + oq := by omega
                have s2 : L + oq ≤ 281474976710656 := by omega
                clear ob ot hoq hbq o1 o2 o3
                go_wp2_with (first
                  | (go_at_call 10; (with_reducible refine (balance_V w.heap.size (w.heap.size + 1) q (q : Int) bq S wr HLi.out rfl hlq HBQ.out).mono ?_); rintro e w' ⟨rfl, rfl⟩)
                  | (go_at_call 12; (with_reducible refine (rbalance_V (wa.heap.size + 1) es.length v es (q : Int) bq wr HOi.out rfl HEv.out HBE.out bq0).mono ?_); rintro e w5 ⟨rfl, hb5⟩))
                go_roundw
                case rel => exact ⟨q + 1, by omega, by go_num, by rw [eo.out, HBQ.out, ← HOQ.out]; go_num, hbi.trans (hb5.mono (by omega))⟩
                case measure => simp [intOf]; omega
              · have hq8 : 8 = q := by omega
                subst hq8
                rw [osum8] at ob ⊢
                have s80 := ob.1
                clear hlq hq ob
                obtain ⟨sm, hsm⟩ : ∃ x, x = L + sum8 S.bal := ⟨_, rfl⟩
                rw [← hsm]
                have HI0 : Hid (S.inn = I0) := HIn.out
                obtain ⟨s3, hs3⟩ : ∃ x, sumE es 3 (-1) = x := ⟨_, rfl⟩
                obtain ⟨s4, hs4⟩ : ∃ x, sumE es 4 (-1) = x := ⟨_, rfl⟩
                have e34 := HRel3.out.lk
                rw [hs3, hs4, HLk.out] at e34
                rw [HIn.out, HOut.out] at ot
                rw [HOut.out] at o2
                rw [HIn.out] at o3
                have E1 : IntKind.u64.wrap (O0 + sm) = I0 := by rw [IntKind.wrap_u64]; omega
                have E2 : IntKind.u64.wrap (s3 - s4) = L := by rw [IntKind.wrap_u64]; omega
                have HS1 : Hid (sumE es 1 (-1) = I0) := HRel3.out.inn.symm.trans HIn.out
                have HS2 : Hid (sumE es 2 (-1) = O0) := HRel3.out.out.symm.trans HOut.out
                have HS3 := Lib.hid hs3
                have HS4 := Lib.hid hs4
                clear hs3 hs4 e34 ot o1 o2 o3 hsm ti HOi s80
                go_wp2_with (go_at_call 16; (with_reducible refine (flows_V w.heap.size (w.heap.size + 1) I0 O0 S wr HLi.out HIn.out HOut.out).mono ?_); rintro e w6 ⟨rfl, hb6⟩; have HB6 := Lib.hid hb6; have hz6 := hb6.size; clear hb6)
                have hb46 : Below w4.heap.size w4 w6 := hbi.trans (HB6.out.mono (by omega))
                have hS : PS w4 w.heap.size wa.heap.size S es v w6 := ⟨by rw [hb46.cell (p := ⟨wa.heap.size, 0, none⟩) hvt]; exact HTC.out, by omega, hb46, ownsRow_below HOV.out hb46, HL4.out.kept hb46⟩
                have hne : Nonempty (Held (PS w4 w.heap.size wa.heap.size S es v)) := ⟨⟨_, hS⟩⟩
                have i0 : ∀ t : Held (PS w4 w.heap.size wa.heap.size S es v), t.w.cell? ⟨wa.heap.size, 0, none⟩ = some v := fun t => t.ok.1
                refine wp_region_held (S := PS w4 w.heap.size wa.heap.size S es v) (by kernel_rfl) (by kernel_rfl) (psKeep _ _ hS (Below.refl _ _).drew) ?_
                repeat (go_big_quiet_step (first
                    | (go_at_call 17; with_reducible exact held_call (sum_V (wa.heap.size + 1) es.length v es 1 (-1) I0 _ (ps_own _) rfl HEv.out HS1.out) psKeep)
                    | (go_at_call 17; with_reducible exact held_call (sum_V (wa.heap.size + 1) es.length v es 2 (-1) O0 _ (ps_own _) rfl HEv.out HS2.out) psKeep)
                    | (go_at_call 17; with_reducible exact held_call (sum_V (wa.heap.size + 1) es.length v es 3 (-1) s3 _ (ps_own _) rfl HEv.out HS3.out) psKeep)
                    | (go_at_call 17; with_reducible exact held_call (sum_V (wa.heap.size + 1) es.length v es 4 (-1) s4 _ (ps_own _) rfl HEv.out HS4.out) psKeep)
                    | (go_at_call 15; with_reducible exact held_same (locked_V w.heap.size (w.heap.size + 1) L S _ (ps_led _) HLk.out))))
                refine wpQuiet_nil ?_
                intro W hw'
                obtain ⟨s6, hw'⟩ := hw'
                have hSW : PS w4 w.heap.size wa.heap.size S es v W := by rw [hw']; exact s6.ok
                have HSW := Lib.hid hSW
                clear i0 hw' s6 hSW hS hne hb46
                go_wp2
                go_roundw
                case rel => exact ⟨k + 1, S, es, by omega, by go_num, hes3, HRel3.out, HSW.out.2.2.2.2, HR4.out.below HSW.out.2.2.1, HB4.out.trans (HSW.out.2.2.1.mono (by omega)), HSW.out.2.1⟩
                case measure => simp [intOf]; omega
        · obtain ⟨p, rfl⟩ := Int.eq_ofNat_of_zero_le (show 0 ≤ ep by omega)
          have hp : p < 8 := by omega
          clear hpb
          by_cases hbig : S.bal p < ev
          · as_aux_lemma =>
              have HBG := Lib.hid hbig
              have HDO := Lib.hid (show doE es ⟨2, (p : Int), eb, ev⟩ = (0, 21, es) from dOut_few HRel.out p eb ev hp hbig)
              clear hbig
              obtain ⟨L, hL⟩ : ∃ L, S.lk = L := ⟨_, rfl⟩
              obtain ⟨I0, hI⟩ : ∃ x, S.inn = x := ⟨_, rfl⟩
              obtain ⟨O0, hO⟩ : ∃ x, S.out = x := ⟨_, rfl⟩
              have HLk := Lib.hid hL
              have HIn := Lib.hid hI
              have HOut := Lib.hid hO
              have HRel3 : Hid (Rel S es) := HRel.out
              have hes3 : es.length ≤ k + 1 := by omega
              clear hL hI hO
              go_wp2_with (first
                | (go_at_call 7; (with_reducible refine (payOut_few w.heap.size (w.heap.size + 1) p ev S _ HLA.out hp HBG.out).mono ?_); rintro e w' ⟨rfl, rfl⟩)
                | (go_at_call 13; (with_reducible refine (do_V wa.heap.size (wa.heap.size + 1) es es 2 (p : Int) eb ev 0 21 _ HRA.out kd2 (by omega) (by omega) hv0 (by simp; omega) hes (by rw [rbal HRel.out p hp]; exact HRel.out.nn p hp) (by rw [rbal HRel.out p hp]; exact HRel.out.bm p hp) HDO.out).mono ?_); rintro e w3 ⟨rfl, hR3, hk3⟩; have HR3 := Lib.hid hR3; have hz3 := hk3.below.size; (try simp at hz3); have HB3 : Hid (Below w.heap.size w w3) := hba.trans (hk3.below.mono (by omega)); have HL3 : Hid (Led w3 w.heap.size (w.heap.size + 1) S) := HLA.out.keptR hk3; clear hR3 hk3)
                | (go_at_call 14; (with_reducible refine (number18_num 21 w3 (Lib.hid (HE.out.below HB3.out))).mono ?_); rintro e w4 ⟨rfl, hb4⟩; have HL4 : Hid (Led w4 w.heap.size (w.heap.size + 1) S) := HL3.out.kept hb4; have HR4 : Hid (RL w4 wa.heap.size (wa.heap.size + 1) es) := HR3.out.below hb4; have hz4 := hb4.size; have HB4 : Hid (Below w.heap.size w w4) := HB3.out.trans (hb4.mono (by omega)); clear hb4)
                | (go_at_call 15; (with_reducible refine (locked_V w.heap.size (w.heap.size + 1) L S w4 HL4.out HLk.out).mono ?_); rintro e w' ⟨rfl, rfl⟩))
              obtain ⟨v, hrv, hov⟩ := HR4.out.row
              have hvt := hrv.lt
              have HTC : Hid (w4.cell? ⟨wa.heap.size, 0, none⟩ = some v) := hrv.cell (by decide)
              have HOV := Lib.hid hov
              have HEv : Hid (Evs es) := HRel3.out.ev
              clear hrv hov
              go_loopw [13, 134] (fun sm i wr => ∃ q : Nat, q ≤ 8 ∧ i = .int .i64 q ∧ sm = .int .u64 (L + osum S.bal q) ∧ Below w4.heap.size w4 wr) (fun _ i _ => 8 - (intOf i).toNat)
              case atStart => exact ⟨0, by omega, rfl, by simp [osum], Below.refl _ _⟩
              case round =>
                obtain ⟨q, hq, rfl, rfl, hbi⟩ := hrel
                have hzi := hbi.size
                have HLi := Lib.hid (HL4.out.kept hbi)
                have HOi := Lib.hid (ownsRow_below HOV.out hbi)
                have ti : wr.cell? ⟨wa.heap.size, 0, none⟩ = some v := by rw [hbi.cell (p := ⟨wa.heap.size, 0, none⟩) hvt]; exact HTC.out
                have ob := osum_le S.bal HRel3.out.nn q 8 (by omega) hq
                rw [osum8] at ob
                have ot := HRel3.out.tot
                have o1 := HRel3.out.l0
                have o2 := HRel3.out.on
                have o3 := HRel3.out.im
                rw [HLk.out] at ot o1
                by_cases hlq : q < 8
                · have bq0 := HRel3.out.nn q hlq
                  have bq1 := HRel3.out.bm q hlq
                  have eo : Hid (osum S.bal (q + 1) = osum S.bal q + S.bal q) := rfl
                  obtain ⟨oq, hoq⟩ : ∃ x, x = osum S.bal q := ⟨_, rfl⟩
                  obtain ⟨bq, hbq⟩ : ∃ x, x = S.bal q := ⟨_, rfl⟩
                  have HBQ : Hid (S.bal q = bq) := hbq.symm
                  have HBE : Hid (balE es (q : Int) = bq) := (rbal HRel3.out q hlq).trans hbq.symm
                  have HOQ := Lib.hid hoq
                  rw [← hoq] at ob ⊢
                  rw [← hbq] at bq0 bq1
                  have s1 : 0 ≤ L + oq := by omega
                  have s2 : L + oq ≤ 281474976710656 := by omega
                  clear ob ot hoq hbq o1 o2 o3
                  go_wp2_with (first
                    | (go_at_call 10; (with_reducible refine (balance_V w.heap.size (w.heap.size + 1) q (q : Int) bq S wr HLi.out rfl hlq HBQ.out).mono ?_); rintro e w' ⟨rfl, rfl⟩)
                    | (go_at_call 12; (with_reducible refine (rbalance_V (wa.heap.size + 1) es.length v es (q : Int) bq wr HOi.out rfl HEv.out HBE.out bq0).mono ?_); rintro e w5 ⟨rfl, hb5⟩))
                  go_roundw
                  case rel => exact ⟨q + 1, by omega, by go_num, by rw [eo.out, HBQ.out, ← HOQ.out]; go_num, hbi.trans (hb5.mono (by omega))⟩
                  case measure => simp [intOf]; omega
                · have hq8 : 8 = q := by omega
                  subst hq8
                  rw [osum8] at ob ⊢
                  have s80 := ob.1
                  clear hlq hq ob
                  obtain ⟨sm, hsm⟩ : ∃ x, x = L + sum8 S.bal := ⟨_, rfl⟩
                  rw [← hsm]
                  have HI0 : Hid (S.inn = I0) := HIn.out
                  obtain ⟨s3, hs3⟩ : ∃ x, sumE es 3 (-1) = x := ⟨_, rfl⟩
                  obtain ⟨s4, hs4⟩ : ∃ x, sumE es 4 (-1) = x := ⟨_, rfl⟩
                  have e34 := HRel3.out.lk
                  rw [hs3, hs4, HLk.out] at e34
                  rw [HIn.out, HOut.out] at ot
                  rw [HOut.out] at o2
                  rw [HIn.out] at o3
                  have E1 : IntKind.u64.wrap (O0 + sm) = I0 := by rw [IntKind.wrap_u64]; omega
                  have E2 : IntKind.u64.wrap (s3 - s4) = L := by rw [IntKind.wrap_u64]; omega
                  have HS1 : Hid (sumE es 1 (-1) = I0) := HRel3.out.inn.symm.trans HIn.out
                  have HS2 : Hid (sumE es 2 (-1) = O0) := HRel3.out.out.symm.trans HOut.out
                  have HS3 := Lib.hid hs3
                  have HS4 := Lib.hid hs4
                  clear hs3 hs4 e34 ot o1 o2 o3 hsm ti HOi s80
                  go_wp2_with (go_at_call 16; (with_reducible refine (flows_V w.heap.size (w.heap.size + 1) I0 O0 S wr HLi.out HIn.out HOut.out).mono ?_); rintro e w6 ⟨rfl, hb6⟩; have HB6 := Lib.hid hb6; have hz6 := hb6.size; clear hb6)
                  have hb46 : Below w4.heap.size w4 w6 := hbi.trans (HB6.out.mono (by omega))
                  have hS : PS w4 w.heap.size wa.heap.size S es v w6 := ⟨by rw [hb46.cell (p := ⟨wa.heap.size, 0, none⟩) hvt]; exact HTC.out, by omega, hb46, ownsRow_below HOV.out hb46, HL4.out.kept hb46⟩
                  have hne : Nonempty (Held (PS w4 w.heap.size wa.heap.size S es v)) := ⟨⟨_, hS⟩⟩
                  have i0 : ∀ t : Held (PS w4 w.heap.size wa.heap.size S es v), t.w.cell? ⟨wa.heap.size, 0, none⟩ = some v := fun t => t.ok.1
                  refine wp_region_held (S := PS w4 w.heap.size wa.heap.size S es v) (by kernel_rfl) (by kernel_rfl) (psKeep _ _ hS (Below.refl _ _).drew) ?_
                  repeat (go_big_quiet_step (first
                      | (go_at_call 17; with_reducible exact held_call (sum_V (wa.heap.size + 1) es.length v es 1 (-1) I0 _ (ps_own _) rfl HEv.out HS1.out) psKeep)
                      | (go_at_call 17; with_reducible exact held_call (sum_V (wa.heap.size + 1) es.length v es 2 (-1) O0 _ (ps_own _) rfl HEv.out HS2.out) psKeep)
                      | (go_at_call 17; with_reducible exact held_call (sum_V (wa.heap.size + 1) es.length v es 3 (-1) s3 _ (ps_own _) rfl HEv.out HS3.out) psKeep)
                      | (go_at_call 17; with_reducible exact held_call (sum_V (wa.heap.size + 1) es.length v es 4 (-1) s4 _ (ps_own _) rfl HEv.out HS4.out) psKeep)
                      | (go_at_call 15; with_reducible exact held_same (locked_V w.heap.size (w.heap.size + 1) L S _ (ps_led _) HLk.out))))
                  refine wpQuiet_nil ?_
                  intro W hw'
                  obtain ⟨s6, hw'⟩ := hw'
                  have hSW : PS w4 w.heap.size wa.heap.size S es v W := by rw [hw']; exact s6.ok
                  have HSW := Lib.hid hSW
                  clear i0 hw' s6 hSW hS hne hb46
                  go_wp2
                  go_roundw
                  case rel => exact ⟨k + 1, S, es, by omega, by go_num, hes3, HRel3.out, HSW.out.2.2.2.2, HR4.out.below HSW.out.2.2.1, HB4.out.trans (HSW.out.2.2.1.mono (by omega)), HSW.out.2.1⟩
                  case measure => simp [intOf]; omega
          · as_aux_lemma =>
              have hbg : ev ≤ S.bal p := by omega
              have HBG := Lib.hid hbg
              have HDO := Lib.hid (show doE es ⟨2, (p : Int), eb, ev⟩ = (0, 0, es ++ [(⟨2, (p : Int), eb, ev⟩ : Ev)]) from dOut_ok HRel.out p eb ev hp hbg)
              clear hbig hbg
              obtain ⟨L, hL⟩ : ∃ L, (S.payOut p ev).lk = L := ⟨_, rfl⟩
              obtain ⟨I0, hI⟩ : ∃ x, (S.payOut p ev).inn = x := ⟨_, rfl⟩
              obtain ⟨O0, hO⟩ : ∃ x, (S.payOut p ev).out = x := ⟨_, rfl⟩
              have HLk := Lib.hid hL
              have HIn := Lib.hid hI
              have HOut := Lib.hid hO
              have HRel3 : Hid (Rel (S.payOut p ev) (es ++ [(⟨2, (p : Int), eb, ev⟩ : Ev)])) := HRel.out.payOut p eb ev hes hp hv0 HBG.out
              have hes3 : (es ++ [(⟨2, (p : Int), eb, ev⟩ : Ev)]).length ≤ k + 1 := by simp; omega
              clear hL hI hO
              go_wp2_with (first
                | (go_at_call 7; (with_reducible refine (payOut_V w.heap.size (w.heap.size + 1) p (p : Int) ev S (S.payOut p ev) _ HLA.out rfl hp hv0 HBG.out rfl HRel3.out.ok).mono ?_); rintro e w2 ⟨rfl, hL2, hk2⟩; have HL2 := Lib.hid hL2; have hz2 := hk2.below.size; (try simp at hz2); have HB2 : Hid (Below w.heap.size w w2) := hba.trans hk2.below; have HR2 := Lib.hid (HRA.out.kept hk2); have ho2 := rowIs_other HOO.out hk2 (by decide) (by decide); have p0 := (ho2.cell (i := 0) (by decide)).trans (congrArg some (evf0 _)); have p1 := (ho2.cell (i := 1) (by decide)).trans (congrArg some (evf1 _)); have p2 := (ho2.cell (i := 2) (by decide)).trans (congrArg some (evf2 _)); have p3 := (ho2.cell (i := 3) (by decide)).trans (congrArg some (evf3 _)); (simp only at p0 p1 p2 p3); clear hL2 hk2 ho2)
                | (go_at_call 13; (with_reducible refine (do_V wa.heap.size (wa.heap.size + 1) es (es ++ [(⟨2, (p : Int), eb, ev⟩ : Ev)]) 2 (p : Int) eb ev 0 0 _ HR2.out kd2 (by omega) (by omega) hv0 (by omega) hes (by rw [rbal HRel.out p hp]; exact HRel.out.nn p hp) (by rw [rbal HRel.out p hp]; exact HRel.out.bm p hp) HDO.out).mono ?_); rintro e w3 ⟨rfl, hR3, hk3⟩; have HR3 := Lib.hid hR3; have hz3 := hk3.below.size; (try simp at hz3); have HB3 : Hid (Below w.heap.size w w3) := HB2.out.trans (hk3.below.mono (by omega)); have HL3 : Hid (Led w3 w.heap.size (w.heap.size + 1) (S.payOut p ev)) := HL2.out.keptR hk3; clear hR3 hk3)
                | (go_at_call 14; (with_reducible refine (number18_nil w3).mono ?_); rintro e w4 ⟨rfl, hb4⟩; have HL4 : Hid (Led w4 w.heap.size (w.heap.size + 1) (S.payOut p ev)) := HL3.out.kept hb4; have HR4 : Hid (RL w4 wa.heap.size (wa.heap.size + 1) (es ++ [(⟨2, (p : Int), eb, ev⟩ : Ev)])) := HR3.out.below hb4; have hz4 := hb4.size; have HB4 : Hid (Below w.heap.size w w4) := HB3.out.trans (hb4.mono (by omega)); clear hb4)
                | (go_at_call 15; (with_reducible refine (locked_V w.heap.size (w.heap.size + 1) L (S.payOut p ev) w4 HL4.out HLk.out).mono ?_); rintro e w' ⟨rfl, rfl⟩))
              obtain ⟨v, hrv, hov⟩ := HR4.out.row
              have hvt := hrv.lt
              have HTC : Hid (w4.cell? ⟨wa.heap.size, 0, none⟩ = some v) := hrv.cell (by decide)
              have HOV := Lib.hid hov
              have HEv : Hid (Evs (es ++ [(⟨2, (p : Int), eb, ev⟩ : Ev)])) := HRel3.out.ev
              clear hrv hov
              go_loopw [13, 134] (fun sm i wr => ∃ q : Nat, q ≤ 8 ∧ i = .int .i64 q ∧ sm = .int .u64 (L + osum (S.payOut p ev).bal q) ∧ Below w4.heap.size w4 wr) (fun _ i _ => 8 - (intOf i).toNat)
              case atStart => exact ⟨0, by omega, rfl, by simp [osum], Below.refl _ _⟩
              case round =>
                obtain ⟨q, hq, rfl, rfl, hbi⟩ := hrel
                have hzi := hbi.size
                have HLi := Lib.hid (HL4.out.kept hbi)
                have HOi := Lib.hid (ownsRow_below HOV.out hbi)
                have ti : wr.cell? ⟨wa.heap.size, 0, none⟩ = some v := by rw [hbi.cell (p := ⟨wa.heap.size, 0, none⟩) hvt]; exact HTC.out
                have ob := osum_le (S.payOut p ev).bal HRel3.out.nn q 8 (by omega) hq
                rw [osum8] at ob
                have ot := HRel3.out.tot
                have o1 := HRel3.out.l0
                have o2 := HRel3.out.on
                have o3 := HRel3.out.im
                rw [HLk.out] at ot o1
                by_cases hlq : q < 8
                · have bq0 := HRel3.out.nn q hlq
                  have bq1 := HRel3.out.bm q hlq
                  have eo : Hid (osum (S.payOut p ev).bal (q + 1) = osum (S.payOut p ev).bal q + (S.payOut p ev).bal q) := rfl
                  obtain ⟨oq, hoq⟩ : ∃ x, x = osum (S.payOut p ev).bal q := ⟨_, rfl⟩
                  obtain ⟨bq, hbq⟩ : ∃ x, x = (S.payOut p ev).bal q := ⟨_, rfl⟩
                  have HBQ : Hid ((S.payOut p ev).bal q = bq) := hbq.symm
                  have HBE : Hid (balE (es ++ [(⟨2, (p : Int), eb, ev⟩ : Ev)]) (q : Int) = bq) := (rbal HRel3.out q hlq).trans hbq.symm
                  have HOQ := Lib.hid hoq
                  rw [← hoq] at ob ⊢
                  rw [← hbq] at bq0 bq1
                  have s1 : 0 ≤ L + oq := by omega
                  have s2 : L + oq ≤ 281474976710656 := by omega
                  clear ob ot hoq hbq o1 o2 o3
                  go_wp2_with (first
                    | (go_at_call 10; (with_reducible refine (balance_V w.heap.size (w.heap.size + 1) q (q : Int) bq (S.payOut p ev) wr HLi.out rfl hlq HBQ.out).mono ?_); rintro e w' ⟨rfl, rfl⟩)
                    | (go_at_call 12; (with_reducible refine (rbalance_V (wa.heap.size + 1) (es ++ [(⟨2, (p : Int), eb, ev⟩ : Ev)]).length v (es ++ [(⟨2, (p : Int), eb, ev⟩ : Ev)]) (q : Int) bq wr HOi.out rfl HEv.out HBE.out bq0).mono ?_); rintro e w5 ⟨rfl, hb5⟩))
                  go_roundw
                  case rel => exact ⟨q + 1, by omega, by go_num, by rw [eo.out, HBQ.out, ← HOQ.out]; go_num, hbi.trans (hb5.mono (by omega))⟩
                  case measure => simp [intOf]; omega
                · have hq8 : 8 = q := by omega
                  subst hq8
                  rw [osum8] at ob ⊢
                  have s80 := ob.1
                  clear hlq hq ob
                  obtain ⟨sm, hsm⟩ : ∃ x, x = L + sum8 (S.payOut p ev).bal := ⟨_, rfl⟩
                  rw [← hsm]
                  have HI0 : Hid ((S.payOut p ev).inn = I0) := HIn.out
                  obtain ⟨s3, hs3⟩ : ∃ x, sumE (es ++ [(⟨2, (p : Int), eb, ev⟩ : Ev)]) 3 (-1) = x := ⟨_, rfl⟩
                  obtain ⟨s4, hs4⟩ : ∃ x, sumE (es ++ [(⟨2, (p : Int), eb, ev⟩ : Ev)]) 4 (-1) = x := ⟨_, rfl⟩
                  have e34 := HRel3.out.lk
                  rw [hs3, hs4, HLk.out] at e34
                  rw [HIn.out, HOut.out] at ot
                  rw [HOut.out] at o2
                  rw [HIn.out] at o3
                  have E1 : IntKind.u64.wrap (O0 + sm) = I0 := by rw [IntKind.wrap_u64]; omega
                  have E2 : IntKind.u64.wrap (s3 - s4) = L := by rw [IntKind.wrap_u64]; omega
                  have HS1 : Hid (sumE (es ++ [(⟨2, (p : Int), eb, ev⟩ : Ev)]) 1 (-1) = I0) := HRel3.out.inn.symm.trans HIn.out
                  have HS2 : Hid (sumE (es ++ [(⟨2, (p : Int), eb, ev⟩ : Ev)]) 2 (-1) = O0) := HRel3.out.out.symm.trans HOut.out
                  have HS3 := Lib.hid hs3
                  have HS4 := Lib.hid hs4
                  clear hs3 hs4 e34 ot o1 o2 o3 hsm ti HOi s80
                  go_wp2_with (go_at_call 16; (with_reducible refine (flows_V w.heap.size (w.heap.size + 1) I0 O0 (S.payOut p ev) wr HLi.out HIn.out HOut.out).mono ?_); rintro e w6 ⟨rfl, hb6⟩; have HB6 := Lib.hid hb6; have hz6 := hb6.size; clear hb6)
                  have hb46 : Below w4.heap.size w4 w6 := hbi.trans (HB6.out.mono (by omega))
                  have hS : PS w4 w.heap.size wa.heap.size (S.payOut p ev) (es ++ [(⟨2, (p : Int), eb, ev⟩ : Ev)]) v w6 := ⟨by rw [hb46.cell (p := ⟨wa.heap.size, 0, none⟩) hvt]; exact HTC.out, by omega, hb46, ownsRow_below HOV.out hb46, HL4.out.kept hb46⟩
                  have hne : Nonempty (Held (PS w4 w.heap.size wa.heap.size (S.payOut p ev) (es ++ [(⟨2, (p : Int), eb, ev⟩ : Ev)]) v)) := ⟨⟨_, hS⟩⟩
                  have i0 : ∀ t : Held (PS w4 w.heap.size wa.heap.size (S.payOut p ev) (es ++ [(⟨2, (p : Int), eb, ev⟩ : Ev)]) v), t.w.cell? ⟨wa.heap.size, 0, none⟩ = some v := fun t => t.ok.1
                  refine wp_region_held (S := PS w4 w.heap.size wa.heap.size (S.payOut p ev) (es ++ [(⟨2, (p : Int), eb, ev⟩ : Ev)]) v) (by kernel_rfl) (by kernel_rfl) (psKeep _ _ hS (Below.refl _ _).drew) ?_
                  repeat (go_big_quiet_step (first
                      | (go_at_call 17; with_reducible exact held_call (sum_V (wa.heap.size + 1) (es ++ [(⟨2, (p : Int), eb, ev⟩ : Ev)]).length v (es ++ [(⟨2, (p : Int), eb, ev⟩ : Ev)]) 1 (-1) I0 _ (ps_own _) rfl HEv.out HS1.out) psKeep)
                      | (go_at_call 17; with_reducible exact held_call (sum_V (wa.heap.size + 1) (es ++ [(⟨2, (p : Int), eb, ev⟩ : Ev)]).length v (es ++ [(⟨2, (p : Int), eb, ev⟩ : Ev)]) 2 (-1) O0 _ (ps_own _) rfl HEv.out HS2.out) psKeep)
                      | (go_at_call 17; with_reducible exact held_call (sum_V (wa.heap.size + 1) (es ++ [(⟨2, (p : Int), eb, ev⟩ : Ev)]).length v (es ++ [(⟨2, (p : Int), eb, ev⟩ : Ev)]) 3 (-1) s3 _ (ps_own _) rfl HEv.out HS3.out) psKeep)
                      | (go_at_call 17; with_reducible exact held_call (sum_V (wa.heap.size + 1) (es ++ [(⟨2, (p : Int), eb, ev⟩ : Ev)]).length v (es ++ [(⟨2, (p : Int), eb, ev⟩ : Ev)]) 4 (-1) s4 _ (ps_own _) rfl HEv.out HS4.out) psKeep)
                      | (go_at_call 15; with_reducible exact held_same (locked_V w.heap.size (w.heap.size + 1) L (S.payOut p ev) _ (ps_led _) HLk.out))))
                  refine wpQuiet_nil ?_
                  intro W hw'
                  obtain ⟨s6, hw'⟩ := hw'
                  have hSW : PS w4 w.heap.size wa.heap.size (S.payOut p ev) (es ++ [(⟨2, (p : Int), eb, ev⟩ : Ev)]) v W := by rw [hw']; exact s6.ok
                  have HSW := Lib.hid hSW
                  clear i0 hw' s6 hSW hS hne hb46
                  go_wp2
                  go_roundw
                  case rel => exact ⟨k + 1, S.payOut p ev, es ++ [(⟨2, (p : Int), eb, ev⟩ : Ev)], by omega, by go_num, hes3, HRel3.out, HSW.out.2.2.2.2, HR4.out.below HSW.out.2.2.1, HB4.out.trans (HSW.out.2.2.1.mono (by omega)), HSW.out.2.1⟩
                  case measure => simp [intOf]; omega
      by_cases k3 : ek = 3
      · subst k3
        clear k1 k2
        by_cases hpb : ep < 0 ∨ 8 ≤ ep
        · as_aux_lemma =>
            have HPB := Lib.hid hpb
            clear hpb
            obtain ⟨L, hL⟩ : ∃ L, S.lk = L := ⟨_, rfl⟩
            obtain ⟨I0, hI⟩ : ∃ x, S.inn = x := ⟨_, rfl⟩
            obtain ⟨O0, hO⟩ : ∃ x, S.out = x := ⟨_, rfl⟩
            have HLk := Lib.hid hL
            have HIn := Lib.hid hI
            have HOut := Lib.hid hO
            have HRel3 : Hid (Rel S es) := HRel.out
            have hes3 : es.length ≤ k + 1 := by omega
            clear hL hI hO
            go_wp2_with (first
              | (go_at_call 8; (with_reducible refine (lock_bad w.heap.size ep ev _ HPB.out).mono ?_); rintro e w' ⟨rfl, rfl⟩)
              | (go_at_call 13; (with_reducible refine (do_bad wa.heap.size 3 ep eb ev _ HPB.out).mono ?_); rintro e w3 ⟨rfl, hb3⟩; have hz3 := hb3.size; (try simp at hz3); have HB3 : Hid (Below w.heap.size w w3) := hba.trans (hb3.mono (by simp; omega)); have HL3 : Hid (Led w3 w.heap.size (w.heap.size + 1) S) := HLA.out.kept hb3; have HR3 : Hid (RL w3 wa.heap.size (wa.heap.size + 1) es) := HRA.out.below hb3; clear hb3)
              | (go_at_call 14; (with_reducible refine (number18_num 2 w3 (Lib.hid (HE.out.below HB3.out))).mono ?_); rintro e w4 ⟨rfl, hb4⟩; have HL4 : Hid (Led w4 w.heap.size (w.heap.size + 1) S) := HL3.out.kept hb4; have HR4 : Hid (RL w4 wa.heap.size (wa.heap.size + 1) es) := HR3.out.below hb4; have hz4 := hb4.size; have HB4 : Hid (Below w.heap.size w w4) := HB3.out.trans (hb4.mono (by omega)); clear hb4)
              | (go_at_call 15; (with_reducible refine (locked_V w.heap.size (w.heap.size + 1) L S w4 HL4.out HLk.out).mono ?_); rintro e w' ⟨rfl, rfl⟩))
            obtain ⟨v, hrv, hov⟩ := HR4.out.row
            have hvt := hrv.lt
            have HTC : Hid (w4.cell? ⟨wa.heap.size, 0, none⟩ = some v) := hrv.cell (by decide)
            have HOV := Lib.hid hov
            have HEv : Hid (Evs es) := HRel3.out.ev
            clear hrv hov
            go_loopw [13, 134] (fun sm i wr => ∃ q : Nat, q ≤ 8 ∧ i = .int .i64 q ∧ sm = .int .u64 (L + osum S.bal q) ∧ Below w4.heap.size w4 wr) (fun _ i _ => 8 - (intOf i).toNat)
            case atStart => exact ⟨0, by omega, rfl, by simp [osum], Below.refl _ _⟩
            case round =>
              obtain ⟨q, hq, rfl, rfl, hbi⟩ := hrel
              have hzi := hbi.size
              have HLi := Lib.hid (HL4.out.kept hbi)
              have HOi := Lib.hid (ownsRow_below HOV.out hbi)
              have ti : wr.cell? ⟨wa.heap.size, 0, none⟩ = some v := by rw [hbi.cell (p := ⟨wa.heap.size, 0, none⟩) hvt]; exact HTC.out
              have ob := osum_le S.bal HRel3.out.nn q 8 (by omega) hq
              rw [osum8] at ob
              have ot := HRel3.out.tot
              have o1 := HRel3.out.l0
              have o2 := HRel3.out.on
              have o3 := HRel3.out.im
              rw [HLk.out] at ot o1
              by_cases hlq : q < 8
              · have bq0 := HRel3.out.nn q hlq
                have bq1 := HRel3.out.bm q hlq
                have eo : Hid (osum S.bal (q + 1) = osum S.bal q + S.bal q) := rfl
                obtain ⟨oq, hoq⟩ : ∃ x, x = osum S.bal q := ⟨_, rfl⟩
                obtain ⟨bq, hbq⟩ : ∃ x, x = S.bal q := ⟨_, rfl⟩
                have HBQ : Hid (S.bal q = bq) := hbq.symm
                have HBE : Hid (balE es (q : Int) = bq) := (rbal HRel3.out q hlq).trans hbq.symm
                have HOQ := Lib.hid hoq
                rw [← hoq] at ob ⊢
                rw [← hbq] at bq0 bq1
                have s1 : 0 ≤ L + oq := by omega
                have s2 : L + oq ≤ 281474976710656 := by omega
                clear ob ot hoq hbq o1 o2 o3
                go_wp2_with (first
                  | (go_at_call 10; (with_reducible refine (balance_V w.heap.size (w.heap.size + 1) q (q : Int) bq S wr HLi.out rfl hlq HBQ.out).mono ?_); rintro e w' ⟨rfl, rfl⟩)
                  | (go_at_call 12; (with_reducible refine (rbalance_V (wa.heap.size + 1) es.length v es (q : Int) bq wr HOi.out rfl HEv.out HBE.out bq0).mono ?_); rintro e w5 ⟨rfl, hb5⟩))
                go_roundw
                case rel => exact ⟨q + 1, by omega, by go_num, by rw [eo.out, HBQ.out, ← HOQ.out]; go_num, hbi.trans (hb5.mono (by omega))⟩
                case measure => simp [intOf]; omega
              · have hq8 : 8 = q := by omega
                subst hq8
                rw [osum8] at ob ⊢
                have s80 := ob.1
                clear hlq hq ob
                obtain ⟨sm, hsm⟩ : ∃ x, x = L + sum8 S.bal := ⟨_, rfl⟩
                rw [← hsm]
                have HI0 : Hid (S.inn = I0) := HIn.out
                obtain ⟨s3, hs3⟩ : ∃ x, sumE es 3 (-1) = x := ⟨_, rfl⟩
                obtain ⟨s4, hs4⟩ : ∃ x, sumE es 4 (-1) = x := ⟨_, rfl⟩
                have e34 := HRel3.out.lk
                rw [hs3, hs4, HLk.out] at e34
                rw [HIn.out, HOut.out] at ot
                rw [HOut.out] at o2
                rw [HIn.out] at o3
                have E1 : IntKind.u64.wrap (O0 + sm) = I0 := by rw [IntKind.wrap_u64]; omega
                have E2 : IntKind.u64.wrap (s3 - s4) = L := by rw [IntKind.wrap_u64]; omega
                have HS1 : Hid (sumE es 1 (-1) = I0) := HRel3.out.inn.symm.trans HIn.out
                have HS2 : Hid (sumE es 2 (-1) = O0) := HRel3.out.out.symm.trans HOut.out
                have HS3 := Lib.hid hs3
                have HS4 := Lib.hid hs4
                clear hs3 hs4 e34 ot o1 o2 o3 hsm ti HOi s80
                go_wp2_with (go_at_call 16; (with_reducible refine (flows_V w.heap.size (w.heap.size + 1) I0 O0 S wr HLi.out HIn.out HOut.out).mono ?_); rintro e w6 ⟨rfl, hb6⟩; have HB6 := Lib.hid hb6; have hz6 := hb6.size; clear hb6)
                have hb46 : Below w4.heap.size w4 w6 := hbi.trans (HB6.out.mono (by omega))
                have hS : PS w4 w.heap.size wa.heap.size S es v w6 := ⟨by rw [hb46.cell (p := ⟨wa.heap.size, 0, none⟩) hvt]; exact HTC.out, by omega, hb46, ownsRow_below HOV.out hb46, HL4.out.kept hb46⟩
                have hne : Nonempty (Held (PS w4 w.heap.size wa.heap.size S es v)) := ⟨⟨_, hS⟩⟩
                have i0 : ∀ t : Held (PS w4 w.heap.size wa.heap.size S es v), t.w.cell? ⟨wa.heap.size, 0, none⟩ = some v := fun t => t.ok.1
                refine wp_region_held (S := PS w4 w.heap.size wa.heap.size S es v) (by kernel_rfl) (by kernel_rfl) (psKeep _ _ hS (Below.refl _ _).drew) ?_
                repeat (go_big_quiet_step (first
                    | (go_at_call 17; with_reducible exact held_call (sum_V (wa.heap.size + 1) es.length v es 1 (-1) I0 _ (ps_own _) rfl HEv.out HS1.out) psKeep)
                    | (go_at_call 17; with_reducible exact held_call (sum_V (wa.heap.size + 1) es.length v es 2 (-1) O0 _ (ps_own _) rfl HEv.out HS2.out) psKeep)
                    | (go_at_call 17; with_reducible exact held_call (sum_V (wa.heap.size + 1) es.length v es 3 (-1) s3 _ (ps_own _) rfl HEv.out HS3.out) psKeep)
                    | (go_at_call 17; with_reducible exact held_call (sum_V (wa.heap.size + 1) es.length v es 4 (-1) s4 _ (ps_own _) rfl HEv.out HS4.out) psKeep)
                    | (go_at_call 15; with_reducible exact held_same (locked_V w.heap.size (w.heap.size + 1) L S _ (ps_led _) HLk.out))))
                refine wpQuiet_nil ?_
                intro W hw'
                obtain ⟨s6, hw'⟩ := hw'
                have hSW : PS w4 w.heap.size wa.heap.size S es v W := by rw [hw']; exact s6.ok
                have HSW := Lib.hid hSW
                clear i0 hw' s6 hSW hS hne hb46
                go_wp2
                go_roundw
                case rel => exact ⟨k + 1, S, es, by omega, by go_num, hes3, HRel3.out, HSW.out.2.2.2.2, HR4.out.below HSW.out.2.2.1, HB4.out.trans (HSW.out.2.2.1.mono (by omega)), HSW.out.2.1⟩
                case measure => simp [intOf]; omega
        · obtain ⟨p, rfl⟩ := Int.eq_ofNat_of_zero_le (show 0 ≤ ep by omega)
          have hp : p < 8 := by omega
          clear hpb
          by_cases hbig : S.bal p < ev
          · as_aux_lemma =>
              have HBG := Lib.hid hbig
              have HDO := Lib.hid (show doE es ⟨3, (p : Int), eb, ev⟩ = (0, 21, es) from dLock_few HRel.out p eb ev hp hbig)
              clear hbig
              obtain ⟨L, hL⟩ : ∃ L, S.lk = L := ⟨_, rfl⟩
              obtain ⟨I0, hI⟩ : ∃ x, S.inn = x := ⟨_, rfl⟩
              obtain ⟨O0, hO⟩ : ∃ x, S.out = x := ⟨_, rfl⟩
              have HLk := Lib.hid hL
              have HIn := Lib.hid hI
              have HOut := Lib.hid hO
              have HRel3 : Hid (Rel S es) := HRel.out
              have hes3 : es.length ≤ k + 1 := by omega
              clear hL hI hO
              go_wp2_with (first
                | (go_at_call 8; (with_reducible refine (lock_few w.heap.size (w.heap.size + 1) p ev S _ HLA.out hp HBG.out).mono ?_); rintro e w' ⟨rfl, rfl⟩)
                | (go_at_call 13; (with_reducible refine (do_V wa.heap.size (wa.heap.size + 1) es es 3 (p : Int) eb ev 0 21 _ HRA.out kd3 (by omega) (by omega) hv0 (by simp; omega) hes (by rw [rbal HRel.out p hp]; exact HRel.out.nn p hp) (by rw [rbal HRel.out p hp]; exact HRel.out.bm p hp) HDO.out).mono ?_); rintro e w3 ⟨rfl, hR3, hk3⟩; have HR3 := Lib.hid hR3; have hz3 := hk3.below.size; (try simp at hz3); have HB3 : Hid (Below w.heap.size w w3) := hba.trans (hk3.below.mono (by omega)); have HL3 : Hid (Led w3 w.heap.size (w.heap.size + 1) S) := HLA.out.keptR hk3; clear hR3 hk3)
                | (go_at_call 14; (with_reducible refine (number18_num 21 w3 (Lib.hid (HE.out.below HB3.out))).mono ?_); rintro e w4 ⟨rfl, hb4⟩; have HL4 : Hid (Led w4 w.heap.size (w.heap.size + 1) S) := HL3.out.kept hb4; have HR4 : Hid (RL w4 wa.heap.size (wa.heap.size + 1) es) := HR3.out.below hb4; have hz4 := hb4.size; have HB4 : Hid (Below w.heap.size w w4) := HB3.out.trans (hb4.mono (by omega)); clear hb4)
                | (go_at_call 15; (with_reducible refine (locked_V w.heap.size (w.heap.size + 1) L S w4 HL4.out HLk.out).mono ?_); rintro e w' ⟨rfl, rfl⟩))
              obtain ⟨v, hrv, hov⟩ := HR4.out.row
              have hvt := hrv.lt
              have HTC : Hid (w4.cell? ⟨wa.heap.size, 0, none⟩ = some v) := hrv.cell (by decide)
              have HOV := Lib.hid hov
              have HEv : Hid (Evs es) := HRel3.out.ev
              clear hrv hov
              go_loopw [13, 134] (fun sm i wr => ∃ q : Nat, q ≤ 8 ∧ i = .int .i64 q ∧ sm = .int .u64 (L + osum S.bal q) ∧ Below w4.heap.size w4 wr) (fun _ i _ => 8 - (intOf i).toNat)
              case atStart => exact ⟨0, by omega, rfl, by simp [osum], Below.refl _ _⟩
              case round =>
                obtain ⟨q, hq, rfl, rfl, hbi⟩ := hrel
                have hzi := hbi.size
                have HLi := Lib.hid (HL4.out.kept hbi)
                have HOi := Lib.hid (ownsRow_below HOV.out hbi)
                have ti : wr.cell? ⟨wa.heap.size, 0, none⟩ = some v := by rw [hbi.cell (p := ⟨wa.heap.size, 0, none⟩) hvt]; exact HTC.out
                have ob := osum_le S.bal HRel3.out.nn q 8 (by omega) hq
                rw [osum8] at ob
                have ot := HRel3.out.tot
                have o1 := HRel3.out.l0
                have o2 := HRel3.out.on
                have o3 := HRel3.out.im
                rw [HLk.out] at ot o1
                by_cases hlq : q < 8
                · have bq0 := HRel3.out.nn q hlq
                  have bq1 := HRel3.out.bm q hlq
                  have eo : Hid (osum S.bal (q + 1) = osum S.bal q + S.bal q) := rfl
                  obtain ⟨oq, hoq⟩ : ∃ x, x = osum S.bal q := ⟨_, rfl⟩
                  obtain ⟨bq, hbq⟩ : ∃ x, x = S.bal q := ⟨_, rfl⟩
                  have HBQ : Hid (S.bal q = bq) := hbq.symm
                  have HBE : Hid (balE es (q : Int) = bq) := (rbal HRel3.out q hlq).trans hbq.symm
                  have HOQ := Lib.hid hoq
                  rw [← hoq] at ob ⊢
                  rw [← hbq] at bq0 bq1
                  have s1 : 0 ≤ L + oq := by omega
                  have s2 : L + oq ≤ 281474976710656 := by omega
                  clear ob ot hoq hbq o1 o2 o3
                  go_wp2_with (first
                    | (go_at_call 10; (with_reducible refine (balance_V w.heap.size (w.heap.size + 1) q (q : Int) bq S wr HLi.out rfl hlq HBQ.out).mono ?_); rintro e w' ⟨rfl, rfl⟩)
                    | (go_at_call 12; (with_reducible refine (rbalance_V (wa.heap.size + 1) es.length v es (q : Int) bq wr HOi.out rfl HEv.out HBE.out bq0).mono ?_); rintro e w5 ⟨rfl, hb5⟩))
                  go_roundw
                  case rel => exact ⟨q + 1, by omega, by go_num, by rw [eo.out, HBQ.out, ← HOQ.out]; go_num, hbi.trans (hb5.mono (by omega))⟩
                  case measure => simp [intOf]; omega
                · have hq8 : 8 = q := by omega
                  subst hq8
                  rw [osum8] at ob ⊢
                  have s80 := ob.1
                  clear hlq hq ob
                  obtain ⟨sm, hsm⟩ : ∃ x, x = L + sum8 S.bal := ⟨_, rfl⟩
                  rw [← hsm]
                  have HI0 : Hid (S.inn = I0) := HIn.out
                  obtain ⟨s3, hs3⟩ : ∃ x, sumE es 3 (-1) = x := ⟨_, rfl⟩
                  obtain ⟨s4, hs4⟩ : ∃ x, sumE es 4 (-1) = x := ⟨_, rfl⟩
                  have e34 := HRel3.out.lk
                  rw [hs3, hs4, HLk.out] at e34
                  rw [HIn.out, HOut.out] at ot
                  rw [HOut.out] at o2
                  rw [HIn.out] at o3
                  have E1 : IntKind.u64.wrap (O0 + sm) = I0 := by rw [IntKind.wrap_u64]; omega
                  have E2 : IntKind.u64.wrap (s3 - s4) = L := by rw [IntKind.wrap_u64]; omega
                  have HS1 : Hid (sumE es 1 (-1) = I0) := HRel3.out.inn.symm.trans HIn.out
                  have HS2 : Hid (sumE es 2 (-1) = O0) := HRel3.out.out.symm.trans HOut.out
                  have HS3 := Lib.hid hs3
                  have HS4 := Lib.hid hs4
                  clear hs3 hs4 e34 ot o1 o2 o3 hsm ti HOi s80
                  go_wp2_with (go_at_call 16; (with_reducible refine (flows_V w.heap.size (w.heap.size + 1) I0 O0 S wr HLi.out HIn.out HOut.out).mono ?_); rintro e w6 ⟨rfl, hb6⟩; have HB6 := Lib.hid hb6; have hz6 := hb6.size; clear hb6)
                  have hb46 : Below w4.heap.size w4 w6 := hbi.trans (HB6.out.mono (by omega))
                  have hS : PS w4 w.heap.size wa.heap.size S es v w6 := ⟨by rw [hb46.cell (p := ⟨wa.heap.size, 0, none⟩) hvt]; exact HTC.out, by omega, hb46, ownsRow_below HOV.out hb46, HL4.out.kept hb46⟩
                  have hne : Nonempty (Held (PS w4 w.heap.size wa.heap.size S es v)) := ⟨⟨_, hS⟩⟩
                  have i0 : ∀ t : Held (PS w4 w.heap.size wa.heap.size S es v), t.w.cell? ⟨wa.heap.size, 0, none⟩ = some v := fun t => t.ok.1
                  refine wp_region_held (S := PS w4 w.heap.size wa.heap.size S es v) (by kernel_rfl) (by kernel_rfl) (psKeep _ _ hS (Below.refl _ _).drew) ?_
                  repeat (go_big_quiet_step (first
                      | (go_at_call 17; with_reducible exact held_call (sum_V (wa.heap.size + 1) es.length v es 1 (-1) I0 _ (ps_own _) rfl HEv.out HS1.out) psKeep)
                      | (go_at_call 17; with_reducible exact held_call (sum_V (wa.heap.size + 1) es.length v es 2 (-1) O0 _ (ps_own _) rfl HEv.out HS2.out) psKeep)
                      | (go_at_call 17; with_reducible exact held_call (sum_V (wa.heap.size + 1) es.length v es 3 (-1) s3 _ (ps_own _) rfl HEv.out HS3.out) psKeep)
                      | (go_at_call 17; with_reducible exact held_call (sum_V (wa.heap.size + 1) es.length v es 4 (-1) s4 _ (ps_own _) rfl HEv.out HS4.out) psKeep)
                      | (go_at_call 15; with_reducible exact held_same (locked_V w.heap.size (w.heap.size + 1) L S _ (ps_led _) HLk.out))))
                  refine wpQuiet_nil ?_
                  intro W hw'
                  obtain ⟨s6, hw'⟩ := hw'
                  have hSW : PS w4 w.heap.size wa.heap.size S es v W := by rw [hw']; exact s6.ok
                  have HSW := Lib.hid hSW
                  clear i0 hw' s6 hSW hS hne hb46
                  go_wp2
                  go_roundw
                  case rel => exact ⟨k + 1, S, es, by omega, by go_num, hes3, HRel3.out, HSW.out.2.2.2.2, HR4.out.below HSW.out.2.2.1, HB4.out.trans (HSW.out.2.2.1.mono (by omega)), HSW.out.2.1⟩
                  case measure => simp [intOf]; omega
          · as_aux_lemma =>
              have hbn : S.bonds.length < 200 := by have := scan_le 0 es; have := HRel.out.cnt 0; omega
              obtain ⟨NN, hNN⟩ : ∃ x, (S.bonds.length : Int) = x := ⟨_, rfl⟩
              have HNN := Lib.hid hNN
              have HBN := Lib.hid hbn
              have hbg : ev ≤ S.bal p := by omega
              have HBG := Lib.hid hbg
              have HDO := Lib.hid (show doE es ⟨3, (p : Int), eb, ev⟩ = (NN, 0, es ++ [(⟨3, (p : Int), eb, ev⟩ : Ev)]) from (hNN ▸ dLock_ok HRel.out p eb ev hp hbg))
              clear hbig hbg hNN hbn
              obtain ⟨L, hL⟩ : ∃ L, (S.lock p ev).lk = L := ⟨_, rfl⟩
              obtain ⟨I0, hI⟩ : ∃ x, (S.lock p ev).inn = x := ⟨_, rfl⟩
              obtain ⟨O0, hO⟩ : ∃ x, (S.lock p ev).out = x := ⟨_, rfl⟩
              have HLk := Lib.hid hL
              have HIn := Lib.hid hI
              have HOut := Lib.hid hO
              have HRel3 : Hid (Rel (S.lock p ev) (es ++ [(⟨3, (p : Int), eb, ev⟩ : Ev)])) := HRel.out.lock p eb ev hes hp hv0 HBG.out
              have hes3 : (es ++ [(⟨3, (p : Int), eb, ev⟩ : Ev)]).length ≤ k + 1 := by simp; omega
              clear hL hI hO
              go_wp2_with (first
                | (go_at_call 8; (with_reducible refine (lock_V w.heap.size (w.heap.size + 1) p (p : Int) ev NN S (S.lock p ev) _ HLA.out rfl hp hv0 HBG.out (by simp; omega) HBN.out HNN.out rfl HRel3.out.ok).mono ?_); rintro e w2 ⟨rfl, hL2, hk2⟩; have HL2 := Lib.hid hL2; have hz2 := hk2.below.size; (try simp at hz2); have HB2 : Hid (Below w.heap.size w w2) := hba.trans hk2.below; have HR2 := Lib.hid (HRA.out.kept hk2); have ho2 := rowIs_other HOO.out hk2 (by decide) (by decide); have p0 := (ho2.cell (i := 0) (by decide)).trans (congrArg some (evf0 _)); have p1 := (ho2.cell (i := 1) (by decide)).trans (congrArg some (evf1 _)); have p2 := (ho2.cell (i := 2) (by decide)).trans (congrArg some (evf2 _)); have p3 := (ho2.cell (i := 3) (by decide)).trans (congrArg some (evf3 _)); (simp only at p0 p1 p2 p3); clear hL2 hk2 ho2)
                | (go_at_call 13; (with_reducible refine (do_V wa.heap.size (wa.heap.size + 1) es (es ++ [(⟨3, (p : Int), eb, ev⟩ : Ev)]) 3 (p : Int) eb ev NN 0 _ HR2.out kd3 (by omega) (by omega) hv0 (by omega) hes (by rw [rbal HRel.out p hp]; exact HRel.out.nn p hp) (by rw [rbal HRel.out p hp]; exact HRel.out.bm p hp) HDO.out).mono ?_); rintro e w3 ⟨rfl, hR3, hk3⟩; have HR3 := Lib.hid hR3; have hz3 := hk3.below.size; (try simp at hz3); have HB3 : Hid (Below w.heap.size w w3) := HB2.out.trans (hk3.below.mono (by omega)); have HL3 : Hid (Led w3 w.heap.size (w.heap.size + 1) (S.lock p ev)) := HL2.out.keptR hk3; clear hR3 hk3)
                | (go_at_call 14; (with_reducible refine (number18_nil w3).mono ?_); rintro e w4 ⟨rfl, hb4⟩; have HL4 : Hid (Led w4 w.heap.size (w.heap.size + 1) (S.lock p ev)) := HL3.out.kept hb4; have HR4 : Hid (RL w4 wa.heap.size (wa.heap.size + 1) (es ++ [(⟨3, (p : Int), eb, ev⟩ : Ev)])) := HR3.out.below hb4; have hz4 := hb4.size; have HB4 : Hid (Below w.heap.size w w4) := HB3.out.trans (hb4.mono (by omega)); clear hb4)
                | (go_at_call 15; (with_reducible refine (locked_V w.heap.size (w.heap.size + 1) L (S.lock p ev) w4 HL4.out HLk.out).mono ?_); rintro e w' ⟨rfl, rfl⟩))
              obtain ⟨v, hrv, hov⟩ := HR4.out.row
              have hvt := hrv.lt
              have HTC : Hid (w4.cell? ⟨wa.heap.size, 0, none⟩ = some v) := hrv.cell (by decide)
              have HOV := Lib.hid hov
              have HEv : Hid (Evs (es ++ [(⟨3, (p : Int), eb, ev⟩ : Ev)])) := HRel3.out.ev
              clear hrv hov
              go_loopw [13, 134] (fun sm i wr => ∃ q : Nat, q ≤ 8 ∧ i = .int .i64 q ∧ sm = .int .u64 (L + osum (S.lock p ev).bal q) ∧ Below w4.heap.size w4 wr) (fun _ i _ => 8 - (intOf i).toNat)
              case atStart => exact ⟨0, by omega, rfl, by simp [osum], Below.refl _ _⟩
              case round =>
                obtain ⟨q, hq, rfl, rfl, hbi⟩ := hrel
                have hzi := hbi.size
                have HLi := Lib.hid (HL4.out.kept hbi)
                have HOi := Lib.hid (ownsRow_below HOV.out hbi)
                have ti : wr.cell? ⟨wa.heap.size, 0, none⟩ = some v := by rw [hbi.cell (p := ⟨wa.heap.size, 0, none⟩) hvt]; exact HTC.out
                have ob := osum_le (S.lock p ev).bal HRel3.out.nn q 8 (by omega) hq
                rw [osum8] at ob
                have ot := HRel3.out.tot
                have o1 := HRel3.out.l0
                have o2 := HRel3.out.on
                have o3 := HRel3.out.im
                rw [HLk.out] at ot o1
                by_cases hlq : q < 8
                · have bq0 := HRel3.out.nn q hlq
                  have bq1 := HRel3.out.bm q hlq
                  have eo : Hid (osum (S.lock p ev).bal (q + 1) = osum (S.lock p ev).bal q + (S.lock p ev).bal q) := rfl
                  obtain ⟨oq, hoq⟩ : ∃ x, x = osum (S.lock p ev).bal q := ⟨_, rfl⟩
                  obtain ⟨bq, hbq⟩ : ∃ x, x = (S.lock p ev).bal q := ⟨_, rfl⟩
                  have HBQ : Hid ((S.lock p ev).bal q = bq) := hbq.symm
                  have HBE : Hid (balE (es ++ [(⟨3, (p : Int), eb, ev⟩ : Ev)]) (q : Int) = bq) := (rbal HRel3.out q hlq).trans hbq.symm
                  have HOQ := Lib.hid hoq
                  rw [← hoq] at ob ⊢
                  rw [← hbq] at bq0 bq1
                  have s1 : 0 ≤ L + oq := by omega
                  have s2 : L + oq ≤ 281474976710656 := by omega
                  clear ob ot hoq hbq o1 o2 o3
                  go_wp2_with (first
                    | (go_at_call 10; (with_reducible refine (balance_V w.heap.size (w.heap.size + 1) q (q : Int) bq (S.lock p ev) wr HLi.out rfl hlq HBQ.out).mono ?_); rintro e w' ⟨rfl, rfl⟩)
                    | (go_at_call 12; (with_reducible refine (rbalance_V (wa.heap.size + 1) (es ++ [(⟨3, (p : Int), eb, ev⟩ : Ev)]).length v (es ++ [(⟨3, (p : Int), eb, ev⟩ : Ev)]) (q : Int) bq wr HOi.out rfl HEv.out HBE.out bq0).mono ?_); rintro e w5 ⟨rfl, hb5⟩))
                  go_roundw
                  case rel => exact ⟨q + 1, by omega, by go_num, by rw [eo.out, HBQ.out, ← HOQ.out]; go_num, hbi.trans (hb5.mono (by omega))⟩
                  case measure => simp [intOf]; omega
                · have hq8 : 8 = q := by omega
                  subst hq8
                  rw [osum8] at ob ⊢
                  have s80 := ob.1
                  clear hlq hq ob
                  obtain ⟨sm, hsm⟩ : ∃ x, x = L + sum8 (S.lock p ev).bal := ⟨_, rfl⟩
                  rw [← hsm]
                  have HI0 : Hid ((S.lock p ev).inn = I0) := HIn.out
                  obtain ⟨s3, hs3⟩ : ∃ x, sumE (es ++ [(⟨3, (p : Int), eb, ev⟩ : Ev)]) 3 (-1) = x := ⟨_, rfl⟩
                  obtain ⟨s4, hs4⟩ : ∃ x, sumE (es ++ [(⟨3, (p : Int), eb, ev⟩ : Ev)]) 4 (-1) = x := ⟨_, rfl⟩
                  have e34 := HRel3.out.lk
                  rw [hs3, hs4, HLk.out] at e34
                  rw [HIn.out, HOut.out] at ot
                  rw [HOut.out] at o2
                  rw [HIn.out] at o3
                  have E1 : IntKind.u64.wrap (O0 + sm) = I0 := by rw [IntKind.wrap_u64]; omega
                  have E2 : IntKind.u64.wrap (s3 - s4) = L := by rw [IntKind.wrap_u64]; omega
                  have HS1 : Hid (sumE (es ++ [(⟨3, (p : Int), eb, ev⟩ : Ev)]) 1 (-1) = I0) := HRel3.out.inn.symm.trans HIn.out
                  have HS2 : Hid (sumE (es ++ [(⟨3, (p : Int), eb, ev⟩ : Ev)]) 2 (-1) = O0) := HRel3.out.out.symm.trans HOut.out
                  have HS3 := Lib.hid hs3
                  have HS4 := Lib.hid hs4
                  clear hs3 hs4 e34 ot o1 o2 o3 hsm ti HOi s80
                  go_wp2_with (go_at_call 16; (with_reducible refine (flows_V w.heap.size (w.heap.size + 1) I0 O0 (S.lock p ev) wr HLi.out HIn.out HOut.out).mono ?_); rintro e w6 ⟨rfl, hb6⟩; have HB6 := Lib.hid hb6; have hz6 := hb6.size; clear hb6)
                  have hb46 : Below w4.heap.size w4 w6 := hbi.trans (HB6.out.mono (by omega))
                  have hS : PS w4 w.heap.size wa.heap.size (S.lock p ev) (es ++ [(⟨3, (p : Int), eb, ev⟩ : Ev)]) v w6 := ⟨by rw [hb46.cell (p := ⟨wa.heap.size, 0, none⟩) hvt]; exact HTC.out, by omega, hb46, ownsRow_below HOV.out hb46, HL4.out.kept hb46⟩
                  have hne : Nonempty (Held (PS w4 w.heap.size wa.heap.size (S.lock p ev) (es ++ [(⟨3, (p : Int), eb, ev⟩ : Ev)]) v)) := ⟨⟨_, hS⟩⟩
                  have i0 : ∀ t : Held (PS w4 w.heap.size wa.heap.size (S.lock p ev) (es ++ [(⟨3, (p : Int), eb, ev⟩ : Ev)]) v), t.w.cell? ⟨wa.heap.size, 0, none⟩ = some v := fun t => t.ok.1
                  refine wp_region_held (S := PS w4 w.heap.size wa.heap.size (S.lock p ev) (es ++ [(⟨3, (p : Int), eb, ev⟩ : Ev)]) v) (by kernel_rfl) (by kernel_rfl) (psKeep _ _ hS (Below.refl _ _).drew) ?_
                  repeat (go_big_quiet_step (first
                      | (go_at_call 17; with_reducible exact held_call (sum_V (wa.heap.size + 1) (es ++ [(⟨3, (p : Int), eb, ev⟩ : Ev)]).length v (es ++ [(⟨3, (p : Int), eb, ev⟩ : Ev)]) 1 (-1) I0 _ (ps_own _) rfl HEv.out HS1.out) psKeep)
                      | (go_at_call 17; with_reducible exact held_call (sum_V (wa.heap.size + 1) (es ++ [(⟨3, (p : Int), eb, ev⟩ : Ev)]).length v (es ++ [(⟨3, (p : Int), eb, ev⟩ : Ev)]) 2 (-1) O0 _ (ps_own _) rfl HEv.out HS2.out) psKeep)
                      | (go_at_call 17; with_reducible exact held_call (sum_V (wa.heap.size + 1) (es ++ [(⟨3, (p : Int), eb, ev⟩ : Ev)]).length v (es ++ [(⟨3, (p : Int), eb, ev⟩ : Ev)]) 3 (-1) s3 _ (ps_own _) rfl HEv.out HS3.out) psKeep)
                      | (go_at_call 17; with_reducible exact held_call (sum_V (wa.heap.size + 1) (es ++ [(⟨3, (p : Int), eb, ev⟩ : Ev)]).length v (es ++ [(⟨3, (p : Int), eb, ev⟩ : Ev)]) 4 (-1) s4 _ (ps_own _) rfl HEv.out HS4.out) psKeep)
                      | (go_at_call 15; with_reducible exact held_same (locked_V w.heap.size (w.heap.size + 1) L (S.lock p ev) _ (ps_led _) HLk.out))))
                  refine wpQuiet_nil ?_
                  intro W hw'
                  obtain ⟨s6, hw'⟩ := hw'
                  have hSW : PS w4 w.heap.size wa.heap.size (S.lock p ev) (es ++ [(⟨3, (p : Int), eb, ev⟩ : Ev)]) v W := by rw [hw']; exact s6.ok
                  have HSW := Lib.hid hSW
                  clear i0 hw' s6 hSW hS hne hb46
                  go_wp2
                  go_roundw
                  case rel => exact ⟨k + 1, S.lock p ev, es ++ [(⟨3, (p : Int), eb, ev⟩ : Ev)], by omega, by go_num, hes3, HRel3.out, HSW.out.2.2.2.2, HR4.out.below HSW.out.2.2.1, HB4.out.trans (HSW.out.2.2.1.mono (by omega)), HSW.out.2.1⟩
                  case measure => simp [intOf]; omega
      by_cases k4 : ek = 4
      · subst k4
        clear k1 k2 k3
        by_cases hpb : ep < 0 ∨ 8 ≤ ep
        · as_aux_lemma =>
            have HPB := Lib.hid hpb
            clear hpb
            obtain ⟨L, hL⟩ : ∃ L, S.lk = L := ⟨_, rfl⟩
            obtain ⟨I0, hI⟩ : ∃ x, S.inn = x := ⟨_, rfl⟩
            obtain ⟨O0, hO⟩ : ∃ x, S.out = x := ⟨_, rfl⟩
            have HLk := Lib.hid hL
            have HIn := Lib.hid hI
            have HOut := Lib.hid hO
            have HRel3 : Hid (Rel S es) := HRel.out
            have hes3 : es.length ≤ k + 1 := by omega
            clear hL hI hO
            go_wp2_with (first
              | (go_at_call 9; (with_reducible refine (give_bad w.heap.size eb ep _ HPB.out).mono ?_); rintro e w' ⟨rfl, rfl⟩)
              | (go_at_call 13; (with_reducible refine (do_bad wa.heap.size 4 ep eb ev _ HPB.out).mono ?_); rintro e w3 ⟨rfl, hb3⟩; have hz3 := hb3.size; (try simp at hz3); have HB3 : Hid (Below w.heap.size w w3) := hba.trans (hb3.mono (by simp; omega)); have HL3 : Hid (Led w3 w.heap.size (w.heap.size + 1) S) := HLA.out.kept hb3; have HR3 : Hid (RL w3 wa.heap.size (wa.heap.size + 1) es) := HRA.out.below hb3; clear hb3)
              | (go_at_call 14; (with_reducible refine (number18_num 2 w3 (Lib.hid (HE.out.below HB3.out))).mono ?_); rintro e w4 ⟨rfl, hb4⟩; have HL4 : Hid (Led w4 w.heap.size (w.heap.size + 1) S) := HL3.out.kept hb4; have HR4 : Hid (RL w4 wa.heap.size (wa.heap.size + 1) es) := HR3.out.below hb4; have hz4 := hb4.size; have HB4 : Hid (Below w.heap.size w w4) := HB3.out.trans (hb4.mono (by omega)); clear hb4)
              | (go_at_call 15; (with_reducible refine (locked_V w.heap.size (w.heap.size + 1) L S w4 HL4.out HLk.out).mono ?_); rintro e w' ⟨rfl, rfl⟩))
            obtain ⟨v, hrv, hov⟩ := HR4.out.row
            have hvt := hrv.lt
            have HTC : Hid (w4.cell? ⟨wa.heap.size, 0, none⟩ = some v) := hrv.cell (by decide)
            have HOV := Lib.hid hov
            have HEv : Hid (Evs es) := HRel3.out.ev
            clear hrv hov
            go_loopw [13, 134] (fun sm i wr => ∃ q : Nat, q ≤ 8 ∧ i = .int .i64 q ∧ sm = .int .u64 (L + osum S.bal q) ∧ Below w4.heap.size w4 wr) (fun _ i _ => 8 - (intOf i).toNat)
            case atStart => exact ⟨0, by omega, rfl, by simp [osum], Below.refl _ _⟩
            case round =>
              obtain ⟨q, hq, rfl, rfl, hbi⟩ := hrel
              have hzi := hbi.size
              have HLi := Lib.hid (HL4.out.kept hbi)
              have HOi := Lib.hid (ownsRow_below HOV.out hbi)
              have ti : wr.cell? ⟨wa.heap.size, 0, none⟩ = some v := by rw [hbi.cell (p := ⟨wa.heap.size, 0, none⟩) hvt]; exact HTC.out
              have ob := osum_le S.bal HRel3.out.nn q 8 (by omega) hq
              rw [osum8] at ob
              have ot := HRel3.out.tot
              have o1 := HRel3.out.l0
              have o2 := HRel3.out.on
              have o3 := HRel3.out.im
              rw [HLk.out] at ot o1
              by_cases hlq : q < 8
              · have bq0 := HRel3.out.nn q hlq
                have bq1 := HRel3.out.bm q hlq
                have eo : Hid (osum S.bal (q + 1) = osum S.bal q + S.bal q) := rfl
                obtain ⟨oq, hoq⟩ : ∃ x, x = osum S.bal q := ⟨_, rfl⟩
                obtain ⟨bq, hbq⟩ : ∃ x, x = S.bal q := ⟨_, rfl⟩
                have HBQ : Hid (S.bal q = bq) := hbq.symm
                have HBE : Hid (balE es (q : Int) = bq) := (rbal HRel3.out q hlq).trans hbq.symm
                have HOQ := Lib.hid hoq
                rw [← hoq] at ob ⊢
                rw [← hbq] at bq0 bq1
                have s1 : 0 ≤ L + oq := by omega
                have s2 : L + oq ≤ 281474976710656 := by omega
                clear ob ot hoq hbq o1 o2 o3
                go_wp2_with (first
                  | (go_at_call 10; (with_reducible refine (balance_V w.heap.size (w.heap.size + 1) q (q : Int) bq S wr HLi.out rfl hlq HBQ.out).mono ?_); rintro e w' ⟨rfl, rfl⟩)
                  | (go_at_call 12; (with_reducible refine (rbalance_V (wa.heap.size + 1) es.length v es (q : Int) bq wr HOi.out rfl HEv.out HBE.out bq0).mono ?_); rintro e w5 ⟨rfl, hb5⟩))
                go_roundw
                case rel => exact ⟨q + 1, by omega, by go_num, by rw [eo.out, HBQ.out, ← HOQ.out]; go_num, hbi.trans (hb5.mono (by omega))⟩
                case measure => simp [intOf]; omega
              · have hq8 : 8 = q := by omega
                subst hq8
                rw [osum8] at ob ⊢
                have s80 := ob.1
                clear hlq hq ob
                obtain ⟨sm, hsm⟩ : ∃ x, x = L + sum8 S.bal := ⟨_, rfl⟩
                rw [← hsm]
                have HI0 : Hid (S.inn = I0) := HIn.out
                obtain ⟨s3, hs3⟩ : ∃ x, sumE es 3 (-1) = x := ⟨_, rfl⟩
                obtain ⟨s4, hs4⟩ : ∃ x, sumE es 4 (-1) = x := ⟨_, rfl⟩
                have e34 := HRel3.out.lk
                rw [hs3, hs4, HLk.out] at e34
                rw [HIn.out, HOut.out] at ot
                rw [HOut.out] at o2
                rw [HIn.out] at o3
                have E1 : IntKind.u64.wrap (O0 + sm) = I0 := by rw [IntKind.wrap_u64]; omega
                have E2 : IntKind.u64.wrap (s3 - s4) = L := by rw [IntKind.wrap_u64]; omega
                have HS1 : Hid (sumE es 1 (-1) = I0) := HRel3.out.inn.symm.trans HIn.out
                have HS2 : Hid (sumE es 2 (-1) = O0) := HRel3.out.out.symm.trans HOut.out
                have HS3 := Lib.hid hs3
                have HS4 := Lib.hid hs4
                clear hs3 hs4 e34 ot o1 o2 o3 hsm ti HOi s80
                go_wp2_with (go_at_call 16; (with_reducible refine (flows_V w.heap.size (w.heap.size + 1) I0 O0 S wr HLi.out HIn.out HOut.out).mono ?_); rintro e w6 ⟨rfl, hb6⟩; have HB6 := Lib.hid hb6; have hz6 := hb6.size; clear hb6)
                have hb46 : Below w4.heap.size w4 w6 := hbi.trans (HB6.out.mono (by omega))
                have hS : PS w4 w.heap.size wa.heap.size S es v w6 := ⟨by rw [hb46.cell (p := ⟨wa.heap.size, 0, none⟩) hvt]; exact HTC.out, by omega, hb46, ownsRow_below HOV.out hb46, HL4.out.kept hb46⟩
                have hne : Nonempty (Held (PS w4 w.heap.size wa.heap.size S es v)) := ⟨⟨_, hS⟩⟩
                have i0 : ∀ t : Held (PS w4 w.heap.size wa.heap.size S es v), t.w.cell? ⟨wa.heap.size, 0, none⟩ = some v := fun t => t.ok.1
                refine wp_region_held (S := PS w4 w.heap.size wa.heap.size S es v) (by kernel_rfl) (by kernel_rfl) (psKeep _ _ hS (Below.refl _ _).drew) ?_
                repeat (go_big_quiet_step (first
                    | (go_at_call 17; with_reducible exact held_call (sum_V (wa.heap.size + 1) es.length v es 1 (-1) I0 _ (ps_own _) rfl HEv.out HS1.out) psKeep)
                    | (go_at_call 17; with_reducible exact held_call (sum_V (wa.heap.size + 1) es.length v es 2 (-1) O0 _ (ps_own _) rfl HEv.out HS2.out) psKeep)
                    | (go_at_call 17; with_reducible exact held_call (sum_V (wa.heap.size + 1) es.length v es 3 (-1) s3 _ (ps_own _) rfl HEv.out HS3.out) psKeep)
                    | (go_at_call 17; with_reducible exact held_call (sum_V (wa.heap.size + 1) es.length v es 4 (-1) s4 _ (ps_own _) rfl HEv.out HS4.out) psKeep)
                    | (go_at_call 15; with_reducible exact held_same (locked_V w.heap.size (w.heap.size + 1) L S _ (ps_led _) HLk.out))))
                refine wpQuiet_nil ?_
                intro W hw'
                obtain ⟨s6, hw'⟩ := hw'
                have hSW : PS w4 w.heap.size wa.heap.size S es v W := by rw [hw']; exact s6.ok
                have HSW := Lib.hid hSW
                clear i0 hw' s6 hSW hS hne hb46
                go_wp2
                go_roundw
                case rel => exact ⟨k + 1, S, es, by omega, by go_num, hes3, HRel3.out, HSW.out.2.2.2.2, HR4.out.below HSW.out.2.2.1, HB4.out.trans (HSW.out.2.2.1.mono (by omega)), HSW.out.2.1⟩
                case measure => simp [intOf]; omega
        · obtain ⟨p, rfl⟩ := Int.eq_ofNat_of_zero_le (show 0 ≤ ep by omega)
          have hp : p < 8 := by omega
          clear hpb
          by_cases hbig : eb < 0 ∨ (S.bonds.length : Int) ≤ eb
          · as_aux_lemma =>
              have HBG := Lib.hid hbig
              have HDO := Lib.hid (show doE es ⟨4, (p : Int), eb, ev⟩ = (0, 4, es) from dGive_none HRel.out p eb ev hbig)
              clear hbig
              obtain ⟨L, hL⟩ : ∃ L, S.lk = L := ⟨_, rfl⟩
              obtain ⟨I0, hI⟩ : ∃ x, S.inn = x := ⟨_, rfl⟩
              obtain ⟨O0, hO⟩ : ∃ x, S.out = x := ⟨_, rfl⟩
              have HLk := Lib.hid hL
              have HIn := Lib.hid hI
              have HOut := Lib.hid hO
              have HRel3 : Hid (Rel S es) := HRel.out
              have hes3 : es.length ≤ k + 1 := by omega
              clear hL hI hO
              go_wp2_with (first
                | (go_at_call 9; (with_reducible refine (give_none w.heap.size (w.heap.size + 1) p eb S _ HLA.out hp HBG.out).mono ?_); rintro e w' ⟨rfl, rfl⟩)
                | (go_at_call 13; (with_reducible refine (do_V wa.heap.size (wa.heap.size + 1) es es 4 (p : Int) eb ev 0 4 _ HRA.out kd4 (by omega) (by omega) hv0 (by simp; omega) hes (by rw [rbal HRel.out p hp]; exact HRel.out.nn p hp) (by rw [rbal HRel.out p hp]; exact HRel.out.bm p hp) HDO.out).mono ?_); rintro e w3 ⟨rfl, hR3, hk3⟩; have HR3 := Lib.hid hR3; have hz3 := hk3.below.size; (try simp at hz3); have HB3 : Hid (Below w.heap.size w w3) := hba.trans (hk3.below.mono (by omega)); have HL3 : Hid (Led w3 w.heap.size (w.heap.size + 1) S) := HLA.out.keptR hk3; clear hR3 hk3)
                | (go_at_call 14; (with_reducible refine (number18_num 4 w3 (Lib.hid (HE.out.below HB3.out))).mono ?_); rintro e w4 ⟨rfl, hb4⟩; have HL4 : Hid (Led w4 w.heap.size (w.heap.size + 1) S) := HL3.out.kept hb4; have HR4 : Hid (RL w4 wa.heap.size (wa.heap.size + 1) es) := HR3.out.below hb4; have hz4 := hb4.size; have HB4 : Hid (Below w.heap.size w w4) := HB3.out.trans (hb4.mono (by omega)); clear hb4)
                | (go_at_call 15; (with_reducible refine (locked_V w.heap.size (w.heap.size + 1) L S w4 HL4.out HLk.out).mono ?_); rintro e w' ⟨rfl, rfl⟩))
              obtain ⟨v, hrv, hov⟩ := HR4.out.row
              have hvt := hrv.lt
              have HTC : Hid (w4.cell? ⟨wa.heap.size, 0, none⟩ = some v) := hrv.cell (by decide)
              have HOV := Lib.hid hov
              have HEv : Hid (Evs es) := HRel3.out.ev
              clear hrv hov
              go_loopw [13, 134] (fun sm i wr => ∃ q : Nat, q ≤ 8 ∧ i = .int .i64 q ∧ sm = .int .u64 (L + osum S.bal q) ∧ Below w4.heap.size w4 wr) (fun _ i _ => 8 - (intOf i).toNat)
              case atStart => exact ⟨0, by omega, rfl, by simp [osum], Below.refl _ _⟩
              case round =>
                obtain ⟨q, hq, rfl, rfl, hbi⟩ := hrel
                have hzi := hbi.size
                have HLi := Lib.hid (HL4.out.kept hbi)
                have HOi := Lib.hid (ownsRow_below HOV.out hbi)
                have ti : wr.cell? ⟨wa.heap.size, 0, none⟩ = some v := by rw [hbi.cell (p := ⟨wa.heap.size, 0, none⟩) hvt]; exact HTC.out
                have ob := osum_le S.bal HRel3.out.nn q 8 (by omega) hq
                rw [osum8] at ob
                have ot := HRel3.out.tot
                have o1 := HRel3.out.l0
                have o2 := HRel3.out.on
                have o3 := HRel3.out.im
                rw [HLk.out] at ot o1
                by_cases hlq : q < 8
                · have bq0 := HRel3.out.nn q hlq
                  have bq1 := HRel3.out.bm q hlq
                  have eo : Hid (osum S.bal (q + 1) = osum S.bal q + S.bal q) := rfl
                  obtain ⟨oq, hoq⟩ : ∃ x, x = osum S.bal q := ⟨_, rfl⟩
                  obtain ⟨bq, hbq⟩ : ∃ x, x = S.bal q := ⟨_, rfl⟩
                  have HBQ : Hid (S.bal q = bq) := hbq.symm
                  have HBE : Hid (balE es (q : Int) = bq) := (rbal HRel3.out q hlq).trans hbq.symm
                  have HOQ := Lib.hid hoq
                  rw [← hoq] at ob ⊢
                  rw [← hbq] at bq0 bq1
                  have s1 : 0 ≤ L + oq := by omega
                  have s2 : L + oq ≤ 281474976710656 := by omega
                  clear ob ot hoq hbq o1 o2 o3
                  go_wp2_with (first
                    | (go_at_call 10; (with_reducible refine (balance_V w.heap.size (w.heap.size + 1) q (q : Int) bq S wr HLi.out rfl hlq HBQ.out).mono ?_); rintro e w' ⟨rfl, rfl⟩)
                    | (go_at_call 12; (with_reducible refine (rbalance_V (wa.heap.size + 1) es.length v es (q : Int) bq wr HOi.out rfl HEv.out HBE.out bq0).mono ?_); rintro e w5 ⟨rfl, hb5⟩))
                  go_roundw
                  case rel => exact ⟨q + 1, by omega, by go_num, by rw [eo.out, HBQ.out, ← HOQ.out]; go_num, hbi.trans (hb5.mono (by omega))⟩
                  case measure => simp [intOf]; omega
                · have hq8 : 8 = q := by omega
                  subst hq8
                  rw [osum8] at ob ⊢
                  have s80 := ob.1
                  clear hlq hq ob
                  obtain ⟨sm, hsm⟩ : ∃ x, x = L + sum8 S.bal := ⟨_, rfl⟩
                  rw [← hsm]
                  have HI0 : Hid (S.inn = I0) := HIn.out
                  obtain ⟨s3, hs3⟩ : ∃ x, sumE es 3 (-1) = x := ⟨_, rfl⟩
                  obtain ⟨s4, hs4⟩ : ∃ x, sumE es 4 (-1) = x := ⟨_, rfl⟩
                  have e34 := HRel3.out.lk
                  rw [hs3, hs4, HLk.out] at e34
                  rw [HIn.out, HOut.out] at ot
                  rw [HOut.out] at o2
                  rw [HIn.out] at o3
                  have E1 : IntKind.u64.wrap (O0 + sm) = I0 := by rw [IntKind.wrap_u64]; omega
                  have E2 : IntKind.u64.wrap (s3 - s4) = L := by rw [IntKind.wrap_u64]; omega
                  have HS1 : Hid (sumE es 1 (-1) = I0) := HRel3.out.inn.symm.trans HIn.out
                  have HS2 : Hid (sumE es 2 (-1) = O0) := HRel3.out.out.symm.trans HOut.out
                  have HS3 := Lib.hid hs3
                  have HS4 := Lib.hid hs4
                  clear hs3 hs4 e34 ot o1 o2 o3 hsm ti HOi s80
                  go_wp2_with (go_at_call 16; (with_reducible refine (flows_V w.heap.size (w.heap.size + 1) I0 O0 S wr HLi.out HIn.out HOut.out).mono ?_); rintro e w6 ⟨rfl, hb6⟩; have HB6 := Lib.hid hb6; have hz6 := hb6.size; clear hb6)
                  have hb46 : Below w4.heap.size w4 w6 := hbi.trans (HB6.out.mono (by omega))
                  have hS : PS w4 w.heap.size wa.heap.size S es v w6 := ⟨by rw [hb46.cell (p := ⟨wa.heap.size, 0, none⟩) hvt]; exact HTC.out, by omega, hb46, ownsRow_below HOV.out hb46, HL4.out.kept hb46⟩
                  have hne : Nonempty (Held (PS w4 w.heap.size wa.heap.size S es v)) := ⟨⟨_, hS⟩⟩
                  have i0 : ∀ t : Held (PS w4 w.heap.size wa.heap.size S es v), t.w.cell? ⟨wa.heap.size, 0, none⟩ = some v := fun t => t.ok.1
                  refine wp_region_held (S := PS w4 w.heap.size wa.heap.size S es v) (by kernel_rfl) (by kernel_rfl) (psKeep _ _ hS (Below.refl _ _).drew) ?_
                  repeat (go_big_quiet_step (first
                      | (go_at_call 17; with_reducible exact held_call (sum_V (wa.heap.size + 1) es.length v es 1 (-1) I0 _ (ps_own _) rfl HEv.out HS1.out) psKeep)
                      | (go_at_call 17; with_reducible exact held_call (sum_V (wa.heap.size + 1) es.length v es 2 (-1) O0 _ (ps_own _) rfl HEv.out HS2.out) psKeep)
                      | (go_at_call 17; with_reducible exact held_call (sum_V (wa.heap.size + 1) es.length v es 3 (-1) s3 _ (ps_own _) rfl HEv.out HS3.out) psKeep)
                      | (go_at_call 17; with_reducible exact held_call (sum_V (wa.heap.size + 1) es.length v es 4 (-1) s4 _ (ps_own _) rfl HEv.out HS4.out) psKeep)
                      | (go_at_call 15; with_reducible exact held_same (locked_V w.heap.size (w.heap.size + 1) L S _ (ps_led _) HLk.out))))
                  refine wpQuiet_nil ?_
                  intro W hw'
                  obtain ⟨s6, hw'⟩ := hw'
                  have hSW : PS w4 w.heap.size wa.heap.size S es v W := by rw [hw']; exact s6.ok
                  have HSW := Lib.hid hSW
                  clear i0 hw' s6 hSW hS hne hb46
                  go_wp2
                  go_roundw
                  case rel => exact ⟨k + 1, S, es, by omega, by go_num, hes3, HRel3.out, HSW.out.2.2.2.2, HR4.out.below HSW.out.2.2.1, HB4.out.trans (HSW.out.2.2.1.mono (by omega)), HSW.out.2.1⟩
                  case measure => simp [intOf]; omega
          · obtain ⟨n, rfl⟩ := Int.eq_ofNat_of_zero_le (show 0 ≤ eb by omega)
            have hnl : n < S.bonds.length := by omega
            have HNL := Lib.hid hnl
            clear hbig
            by_cases hbig : (S.bond n).2 = true
            · as_aux_lemma =>
                have HBG := Lib.hid hbig
                have HDO := Lib.hid (show doE es ⟨4, (p : Int), (n : Int), ev⟩ = (0, 41, es) from dGive_twice HRel.out p n ev hnl hbig)
                clear hbig hnl
                obtain ⟨L, hL⟩ : ∃ L, S.lk = L := ⟨_, rfl⟩
                obtain ⟨I0, hI⟩ : ∃ x, S.inn = x := ⟨_, rfl⟩
                obtain ⟨O0, hO⟩ : ∃ x, S.out = x := ⟨_, rfl⟩
                have HLk := Lib.hid hL
                have HIn := Lib.hid hI
                have HOut := Lib.hid hO
                have HRel3 : Hid (Rel S es) := HRel.out
                have hes3 : es.length ≤ k + 1 := by omega
                clear hL hI hO
                go_wp2_with (first
                  | (go_at_call 9; (with_reducible refine (give_twice w.heap.size (w.heap.size + 1) n p S _ HLA.out hp HNL.out HBG.out).mono ?_); rintro e w' ⟨rfl, rfl⟩)
                  | (go_at_call 13; (with_reducible refine (do_V wa.heap.size (wa.heap.size + 1) es es 4 (p : Int) (n : Int) ev 0 41 _ HRA.out kd4 (by omega) (by omega) hv0 (by simp; omega) hes (by rw [rbal HRel.out p hp]; exact HRel.out.nn p hp) (by rw [rbal HRel.out p hp]; exact HRel.out.bm p hp) HDO.out).mono ?_); rintro e w3 ⟨rfl, hR3, hk3⟩; have HR3 := Lib.hid hR3; have hz3 := hk3.below.size; (try simp at hz3); have HB3 : Hid (Below w.heap.size w w3) := hba.trans (hk3.below.mono (by omega)); have HL3 : Hid (Led w3 w.heap.size (w.heap.size + 1) S) := HLA.out.keptR hk3; clear hR3 hk3)
                  | (go_at_call 14; (with_reducible refine (number18_num 41 w3 (Lib.hid (HE.out.below HB3.out))).mono ?_); rintro e w4 ⟨rfl, hb4⟩; have HL4 : Hid (Led w4 w.heap.size (w.heap.size + 1) S) := HL3.out.kept hb4; have HR4 : Hid (RL w4 wa.heap.size (wa.heap.size + 1) es) := HR3.out.below hb4; have hz4 := hb4.size; have HB4 : Hid (Below w.heap.size w w4) := HB3.out.trans (hb4.mono (by omega)); clear hb4)
                  | (go_at_call 15; (with_reducible refine (locked_V w.heap.size (w.heap.size + 1) L S w4 HL4.out HLk.out).mono ?_); rintro e w' ⟨rfl, rfl⟩))
                obtain ⟨v, hrv, hov⟩ := HR4.out.row
                have hvt := hrv.lt
                have HTC : Hid (w4.cell? ⟨wa.heap.size, 0, none⟩ = some v) := hrv.cell (by decide)
                have HOV := Lib.hid hov
                have HEv : Hid (Evs es) := HRel3.out.ev
                clear hrv hov
                go_loopw [13, 134] (fun sm i wr => ∃ q : Nat, q ≤ 8 ∧ i = .int .i64 q ∧ sm = .int .u64 (L + osum S.bal q) ∧ Below w4.heap.size w4 wr) (fun _ i _ => 8 - (intOf i).toNat)
                case atStart => exact ⟨0, by omega, rfl, by simp [osum], Below.refl _ _⟩
                case round =>
                  obtain ⟨q, hq, rfl, rfl, hbi⟩ := hrel
                  have hzi := hbi.size
                  have HLi := Lib.hid (HL4.out.kept hbi)
                  have HOi := Lib.hid (ownsRow_below HOV.out hbi)
                  have ti : wr.cell? ⟨wa.heap.size, 0, none⟩ = some v := by rw [hbi.cell (p := ⟨wa.heap.size, 0, none⟩) hvt]; exact HTC.out
                  have ob := osum_le S.bal HRel3.out.nn q 8 (by omega) hq
                  rw [osum8] at ob
                  have ot := HRel3.out.tot
                  have o1 := HRel3.out.l0
                  have o2 := HRel3.out.on
                  have o3 := HRel3.out.im
                  rw [HLk.out] at ot o1
                  by_cases hlq : q < 8
                  · have bq0 := HRel3.out.nn q hlq
                    have bq1 := HRel3.out.bm q hlq
                    have eo : Hid (osum S.bal (q + 1) = osum S.bal q + S.bal q) := rfl
                    obtain ⟨oq, hoq⟩ : ∃ x, x = osum S.bal q := ⟨_, rfl⟩
                    obtain ⟨bq, hbq⟩ : ∃ x, x = S.bal q := ⟨_, rfl⟩
                    have HBQ : Hid (S.bal q = bq) := hbq.symm
                    have HBE : Hid (balE es (q : Int) = bq) := (rbal HRel3.out q hlq).trans hbq.symm
                    have HOQ := Lib.hid hoq
                    rw [← hoq] at ob ⊢
                    rw [← hbq] at bq0 bq1
                    have s1 : 0 ≤ L + oq := by omega
                    have s2 : L + oq ≤ 281474976710656 := by omega
                    clear ob ot hoq hbq o1 o2 o3
                    go_wp2_with (first
                      | (go_at_call 10; (with_reducible refine (balance_V w.heap.size (w.heap.size + 1) q (q : Int) bq S wr HLi.out rfl hlq HBQ.out).mono ?_); rintro e w' ⟨rfl, rfl⟩)
                      | (go_at_call 12; (with_reducible refine (rbalance_V (wa.heap.size + 1) es.length v es (q : Int) bq wr HOi.out rfl HEv.out HBE.out bq0).mono ?_); rintro e w5 ⟨rfl, hb5⟩))
                    go_roundw
                    case rel => exact ⟨q + 1, by omega, by go_num, by rw [eo.out, HBQ.out, ← HOQ.out]; go_num, hbi.trans (hb5.mono (by omega))⟩
                    case measure => simp [intOf]; omega
                  · have hq8 : 8 = q := by omega
                    subst hq8
                    rw [osum8] at ob ⊢
                    have s80 := ob.1
                    clear hlq hq ob
                    obtain ⟨sm, hsm⟩ : ∃ x, x = L + sum8 S.bal := ⟨_, rfl⟩
                    rw [← hsm]
                    have HI0 : Hid (S.inn = I0) := HIn.out
                    obtain ⟨s3, hs3⟩ : ∃ x, sumE es 3 (-1) = x := ⟨_, rfl⟩
                    obtain ⟨s4, hs4⟩ : ∃ x, sumE es 4 (-1) = x := ⟨_, rfl⟩
                    have e34 := HRel3.out.lk
                    rw [hs3, hs4, HLk.out] at e34
                    rw [HIn.out, HOut.out] at ot
                    rw [HOut.out] at o2
                    rw [HIn.out] at o3
                    have E1 : IntKind.u64.wrap (O0 + sm) = I0 := by rw [IntKind.wrap_u64]; omega
                    have E2 : IntKind.u64.wrap (s3 - s4) = L := by rw [IntKind.wrap_u64]; omega
                    have HS1 : Hid (sumE es 1 (-1) = I0) := HRel3.out.inn.symm.trans HIn.out
                    have HS2 : Hid (sumE es 2 (-1) = O0) := HRel3.out.out.symm.trans HOut.out
                    have HS3 := Lib.hid hs3
                    have HS4 := Lib.hid hs4
                    clear hs3 hs4 e34 ot o1 o2 o3 hsm ti HOi s80
                    go_wp2_with (go_at_call 16; (with_reducible refine (flows_V w.heap.size (w.heap.size + 1) I0 O0 S wr HLi.out HIn.out HOut.out).mono ?_); rintro e w6 ⟨rfl, hb6⟩; have HB6 := Lib.hid hb6; have hz6 := hb6.size; clear hb6)
                    have hb46 : Below w4.heap.size w4 w6 := hbi.trans (HB6.out.mono (by omega))
                    have hS : PS w4 w.heap.size wa.heap.size S es v w6 := ⟨by rw [hb46.cell (p := ⟨wa.heap.size, 0, none⟩) hvt]; exact HTC.out, by omega, hb46, ownsRow_below HOV.out hb46, HL4.out.kept hb46⟩
                    have hne : Nonempty (Held (PS w4 w.heap.size wa.heap.size S es v)) := ⟨⟨_, hS⟩⟩
                    have i0 : ∀ t : Held (PS w4 w.heap.size wa.heap.size S es v), t.w.cell? ⟨wa.heap.size, 0, none⟩ = some v := fun t => t.ok.1
                    refine wp_region_held (S := PS w4 w.heap.size wa.heap.size S es v) (by kernel_rfl) (by kernel_rfl) (psKeep _ _ hS (Below.refl _ _).drew) ?_
                    repeat (go_big_quiet_step (first
                        | (go_at_call 17; with_reducible exact held_call (sum_V (wa.heap.size + 1) es.length v es 1 (-1) I0 _ (ps_own _) rfl HEv.out HS1.out) psKeep)
                        | (go_at_call 17; with_reducible exact held_call (sum_V (wa.heap.size + 1) es.length v es 2 (-1) O0 _ (ps_own _) rfl HEv.out HS2.out) psKeep)
                        | (go_at_call 17; with_reducible exact held_call (sum_V (wa.heap.size + 1) es.length v es 3 (-1) s3 _ (ps_own _) rfl HEv.out HS3.out) psKeep)
                        | (go_at_call 17; with_reducible exact held_call (sum_V (wa.heap.size + 1) es.length v es 4 (-1) s4 _ (ps_own _) rfl HEv.out HS4.out) psKeep)
                        | (go_at_call 15; with_reducible exact held_same (locked_V w.heap.size (w.heap.size + 1) L S _ (ps_led _) HLk.out))))
                    refine wpQuiet_nil ?_
                    intro W hw'
                    obtain ⟨s6, hw'⟩ := hw'
                    have hSW : PS w4 w.heap.size wa.heap.size S es v W := by rw [hw']; exact s6.ok
                    have HSW := Lib.hid hSW
                    clear i0 hw' s6 hSW hS hne hb46
                    go_wp2
                    go_roundw
                    case rel => exact ⟨k + 1, S, es, by omega, by go_num, hes3, HRel3.out, HSW.out.2.2.2.2, HR4.out.below HSW.out.2.2.1, HB4.out.trans (HSW.out.2.2.1.mono (by omega)), HSW.out.2.1⟩
                    case measure => simp [intOf]; omega
            · as_aux_lemma =>
                have hbg : (S.bond n).2 = false := by simpa using hbig
                have HBG := Lib.hid hbg
                have HDO := Lib.hid (show doE es ⟨4, (p : Int), (n : Int), ev⟩ = (0, 0, es ++ [(⟨4, (p : Int), (n : Int), (S.bond n).1⟩ : Ev)]) from dGive_ok HRel.out p n ev hnl hbg)
                clear hbig hbg hnl
                obtain ⟨L, hL⟩ : ∃ L, (S.give n p).lk = L := ⟨_, rfl⟩
                obtain ⟨I0, hI⟩ : ∃ x, (S.give n p).inn = x := ⟨_, rfl⟩
                obtain ⟨O0, hO⟩ : ∃ x, (S.give n p).out = x := ⟨_, rfl⟩
                have HLk := Lib.hid hL
                have HIn := Lib.hid hI
                have HOut := Lib.hid hO
                have HRel3 : Hid (Rel (S.give n p) (es ++ [(⟨4, (p : Int), (n : Int), (S.bond n).1⟩ : Ev)])) := HRel.out.give n p hes hp HNL.out HBG.out
                have hes3 : (es ++ [(⟨4, (p : Int), (n : Int), (S.bond n).1⟩ : Ev)]).length ≤ k + 1 := by simp; omega
                clear hL hI hO
                go_wp2_with (first
                  | (go_at_call 9; (with_reducible refine (give_V w.heap.size (w.heap.size + 1) n p (n : Int) (p : Int) S (S.give n p) _ HLA.out rfl rfl hp HNL.out HBG.out rfl HRel3.out.ok).mono ?_); rintro e w2 ⟨rfl, hL2, hk2⟩; have HL2 := Lib.hid hL2; have hz2 := hk2.below.size; (try simp at hz2); have HB2 : Hid (Below w.heap.size w w2) := hba.trans hk2.below; have HR2 := Lib.hid (HRA.out.kept hk2); have ho2 := rowIs_other HOO.out hk2 (by decide) (by decide); have p0 := (ho2.cell (i := 0) (by decide)).trans (congrArg some (evf0 _)); have p1 := (ho2.cell (i := 1) (by decide)).trans (congrArg some (evf1 _)); have p2 := (ho2.cell (i := 2) (by decide)).trans (congrArg some (evf2 _)); have p3 := (ho2.cell (i := 3) (by decide)).trans (congrArg some (evf3 _)); (simp only at p0 p1 p2 p3); clear hL2 hk2 ho2)
                  | (go_at_call 13; (with_reducible refine (do_V wa.heap.size (wa.heap.size + 1) es (es ++ [(⟨4, (p : Int), (n : Int), (S.bond n).1⟩ : Ev)]) 4 (p : Int) (n : Int) ev 0 0 _ HR2.out kd4 (by omega) (by omega) hv0 (by omega) hes (by rw [rbal HRel.out p hp]; exact HRel.out.nn p hp) (by rw [rbal HRel.out p hp]; exact HRel.out.bm p hp) HDO.out).mono ?_); rintro e w3 ⟨rfl, hR3, hk3⟩; have HR3 := Lib.hid hR3; have hz3 := hk3.below.size; (try simp at hz3); have HB3 : Hid (Below w.heap.size w w3) := HB2.out.trans (hk3.below.mono (by omega)); have HL3 : Hid (Led w3 w.heap.size (w.heap.size + 1) (S.give n p)) := HL2.out.keptR hk3; clear hR3 hk3)
                  | (go_at_call 14; (with_reducible refine (number18_nil w3).mono ?_); rintro e w4 ⟨rfl, hb4⟩; have HL4 : Hid (Led w4 w.heap.size (w.heap.size + 1) (S.give n p)) := HL3.out.kept hb4; have HR4 : Hid (RL w4 wa.heap.size (wa.heap.size + 1) (es ++ [(⟨4, (p : Int), (n : Int), (S.bond n).1⟩ : Ev)])) := HR3.out.below hb4; have hz4 := hb4.size; have HB4 : Hid (Below w.heap.size w w4) := HB3.out.trans (hb4.mono (by omega)); clear hb4)
                  | (go_at_call 15; (with_reducible refine (locked_V w.heap.size (w.heap.size + 1) L (S.give n p) w4 HL4.out HLk.out).mono ?_); rintro e w' ⟨rfl, rfl⟩))
                obtain ⟨v, hrv, hov⟩ := HR4.out.row
                have hvt := hrv.lt
                have HTC : Hid (w4.cell? ⟨wa.heap.size, 0, none⟩ = some v) := hrv.cell (by decide)
                have HOV := Lib.hid hov
                have HEv : Hid (Evs (es ++ [(⟨4, (p : Int), (n : Int), (S.bond n).1⟩ : Ev)])) := HRel3.out.ev
                clear hrv hov
                go_loopw [13, 134] (fun sm i wr => ∃ q : Nat, q ≤ 8 ∧ i = .int .i64 q ∧ sm = .int .u64 (L + osum (S.give n p).bal q) ∧ Below w4.heap.size w4 wr) (fun _ i _ => 8 - (intOf i).toNat)
                case atStart => exact ⟨0, by omega, rfl, by simp [osum], Below.refl _ _⟩
                case round =>
                  obtain ⟨q, hq, rfl, rfl, hbi⟩ := hrel
                  have hzi := hbi.size
                  have HLi := Lib.hid (HL4.out.kept hbi)
                  have HOi := Lib.hid (ownsRow_below HOV.out hbi)
                  have ti : wr.cell? ⟨wa.heap.size, 0, none⟩ = some v := by rw [hbi.cell (p := ⟨wa.heap.size, 0, none⟩) hvt]; exact HTC.out
                  have ob := osum_le (S.give n p).bal HRel3.out.nn q 8 (by omega) hq
                  rw [osum8] at ob
                  have ot := HRel3.out.tot
                  have o1 := HRel3.out.l0
                  have o2 := HRel3.out.on
                  have o3 := HRel3.out.im
                  rw [HLk.out] at ot o1
                  by_cases hlq : q < 8
                  · have bq0 := HRel3.out.nn q hlq
                    have bq1 := HRel3.out.bm q hlq
                    have eo : Hid (osum (S.give n p).bal (q + 1) = osum (S.give n p).bal q + (S.give n p).bal q) := rfl
                    obtain ⟨oq, hoq⟩ : ∃ x, x = osum (S.give n p).bal q := ⟨_, rfl⟩
                    obtain ⟨bq, hbq⟩ : ∃ x, x = (S.give n p).bal q := ⟨_, rfl⟩
                    have HBQ : Hid ((S.give n p).bal q = bq) := hbq.symm
                    have HBE : Hid (balE (es ++ [(⟨4, (p : Int), (n : Int), (S.bond n).1⟩ : Ev)]) (q : Int) = bq) := (rbal HRel3.out q hlq).trans hbq.symm
                    have HOQ := Lib.hid hoq
                    rw [← hoq] at ob ⊢
                    rw [← hbq] at bq0 bq1
                    have s1 : 0 ≤ L + oq := by omega
                    have s2 : L + oq ≤ 281474976710656 := by omega
                    clear ob ot hoq hbq o1 o2 o3
                    go_wp2_with (first
                      | (go_at_call 10; (with_reducible refine (balance_V w.heap.size (w.heap.size + 1) q (q : Int) bq (S.give n p) wr HLi.out rfl hlq HBQ.out).mono ?_); rintro e w' ⟨rfl, rfl⟩)
                      | (go_at_call 12; (with_reducible refine (rbalance_V (wa.heap.size + 1) (es ++ [(⟨4, (p : Int), (n : Int), (S.bond n).1⟩ : Ev)]).length v (es ++ [(⟨4, (p : Int), (n : Int), (S.bond n).1⟩ : Ev)]) (q : Int) bq wr HOi.out rfl HEv.out HBE.out bq0).mono ?_); rintro e w5 ⟨rfl, hb5⟩))
                    go_roundw
                    case rel => exact ⟨q + 1, by omega, by go_num, by rw [eo.out, HBQ.out, ← HOQ.out]; go_num, hbi.trans (hb5.mono (by omega))⟩
                    case measure => simp [intOf]; omega
                  · have hq8 : 8 = q := by omega
                    subst hq8
                    rw [osum8] at ob ⊢
                    have s80 := ob.1
                    clear hlq hq ob
                    obtain ⟨sm, hsm⟩ : ∃ x, x = L + sum8 (S.give n p).bal := ⟨_, rfl⟩
                    rw [← hsm]
                    have HI0 : Hid ((S.give n p).inn = I0) := HIn.out
                    obtain ⟨s3, hs3⟩ : ∃ x, sumE (es ++ [(⟨4, (p : Int), (n : Int), (S.bond n).1⟩ : Ev)]) 3 (-1) = x := ⟨_, rfl⟩
                    obtain ⟨s4, hs4⟩ : ∃ x, sumE (es ++ [(⟨4, (p : Int), (n : Int), (S.bond n).1⟩ : Ev)]) 4 (-1) = x := ⟨_, rfl⟩
                    have e34 := HRel3.out.lk
                    rw [hs3, hs4, HLk.out] at e34
                    rw [HIn.out, HOut.out] at ot
                    rw [HOut.out] at o2
                    rw [HIn.out] at o3
                    have E1 : IntKind.u64.wrap (O0 + sm) = I0 := by rw [IntKind.wrap_u64]; omega
                    have E2 : IntKind.u64.wrap (s3 - s4) = L := by rw [IntKind.wrap_u64]; omega
                    have HS1 : Hid (sumE (es ++ [(⟨4, (p : Int), (n : Int), (S.bond n).1⟩ : Ev)]) 1 (-1) = I0) := HRel3.out.inn.symm.trans HIn.out
                    have HS2 : Hid (sumE (es ++ [(⟨4, (p : Int), (n : Int), (S.bond n).1⟩ : Ev)]) 2 (-1) = O0) := HRel3.out.out.symm.trans HOut.out
                    have HS3 := Lib.hid hs3
                    have HS4 := Lib.hid hs4
                    clear hs3 hs4 e34 ot o1 o2 o3 hsm ti HOi s80
                    go_wp2_with (go_at_call 16; (with_reducible refine (flows_V w.heap.size (w.heap.size + 1) I0 O0 (S.give n p) wr HLi.out HIn.out HOut.out).mono ?_); rintro e w6 ⟨rfl, hb6⟩; have HB6 := Lib.hid hb6; have hz6 := hb6.size; clear hb6)
                    have hb46 : Below w4.heap.size w4 w6 := hbi.trans (HB6.out.mono (by omega))
                    have hS : PS w4 w.heap.size wa.heap.size (S.give n p) (es ++ [(⟨4, (p : Int), (n : Int), (S.bond n).1⟩ : Ev)]) v w6 := ⟨by rw [hb46.cell (p := ⟨wa.heap.size, 0, none⟩) hvt]; exact HTC.out, by omega, hb46, ownsRow_below HOV.out hb46, HL4.out.kept hb46⟩
                    have hne : Nonempty (Held (PS w4 w.heap.size wa.heap.size (S.give n p) (es ++ [(⟨4, (p : Int), (n : Int), (S.bond n).1⟩ : Ev)]) v)) := ⟨⟨_, hS⟩⟩
                    have i0 : ∀ t : Held (PS w4 w.heap.size wa.heap.size (S.give n p) (es ++ [(⟨4, (p : Int), (n : Int), (S.bond n).1⟩ : Ev)]) v), t.w.cell? ⟨wa.heap.size, 0, none⟩ = some v := fun t => t.ok.1
                    refine wp_region_held (S := PS w4 w.heap.size wa.heap.size (S.give n p) (es ++ [(⟨4, (p : Int), (n : Int), (S.bond n).1⟩ : Ev)]) v) (by kernel_rfl) (by kernel_rfl) (psKeep _ _ hS (Below.refl _ _).drew) ?_
                    repeat (go_big_quiet_step (first
                        | (go_at_call 17; with_reducible exact held_call (sum_V (wa.heap.size + 1) (es ++ [(⟨4, (p : Int), (n : Int), (S.bond n).1⟩ : Ev)]).length v (es ++ [(⟨4, (p : Int), (n : Int), (S.bond n).1⟩ : Ev)]) 1 (-1) I0 _ (ps_own _) rfl HEv.out HS1.out) psKeep)
                        | (go_at_call 17; with_reducible exact held_call (sum_V (wa.heap.size + 1) (es ++ [(⟨4, (p : Int), (n : Int), (S.bond n).1⟩ : Ev)]).length v (es ++ [(⟨4, (p : Int), (n : Int), (S.bond n).1⟩ : Ev)]) 2 (-1) O0 _ (ps_own _) rfl HEv.out HS2.out) psKeep)
                        | (go_at_call 17; with_reducible exact held_call (sum_V (wa.heap.size + 1) (es ++ [(⟨4, (p : Int), (n : Int), (S.bond n).1⟩ : Ev)]).length v (es ++ [(⟨4, (p : Int), (n : Int), (S.bond n).1⟩ : Ev)]) 3 (-1) s3 _ (ps_own _) rfl HEv.out HS3.out) psKeep)
                        | (go_at_call 17; with_reducible exact held_call (sum_V (wa.heap.size + 1) (es ++ [(⟨4, (p : Int), (n : Int), (S.bond n).1⟩ : Ev)]).length v (es ++ [(⟨4, (p : Int), (n : Int), (S.bond n).1⟩ : Ev)]) 4 (-1) s4 _ (ps_own _) rfl HEv.out HS4.out) psKeep)
                        | (go_at_call 15; with_reducible exact held_same (locked_V w.heap.size (w.heap.size + 1) L (S.give n p) _ (ps_led _) HLk.out))))
                    refine wpQuiet_nil ?_
                    intro W hw'
                    obtain ⟨s6, hw'⟩ := hw'
                    have hSW : PS w4 w.heap.size wa.heap.size (S.give n p) (es ++ [(⟨4, (p : Int), (n : Int), (S.bond n).1⟩ : Ev)]) v W := by rw [hw']; exact s6.ok
                    have HSW := Lib.hid hSW
                    clear i0 hw' s6 hSW hS hne hb46
                    go_wp2
                    go_roundw
                    case rel => exact ⟨k + 1, S.give n p, es ++ [(⟨4, (p : Int), (n : Int), (S.bond n).1⟩ : Ev)], by omega, by go_num, hes3, HRel3.out, HSW.out.2.2.2.2, HR4.out.below HSW.out.2.2.1, HB4.out.trans (HSW.out.2.2.1.mono (by omega)), HSW.out.2.1⟩
                    case measure => simp [intOf]; omega
      have b1 : (ek == 1) = false := by simpa using k1
      have b2 : (ek == 2) = false := by simpa using k2
      have b3 : (ek == 3) = false := by simpa using k3
      have b4 : (ek == 4) = false := by simpa using k4
      clear k1 k2 k3 k4
      by_cases hn0 : ep < 0
      · as_aux_lemma =>
          have HPB := Lib.hid (show ep < 0 ∨ 8 ≤ ep from .inl hn0)
          go_wp2_with (first
            | (go_at_call 10; (with_reducible refine (balance_bad w.heap.size ep _ HPB.out).mono ?_); rintro e w' ⟨rfl, rfl⟩)
            | (go_at_call 11; (with_reducible refine (is_num _ _ _).mono ?_); rintro e w' ⟨rfl, rfl⟩))
          go_roundw
          case rel => exact ⟨k + 1, S, es, by omega, by go_num, by omega, HRel, HLA, HRA, hba, by simp; omega⟩
          case measure => simp [intOf]; omega
      by_cases hn8 : 8 ≤ ep
      · as_aux_lemma =>
          have HPB := Lib.hid (show ep < 0 ∨ 8 ≤ ep from .inr hn8)
          go_wp2_with (first
            | (go_at_call 10; (with_reducible refine (balance_bad w.heap.size ep _ HPB.out).mono ?_); rintro e w' ⟨rfl, rfl⟩)
            | (go_at_call 11; (with_reducible refine (is_num _ _ _).mono ?_); rintro e w' ⟨rfl, rfl⟩))
          go_roundw
          case rel => exact ⟨k + 1, S, es, by omega, by go_num, by omega, HRel, HLA, HRA, hba, by simp; omega⟩
          case measure => simp [intOf]; omega
      · as_aux_lemma =>
          obtain ⟨p, rfl⟩ := Int.eq_ofNat_of_zero_le (show 0 ≤ ep by omega)
          have hp : p < 8 := by omega
          have d8 : (decide ((p : Int) ≥ 8)) = false := by simp; omega
          obtain ⟨bq, hbq⟩ : ∃ x, x = S.bal p := ⟨_, rfl⟩
          have HBQ : Hid (S.bal p = bq) := hbq.symm
          have HBE : Hid (balE es (p : Int) = bq) := (rbal HRel.out p hp).trans hbq.symm
          have bq0 : 0 ≤ bq := by have := HRel.out.nn p hp; omega
          have HEv : Hid (Evs es) := HRel.out.ev
          obtain ⟨v, hrv, hov⟩ := HRA.out.row
          have hvt := hrv.lt
          have HTC : Hid (World.cell? _ ⟨wa.heap.size, 0, none⟩ = some v) := hrv.cell (by decide)
          have HOV := Lib.hid hov
          clear hrv hov hbq hn0 hn8
          go_wp2_with (go_at_call 10; (with_reducible refine (balance_V w.heap.size (w.heap.size + 1) p (p : Int) bq S _ HLA.out rfl hp HBQ.out).mono ?_); rintro e w' ⟨rfl, rfl⟩)
          have hS : PT (wr.alloc (.cells #[.int .i64 ek, .int .i64 (p : Int), .int .i64 eb, .int .u64 ev] TOP)) wa.heap.size wr.heap.size v (evf ⟨ek, (p : Int), eb, ev⟩) es (wr.alloc (.cells #[.int .i64 ek, .int .i64 (p : Int), .int .i64 eb, .int .u64 ev] TOP)) := ⟨⟨HTC.out, HOO.out⟩, hvt, Below.refl _ _, HOV.out⟩
          have hne : Nonempty (Held (PT (wr.alloc (.cells #[.int .i64 ek, .int .i64 (p : Int), .int .i64 eb, .int .u64 ev] TOP)) wa.heap.size wr.heap.size v (evf ⟨ek, (p : Int), eb, ev⟩) es)) := ⟨⟨_, hS⟩⟩
          have i0 : ∀ t : Held (PT (wr.alloc (.cells #[.int .i64 ek, .int .i64 (p : Int), .int .i64 eb, .int .u64 ev] TOP)) wa.heap.size wr.heap.size v (evf ⟨ek, (p : Int), eb, ev⟩) es), t.w.cell? ⟨wa.heap.size, 0, none⟩ = some v := fun t => t.ok.1.1
          have i1 : ∀ t : Held (PT (wr.alloc (.cells #[.int .i64 ek, .int .i64 (p : Int), .int .i64 eb, .int .u64 ev] TOP)) wa.heap.size wr.heap.size v (evf ⟨ek, (p : Int), eb, ev⟩) es), t.w.cell? ⟨wr.heap.size, 1, none⟩ = some (.int .i64 (p : Int)) := fun t => (t.ok.1.2.cell (i := 1) (by decide)).trans (congrArg some (evf1 _))
          refine wp_region_held (S := PT (wr.alloc (.cells #[.int .i64 ek, .int .i64 (p : Int), .int .i64 eb, .int .u64 ev] TOP)) wa.heap.size wr.heap.size v (evf ⟨ek, (p : Int), eb, ev⟩) es) (by kernel_rfl) (by kernel_rfl) (ptKeep _ _ hS (Below.refl _ _).drew) ?_
          repeat (go_big_quiet_step (first | (go_at_call 12; with_reducible exact held_call (rbalance_V (wa.heap.size + 1) es.length v es (p : Int) bq _ (pt_own _) rfl HEv.out HBE.out bq0) ptKeep)))
          refine wpQuiet_nil ?_
          intro W hw'
          obtain ⟨s6, hw'⟩ := hw'
          have hSW : PT (wr.alloc (.cells #[.int .i64 ek, .int .i64 (p : Int), .int .i64 eb, .int .u64 ev] TOP)) wa.heap.size wr.heap.size v (evf ⟨ek, (p : Int), eb, ev⟩) es W := by rw [hw']; exact s6.ok
          have HSW := Lib.hid hSW
          clear i0 i1 hw' s6 hSW hS hne
          go_wp2
          go_roundw
          case rel => exact ⟨k + 1, S, es, by omega, by go_num, by omega, HRel, HLA.out.kept HSW.out.2.2.1, HRA.out.below HSW.out.2.2.1, hba.trans (HSW.out.2.2.1.mono (by simp; omega)), HSW.out.2.1⟩
          case measure => simp [intOf]; omega
    · go_wp2
      go_returns
      exact ⟨rfl, hbr⟩

end Go.Proofs.YtpphahaphncpaaaDoor
