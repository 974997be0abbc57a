/-
  The walk of LedgerBonds: it returns true for every input.
-/
import Derived.Test.YtpphahaphncpaaaLedBonds
import Derived.Outline
set_option linter.unusedVariables false
namespace Go.Proofs.Ytpphahaphncpaaa
open Go.RowKit

abbrev T8 : TypeId := 41
def bvs (z : List Int) (n : Nat) : List Int := (z.take n).map (· % 1099511627776)
theorem bvs_vs (z : List Int) (n : Nat) (hn : n ≤ 20) : Vs (bvs z n) := by
  refine ⟨by simp [bvs]; omega, fun v hv => ?_⟩
  simp only [bvs, List.mem_map] at hv
  obtain ⟨x, _, rfl⟩ := hv
  omega
theorem bvs_len (z : List Int) (n : Nat) (h : n ≤ z.length) : (bvs z n).length = n := by simp [bvs]; omega
theorem bvs_get (z : List Int) (n k : Nat) (h : n ≤ z.length) (hk : k < n) : (bvs z n).getD k 0 = z.getD k 0 % 1099511627776 := by
  simp only [bvs, List.getD_eq_getElem?_getD, List.getElem?_map, List.getElem?_take_of_lt hk, List.getElem?_eq_getElem (show k < z.length by omega)]; rfl
theorem row_zlen {k : IntKind} {w : World} {a : Option Addr} {len cap : Nat} {zs : List Int} (h : IsRow k w a len cap zs) : len ≤ zs.length := by
  rcases h with ⟨_, rfl, rfl, _⟩ | ⟨x, _, hl, _, hz, _⟩
  · omega
  · omega
structure LAf (vs : List Int) (k : Nat) (y : Int) : Prop where
  h0 : 0 ≤ y
  h1 : (LA vs k).inn + y ≤ 281474976710656
  ok1 : ((LA vs k).payIn (k % 8) y).Ok
  h2 : y ≤ ((LA vs k).payIn (k % 8) y).bal (k % 8)
  hn : ((LA vs k).payIn (k % 8) y).bonds.length < 200
  hN : (((LA vs k).payIn (k % 8) y).bonds.length : Int) = (k : Int)
  hS : ((LA vs k).payIn (k % 8) y).lock (k % 8) y = LA vs (k + 1)
  ok2 : (LA vs (k + 1)).Ok
  s1 : (vs.take (k + 1)).sum = (vs.take k).sum + y
  s2 : 0 ≤ (vs.take k).sum ∧ (vs.take k).sum ≤ 21990232555520
  s3 : y ≤ 1099511627775
theorem LAf.of {vs : List Int} {k : Nat} {y : Int} (hv : Vs vs) (hk : k < vs.length) (hy : vs.getD k 0 = y) : LAf vs k y := by
  subst hy
  have ht := hv.take k
  have ha := hv.at k
  have hl := hv.len
  have e : ((LA vs k).payIn (k % 8) (vs.getD k 0)).bonds.length = k := by simp [LA, LS.payIn]; omega
  refine ⟨ha.1, ?_, LAin_ok hv k _, ?_, by omega, by omega, LA_step vs k _ hk, LA_ok hv _, sum_take_succ vs k hk, ht, ha.2⟩
  · show (vs.take k).sum + _ ≤ _; omega
  · show _ ≤ upd (fun _ => 0) (k % 8) (0 + vs.getD k 0) (k % 8); simp [upd]
structure LBf (S : LS) (n p : Nat) (y : Int) : Prop where
  fr : (S.bond n).2 = false
  fst : (S.bond n).1 = y
  ok : (S.give n p).Ok
  tw : ((S.give n p).bond n).2 = true
  b0 : 0 ≤ S.bal p
  b1 : S.bal p ≤ 21990232555520
  row : ∀ j, (if j = p then Value.int .u64 (S.bal p + y) else Value.int .u64 (S.bal j)) = Value.int .u64 ((S.give n p).bal j)
theorem LBf.of {vs : List Int} {k : Nat} {kk : Nat → Nat} {S : LS} (h : LB vs k kk S) (hv : Vs vs) (hk : kk k < vs.length) (hd : ∀ i, i < k → kk i ≠ kk k) {p : Nat} (hp : p < 8) {y : Int} (hy : vs.getD (kk k) 0 = y) : LBf S (kk k) p y := by
  subst hy
  refine ⟨h.fresh hk hd, h.fst _, (h.next hk hd hv hp).ok hv, ?_, h.nn p hp, h.balb hv p hp, fun j => ?_⟩
  · show ((S.bonds.set (kk k) _).getD (kk k) (0, false)).2 = true
    rw [getD_set_eq _ _ _ (by rw [h.len]; exact hk)]
  · show _ = Value.int .u64 (upd S.bal p (S.bal p + (S.bond (kk k)).1) j)
    rw [show (S.bond (kk k)).1 = vs.getD (kk k) 0 from h.fst _]
    unfold upd; split <;> rfl
theorem tnat (x : Int) (n : Nat) : ∃ t : Nat, 0 < n → t < n ∧ (IntKind.u64.wrap x).tmod (n : Int) = (t : Int) := by
  refine ⟨(IntKind.u64.wrap x % (n : Int)).toNat, fun hn => ?_⟩
  have h0 : 0 ≤ IntKind.u64.wrap x := by rw [IntKind.wrap_u64]; omega
  rw [Int.tmod_eq_emod_of_nonneg h0]
  have := Int.emod_nonneg (IntKind.u64.wrap x) (show (n : Int) ≠ 0 by omega)
  have := Int.emod_lt_of_pos (IntKind.u64.wrap x) (show (0 : Int) < n by omega)
  omega
theorem p_nat (x : Int) : ∃ p : Nat, p < 8 ∧ (IntKind.u64.wrap x).tmod 8 = (p : Int) := by
  obtain ⟨p, h⟩ := tnat x 8
  exact ⟨p, (h (by omega)).1, (h (by omega)).2⟩
theorem give_len (S : LS) (n p : Nat) : (S.give n p).bonds.length = S.bonds.length := List.length_set
theorem idx8_0 (f0 f1 f2 f3 f4 f5 f6 f7 : Value) : ∀ w, (Instr.index T8 (.agg #[f0, f1, f2, f3, f4, f5, f6, f7]) (.int .i64 0)).run Try.prog w = .ok f0 w := fun _ => by kernel_rfl
theorem idx8_1 (f0 f1 f2 f3 f4 f5 f6 f7 : Value) : ∀ w, (Instr.index T8 (.agg #[f0, f1, f2, f3, f4, f5, f6, f7]) (.int .i64 1)).run Try.prog w = .ok f1 w := fun _ => by kernel_rfl
theorem idx8_2 (f0 f1 f2 f3 f4 f5 f6 f7 : Value) : ∀ w, (Instr.index T8 (.agg #[f0, f1, f2, f3, f4, f5, f6, f7]) (.int .i64 2)).run Try.prog w = .ok f2 w := fun _ => by kernel_rfl
theorem idx8_3 (f0 f1 f2 f3 f4 f5 f6 f7 : Value) : ∀ w, (Instr.index T8 (.agg #[f0, f1, f2, f3, f4, f5, f6, f7]) (.int .i64 3)).run Try.prog w = .ok f3 w := fun _ => by kernel_rfl
theorem idx8_4 (f0 f1 f2 f3 f4 f5 f6 f7 : Value) : ∀ w, (Instr.index T8 (.agg #[f0, f1, f2, f3, f4, f5, f6, f7]) (.int .i64 4)).run Try.prog w = .ok f4 w := fun _ => by kernel_rfl
theorem idx8_5 (f0 f1 f2 f3 f4 f5 f6 f7 : Value) : ∀ w, (Instr.index T8 (.agg #[f0, f1, f2, f3, f4, f5, f6, f7]) (.int .i64 5)).run Try.prog w = .ok f5 w := fun _ => by kernel_rfl
theorem idx8_6 (f0 f1 f2 f3 f4 f5 f6 f7 : Value) : ∀ w, (Instr.index T8 (.agg #[f0, f1, f2, f3, f4, f5, f6, f7]) (.int .i64 6)).run Try.prog w = .ok f6 w := fun _ => by kernel_rfl
theorem idx8_7 (f0 f1 f2 f3 f4 f5 f6 f7 : Value) : ∀ w, (Instr.index T8 (.agg #[f0, f1, f2, f3, f4, f5, f6, f7]) (.int .i64 7)).run Try.prog w = .ok f7 w := fun _ => by kernel_rfl
theorem alloc8 (w : World) : (w.alloc (.cells #[.int .u64 0, .int .u64 0, .int .u64 0, .int .u64 0, .int .u64 0, .int .u64 0, .int .u64 0, .int .u64 0] T8)).rowIs w.heap.size T8 8 (fun _ => .int .u64 0) := by
  refine World.rowIs_alloc _ _ _ _ ?_
  intro i hi
  have hi : i < 8 := hi
  rcases (by omega : i = 0 ∨ i = 1 ∨ i = 2 ∨ i = 3 ∨ i = 4 ∨ i = 5 ∨ i = 6 ∨ i = 7) with rfl | rfl | rfl | rfl | rfl | rfl | rfl | rfl <;> rfl

set_option maxRecDepth 100000 in
set_option maxHeartbeats 8000000 in
theorem bonds_many (w : World) (a0 : Option Addr) (len0 cap0 : Nat) (z0 : List Int) (w0 : IsRow .u64 w a0 len0 cap0 z0) (a1 : Option Addr) (len1 cap1 : Nat) (z1 : List Int) (w1 : IsRow .i64 w a1 len1 cap1 z1) (a2 : Int) (hlen : 20 < len0) :
    Calls Try.prog 4 #[.slice a0 len0 cap0, .slice a1 len1 cap1, .int .i64 a2] w fun e w' => e = .returned (.bool true) ∧ Below w.heap.size w w' := by
  have hz := row_zlen w0
  have hl0 := row_len w0
  have hl1 := row_len w1
  have HR0 := Lib.hid w0
  have HR1 := Lib.hid w1
  clear w0 w1
  obtain ⟨vs, hvs⟩ : ∃ vs, vs = bvs z0 20 := ⟨_, rfl⟩
  have HV : Hid (Vs vs) := by rw [hvs]; exact bvs_vs z0 20 (by omega)
  have HN : Hid (vs.length = 20) := by rw [hvs]; exact bvs_len z0 20 (by omega)
  have HG : Hid (∀ k, k < 20 → vs.getD k 0 = z0.getD k 0 % 1099511627776) := by intro k hk; rw [hvs]; exact bvs_get z0 20 k (by omega) hk
  clear hvs hz
  obtain ⟨t, ht⟩ := tnat a2 20
  have HT := Lib.hid ht
  clear ht
  have hB : decide ((20 : Int) < (len0 : Int)) = true := by simp; omega
  go_enter Try.func4, Try.ntmps4
  go_wp2_with (first
    | (go_at_call 6; (with_reducible refine (new_calls _).mono ?_); rintro e wa ⟨rfl, hLa, hba⟩; have HLa := Lib.hid hLa; have HBa := Lib.hid hba; have hza : w.heap.size < wa.heap.size := (hLa.row.choose_spec.1.lt); clear hLa hba)
    | (go_at_call 14; (with_reducible refine (fixed18_calls _).mono ?_); rintro e wb ⟨rfl, hbb⟩; have HLb := Lib.hid (HLa.out.kept hbb); have HBb := Lib.hid hbb; have hzb := hbb.size; clear hbb))
  go_loopw [8, 39] (fun t i wr => ∃ k : Nat, k ≤ 20 ∧ i = .int .i64 k ∧ t = .int .u64 (vs.take k).sum ∧ Hid (Led wr w.heap.size (w.heap.size + 1) (LA vs k)) ∧ Hid (wr.rowIs wb.heap.size T8 8 (fun _ => .int .u64 0)) ∧ Below w.heap.size w wr ∧ wb.heap.size < wr.heap.size) (fun _ i _ => 20 - (intOf i).toNat)
  case atStart => exact ⟨0, by omega, rfl, by simp, by rw [LA_zero]; exact (HLb.out.kept ((Below.refl _ _).alloc (Nat.le_refl _) _)), alloc8 _, (HBa.out.trans (HBb.out.mono (by omega))).alloc (by omega) _, by simp⟩
  case round =>
    obtain ⟨k, hk, rfl, rfl, HLr, HRr, hbr, hsr⟩ := hrel
    by_cases hlt : k < 20
    · obtain ⟨xb, xo, rfl, hxb, hx, hwf⟩ := row_cell HR0.out k (by omega)
      have hxr : wr.cell? ⟨xb, xo + k, none⟩ = some (.int .u64 (z0.getD k 0)) := by
        rw [hbr.cell (p := ⟨xb, xo + k, none⟩) (by show xb < _; omega)]; exact hx
      have F := Lib.hid (LAf.of HV.out (by rw [HN.out]; exact hlt) (HG.out k hlt))
      have y0 := (u64_wf hwf).1
      clear hx hwf
      generalize z0.getD k 0 = y at hxr y0 F
      have s2 := F.out.s2
      obtain ⟨s, hs⟩ : ∃ s, s = (vs.take k).sum := ⟨_, rfl⟩
      rw [← hs] at s2 ⊢
      have HS : Hid (s = (vs.take k).sum) := hs
      clear hs
      go_wp2_with (first
        | (go_at_call 7; (with_reducible refine (payIn_V w.heap.size (w.heap.size + 1) (k % 8) ((k : Int) % 8) (y % 1099511627776) (LA vs k) ((LA vs k).payIn (k % 8) (y % 1099511627776)) _ HLr.out (by omega) (by omega) F.out.h0 F.out.h1 rfl F.out.ok1).mono ?_); rintro e wc ⟨rfl, hLc, hkc⟩; have HLc := Lib.hid hLc; have HKc := Lib.hid hkc; have hzc := hkc.below.size; clear hLc hkc)
        | (go_at_call 8; (with_reducible refine (lock_V w.heap.size (w.heap.size + 1) (k % 8) ((k : Int) % 8) (y % 1099511627776) (k : Int) ((LA vs k).payIn (k % 8) (y % 1099511627776)) (LA vs (k + 1)) _ HLc.out (by omega) (by omega) F.out.h0 F.out.h2 (by omega) F.out.hn F.out.hN F.out.hS F.out.ok2).mono ?_); rintro e wd ⟨rfl, hLd, hkd⟩; have HLd := Lib.hid hLd; have HKd := Lib.hid hkd; have hzd := hkd.below.size; clear hLd hkd))
      go_roundw
      case rel =>
        exact ⟨k + 1, by omega, by go_num, by rw [F.out.s1, HS.out], HLd.out, (HKd.out.row (HKc.out.row HRr.out (by decide) (by decide)) (by decide) (by decide)), (hbr.trans (HKc.out.below.mono (by omega))).trans (HKd.out.below.mono (by omega)), by omega⟩
      case measure => simp [intOf]; omega
    · have hkN : 20 = k := by omega
      subst hkN
      clear hlt hk
      obtain ⟨tot, htot⟩ : ∃ tot, tot = (vs.take 20).sum := ⟨_, rfl⟩
      have HTot : Hid (tot = vs.sum) := by show tot = vs.sum; rw [htot, ← HN.out, List.take_length]
      have HLk : Hid ((LA vs 20).lk = tot) := htot.symm
      rw [← htot]
      clear htot
      have HLr2 : Hid (Led wr w.heap.size (w.heap.size + 1) (LA vs vs.length)) := by rw [HN.out]; exact HLr.out
      go_wp2_with (first
        | (go_at_call 10; (with_reducible refine (locked_V w.heap.size (w.heap.size + 1) tot (LA vs 20) _ HLr.out HLk.out).mono ?_); rintro e w' ⟨rfl, rfl⟩))
      obtain ⟨wv, hwv⟩ : ∃ wv, wv = wr := ⟨_, rfl⟩
      go_loopw [79] (fun i wr => ∃ (k : Nat) (S : LS), k ≤ 20 ∧ i = .int .i64 k ∧ Hid (LB vs k (fun i => (t + i * 23) % 20) S) ∧ Hid (Led wr w.heap.size (w.heap.size + 1) S) ∧ Hid (wr.rowIs wb.heap.size T8 8 (fun j => .int .u64 (S.bal j))) ∧ Below w.heap.size w wr ∧ wb.heap.size < wr.heap.size) (fun i _ => 20 - (intOf i).toNat)
      case atStart => exact ⟨0, LA vs vs.length, by omega, rfl, LB.start _ _, HLr2.out, HRr.out, hbr, hsr⟩
      case round =>
        clear HLr HLr2 HRr hbr hsr HLk
        obtain ⟨k, S, hk, rfl, HB, HLr, HRr, hbr, hsr⟩ := hrel
        by_cases hlt : k < 20
        · obtain ⟨kn, hkn⟩ : ∃ kn, kn = (t + k * 23) % 20 := ⟨_, rfl⟩
          have knlt : kn < 20 := by rw [hkn]; exact Nat.mod_lt _ (by omega)
          have HD : Hid (∀ i, i < k → (fun i => (t + i * 23) % 20) i ≠ (fun i => (t + i * 23) % 20) k) := by
            intro i hi e
            have := kk_inj 20 t i k (by omega) (by omega) hlt e
            omega
          have T0 : (IntKind.u64.wrap a2).tmod 20 = (t : Int) := (HT.out (by omega)).2
          have tlt : t < 20 := (HT.out (by omega)).1
          have K0 : ((t : Int) + (k : Int) * 23) % 20 = (kn : Int) := by rw [hkn]; simp
          obtain ⟨xb, xo, rfl, hxb, hx, hwf⟩ := row_cell HR0.out kn (by omega)
          have hxr : wr.cell? ⟨xb, xo + kn, none⟩ = some (.int .u64 (z0.getD kn 0)) := by
            rw [hbr.cell (p := ⟨xb, xo + kn, none⟩) (by show xb < _; omega)]; exact hx
          have y0 := (u64_wf hwf).1
          have HGk := Lib.hid (HG.out kn knlt)
          clear hx hwf
          generalize z0.getD kn 0 = y at hxr y0 HGk
          have KB : Hid (kn = (t + k * 23) % 20) := hkn
          clear hkn
          by_cases hl : len1 = 0
          · subst hl
            have F0 : Hid (LBf S kn 3 (y % 1099511627776)) := by
              have := LBf.of (p := 3) HB.out HV.out (by rw [HN.out]; show (t + k * 23) % 20 < 20; rw [← KB.out]; exact knlt) HD.out (by omega) (y := y % 1099511627776) (by show vs.getD ((t + k * 23) % 20) 0 = _; rw [← KB.out]; exact HGk.out)
              rw [← KB.out] at this; exact this
            have HNx : Hid (LB vs (k + 1) (fun i => (t + i * 23) % 20) (S.give kn 3)) := by
              have := HB.out.next (by rw [HN.out]; show (t + k * 23) % 20 < 20; rw [← KB.out]; exact knlt) HD.out HV.out (p := 3) (by omega)
              rw [← KB.out] at this; exact this
            have sb0 := F0.out.b0
            have sb1 := F0.out.b1
            obtain ⟨sb, hsb⟩ : ∃ sb, sb = S.bal 3 := ⟨_, rfl⟩
            have HSB : Hid (sb = S.bal 3) := hsb
            rw [← hsb] at sb0 sb1
            clear hsb
            go_wp2_with (first
              | (go_at_call 11; (with_reducible refine (give_V w.heap.size (w.heap.size + 1) kn 3 (kn : Int) 3 S (S.give kn 3) _ HLr.out rfl rfl (by omega) (by rw [HB.out.len, HN.out]; exact knlt) F0.out.fr rfl F0.out.ok).mono ?_); rintro e we ⟨rfl, hLe, hke⟩; have HLe := Lib.hid hLe; have HKe := Lib.hid hke; have hze := hke.below.size; have HRe := Lib.hid (hke.row HRr.out (by decide) (by decide)); have g1 : we.cell? ⟨wb.heap.size, 3, none⟩ = some (.int .u64 sb) := (by rw [HRe.out.cell (by omega), ← HSB.out]); have g2 := HRe.out.frozen 3; have g3 : we.cell? ⟨xb, xo + kn, none⟩ = some (.int .u64 y) := (by rw [hke.below.cell (p := ⟨xb, xo + kn, none⟩) (by show xb < _; omega)]; exact hxr); clear hLe hke hxr)
              | (go_at_call 11; (with_reducible refine (give_twiceV w.heap.size (w.heap.size + 1) kn 3 (kn : Int) 3 (S.give kn 3) _ HLe.out rfl rfl (by omega) (by rw [give_len, HB.out.len, HN.out]; exact knlt) F0.out.tw).mono ?_); rintro e w' ⟨rfl, rfl⟩)
              | (go_at_call 15; refine (is_num _ _ _).mono ?_; rintro e w' ⟨rfl, rfl⟩))
            go_region
            go_wp2
            go_roundw
            case rel =>
              have hbe : Below w.heap.size w we := hbr.trans (HKe.out.below.mono (by omega))
              refine ⟨k + 1, S.give kn 3, by omega, by go_num, HNx.out, ?_, ?_, ?_, ?_⟩
              · exact (HLe.out.setRow HRe.out (by decide) (by decide) 3 _).drew
              · refine ((HRe.out.set 3 _).drew).congr fun j hj => ?_
                rw [← F0.out.row j, HSB.out]
              · exact (hbe.setCell (by show w.heap.size ≤ wb.heap.size; omega) _).drew
              · simp; omega
            case measure => simp [intOf]; omega
          · obtain ⟨yb, yo, rfl, hyb, hy, _⟩ := row_cell HR1.out (kn % len1) (Nat.mod_lt _ (by omega))
            have hyr : wr.cell? ⟨yb, yo + kn % len1, none⟩ = some (.int .i64 (z1.getD (kn % len1) 0)) := by
              rw [hbr.cell (p := ⟨yb, yo + kn % len1, none⟩) (by show yb < _; omega)]; exact hy
            clear hy
            generalize z1.getD (kn % len1) 0 = q at hyr
            obtain ⟨pn, hp8, P0⟩ := p_nat q
            have hix0 : 0 ≤ (kn : Int) % (len1 : Int) := Int.emod_nonneg _ (by omega)
            have hix1 : (kn : Int) % (len1 : Int) < (len1 : Int) := Int.emod_lt_of_pos _ (by omega)
            have F0 : Hid (LBf S kn pn (y % 1099511627776)) := by
              have := LBf.of (p := pn) HB.out HV.out (by rw [HN.out]; show (t + k * 23) % 20 < 20; rw [← KB.out]; exact knlt) HD.out hp8 (y := y % 1099511627776) (by show vs.getD ((t + k * 23) % 20) 0 = _; rw [← KB.out]; exact HGk.out)
              rw [← KB.out] at this; exact this
            have HNx : Hid (LB vs (k + 1) (fun i => (t + i * 23) % 20) (S.give kn pn)) := by
              have := HB.out.next (by rw [HN.out]; show (t + k * 23) % 20 < 20; rw [← KB.out]; exact knlt) HD.out HV.out (p := pn) hp8
              rw [← KB.out] at this; exact this
            have sb0 := F0.out.b0
            have sb1 := F0.out.b1
            obtain ⟨sb, hsb⟩ : ∃ sb, sb = S.bal pn := ⟨_, rfl⟩
            have HSB : Hid (sb = S.bal pn) := hsb
            rw [← hsb] at sb0 sb1
            clear hsb
            go_wp2_with (first
              | (go_at_call 11; (with_reducible refine (give_V w.heap.size (w.heap.size + 1) kn pn (kn : Int) (pn : Int) S (S.give kn pn) _ HLr.out rfl rfl (by omega) (by rw [HB.out.len, HN.out]; exact knlt) F0.out.fr rfl F0.out.ok).mono ?_); rintro e we ⟨rfl, hLe, hke⟩; have HLe := Lib.hid hLe; have HKe := Lib.hid hke; have hze := hke.below.size; have HRe := Lib.hid (hke.row HRr.out (by decide) (by decide)); have g1 : we.cell? ⟨wb.heap.size, pn, none⟩ = some (.int .u64 sb) := (by rw [HRe.out.cell (by omega), ← HSB.out]); have g2 := HRe.out.frozen pn; have g3 : we.cell? ⟨xb, xo + kn, none⟩ = some (.int .u64 y) := (by rw [hke.below.cell (p := ⟨xb, xo + kn, none⟩) (by show xb < _; omega)]; exact hxr); clear hLe hke hxr)
              | (go_at_call 11; (with_reducible refine (give_twiceV w.heap.size (w.heap.size + 1) kn pn (kn : Int) (pn : Int) (S.give kn pn) _ HLe.out rfl rfl (by omega) (by rw [give_len, HB.out.len, HN.out]; exact knlt) F0.out.tw).mono ?_); rintro e w' ⟨rfl, rfl⟩)
              | (go_at_call 15; refine (is_num _ _ _).mono ?_; rintro e w' ⟨rfl, rfl⟩))
            go_region
            go_wp2
            go_roundw
            case rel =>
              have hbe : Below w.heap.size w we := hbr.trans (HKe.out.below.mono (by omega))
              refine ⟨k + 1, S.give kn pn, by omega, by go_num, HNx.out, ?_, ?_, ?_, ?_⟩
              · exact (HLe.out.setRow HRe.out (by decide) (by decide) pn _).drew
              · refine ((HRe.out.set pn _).drew).congr fun j hj => ?_
                rw [← F0.out.row j, HSB.out]
              · exact (hbe.setCell (by show w.heap.size ≤ wb.heap.size; omega) _).drew
              · simp; omega
            case measure => simp [intOf]; omega
        · have hkN : 20 = k := by omega
          subst hkN
          clear hlt hk
          have HBd : Hid (LB vs vs.length (fun i => (t + i * 23) % 20) S) := by rw [HN.out]; exact HB.out
          have HL0 : Hid (Led wr w.heap.size (w.heap.size + 1) (LC S 0)) := by rw [LC_zero]; exact HLr.out
          have E1 : Hid ((LC S 8).inn = tot) := by show S.inn = tot; rw [HTot.out]; exact HBd.out.inn
          have E2 : Hid ((LC S 8).out = tot) := by show (LC S 8).out = tot; rw [HTot.out]; exact HBd.out.paid
          have E3 : Hid ((LC S 8).lk = 0) := HBd.out.done
          have c0 : wr.cell? ⟨wb.heap.size, 0, none⟩ = some (.int .u64 (S.bal 0)) := HRr.out.cell (by omega)
          have c1 : wr.cell? ⟨wb.heap.size, 1, none⟩ = some (.int .u64 (S.bal 1)) := HRr.out.cell (by omega)
          have c2 : wr.cell? ⟨wb.heap.size, 2, none⟩ = some (.int .u64 (S.bal 2)) := HRr.out.cell (by omega)
          have c3 : wr.cell? ⟨wb.heap.size, 3, none⟩ = some (.int .u64 (S.bal 3)) := HRr.out.cell (by omega)
          have c4 : wr.cell? ⟨wb.heap.size, 4, none⟩ = some (.int .u64 (S.bal 4)) := HRr.out.cell (by omega)
          have c5 : wr.cell? ⟨wb.heap.size, 5, none⟩ = some (.int .u64 (S.bal 5)) := HRr.out.cell (by omega)
          have c6 : wr.cell? ⟨wb.heap.size, 6, none⟩ = some (.int .u64 (S.bal 6)) := HRr.out.cell (by omega)
          have c7 : wr.cell? ⟨wb.heap.size, 7, none⟩ = some (.int .u64 (S.bal 7)) := HRr.out.cell (by omega)
          go_wp2
          clear c0 c1 c2 c3 c4 c5 c6 c7
          refine wp_loop_rounds 9 ?_
          have ix0 := idx8_0 (.int .u64 (S.bal 0)) (.int .u64 (S.bal 1)) (.int .u64 (S.bal 2)) (.int .u64 (S.bal 3)) (.int .u64 (S.bal 4)) (.int .u64 (S.bal 5)) (.int .u64 (S.bal 6)) (.int .u64 (S.bal 7))
          rw [rounds_succ]
          go_wp2_with (first
            | (go_at_call 9; (with_reducible refine (balance_V w.heap.size (w.heap.size + 1) 0 0 (S.bal 0) (LC S 0) _ HL0.out rfl (by decide) (LC_bal S 0)).mono ?_); rintro e w' ⟨rfl, rfl⟩)
            | (go_at_call 12; (with_reducible refine (payOut_V w.heap.size (w.heap.size + 1) 0 0 (S.bal 0) (LC S 0) (LC S 1) _ HL0.out rfl (by decide) (HBd.out.nn 0 (by decide)) (Int.le_of_eq (LC_bal S 0).symm) (LC_step S 0) (HBd.out.lc_ok HV.out 1 (by decide))).mono ?_); rintro e v1 ⟨rfl, hL, hk⟩; have HL1 := Lib.hid hL; have HP1 := Lib.hid hk; have hv1 := hk.below.size; clear hL hk))
          have ix1 := idx8_1 (.int .u64 (S.bal 0)) (.int .u64 (S.bal 1)) (.int .u64 (S.bal 2)) (.int .u64 (S.bal 3)) (.int .u64 (S.bal 4)) (.int .u64 (S.bal 5)) (.int .u64 (S.bal 6)) (.int .u64 (S.bal 7))
          rw [rounds_succ]
          go_wp2_with (first
            | (go_at_call 9; (with_reducible refine (balance_V w.heap.size (w.heap.size + 1) 1 1 (S.bal 1) (LC S 1) _ HL1.out rfl (by decide) (LC_bal S 1)).mono ?_); rintro e w' ⟨rfl, rfl⟩)
            | (go_at_call 12; (with_reducible refine (payOut_V w.heap.size (w.heap.size + 1) 1 1 (S.bal 1) (LC S 1) (LC S 2) _ HL1.out rfl (by decide) (HBd.out.nn 1 (by decide)) (Int.le_of_eq (LC_bal S 1).symm) (LC_step S 1) (HBd.out.lc_ok HV.out 2 (by decide))).mono ?_); rintro e v2 ⟨rfl, hL, hk⟩; have HL2 := Lib.hid hL; have HP2 := Lib.hid hk; have hv2 := hk.below.size; clear hL hk))
          have ix2 := idx8_2 (.int .u64 (S.bal 0)) (.int .u64 (S.bal 1)) (.int .u64 (S.bal 2)) (.int .u64 (S.bal 3)) (.int .u64 (S.bal 4)) (.int .u64 (S.bal 5)) (.int .u64 (S.bal 6)) (.int .u64 (S.bal 7))
          rw [rounds_succ]
          go_wp2_with (first
            | (go_at_call 9; (with_reducible refine (balance_V w.heap.size (w.heap.size + 1) 2 2 (S.bal 2) (LC S 2) _ HL2.out rfl (by decide) (LC_bal S 2)).mono ?_); rintro e w' ⟨rfl, rfl⟩)
            | (go_at_call 12; (with_reducible refine (payOut_V w.heap.size (w.heap.size + 1) 2 2 (S.bal 2) (LC S 2) (LC S 3) _ HL2.out rfl (by decide) (HBd.out.nn 2 (by decide)) (Int.le_of_eq (LC_bal S 2).symm) (LC_step S 2) (HBd.out.lc_ok HV.out 3 (by decide))).mono ?_); rintro e v3 ⟨rfl, hL, hk⟩; have HL3 := Lib.hid hL; have HP3 := Lib.hid hk; have hv3 := hk.below.size; clear hL hk))
          have ix3 := idx8_3 (.int .u64 (S.bal 0)) (.int .u64 (S.bal 1)) (.int .u64 (S.bal 2)) (.int .u64 (S.bal 3)) (.int .u64 (S.bal 4)) (.int .u64 (S.bal 5)) (.int .u64 (S.bal 6)) (.int .u64 (S.bal 7))
          rw [rounds_succ]
          go_wp2_with (first
            | (go_at_call 9; (with_reducible refine (balance_V w.heap.size (w.heap.size + 1) 3 3 (S.bal 3) (LC S 3) _ HL3.out rfl (by decide) (LC_bal S 3)).mono ?_); rintro e w' ⟨rfl, rfl⟩)
            | (go_at_call 12; (with_reducible refine (payOut_V w.heap.size (w.heap.size + 1) 3 3 (S.bal 3) (LC S 3) (LC S 4) _ HL3.out rfl (by decide) (HBd.out.nn 3 (by decide)) (Int.le_of_eq (LC_bal S 3).symm) (LC_step S 3) (HBd.out.lc_ok HV.out 4 (by decide))).mono ?_); rintro e v4 ⟨rfl, hL, hk⟩; have HL4 := Lib.hid hL; have HP4 := Lib.hid hk; have hv4 := hk.below.size; clear hL hk))
          have ix4 := idx8_4 (.int .u64 (S.bal 0)) (.int .u64 (S.bal 1)) (.int .u64 (S.bal 2)) (.int .u64 (S.bal 3)) (.int .u64 (S.bal 4)) (.int .u64 (S.bal 5)) (.int .u64 (S.bal 6)) (.int .u64 (S.bal 7))
          rw [rounds_succ]
          go_wp2_with (first
            | (go_at_call 9; (with_reducible refine (balance_V w.heap.size (w.heap.size + 1) 4 4 (S.bal 4) (LC S 4) _ HL4.out rfl (by decide) (LC_bal S 4)).mono ?_); rintro e w' ⟨rfl, rfl⟩)
            | (go_at_call 12; (with_reducible refine (payOut_V w.heap.size (w.heap.size + 1) 4 4 (S.bal 4) (LC S 4) (LC S 5) _ HL4.out rfl (by decide) (HBd.out.nn 4 (by decide)) (Int.le_of_eq (LC_bal S 4).symm) (LC_step S 4) (HBd.out.lc_ok HV.out 5 (by decide))).mono ?_); rintro e v5 ⟨rfl, hL, hk⟩; have HL5 := Lib.hid hL; have HP5 := Lib.hid hk; have hv5 := hk.below.size; clear hL hk))
          have ix5 := idx8_5 (.int .u64 (S.bal 0)) (.int .u64 (S.bal 1)) (.int .u64 (S.bal 2)) (.int .u64 (S.bal 3)) (.int .u64 (S.bal 4)) (.int .u64 (S.bal 5)) (.int .u64 (S.bal 6)) (.int .u64 (S.bal 7))
          rw [rounds_succ]
          go_wp2_with (first
            | (go_at_call 9; (with_reducible refine (balance_V w.heap.size (w.heap.size + 1) 5 5 (S.bal 5) (LC S 5) _ HL5.out rfl (by decide) (LC_bal S 5)).mono ?_); rintro e w' ⟨rfl, rfl⟩)
            | (go_at_call 12; (with_reducible refine (payOut_V w.heap.size (w.heap.size + 1) 5 5 (S.bal 5) (LC S 5) (LC S 6) _ HL5.out rfl (by decide) (HBd.out.nn 5 (by decide)) (Int.le_of_eq (LC_bal S 5).symm) (LC_step S 5) (HBd.out.lc_ok HV.out 6 (by decide))).mono ?_); rintro e v6 ⟨rfl, hL, hk⟩; have HL6 := Lib.hid hL; have HP6 := Lib.hid hk; have hv6 := hk.below.size; clear hL hk))
          have ix6 := idx8_6 (.int .u64 (S.bal 0)) (.int .u64 (S.bal 1)) (.int .u64 (S.bal 2)) (.int .u64 (S.bal 3)) (.int .u64 (S.bal 4)) (.int .u64 (S.bal 5)) (.int .u64 (S.bal 6)) (.int .u64 (S.bal 7))
          rw [rounds_succ]
          go_wp2_with (first
            | (go_at_call 9; (with_reducible refine (balance_V w.heap.size (w.heap.size + 1) 6 6 (S.bal 6) (LC S 6) _ HL6.out rfl (by decide) (LC_bal S 6)).mono ?_); rintro e w' ⟨rfl, rfl⟩)
            | (go_at_call 12; (with_reducible refine (payOut_V w.heap.size (w.heap.size + 1) 6 6 (S.bal 6) (LC S 6) (LC S 7) _ HL6.out rfl (by decide) (HBd.out.nn 6 (by decide)) (Int.le_of_eq (LC_bal S 6).symm) (LC_step S 6) (HBd.out.lc_ok HV.out 7 (by decide))).mono ?_); rintro e v7 ⟨rfl, hL, hk⟩; have HL7 := Lib.hid hL; have HP7 := Lib.hid hk; have hv7 := hk.below.size; clear hL hk))
          have ix7 := idx8_7 (.int .u64 (S.bal 0)) (.int .u64 (S.bal 1)) (.int .u64 (S.bal 2)) (.int .u64 (S.bal 3)) (.int .u64 (S.bal 4)) (.int .u64 (S.bal 5)) (.int .u64 (S.bal 6)) (.int .u64 (S.bal 7))
          rw [rounds_succ]
          go_wp2_with (first
            | (go_at_call 9; (with_reducible refine (balance_V w.heap.size (w.heap.size + 1) 7 7 (S.bal 7) (LC S 7) _ HL7.out rfl (by decide) (LC_bal S 7)).mono ?_); rintro e w' ⟨rfl, rfl⟩)
            | (go_at_call 12; (with_reducible refine (payOut_V w.heap.size (w.heap.size + 1) 7 7 (S.bal 7) (LC S 7) (LC S 8) _ HL7.out rfl (by decide) (HBd.out.nn 7 (by decide)) (Int.le_of_eq (LC_bal S 7).symm) (LC_step S 7) (HBd.out.lc_ok HV.out 8 (by decide))).mono ?_); rintro e v8 ⟨rfl, hL, hk⟩; have HL8 := Lib.hid hL; have HP8 := Lib.hid hk; have hv8 := hk.below.size; clear hL hk))
          rw [rounds_succ]
          go_wp2_with (first
            | (go_at_call 13; (with_reducible refine (flows_V w.heap.size (w.heap.size + 1) tot tot (LC S 8) _ HL8.out E1.out E2.out).mono ?_); rintro e v9 ⟨rfl, hb9⟩; have HL9 := Lib.hid (HL8.out.kept hb9); have HP9 := Lib.hid hb9; have hv9 := hb9.size; clear hb9)
            | (go_at_call 10; (with_reducible refine (locked_V w.heap.size (w.heap.size + 1) 0 (LC S 8) _ HL9.out E3.out).mono ?_); rintro e w' ⟨rfl, rfl⟩))
          go_returns
          exact ⟨rfl, (hbr.trans (HP1.out.below.mono (by omega))).trans ((HP2.out.below.trans (HP3.out.below.trans (HP4.out.below.trans (HP5.out.below.trans (HP6.out.below.trans (HP7.out.below.trans (HP8.out.below.trans (HP9.out.mono (by omega))))))))))⟩

set_option maxRecDepth 100000 in
set_option maxHeartbeats 8000000 in
theorem bonds_few (w : World) (a0 : Option Addr) (len0 cap0 : Nat) (z0 : List Int) (w0 : IsRow .u64 w a0 len0 cap0 z0) (a1 : Option Addr) (len1 cap1 : Nat) (z1 : List Int) (w1 : IsRow .i64 w a1 len1 cap1 z1) (a2 : Int) (hlen : len0 ≤ 20) :
    Calls Try.prog 4 #[.slice a0 len0 cap0, .slice a1 len1 cap1, .int .i64 a2] w fun e w' => e = .returned (.bool true) ∧ Below w.heap.size w w' := by
  have hz := row_zlen w0
  have hl0 := row_len w0
  have hl1 := row_len w1
  have HR0 := Lib.hid w0
  have HR1 := Lib.hid w1
  clear w0 w1
  obtain ⟨vs, hvs⟩ : ∃ vs, vs = bvs z0 len0 := ⟨_, rfl⟩
  have HV : Hid (Vs vs) := by rw [hvs]; exact bvs_vs z0 len0 (by omega)
  have HN : Hid (vs.length = len0) := by rw [hvs]; exact bvs_len z0 len0 (by omega)
  have HG : Hid (∀ k, k < len0 → vs.getD k 0 = z0.getD k 0 % 1099511627776) := by intro k hk; rw [hvs]; exact bvs_get z0 len0 k (by omega) hk
  clear hvs hz
  obtain ⟨t, ht⟩ := tnat a2 len0
  have HT := Lib.hid ht
  clear ht
  have hB : decide ((20 : Int) < (len0 : Int)) = false := by simp; omega
  go_enter Try.func4, Try.ntmps4
  go_wp2_with (first
    | (go_at_call 6; (with_reducible refine (new_calls _).mono ?_); rintro e wa ⟨rfl, hLa, hba⟩; have HLa := Lib.hid hLa; have HBa := Lib.hid hba; have hza : w.heap.size < wa.heap.size := (hLa.row.choose_spec.1.lt); clear hLa hba)
    | (go_at_call 14; (with_reducible refine (fixed18_calls _).mono ?_); rintro e wb ⟨rfl, hbb⟩; have HLb := Lib.hid (HLa.out.kept hbb); have HBb := Lib.hid hbb; have hzb := hbb.size; clear hbb))
  go_loopw [8, 39] (fun t i wr => ∃ k : Nat, k ≤ len0 ∧ i = .int .i64 k ∧ t = .int .u64 (vs.take k).sum ∧ Hid (Led wr w.heap.size (w.heap.size + 1) (LA vs k)) ∧ Hid (wr.rowIs wb.heap.size T8 8 (fun _ => .int .u64 0)) ∧ Below w.heap.size w wr ∧ wb.heap.size < wr.heap.size) (fun _ i _ => len0 - (intOf i).toNat)
  case atStart => exact ⟨0, by omega, rfl, by simp, by rw [LA_zero]; exact (HLb.out.kept ((Below.refl _ _).alloc (Nat.le_refl _) _)), alloc8 _, (HBa.out.trans (HBb.out.mono (by omega))).alloc (by omega) _, by simp⟩
  case round =>
    obtain ⟨k, hk, rfl, rfl, HLr, HRr, hbr, hsr⟩ := hrel
    by_cases hlt : k < len0
    · obtain ⟨xb, xo, rfl, hxb, hx, hwf⟩ := row_cell HR0.out k (by omega)
      have hxr : wr.cell? ⟨xb, xo + k, none⟩ = some (.int .u64 (z0.getD k 0)) := by
        rw [hbr.cell (p := ⟨xb, xo + k, none⟩) (by show xb < _; omega)]; exact hx
      have F := Lib.hid (LAf.of HV.out (by rw [HN.out]; exact hlt) (HG.out k hlt))
      have y0 := (u64_wf hwf).1
      clear hx hwf
      generalize z0.getD k 0 = y at hxr y0 F
      have s2 := F.out.s2
      obtain ⟨s, hs⟩ : ∃ s, s = (vs.take k).sum := ⟨_, rfl⟩
      rw [← hs] at s2 ⊢
      have HS : Hid (s = (vs.take k).sum) := hs
      clear hs
      go_wp2_with (first
        | (go_at_call 7; (with_reducible refine (payIn_V w.heap.size (w.heap.size + 1) (k % 8) ((k : Int) % 8) (y % 1099511627776) (LA vs k) ((LA vs k).payIn (k % 8) (y % 1099511627776)) _ HLr.out (by omega) (by omega) F.out.h0 F.out.h1 rfl F.out.ok1).mono ?_); rintro e wc ⟨rfl, hLc, hkc⟩; have HLc := Lib.hid hLc; have HKc := Lib.hid hkc; have hzc := hkc.below.size; clear hLc hkc)
        | (go_at_call 8; (with_reducible refine (lock_V w.heap.size (w.heap.size + 1) (k % 8) ((k : Int) % 8) (y % 1099511627776) (k : Int) ((LA vs k).payIn (k % 8) (y % 1099511627776)) (LA vs (k + 1)) _ HLc.out (by omega) (by omega) F.out.h0 F.out.h2 (by omega) F.out.hn F.out.hN F.out.hS F.out.ok2).mono ?_); rintro e wd ⟨rfl, hLd, hkd⟩; have HLd := Lib.hid hLd; have HKd := Lib.hid hkd; have hzd := hkd.below.size; clear hLd hkd))
      go_roundw
      case rel =>
        exact ⟨k + 1, by omega, by go_num, by rw [F.out.s1, HS.out], HLd.out, (HKd.out.row (HKc.out.row HRr.out (by decide) (by decide)) (by decide) (by decide)), (hbr.trans (HKc.out.below.mono (by omega))).trans (HKd.out.below.mono (by omega)), by omega⟩
      case measure => simp [intOf]; omega
    · have hkN : len0 = k := by omega
      subst hkN
      clear hlt hk
      obtain ⟨tot, htot⟩ : ∃ tot, tot = (vs.take len0).sum := ⟨_, rfl⟩
      have HTot : Hid (tot = vs.sum) := by show tot = vs.sum; rw [htot, ← HN.out, List.take_length]
      have HLk : Hid ((LA vs len0).lk = tot) := htot.symm
      rw [← htot]
      clear htot
      have HLr2 : Hid (Led wr w.heap.size (w.heap.size + 1) (LA vs vs.length)) := by rw [HN.out]; exact HLr.out
      go_wp2_with (first
        | (go_at_call 10; (with_reducible refine (locked_V w.heap.size (w.heap.size + 1) tot (LA vs len0) _ HLr.out HLk.out).mono ?_); rintro e w' ⟨rfl, rfl⟩))
      obtain ⟨wv, hwv⟩ : ∃ wv, wv = wr := ⟨_, rfl⟩
      go_loopw [79] (fun i wr => ∃ (k : Nat) (S : LS), k ≤ len0 ∧ i = .int .i64 k ∧ Hid (LB vs k (fun i => (t + i * 23) % len0) S) ∧ Hid (Led wr w.heap.size (w.heap.size + 1) S) ∧ Hid (wr.rowIs wb.heap.size T8 8 (fun j => .int .u64 (S.bal j))) ∧ Below w.heap.size w wr ∧ wb.heap.size < wr.heap.size) (fun i _ => len0 - (intOf i).toNat)
      case atStart => exact ⟨0, LA vs vs.length, by omega, rfl, LB.start _ _, HLr2.out, HRr.out, hbr, hsr⟩
      case round =>
        clear HLr HLr2 HRr hbr hsr HLk
        obtain ⟨k, S, hk, rfl, HB, HLr, HRr, hbr, hsr⟩ := hrel
        by_cases hlt : k < len0
        · obtain ⟨kn, hkn⟩ : ∃ kn, kn = (t + k * 23) % len0 := ⟨_, rfl⟩
          have knlt : kn < len0 := by rw [hkn]; exact Nat.mod_lt _ (by omega)
          have HD : Hid (∀ i, i < k → (fun i => (t + i * 23) % len0) i ≠ (fun i => (t + i * 23) % len0) k) := by
            intro i hi e
            have := kk_inj len0 t i k (by omega) (by omega) hlt e
            omega
          have T0 : (IntKind.u64.wrap a2).tmod (len0 : Int) = (t : Int) := (HT.out (by omega)).2
          have tlt : t < len0 := (HT.out (by omega)).1
          have K0 : ((t : Int) + (k : Int) * 23) % (len0 : Int) = (kn : Int) := by rw [hkn]; simp
          obtain ⟨xb, xo, rfl, hxb, hx, hwf⟩ := row_cell HR0.out kn (by omega)
          have hxr : wr.cell? ⟨xb, xo + kn, none⟩ = some (.int .u64 (z0.getD kn 0)) := by
            rw [hbr.cell (p := ⟨xb, xo + kn, none⟩) (by show xb < _; omega)]; exact hx
          have y0 := (u64_wf hwf).1
          have HGk := Lib.hid (HG.out kn knlt)
          clear hx hwf
          generalize z0.getD kn 0 = y at hxr y0 HGk
          have KB : Hid (kn = (t + k * 23) % len0) := hkn
          clear hkn
          have N0 : ((len0 : Int) % 23 == 0) = false := by simp; omega
          by_cases hl : len1 = 0
          · subst hl
            have F0 : Hid (LBf S kn 3 (y % 1099511627776)) := by
              have := LBf.of (p := 3) HB.out HV.out (by rw [HN.out]; show (t + k * 23) % len0 < len0; rw [← KB.out]; exact knlt) HD.out (by omega) (y := y % 1099511627776) (by show vs.getD ((t + k * 23) % len0) 0 = _; rw [← KB.out]; exact HGk.out)
              rw [← KB.out] at this; exact this
            have HNx : Hid (LB vs (k + 1) (fun i => (t + i * 23) % len0) (S.give kn 3)) := by
              have := HB.out.next (by rw [HN.out]; show (t + k * 23) % len0 < len0; rw [← KB.out]; exact knlt) HD.out HV.out (p := 3) (by omega)
              rw [← KB.out] at this; exact this
            have sb0 := F0.out.b0
            have sb1 := F0.out.b1
            obtain ⟨sb, hsb⟩ : ∃ sb, sb = S.bal 3 := ⟨_, rfl⟩
            have HSB : Hid (sb = S.bal 3) := hsb
            rw [← hsb] at sb0 sb1
            clear hsb
            go_wp2_with (first
              | (go_at_call 11; (with_reducible refine (give_V w.heap.size (w.heap.size + 1) kn 3 (kn : Int) 3 S (S.give kn 3) _ HLr.out rfl rfl (by omega) (by rw [HB.out.len, HN.out]; exact knlt) F0.out.fr rfl F0.out.ok).mono ?_); rintro e we ⟨rfl, hLe, hke⟩; have HLe := Lib.hid hLe; have HKe := Lib.hid hke; have hze := hke.below.size; have HRe := Lib.hid (hke.row HRr.out (by decide) (by decide)); have g1 : we.cell? ⟨wb.heap.size, 3, none⟩ = some (.int .u64 sb) := (by rw [HRe.out.cell (by omega), ← HSB.out]); have g2 := HRe.out.frozen 3; have g3 : we.cell? ⟨xb, xo + kn, none⟩ = some (.int .u64 y) := (by rw [hke.below.cell (p := ⟨xb, xo + kn, none⟩) (by show xb < _; omega)]; exact hxr); clear hLe hke hxr)
              | (go_at_call 11; (with_reducible refine (give_twiceV w.heap.size (w.heap.size + 1) kn 3 (kn : Int) 3 (S.give kn 3) _ HLe.out rfl rfl (by omega) (by rw [give_len, HB.out.len, HN.out]; exact knlt) F0.out.tw).mono ?_); rintro e w' ⟨rfl, rfl⟩)
              | (go_at_call 15; refine (is_num _ _ _).mono ?_; rintro e w' ⟨rfl, rfl⟩))
            go_region
            go_wp2
            go_roundw
            case rel =>
              have hbe : Below w.heap.size w we := hbr.trans (HKe.out.below.mono (by omega))
              refine ⟨k + 1, S.give kn 3, by omega, by go_num, HNx.out, ?_, ?_, ?_, ?_⟩
              · exact (HLe.out.setRow HRe.out (by decide) (by decide) 3 _).drew
              · refine ((HRe.out.set 3 _).drew).congr fun j hj => ?_
                rw [← F0.out.row j, HSB.out]
              · exact (hbe.setCell (by show w.heap.size ≤ wb.heap.size; omega) _).drew
              · simp; omega
            case measure => simp [intOf]; omega
          · obtain ⟨yb, yo, rfl, hyb, hy, _⟩ := row_cell HR1.out (kn % len1) (Nat.mod_lt _ (by omega))
            have hyr : wr.cell? ⟨yb, yo + kn % len1, none⟩ = some (.int .i64 (z1.getD (kn % len1) 0)) := by
              rw [hbr.cell (p := ⟨yb, yo + kn % len1, none⟩) (by show yb < _; omega)]; exact hy
            clear hy
            generalize z1.getD (kn % len1) 0 = q at hyr
            obtain ⟨pn, hp8, P0⟩ := p_nat q
            have hix0 : 0 ≤ (kn : Int) % (len1 : Int) := Int.emod_nonneg _ (by omega)
            have hix1 : (kn : Int) % (len1 : Int) < (len1 : Int) := Int.emod_lt_of_pos _ (by omega)
            have F0 : Hid (LBf S kn pn (y % 1099511627776)) := by
              have := LBf.of (p := pn) HB.out HV.out (by rw [HN.out]; show (t + k * 23) % len0 < len0; rw [← KB.out]; exact knlt) HD.out hp8 (y := y % 1099511627776) (by show vs.getD ((t + k * 23) % len0) 0 = _; rw [← KB.out]; exact HGk.out)
              rw [← KB.out] at this; exact this
            have HNx : Hid (LB vs (k + 1) (fun i => (t + i * 23) % len0) (S.give kn pn)) := by
              have := HB.out.next (by rw [HN.out]; show (t + k * 23) % len0 < len0; rw [← KB.out]; exact knlt) HD.out HV.out (p := pn) hp8
              rw [← KB.out] at this; exact this
            have sb0 := F0.out.b0
            have sb1 := F0.out.b1
            obtain ⟨sb, hsb⟩ : ∃ sb, sb = S.bal pn := ⟨_, rfl⟩
            have HSB : Hid (sb = S.bal pn) := hsb
            rw [← hsb] at sb0 sb1
            clear hsb
            go_wp2_with (first
              | (go_at_call 11; (with_reducible refine (give_V w.heap.size (w.heap.size + 1) kn pn (kn : Int) (pn : Int) S (S.give kn pn) _ HLr.out rfl rfl (by omega) (by rw [HB.out.len, HN.out]; exact knlt) F0.out.fr rfl F0.out.ok).mono ?_); rintro e we ⟨rfl, hLe, hke⟩; have HLe := Lib.hid hLe; have HKe := Lib.hid hke; have hze := hke.below.size; have HRe := Lib.hid (hke.row HRr.out (by decide) (by decide)); have g1 : we.cell? ⟨wb.heap.size, pn, none⟩ = some (.int .u64 sb) := (by rw [HRe.out.cell (by omega), ← HSB.out]); have g2 := HRe.out.frozen pn; have g3 : we.cell? ⟨xb, xo + kn, none⟩ = some (.int .u64 y) := (by rw [hke.below.cell (p := ⟨xb, xo + kn, none⟩) (by show xb < _; omega)]; exact hxr); clear hLe hke hxr)
              | (go_at_call 11; (with_reducible refine (give_twiceV w.heap.size (w.heap.size + 1) kn pn (kn : Int) (pn : Int) (S.give kn pn) _ HLe.out rfl rfl (by omega) (by rw [give_len, HB.out.len, HN.out]; exact knlt) F0.out.tw).mono ?_); rintro e w' ⟨rfl, rfl⟩)
              | (go_at_call 15; refine (is_num _ _ _).mono ?_; rintro e w' ⟨rfl, rfl⟩))
            go_region
            go_wp2
            go_roundw
            case rel =>
              have hbe : Below w.heap.size w we := hbr.trans (HKe.out.below.mono (by omega))
              refine ⟨k + 1, S.give kn pn, by omega, by go_num, HNx.out, ?_, ?_, ?_, ?_⟩
              · exact (HLe.out.setRow HRe.out (by decide) (by decide) pn _).drew
              · refine ((HRe.out.set pn _).drew).congr fun j hj => ?_
                rw [← F0.out.row j, HSB.out]
              · exact (hbe.setCell (by show w.heap.size ≤ wb.heap.size; omega) _).drew
              · simp; omega
            case measure => simp [intOf]; omega
        · have hkN : len0 = k := by omega
          subst hkN
          clear hlt hk
          have HBd : Hid (LB vs vs.length (fun i => (t + i * 23) % len0) S) := by rw [HN.out]; exact HB.out
          have HL0 : Hid (Led wr w.heap.size (w.heap.size + 1) (LC S 0)) := by rw [LC_zero]; exact HLr.out
          have E1 : Hid ((LC S 8).inn = tot) := by show S.inn = tot; rw [HTot.out]; exact HBd.out.inn
          have E2 : Hid ((LC S 8).out = tot) := by show (LC S 8).out = tot; rw [HTot.out]; exact HBd.out.paid
          have E3 : Hid ((LC S 8).lk = 0) := HBd.out.done
          have c0 : wr.cell? ⟨wb.heap.size, 0, none⟩ = some (.int .u64 (S.bal 0)) := HRr.out.cell (by omega)
          have c1 : wr.cell? ⟨wb.heap.size, 1, none⟩ = some (.int .u64 (S.bal 1)) := HRr.out.cell (by omega)
          have c2 : wr.cell? ⟨wb.heap.size, 2, none⟩ = some (.int .u64 (S.bal 2)) := HRr.out.cell (by omega)
          have c3 : wr.cell? ⟨wb.heap.size, 3, none⟩ = some (.int .u64 (S.bal 3)) := HRr.out.cell (by omega)
          have c4 : wr.cell? ⟨wb.heap.size, 4, none⟩ = some (.int .u64 (S.bal 4)) := HRr.out.cell (by omega)
          have c5 : wr.cell? ⟨wb.heap.size, 5, none⟩ = some (.int .u64 (S.bal 5)) := HRr.out.cell (by omega)
          have c6 : wr.cell? ⟨wb.heap.size, 6, none⟩ = some (.int .u64 (S.bal 6)) := HRr.out.cell (by omega)
          have c7 : wr.cell? ⟨wb.heap.size, 7, none⟩ = some (.int .u64 (S.bal 7)) := HRr.out.cell (by omega)
          go_wp2
          clear c0 c1 c2 c3 c4 c5 c6 c7
          refine wp_loop_rounds 9 ?_
          have ix0 := idx8_0 (.int .u64 (S.bal 0)) (.int .u64 (S.bal 1)) (.int .u64 (S.bal 2)) (.int .u64 (S.bal 3)) (.int .u64 (S.bal 4)) (.int .u64 (S.bal 5)) (.int .u64 (S.bal 6)) (.int .u64 (S.bal 7))
          rw [rounds_succ]
          go_wp2_with (first
            | (go_at_call 9; (with_reducible refine (balance_V w.heap.size (w.heap.size + 1) 0 0 (S.bal 0) (LC S 0) _ HL0.out rfl (by decide) (LC_bal S 0)).mono ?_); rintro e w' ⟨rfl, rfl⟩)
            | (go_at_call 12; (with_reducible refine (payOut_V w.heap.size (w.heap.size + 1) 0 0 (S.bal 0) (LC S 0) (LC S 1) _ HL0.out rfl (by decide) (HBd.out.nn 0 (by decide)) (Int.le_of_eq (LC_bal S 0).symm) (LC_step S 0) (HBd.out.lc_ok HV.out 1 (by decide))).mono ?_); rintro e v1 ⟨rfl, hL, hk⟩; have HL1 := Lib.hid hL; have HP1 := Lib.hid hk; have hv1 := hk.below.size; clear hL hk))
          have ix1 := idx8_1 (.int .u64 (S.bal 0)) (.int .u64 (S.bal 1)) (.int .u64 (S.bal 2)) (.int .u64 (S.bal 3)) (.int .u64 (S.bal 4)) (.int .u64 (S.bal 5)) (.int .u64 (S.bal 6)) (.int .u64 (S.bal 7))
          rw [rounds_succ]
          go_wp2_with (first
            | (go_at_call 9; (with_reducible refine (balance_V w.heap.size (w.heap.size + 1) 1 1 (S.bal 1) (LC S 1) _ HL1.out rfl (by decide) (LC_bal S 1)).mono ?_); rintro e w' ⟨rfl, rfl⟩)
            | (go_at_call 12; (with_reducible refine (payOut_V w.heap.size (w.heap.size + 1) 1 1 (S.bal 1) (LC S 1) (LC S 2) _ HL1.out rfl (by decide) (HBd.out.nn 1 (by decide)) (Int.le_of_eq (LC_bal S 1).symm) (LC_step S 1) (HBd.out.lc_ok HV.out 2 (by decide))).mono ?_); rintro e v2 ⟨rfl, hL, hk⟩; have HL2 := Lib.hid hL; have HP2 := Lib.hid hk; have hv2 := hk.below.size; clear hL hk))
          have ix2 := idx8_2 (.int .u64 (S.bal 0)) (.int .u64 (S.bal 1)) (.int .u64 (S.bal 2)) (.int .u64 (S.bal 3)) (.int .u64 (S.bal 4)) (.int .u64 (S.bal 5)) (.int .u64 (S.bal 6)) (.int .u64 (S.bal 7))
          rw [rounds_succ]
          go_wp2_with (first
            | (go_at_call 9; (with_reducible refine (balance_V w.heap.size (w.heap.size + 1) 2 2 (S.bal 2) (LC S 2) _ HL2.out rfl (by decide) (LC_bal S 2)).mono ?_); rintro e w' ⟨rfl, rfl⟩)
            | (go_at_call 12; (with_reducible refine (payOut_V w.heap.size (w.heap.size + 1) 2 2 (S.bal 2) (LC S 2) (LC S 3) _ HL2.out rfl (by decide) (HBd.out.nn 2 (by decide)) (Int.le_of_eq (LC_bal S 2).symm) (LC_step S 2) (HBd.out.lc_ok HV.out 3 (by decide))).mono ?_); rintro e v3 ⟨rfl, hL, hk⟩; have HL3 := Lib.hid hL; have HP3 := Lib.hid hk; have hv3 := hk.below.size; clear hL hk))
          have ix3 := idx8_3 (.int .u64 (S.bal 0)) (.int .u64 (S.bal 1)) (.int .u64 (S.bal 2)) (.int .u64 (S.bal 3)) (.int .u64 (S.bal 4)) (.int .u64 (S.bal 5)) (.int .u64 (S.bal 6)) (.int .u64 (S.bal 7))
          rw [rounds_succ]
          go_wp2_with (first
            | (go_at_call 9; (with_reducible refine (balance_V w.heap.size (w.heap.size + 1) 3 3 (S.bal 3) (LC S 3) _ HL3.out rfl (by decide) (LC_bal S 3)).mono ?_); rintro e w' ⟨rfl, rfl⟩)
            | (go_at_call 12; (with_reducible refine (payOut_V w.heap.size (w.heap.size + 1) 3 3 (S.bal 3) (LC S 3) (LC S 4) _ HL3.out rfl (by decide) (HBd.out.nn 3 (by decide)) (Int.le_of_eq (LC_bal S 3).symm) (LC_step S 3) (HBd.out.lc_ok HV.out 4 (by decide))).mono ?_); rintro e v4 ⟨rfl, hL, hk⟩; have HL4 := Lib.hid hL; have HP4 := Lib.hid hk; have hv4 := hk.below.size; clear hL hk))
          have ix4 := idx8_4 (.int .u64 (S.bal 0)) (.int .u64 (S.bal 1)) (.int .u64 (S.bal 2)) (.int .u64 (S.bal 3)) (.int .u64 (S.bal 4)) (.int .u64 (S.bal 5)) (.int .u64 (S.bal 6)) (.int .u64 (S.bal 7))
          rw [rounds_succ]
          go_wp2_with (first
            | (go_at_call 9; (with_reducible refine (balance_V w.heap.size (w.heap.size + 1) 4 4 (S.bal 4) (LC S 4) _ HL4.out rfl (by decide) (LC_bal S 4)).mono ?_); rintro e w' ⟨rfl, rfl⟩)
            | (go_at_call 12; (with_reducible refine (payOut_V w.heap.size (w.heap.size + 1) 4 4 (S.bal 4) (LC S 4) (LC S 5) _ HL4.out rfl (by decide) (HBd.out.nn 4 (by decide)) (Int.le_of_eq (LC_bal S 4).symm) (LC_step S 4) (HBd.out.lc_ok HV.out 5 (by decide))).mono ?_); rintro e v5 ⟨rfl, hL, hk⟩; have HL5 := Lib.hid hL; have HP5 := Lib.hid hk; have hv5 := hk.below.size; clear hL hk))
          have ix5 := idx8_5 (.int .u64 (S.bal 0)) (.int .u64 (S.bal 1)) (.int .u64 (S.bal 2)) (.int .u64 (S.bal 3)) (.int .u64 (S.bal 4)) (.int .u64 (S.bal 5)) (.int .u64 (S.bal 6)) (.int .u64 (S.bal 7))
          rw [rounds_succ]
          go_wp2_with (first
            | (go_at_call 9; (with_reducible refine (balance_V w.heap.size (w.heap.size + 1) 5 5 (S.bal 5) (LC S 5) _ HL5.out rfl (by decide) (LC_bal S 5)).mono ?_); rintro e w' ⟨rfl, rfl⟩)
            | (go_at_call 12; (with_reducible refine (payOut_V w.heap.size (w.heap.size + 1) 5 5 (S.bal 5) (LC S 5) (LC S 6) _ HL5.out rfl (by decide) (HBd.out.nn 5 (by decide)) (Int.le_of_eq (LC_bal S 5).symm) (LC_step S 5) (HBd.out.lc_ok HV.out 6 (by decide))).mono ?_); rintro e v6 ⟨rfl, hL, hk⟩; have HL6 := Lib.hid hL; have HP6 := Lib.hid hk; have hv6 := hk.below.size; clear hL hk))
          have ix6 := idx8_6 (.int .u64 (S.bal 0)) (.int .u64 (S.bal 1)) (.int .u64 (S.bal 2)) (.int .u64 (S.bal 3)) (.int .u64 (S.bal 4)) (.int .u64 (S.bal 5)) (.int .u64 (S.bal 6)) (.int .u64 (S.bal 7))
          rw [rounds_succ]
          go_wp2_with (first
            | (go_at_call 9; (with_reducible refine (balance_V w.heap.size (w.heap.size + 1) 6 6 (S.bal 6) (LC S 6) _ HL6.out rfl (by decide) (LC_bal S 6)).mono ?_); rintro e w' ⟨rfl, rfl⟩)
            | (go_at_call 12; (with_reducible refine (payOut_V w.heap.size (w.heap.size + 1) 6 6 (S.bal 6) (LC S 6) (LC S 7) _ HL6.out rfl (by decide) (HBd.out.nn 6 (by decide)) (Int.le_of_eq (LC_bal S 6).symm) (LC_step S 6) (HBd.out.lc_ok HV.out 7 (by decide))).mono ?_); rintro e v7 ⟨rfl, hL, hk⟩; have HL7 := Lib.hid hL; have HP7 := Lib.hid hk; have hv7 := hk.below.size; clear hL hk))
          have ix7 := idx8_7 (.int .u64 (S.bal 0)) (.int .u64 (S.bal 1)) (.int .u64 (S.bal 2)) (.int .u64 (S.bal 3)) (.int .u64 (S.bal 4)) (.int .u64 (S.bal 5)) (.int .u64 (S.bal 6)) (.int .u64 (S.bal 7))
          rw [rounds_succ]
          go_wp2_with (first
            | (go_at_call 9; (with_reducible refine (balance_V w.heap.size (w.heap.size + 1) 7 7 (S.bal 7) (LC S 7) _ HL7.out rfl (by decide) (LC_bal S 7)).mono ?_); rintro e w' ⟨rfl, rfl⟩)
            | (go_at_call 12; (with_reducible refine (payOut_V w.heap.size (w.heap.size + 1) 7 7 (S.bal 7) (LC S 7) (LC S 8) _ HL7.out rfl (by decide) (HBd.out.nn 7 (by decide)) (Int.le_of_eq (LC_bal S 7).symm) (LC_step S 7) (HBd.out.lc_ok HV.out 8 (by decide))).mono ?_); rintro e v8 ⟨rfl, hL, hk⟩; have HL8 := Lib.hid hL; have HP8 := Lib.hid hk; have hv8 := hk.below.size; clear hL hk))
          rw [rounds_succ]
          go_wp2_with (first
            | (go_at_call 13; (with_reducible refine (flows_V w.heap.size (w.heap.size + 1) tot tot (LC S 8) _ HL8.out E1.out E2.out).mono ?_); rintro e v9 ⟨rfl, hb9⟩; have HL9 := Lib.hid (HL8.out.kept hb9); have HP9 := Lib.hid hb9; have hv9 := hb9.size; clear hb9)
            | (go_at_call 10; (with_reducible refine (locked_V w.heap.size (w.heap.size + 1) 0 (LC S 8) _ HL9.out E3.out).mono ?_); rintro e w' ⟨rfl, rfl⟩))
          go_returns
          exact ⟨rfl, (hbr.trans (HP1.out.below.mono (by omega))).trans ((HP2.out.below.trans (HP3.out.below.trans (HP4.out.below.trans (HP5.out.below.trans (HP6.out.below.trans (HP7.out.below.trans (HP8.out.below.trans (HP9.out.mono (by omega))))))))))⟩

theorem ledgerBonds_walk (w : World) (a0 : Option Addr) (len0 cap0 : Nat) (z0 : List Int) (w0 : IsRow .u64 w a0 len0 cap0 z0) (a1 : Option Addr) (len1 cap1 : Nat) (z1 : List Int) (w1 : IsRow .i64 w a1 len1 cap1 z1) (a2 : Int) (w2 : (Lit.int .i64 a2).wf = true) :
    Calls Try.prog 4 #[.slice a0 len0 cap0, .slice a1 len1 cap1, .int .i64 a2] w fun e w' => e = .returned (.bool true) ∧ Below w.heap.size w w' := by
  by_cases h : 20 < len0
  · exact bonds_many w a0 len0 cap0 z0 w0 a1 len1 cap1 z1 w1 a2 h
  · exact bonds_few w a0 len0 cap0 z0 w0 a1 len1 cap1 z1 w1 a2 (by omega)
end Go.Proofs.Ytpphahaphncpaaa
