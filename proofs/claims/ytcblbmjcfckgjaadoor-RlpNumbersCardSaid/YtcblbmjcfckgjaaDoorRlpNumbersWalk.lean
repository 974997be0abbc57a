/-
  The walk of RlpNumbers: it returns true for every input.
-/
import Derived.Test.YtcblbmjcfckgjaaDoorNumPl
import Derived.Test.YtcblbmjcfckgjaaDoorGreat
import Derived.Test.YtcblbmjcfckgjaaDoorRBig
import Derived.Test.YtcblbmjcfckgjaaDoorFix3
import Derived.Test.YtcblbmjcfckgjaaDoorOpen
import Derived.Test.YtcblbmjcfckgjaaDoorRel
import Derived.Test.YtcblbmjcfckgjaaDoorLaid
set_option linter.unusedVariables false
set_option linter.unusedSimpArgs false
namespace Go.Proofs.YtcblbmjcfckgjaaDoor
open Go.RowKit Go.ChangeShapes Go.WideShapes
theorem item_agg {v : Value} {a b c : Value} (h : v.cells.toList = [a, b, c]) : v = .agg #[a, b, c] := by
  cases v <;> simp [Value.cells] at h
  rename_i cs
  have : cs = #[a, b, c] := by apply Array.toList_inj.1; simpa using h
  rw [this]
theorem whyE (n : Nat) (w : World) (h : Hid (ErrType w)) : Calls Tryd.prog 8 #[errV n] w fun e w' => (∃ at_ : Int, e = .returned (.tuple #[.int .i64 n, .int .i64 at_])) ∧ Below w.heap.size w w' := by
  unfold errV
  by_cases h0 : n = 0
  · rw [if_pos h0]
    exact (why_nil w).mono fun e w' ⟨he, hb⟩ => ⟨⟨-1, by rw [he, h0]; rfl⟩, hb⟩
  · rw [if_neg h0]
    exact (why_num n w h).mono fun e w' ⟨he, hb⟩ => ⟨⟨-1, he⟩, hb⟩
theorem value_big {w : World} {base : Nat} {ao : Option Addr} {n c : Nat} (V : Nat) (hV : Hid (V < 18446744073709551616)) (ho : OwnB w base ao n c (Rlp.big V)) :
    Calls Tryd.prog 15 #[.agg #[.bool false, .slice ao n c, .slice none 0 0]] w fun e w' => e = .returned (.tuple #[.int .u64 V, .nilIface]) ∧ Below w.heap.size w w' :=
  (value_V 1 (.mk false (Rlp.big V) []) _ _ _ w (leaf_is ho.len ho.cap.1 ho.cap.2.1 ho.cap.2.2 ho.bytes 0)).mono fun e w' ⟨he, hb⟩ => ⟨by rw [he, val_big V hV.out]; rfl, hb⟩
theorem value_it {F : Nat → Prop} (k : Nat) (x : Rlp.It) (vl vb vi : Value) (w : World) (h : IsIt F w k x vl vb vi) (n m : Nat) (hv : val x = (n, m)) :
    Calls Tryd.prog 15 #[.agg #[vl, vb, vi]] w fun e w' => e = .returned (.tuple #[.int .u64 n, errV m]) ∧ Below w.heap.size w w' := by
  have := value_V k x vl vb vi w h
  rw [hv] at this; exact this
theorem rvalue_it {F : Nat → Prop} (k : Nat) (x : Rlp.It) (vl vb vi : Value) (w : World) (h : IsIt F w k x vl vb vi) (n m : Nat) (hv : val x = (n, m)) :
    Calls Tryd.prog 16 #[.agg #[vl, vb, vi]] w fun e w' => e = .returned (.tuple #[.int .u64 n, .int .i64 m]) ∧ Below w.heap.size w w' := by
  have := rvalue_V k x vl vb vi w h
  rw [hv] at this; exact this
/-- The worlds of the last test. -/
def NW (W0 : World) (W : World) : Prop := Below W0.heap.size W0 W
structure Row3 where
  a : Option Addr
  n : Nat
  c : Nat
def NW1 (W0 : World) (V : Nat) (r : Row3) (W : World) : Prop := NW W0 W ∧ OwnB W W0.heap.size r.a r.n r.c (Rlp.big V)
set_option maxRecDepth 100000 in
set_option maxHeartbeats 8000000 in
theorem rlpNumbers_walk {H : Type} {enc : TypeId × Value → H} {base : Nat} (w : World) (a0 : Int) (w0 : (Lit.int .u64 a0).wf = true) {d1 : DataW H} {p1 : List MemPlace} (v1 : Value) (o1 : Value.okWide Tryd.prog w .any base TI v1) (w1 : DataW.Trod enc Tryd.prog w 0 (fun _ => true) true TI v1 d1 p1) (laid : laidMetH Tryd.prog Rows.rlpNumbersRow.laid w) :
    Calls Tryd.prog 5 #[.int .u64 a0, v1] w fun e w' => e = .returned (.bool true) ∧ Below w.heap.size w w' := by
  have HE : Hid (ErrType w) := errType_of_laid laid
  obtain ⟨fuel, hf⟩ := w1
  obtain ⟨it, vl, vb, vi, hcs, hit⟩ := it_open fuel _ _ hf
  have hv := item_agg hcs
  subst hv
  obtain ⟨V, rfl⟩ := Int.eq_ofNat_of_zero_le (u64_wf w0).1
  have HV : Hid (V < 18446744073709551616) := by have := (u64_wf w0).2; show _ < _; omega
  obtain ⟨yl, ya, yn, yc, ya', yn', yc', rfl, rfl, rfl⟩ := hit.shape
  have HI1 := Lib.hid (hit.below ((Below.refl _ _).alloc (Nat.le_refl _) (.cells #[.bool yl, .slice ya yn yc, .slice ya' yn' yc'] TI)))
  have HB1 : Hid (Below w.heap.size w (w.alloc (.cells #[.bool yl, .slice ya yn yc, .slice ya' yn' yc'] TI))) := (Below.refl _ _).alloc (Nat.le_refl _) _
  have HS1 := Lib.hid (SlotI.new w (.bool yl) (.slice ya yn yc) (.slice ya' yn' yc'))
  obtain ⟨vn, vw, hval⟩ : ∃ vn vw, val it = (vn, vw) := ⟨_, _, rfl⟩
  have HVAL := Lib.hid hval
  clear hf hcs hit o1 laid w0 hval
  go_enter Tryd.func5, Tryd.ntmps5
  go_wp2_with (first
    | (go_at_call 14; (with_reducible refine (great_V fuel it _ _ _ _ HI1.out).mono ?_); rintro e w2 ⟨⟨r, rfl⟩, hb2⟩; have HB2 : Hid (Below w.heap.size w w2) := (HB1.out.trans (hb2.mono HB1.out.size)); have HS2 := Lib.hid (HS1.out.below hb2); have q0_2 := HS2.out.c0; have q1_2 := HS2.out.c1; have q2_2 := HS2.out.c2; have HI2 := Lib.hid (HI1.out.below hb2); have HE2 : Hid (ErrType w2) := HE.out.below HB2.out; clear hb2)
    | (go_at_call 9; (with_reducible refine (fixed3_V _ HE2).mono ?_); rintro e w9 ⟨rfl, hb9⟩; have HB9 : Hid (Below w.heap.size w w9) := (HB2.out.trans (hb9.mono HB2.out.size)); clear hb9)
    | (go_at_call 13; (with_reducible refine (number_V V _ HV).mono ?_); rintro e w3 ⟨ao, n, c, rfl, ho, hb3⟩; have HO := Lib.hid ho; clear ho; have HB3 : Hid (Below w.heap.size w w3) := (HB2.out.trans (hb3.mono HB2.out.size)); have HS3 := Lib.hid (HS2.out.below hb3); have q0_3 := HS3.out.c0; have q1_3 := HS3.out.c1; have q2_3 := HS3.out.c2; have HI3 := Lib.hid (HI2.out.below hb3); have HE3 : Hid (ErrType w3) := HE.out.below HB3.out; clear hb3)
    | (go_at_call 15; (with_reducible refine (value_big V HV HO.out).mono ?_); rintro e w4 ⟨rfl, hb4⟩; have HB4 : Hid (Below w.heap.size w w4) := (HB3.out.trans (hb4.mono HB3.out.size)); have HS4 := Lib.hid (HS3.out.below hb4); have q0_4 := HS4.out.c0; have q1_4 := HS4.out.c1; have q2_4 := HS4.out.c2; have HI4 := Lib.hid (HI3.out.below hb4); have HE4 : Hid (ErrType w4) := HE.out.below HB4.out; clear hb4)
    | (go_at_call 15; (with_reducible refine (value_it fuel it _ _ _ _ HI4.out vn vw HVAL.out).mono ?_); rintro e w5 ⟨rfl, hb5⟩; have HB5 : Hid (Below w.heap.size w w5) := (HB4.out.trans (hb5.mono HB4.out.size)); have HS5 := Lib.hid (HS4.out.below hb5); have q0_5 := HS5.out.c0; have q1_5 := HS5.out.c1; have q2_5 := HS5.out.c2; have HI5 := Lib.hid (HI4.out.below hb5); have HE5 : Hid (ErrType w5) := HE.out.below HB5.out; clear hb5)
    | (go_at_call 16; (with_reducible refine (rvalue_it fuel it _ _ _ _ HI5.out vn vw HVAL.out).mono ?_); rintro e w6 ⟨rfl, hb6⟩; have HB6 : Hid (Below w.heap.size w w6) := (HB5.out.trans (hb6.mono HB5.out.size)); have HS6 := Lib.hid (HS5.out.below hb6); have q0_6 := HS6.out.c0; have q1_6 := HS6.out.c1; have q2_6 := HS6.out.c2; have HI6 := Lib.hid (HI5.out.below hb6); have HE6 : Hid (ErrType w6) := HE.out.below HB6.out; clear hb6)
    | (go_at_call 8; (with_reducible refine (whyE vw _ HE6).mono ?_); rintro e w7 ⟨⟨pl, rfl⟩, hb7⟩; have HB7 : Hid (Below w.heap.size w w7) := (HB6.out.trans (hb7.mono HB6.out.size)); have HS7 := Lib.hid (HS6.out.below hb7); have q0_7 := HS7.out.c0; have q1_7 := HS7.out.c1; have q2_7 := HS7.out.c2; have HI7 := Lib.hid (HI6.out.below hb7); have HE7 : Hid (ErrType w7) := HE.out.below HB7.out; clear hb7))
  · go_returns
    exact ⟨rfl, HB9.out⟩
  · have se := run_eql_str (Rlp.big V) (Rlp.big V)
    have sg := run_guard_str (Rlp.big V) (Rlp.big V)
    have sd : decide (Rlp.big V = Rlp.big V) = true := by simp
    refine wp_region_rel (NW w7) (by kernel_rfl) (by unfold NW; exact (Below.refl _ _).drew) ?_
    refine relR_call 0 _ rfl (by kernel_rfl) (by go_simp) Unit (fun _ => .bool true) (fun _ => NW w7) (fun _ _ h => h) (fun W hW => ?_) (fun _ K hK => ?_)
    · unfold effAt
      go_simp
      change Calls _ _ _ _ _
      go_at_call 9
      refine (fixed3_V _ (Lib.hid (HE7.out.below hW))).mono ?_
      rintro e w' ⟨rfl, hb⟩
      exact ⟨_, rfl, rfl, hW.trans (hb.mono hW.size)⟩
    go_simp
    refine hK _ ?_
    clear hK K
    refine relR_pure 1 _ (by kernel_rfl) rfl (by kernel_rfl) (by kernel_rfl) (by go_simp) ?_
    apply Exists.intro
    refine ⟨fun W hW => ?_, fun K hK => ?_⟩
    · unfold effAt
      go_simp
      exact ⟨rfl, rfl⟩
    go_simp
    refine hK _ ?_
    clear hK K
    refine relR_pure 2 _ (by kernel_rfl) rfl (by kernel_rfl) (by kernel_rfl) (by go_simp) ?_
    apply Exists.intro
    refine ⟨fun W hW => ?_, fun K hK => ?_⟩
    · unfold effAt
      go_simp
      exact ⟨rfl, rfl⟩
    go_simp
    refine hK _ ?_
    clear hK K
    refine relR_pure 3 _ (by kernel_rfl) rfl (by kernel_rfl) (by kernel_rfl) (by go_simp) ?_
    apply Exists.intro
    refine ⟨fun W hW => ?_, fun K hK => ?_⟩
    · unfold effAt
      go_simp
      exact ⟨rfl, rfl⟩
    go_simp
    refine hK _ ?_
    clear hK K
    refine relR_pure 4 _ (by kernel_rfl) rfl (by kernel_rfl) (by kernel_rfl) (by go_simp) ?_
    apply Exists.intro
    refine ⟨fun W hW => ?_, fun K hK => ?_⟩
    · unfold effAt
      go_simp
      exact ⟨rfl, rfl⟩
    go_simp
    refine hK _ ?_
    clear hK K
    refine relR_pure 5 _ (by kernel_rfl) rfl (by kernel_rfl) (by kernel_rfl) (by go_simp) ?_
    apply Exists.intro
    refine ⟨fun W hW => ?_, fun K hK => ?_⟩
    · unfold effAt
      go_simp
      exact ⟨rfl, rfl⟩
    go_simp
    refine hK _ ?_
    clear hK K
    refine relR_pure 6 _ (by kernel_rfl) rfl (by kernel_rfl) (by kernel_rfl) (by go_simp) ?_
    apply Exists.intro
    refine ⟨fun W hW => ?_, fun K hK => ?_⟩
    · unfold effAt
      go_simp
      exact ⟨rfl, rfl⟩
    go_simp
    refine hK _ ?_
    clear hK K
    refine relR_pure 7 _ (by kernel_rfl) rfl (by kernel_rfl) (by kernel_rfl) (by go_simp) ?_
    apply Exists.intro
    refine ⟨fun W hW => ?_, fun K hK => ?_⟩
    · unfold effAt
      go_simp
      exact ⟨rfl, rfl⟩
    go_simp
    refine hK _ ?_
    clear hK K
    refine relR_pure 8 _ (by kernel_rfl) rfl (by kernel_rfl) (by kernel_rfl) (by go_simp) ?_
    apply Exists.intro
    refine ⟨fun W hW => ?_, fun K hK => ?_⟩
    · unfold effAt
      go_simp
      exact ⟨rfl, rfl⟩
    go_simp
    refine hK _ ?_
    clear hK K
    refine relR_pure 9 _ (by kernel_rfl) rfl (by kernel_rfl) (by kernel_rfl) (by go_simp) ?_
    apply Exists.intro
    refine ⟨fun W hW => ?_, fun K hK => ?_⟩
    · unfold effAt
      go_simp
      exact ⟨rfl, rfl⟩
    go_simp
    refine hK _ ?_
    clear hK K
    refine relR_pure 10 _ (by kernel_rfl) rfl (by kernel_rfl) (by kernel_rfl) (by go_simp) ?_
    apply Exists.intro
    refine ⟨fun W hW => ?_, fun K hK => ?_⟩
    · unfold effAt
      go_simp
      exact ⟨rfl, rfl⟩
    go_simp
    refine hK _ ?_
    clear hK K
    refine relR_pure 11 _ (by kernel_rfl) rfl (by kernel_rfl) (by kernel_rfl) (by go_simp) ?_
    apply Exists.intro
    refine ⟨fun W hW => ?_, fun K hK => ?_⟩
    · unfold effAt
      go_simp
      exact ⟨rfl, rfl⟩
    go_simp
    refine hK _ ?_
    clear hK K
    refine relR_pure 15 _ (by kernel_rfl) rfl (by kernel_rfl) (by kernel_rfl) (by go_simp) ?_
    apply Exists.intro
    refine ⟨fun W hW => ?_, fun K hK => ?_⟩
    · unfold effAt
      go_simp
      exact ⟨rfl, rfl⟩
    go_simp
    refine hK _ ?_
    clear hK K
    refine relR_call 12 _ rfl (by kernel_rfl) (by go_simp) Row3 (fun r => .agg #[.bool false, .slice r.a r.n r.c, .slice none 0 0]) (NW1 w7 V) (fun _ _ h => h.1) (fun W hW => ?_) (fun r K hK => ?_)
    · unfold effAt
      go_simp
      change Calls _ _ _ _ _
      go_at_call 13
      refine (number_V V _ HV).mono ?_
      rintro e w' ⟨ao, n, c, rfl, ho, hb⟩
      exact ⟨_, rfl, ⟨ao, n, c⟩, rfl, hW.trans (hb.mono hW.size), ho.le hW.size⟩
    go_simp
    refine hK _ ?_
    clear hK K
    refine relR_pure 13 _ (by kernel_rfl) rfl (by kernel_rfl) (by kernel_rfl) (by go_simp) ?_
    apply Exists.intro
    refine ⟨fun W hW => ?_, fun K hK => ?_⟩
    · unfold effAt
      go_simp
      exact ⟨rfl, rfl⟩
    go_simp
    refine hK _ ?_
    clear hK K
    refine relR_pure 14 _ (by kernel_rfl) rfl (by kernel_rfl) (by kernel_rfl) (by go_simp) ?_
    apply Exists.intro
    refine ⟨fun W hW => ?_, fun K hK => ?_⟩
    · unfold effAt
      have hcv := hW.2.str
      go_simp
      exact ⟨rfl, rfl⟩
    go_simp
    refine hK _ ?_
    clear hK K
    refine relR_call 16 _ rfl (by kernel_rfl) (by go_simp) Row3 (fun r2 => .slice r2.a r2.n r2.c) (fun r2 W => NW1 w7 V r W ∧ OwnB W w7.heap.size r2.a r2.n r2.c (Rlp.big V)) (fun _ _ h => h.1) (fun W hW => ?_) (fun r2 K hK => ?_)
    · unfold effAt
      go_simp
      change Calls _ _ _ _ _
      go_at_call 17
      refine (rbig_V V _ HV).mono ?_
      rintro e w' ⟨ao, n, c, rfl, ho, hb⟩
      exact ⟨_, rfl, ⟨ao, n, c⟩, rfl, ⟨hW.1.trans (hb.mono hW.1.size), hW.2.below hb⟩, ho.le hW.1.size⟩
    go_simp
    refine hK _ ?_
    clear hK K
    refine relR_pure 17 _ (by kernel_rfl) rfl (by kernel_rfl) (by kernel_rfl) (by go_simp) ?_
    apply Exists.intro
    refine ⟨fun W hW => ?_, fun K hK => ?_⟩
    · unfold effAt
      have hcv := hW.2.str
      go_simp
      exact ⟨rfl, rfl⟩
    go_simp
    refine hK _ ?_
    clear hK K
    refine relR_pure 18 _ (by kernel_rfl) rfl (by kernel_rfl) (by kernel_rfl) (by go_simp) ?_
    apply Exists.intro
    refine ⟨fun W hW => ?_, fun K hK => ?_⟩
    · unfold effAt
      go_simp
      exact ⟨rfl, rfl⟩
    go_simp
    refine hK _ ?_
    clear hK K
    refine relR_pure 19 _ (by kernel_rfl) rfl (by kernel_rfl) (by kernel_rfl) (by go_simp) ?_
    apply Exists.intro
    refine ⟨fun W hW => ?_, fun K hK => ?_⟩
    · unfold effAt
      go_simp
      exact ⟨rfl, rfl⟩
    go_simp
    refine hK _ ?_
    clear hK K
    refine relR_pure 20 _ (by kernel_rfl) rfl (by kernel_rfl) (by kernel_rfl) (by go_simp) ?_
    apply Exists.intro
    refine ⟨fun W hW => ?_, fun K hK => ?_⟩
    · unfold effAt
      go_simp
      exact ⟨rfl, rfl⟩
    go_simp
    refine hK _ ?_
    clear hK K
    refine relR_pure 21 _ (by kernel_rfl) rfl (by kernel_rfl) (by kernel_rfl) (by go_simp) ?_
    apply Exists.intro
    refine ⟨fun W hW => ?_, fun K hK => ?_⟩
    · unfold effAt
      go_simp
      exact ⟨rfl, rfl⟩
    go_simp
    refine hK _ ?_
    clear hK K
    refine relR_pure 22 _ (by kernel_rfl) rfl (by kernel_rfl) (by kernel_rfl) (by go_simp) ?_
    apply Exists.intro
    refine ⟨fun W hW => ?_, fun K hK => ?_⟩
    · unfold effAt
      go_simp
      exact ⟨rfl, rfl⟩
    go_simp
    refine hK _ ?_
    clear hK K
    refine relR_pure 23 _ (by kernel_rfl) rfl (by kernel_rfl) (by kernel_rfl) (by go_simp) ?_
    apply Exists.intro
    refine ⟨fun W hW => ?_, fun K hK => ?_⟩
    · unfold effAt
      go_simp
      exact ⟨rfl, rfl⟩
    go_simp
    refine hK _ ?_
    clear hK K
    refine relR_pure 24 _ (by kernel_rfl) rfl (by kernel_rfl) (by kernel_rfl) (by go_simp) ?_
    apply Exists.intro
    refine ⟨fun W hW => ?_, fun K hK => ?_⟩
    · unfold effAt
      go_simp
      exact ⟨rfl, rfl⟩
    go_simp
    refine hK _ ?_
    clear hK K
    refine relR_pure 25 _ (by kernel_rfl) rfl (by kernel_rfl) (by kernel_rfl) (by go_simp) ?_
    apply Exists.intro
    refine ⟨fun W hW => ?_, fun K hK => ?_⟩
    · unfold effAt
      go_simp
      exact ⟨rfl, rfl⟩
    go_simp
    refine hK _ ?_
    clear hK K
    refine relR_pure 26 _ (by kernel_rfl) rfl (by kernel_rfl) (by kernel_rfl) (by go_simp) ?_
    apply Exists.intro
    refine ⟨fun W hW => ?_, fun K hK => ?_⟩
    · unfold effAt
      go_simp
      exact ⟨rfl, rfl⟩
    go_simp
    refine hK _ ?_
    clear hK K
    refine relR_pure 27 _ (by kernel_rfl) rfl (by kernel_rfl) (by kernel_rfl) (by go_simp) ?_
    apply Exists.intro
    refine ⟨fun W hW => ?_, fun K hK => ?_⟩
    · unfold effAt
      go_simp
      exact ⟨rfl, rfl⟩
    go_simp
    refine hK _ ?_
    clear hK K
    refine relR_pure 28 _ (by kernel_rfl) rfl (by kernel_rfl) (by kernel_rfl) (by go_simp) ?_
    apply Exists.intro
    refine ⟨fun W hW => ?_, fun K hK => ?_⟩
    · unfold effAt
      go_simp
      exact ⟨rfl, rfl⟩
    go_simp
    refine hK _ ?_
    clear hK K
    refine relR_pure 29 _ (by kernel_rfl) rfl (by kernel_rfl) (by kernel_rfl) (by go_simp) ?_
    apply Exists.intro
    refine ⟨fun W hW => ?_, fun K hK => ?_⟩
    · unfold effAt
      go_simp
      exact ⟨rfl, rfl⟩
    go_simp
    refine hK _ ?_
    clear hK K
    refine relR_pure 30 _ (by kernel_rfl) rfl (by kernel_rfl) (by kernel_rfl) (by go_simp) ?_
    apply Exists.intro
    refine ⟨fun W hW => ?_, fun K hK => ?_⟩
    · unfold effAt
      go_simp
      exact ⟨rfl, rfl⟩
    go_simp
    refine hK _ ?_
    clear hK K
    refine relR_end (by kernel_rfl) (fun W hW => ?_)
    go_wp2
    go_returns
    exact ⟨rfl, HB7.out.trans (hW.1.1.mono HB7.out.size)⟩
end Go.Proofs.YtcblbmjcfckgjaaDoor
