/-
  mootlaw04.fixed: it returns true.
-/
import Derived.Test.YtgcpnhnckbgjmaaTxPl
import Derived.Test.YtgcpnhnckbgjmaaErrs
set_option linter.unusedVariables false
set_option linter.unusedSimpArgs false
namespace Go.Proofs.Ytgcpnhnckbgjmaa
open Go.RowKit
variable {F : Nat → Prop}
theorem enc_fx (w : World) : Calls Try.prog 6 #[.agg #[.int .u64 1, .int .u64 2, .int .u64 0, .int .u64 300, .int .u64 9, .int .u64 0]] w fun e w' => ∃ ao c, e = .returned (.tuple #[.slice ao 9 c, .nilIface]) ∧ OwnB w' w.heap.size ao 9 c [200, 1, 2, 128, 130, 1, 44, 9, 128] ∧ Below w.heap.size w w' := by
  have h := tenc_V fx w (fun k hk => fx_wide k hk)
  refine Calls.mono (show Calls Try.prog 6 #[.agg #[.int .u64 1, .int .u64 2, .int .u64 0, .int .u64 300, .int .u64 9, .int .u64 0]] w (TEnc w fx) from h) ?_
  rintro e w' ⟨hb, ⟨_, ao, n, c, rfl, ho⟩ | ⟨hn, _⟩⟩
  · rw [fx_form] at ho
    have : n = 9 := ho.len.symm
    subst this
    exact ⟨_, _, rfl, ho, hb⟩
  · exact absurd fx_ok hn
theorem enc_gx (w : World) : Calls Try.prog 6 #[.agg #[.int .u64 64, .int .u64 0, .int .u64 0, .int .u64 0, .int .u64 0, .int .u64 0]] w fun e w' => e = .returned (.tuple #[.slice none 0 0, .iface TE (.int .i64 2)]) ∧ Below w.heap.size w w' := by
  have h := tenc_V gx w (fun k hk => gx_wide k hk)
  refine Calls.mono (show Calls Try.prog 6 #[.agg #[.int .u64 64, .int .u64 0, .int .u64 0, .int .u64 0, .int .u64 0, .int .u64 0]] w (TEnc w gx) from h) ?_
  rintro e w' ⟨hb, ⟨ho, _⟩ | ⟨_, rfl⟩⟩
  · exact absurd ho gx_bad
  · exact ⟨rfl, hb⟩
theorem dec_fx (w : World) (a : Option Addr) (c : Nat) (hc : 9 ≤ c) (hcm : c ≤ maxLen) (hb : BytesF F w a [200, 1, 2, 128, 130, 1, 44, 9, 128]) : Calls Try.prog 13 #[.slice a 9 c] w fun e w' => e = .returned (.tuple #[.agg #[.int .u64 1, .int .u64 2, .int .u64 0, .int .u64 300, .int .u64 9, .int .u64 0], .nilIface]) ∧ Below w.heap.size w w' := by
  refine (tdec_V w a 9 c _ rfl hc hcm hb).mono ?_
  have E := tdec_back fx fx_wide fx_ok
  rw [fx_form] at E
  rw [E]
  rintro e w' ⟨hb2, rfl⟩
  refine ⟨?_, hb2⟩
  rw [tNum_t fx fx_wide 0 (by decide), tNum_t fx fx_wide 1 (by decide), tNum_t fx fx_wide 2 (by decide), tNum_t fx fx_wide 3 (by decide), tNum_t fx fx_wide 4 (by decide), tNum_t fx fx_wide 5 (by decide)]
  rfl
set_option maxRecDepth 100000 in
set_option maxHeartbeats 1000000 in
theorem fixed4_V (w : World) :
    Calls Try.prog 8 #[] w fun e w' => e = .returned (.bool true) ∧ Below w.heap.size w w' := by
  go_enter Try.func8, Try.ntmps8
  go_wp2_with (first
    | (go_at_call 6; (with_reducible refine (enc_fx _).mono ?_); rintro e w1 ⟨ao, c, rfl, ho, hb1⟩; have HO := Lib.hid ho; have HB := Lib.hid hb1; clear ho hb1)
    | (go_at_call 13; (with_reducible refine (dec_fx w1 ao c HO.out.cap.1 HO.out.cap.2.1 HO.out.bytes).mono ?_); rintro e w2 ⟨rfl, hb2⟩; have HB2 : Hid (Below w.heap.size w w2) := (HB.out.trans (hb2.mono HB.out.size)); have HO2 := Lib.hid (HO.out.below hb2); clear hb2)
    | (go_at_call 6; (with_reducible refine (enc_gx _).mono ?_); rintro e w3 ⟨rfl, hb3⟩; have HB3 : Hid (Below w.heap.size w w3) := ((HB2.out.alloc HB2.out.size _).trans (hb3.mono (by simp; have := HB2.out.size; omega))); have HO3 := Lib.hid ((HO2.out.below ((Below.refl _ _).alloc (Nat.le_refl _) _)).below hb3); have HS := Lib.hid ((Six.new w2 (.int .u64 1) (.int .u64 2) (.int .u64 0) (.int .u64 300) (.int .u64 9) (.int .u64 0) TTX).below hb3); have q0 := HS.out.c0; have q1 := HS.out.c1; have q2 := HS.out.c2; have q3 := HS.out.c3; have q4 := HS.out.c4; have q5 := HS.out.c5; have hcv : (convert TBS TS (.slice ao 9 c)).run Try.prog w3 = .ok (.string ⟨#[200, 1, 2, 128, 130, 1, 44, 9, 128]⟩) w3 := HO3.out.str; clear hb3)
    | (go_at_call 19; (with_reducible refine (is_num 2 2 _).mono ?_); rintro e w4 ⟨rfl, rfl⟩))
  go_returns
  exact ⟨rfl, HB3.out⟩
end Go.Proofs.Ytgcpnhnckbgjmaa
