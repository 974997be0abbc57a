/-
  Bytes as a string; mootlaw03.fixed: it returns true.
-/
import Derived.Test.YtcblbmjcfckgjaaDoorDec
import Derived.Test.YtcblbmjcfckgjaaDoorIsF
import Derived.Test.YtcblbmjcfckgjaaDoorStr
set_option linter.unusedVariables false
set_option linter.unusedSimpArgs false
namespace Go.Proofs.YtcblbmjcfckgjaaDoor
open Go.RowKit
variable {F : Nat → Prop}
theorem bytes_193 (w : World) : BytesF (fun _ => True) (w.alloc (.cells #[.int .u8 193, .int .u8 129, .int .u8 7] TU)) (some ⟨w.heap.size, 0, none⟩) [193, 129, 7] := bytes_new w _ _ rfl
set_option maxRecDepth 100000 in
set_option maxHeartbeats 4000000 in
theorem fixed3_V (w : World) (h : Hid (ErrType w)) :
    Calls Tryd.prog 9 #[] w fun e w' => e = .returned (.bool true) ∧ Below w.heap.size w w' := by
  have HI : Hid (IsIt (fun _ => True) ((w.alloc (.cells #[.int .u8 7] TU)).alloc (.cells #[.bool false, .slice (some ⟨w.heap.size, 0, none⟩) 1 1, .slice none 0 0, .bool false, .slice none 0 0, .slice none 0 0] TI)) 2 (.mk true [] [.mk false [7] [], .mk false [] []]) (.bool true) (.slice none 0 0) (.slice (some ⟨w.heap.size + 1, 0, none⟩) 2 2)) := by
    refine ⟨rfl, ⟨none, 0, rfl, Nat.le_refl _, Nat.zero_le _, fun _ => rfl, fun i hi => by simp [Rlp.It.bytes] at hi⟩, _, 2, rfl, Nat.le_refl _, by decide, fun i hi => ?_⟩
    have hi : i < 2 := hi
    rcases (by omega : i = 0 ∨ i = 1) with rfl | rfl
    · refine ⟨w.heap.size + 1, 0, .bool false, .slice (some ⟨w.heap.size, 0, none⟩) 1 1, .slice none 0 0, rfl, trivial, by simp, by go_cell, by go_cell, by go_cell, ?_⟩
      exact leaf_is (bs := [7]) rfl (Nat.le_refl _) (by decide) (by simp) ((bytes_new w [7] _ rfl).below ((Below.refl _ _).alloc (Nat.le_refl _) _)) 0
    · refine ⟨w.heap.size + 1, 0, .bool false, .slice none 0 0, .slice none 0 0, rfl, trivial, by simp, by go_cell, by go_cell, by go_cell, ?_⟩
      exact leaf_is (bs := []) rfl (Nat.le_refl _) (by decide) (fun _ => rfl) (fun i hi => by simp at hi) 0
  have HA : Hid (allB 1 2 (.mk true [] [.mk false [7] [], .mk false [] []])) := by
    refine ⟨by decide, fun i hi => ?_⟩
    have hi : i < 2 := hi
    rcases (by omega : i = 0 ∨ i = 1) with rfl | rfl
    · exact ⟨by decide, fun i hi => by simp [Rlp.It.items] at hi⟩
    · exact ⟨by decide, fun i hi => by simp [Rlp.It.items] at hi⟩
  have HE : Hid (enc (.mk true [] [.mk false [7] [], .mk false [] []]) = .ok [194, 7, 128]) := by show _ = _; kernel_rfl
  have HD : Hid (Rlp.decode [193, 129, 7] = .error (1, 11)) := by show _ = _; kernel_rfl
  go_enter Tryd.func9, Tryd.ntmps9
  go_wp2_with (first
    | (go_at_call 11; (with_reducible refine (encode_V 1 2 ⟨Sm.of (by omega)⟩ (.mk true [] [.mk false [7] [], .mk false [] []]) _ _ _ _ HI.out HA.out).mono ?_); rintro e w1 he; rw [HE.out] at he; obtain ⟨ao, n, c, rfl, ho, hb1⟩ := he; have HO := Lib.hid ho; have HB := Lib.hid hb1; clear ho hb1)
    | (go_at_call 6; (with_reducible refine (dec_V _ _ 3 3 [193, 129, 7] rfl (Nat.le_refl _) (by decide) (bytes_193 w1)).mono ?_); rintro e w2 he; rw [HD.out] at he; obtain ⟨hb2, q, rfl, hfa, hq⟩ := he; have hz1 := HB.out.size; have hz2 := hb2.size; (simp at hz1 hz2); have HO2 := Lib.hid (((HO.out.below ((Below.refl _ _).alloc (Nat.le_refl _) _)).below hb2).below ((Below.refl _ _).alloc (Nat.le_refl _) (.cells #[.bool false, .slice none 0 0, .slice none 0 0] TI))); have HW2 : Hid (Below w.heap.size w (w2.alloc (.cells #[.bool false, .slice none 0 0, .slice none 0 0] TI))) := ((((((Below.refl _ _).alloc (Nat.le_refl _) _).alloc (by simp) _).trans (HB.out.mono (by simp; omega))).alloc (by omega) _).trans (hb2.mono (by simp; omega))).alloc (by omega) _; have HF := Lib.hid (hfa.below ((Below.refl _ _).alloc (Nat.le_refl _) (.cells #[.bool false, .slice none 0 0, .slice none 0 0] TI))); have hpl : (w2.alloc (.cells #[.bool false, .slice none 0 0, .slice none 0 0] TI)).cell? ⟨q, 0, none⟩ = some (.int .i64 1) := HF.out.pl; have hwy : (w2.alloc (.cells #[.bool false, .slice none 0 0, .slice none 0 0] TI)).cell? ⟨q, 1, none⟩ = some (.iface TE (.int .i64 11)) := HF.out.why; have HT : Hid (ErrType (w2.alloc (.cells #[.bool false, .slice none 0 0, .slice none 0 0] TI))) := h.out.below HW2.out; clear hfa hb2)
    | (go_at_call 8; (with_reducible refine (why_fault q 0 1 11 _ HT hpl hwy).mono ?_); rintro e w3 ⟨rfl, hb3⟩; have HO3 := Lib.hid (HO2.out.below hb3); have HB3 := Lib.hid hb3; have hcv : (convert TBS TS (.slice ao n c)).run Tryd.prog w3 = .ok (.string ⟨#[194, 7, 128]⟩) w3 := HO3.out.str; have hw3 : w3.cell? ⟨q, 0 + 1, none⟩ = some (.iface TE (.int .i64 11)) := (HF.out.below hb3).why; clear hb3)
    | (go_at_call 23; (with_reducible refine (is_fault q 0 11 11 _ hw3).mono ?_); rintro e w4 ⟨rfl, rfl⟩))

  go_returns
  have hz2 : w.heap.size ≤ (w2.alloc (.cells #[.bool false, .slice none 0 0, .slice none 0 0] TI)).heap.size := HW2.out.size
  exact ⟨rfl, HW2.out.trans (HB3.out.mono hz2)⟩
end Go.Proofs.YtcblbmjcfckgjaaDoor
