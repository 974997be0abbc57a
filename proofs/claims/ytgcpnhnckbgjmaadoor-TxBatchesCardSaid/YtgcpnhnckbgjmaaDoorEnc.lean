/-
  rlp.Encode by its contract.
-/
import Derived.Test.YtgcpnhnckbgjmaaDoorForm
set_option linter.unusedVariables false
set_option linter.unusedSimpArgs false
namespace Go.Proofs.YtgcpnhnckbgjmaaDoor
open Go.RowKit
variable {F : Nat → Prop}
abbrev TE : TypeId := 62
def enc (x : Rlp.It) : Except Nat (List UInt8) :=
  if 16 < Rlp.nest x 16 then .error 13 else if Rlp.right x = false then .error 3 else if 4096 < (Rlp.form x).length then .error 5 else .ok (Rlp.form x)
def EncRet (w : World) (r : Except Nat (List UInt8)) (e : Ending) (w' : World) : Prop :=
  match r with
  | .error c => e = .returned (.tuple #[.slice none 0 0, .iface TE (.int .i64 c)]) ∧ Below w.heap.size w w'
  | .ok bs => ∃ ao n c, e = .returned (.tuple #[.slice ao n c, .nilIface]) ∧ OwnB w' w.heap.size ao n c bs ∧ Below w.heap.size w w'
set_option maxRecDepth 100000 in
set_option maxHeartbeats 4000000 in
theorem encode_V (M k : Nat) (hS : Room M k) (x : Rlp.It) (vl vb vi : Value) (w : World) (h : IsIt F w k x vl vb vi) (hA : allB M k x) :
    Calls Tryd.prog 22 #[.agg #[vl, vb, vi]] w (EncRet w (enc x)) := by
  obtain ⟨yl, ya, yn, yc, ya', yn', yc', rfl, rfl, rfl⟩ := h.shape
  have H := Lib.hid (h.below ((Below.refl _ _).alloc (Nat.le_refl _) (.cells #[.bool yl, .slice ya yn yc, .slice ya' yn' yc'] TI)))
  have HS := Lib.hid hS
  have HA := Lib.hid hA
  have hb0 : Below w.heap.size w (w.alloc (.cells #[.bool yl, .slice ya yn yc, .slice ya' yn' yc'] TI)) := (Below.refl _ _).alloc (Nat.le_refl _) _
  obtain ⟨d, hd⟩ : ∃ d, Rlp.nest x 16 = d := ⟨_, rfl⟩
  have HD := Lib.hid hd
  clear h hS hA hd
  by_cases h16 : 16 < d
  · have E : Hid (enc x = .error 13) := by show _ = _; unfold enc; rw [HD.out, if_pos h16]
    go_enter Tryd.func22, Tryd.ntmps22
    go_wp2_with (go_at_call 36; (with_reducible refine (nesting_V 16 k x _ _ _ _ 16 rfl (Nat.le_refl _) H.out).mono ?_); rintro e w2 ⟨rfl, hb2⟩; rw [HD.out]; have HB2 := Lib.hid hb2; have hz2 := hb2.size; (try simp at hz2); clear hb2)
    go_returns
    rw [E.out]
    exact ⟨rfl, hb0.trans (HB2.out.mono (by simp))⟩
  · obtain ⟨r, hr⟩ : ∃ r, Rlp.right x = r := ⟨_, rfl⟩
    have HR := Lib.hid hr
    clear hr
    cases r
    · have E : Hid (enc x = .error 3) := by show _ = _; unfold enc; rw [HD.out, if_neg h16, HR.out, if_pos rfl]
      go_enter Tryd.func22, Tryd.ntmps22
      go_wp2_with (first
        | (go_at_call 36; (with_reducible refine (nesting_V 16 k x _ _ _ _ 16 rfl (Nat.le_refl _) H.out).mono ?_); rintro e w2 ⟨rfl, hb2⟩; rw [HD.out]; have HB2 := Lib.hid hb2; have hz2 := hb2.size; have q0 : w2.cell? ⟨w.heap.size, 0, none⟩ = some (.bool yl) := (by rw [hb2.cell (p := ⟨w.heap.size, 0, none⟩) (by simp)]; go_cell); have q1 : w2.cell? ⟨w.heap.size, 1, none⟩ = some (.slice ya yn yc) := (by rw [hb2.cell (p := ⟨w.heap.size, 1, none⟩) (by simp)]; go_cell); have q2 : w2.cell? ⟨w.heap.size, 2, none⟩ = some (.slice ya' yn' yc') := (by rw [hb2.cell (p := ⟨w.heap.size, 2, none⟩) (by simp)]; go_cell); have H2 := Lib.hid (H.out.below hb2); have hz2' : w.heap.size < w2.heap.size := (by simp at hz2; omega); clear hb2 hz2)
        | (go_at_call 37; (with_reducible refine ((right_V k).at x _ _ _ _ H2.out).mono ?_); rintro e w3 ⟨rfl, hb3⟩; rw [HR.out]; have HB3 := Lib.hid hb3; have hz3 := hb3.size; have r0 : w3.cell? ⟨w.heap.size, 0, none⟩ = some (.bool yl) := (by rw [hb3.cell (p := ⟨w.heap.size, 0, none⟩) hz2']; exact q0); have r1 : w3.cell? ⟨w.heap.size, 1, none⟩ = some (.slice ya yn yc) := (by rw [hb3.cell (p := ⟨w.heap.size, 1, none⟩) hz2']; exact q1); have r2 : w3.cell? ⟨w.heap.size, 2, none⟩ = some (.slice ya' yn' yc') := (by rw [hb3.cell (p := ⟨w.heap.size, 2, none⟩) hz2']; exact q2); have H3 := Lib.hid (H2.out.below hb3); clear hb3))
      go_returns
      rw [E.out]
      exact ⟨rfl, (hb0.trans (HB2.out.mono (by simp))).trans (HB3.out.mono (by omega))⟩
    · obtain ⟨m, hm⟩ : ∃ m, (Rlp.form x).length = m := ⟨_, rfl⟩
      have HM := Lib.hid hm
      clear hm
      by_cases h5 : 4096 < m
      · have E : Hid (enc x = .error 5) := by show _ = _; unfold enc; rw [HD.out, if_neg h16, HR.out, if_neg (by decide), HM.out, if_pos h5]
        go_enter Tryd.func22, Tryd.ntmps22
        go_wp2_with (first
          | (go_at_call 36; (with_reducible refine (nesting_V 16 k x _ _ _ _ 16 rfl (Nat.le_refl _) H.out).mono ?_); rintro e w2 ⟨rfl, hb2⟩; rw [HD.out]; have HB2 := Lib.hid hb2; have hz2 := hb2.size; have q0 : w2.cell? ⟨w.heap.size, 0, none⟩ = some (.bool yl) := (by rw [hb2.cell (p := ⟨w.heap.size, 0, none⟩) (by simp)]; go_cell); have q1 : w2.cell? ⟨w.heap.size, 1, none⟩ = some (.slice ya yn yc) := (by rw [hb2.cell (p := ⟨w.heap.size, 1, none⟩) (by simp)]; go_cell); have q2 : w2.cell? ⟨w.heap.size, 2, none⟩ = some (.slice ya' yn' yc') := (by rw [hb2.cell (p := ⟨w.heap.size, 2, none⟩) (by simp)]; go_cell); have H2 := Lib.hid (H.out.below hb2); have hz2' : w.heap.size < w2.heap.size := (by simp at hz2; omega); clear hb2 hz2)
          | (go_at_call 37; (with_reducible refine ((right_V k).at x _ _ _ _ H2.out).mono ?_); rintro e w3 ⟨rfl, hb3⟩; rw [HR.out]; have HB3 := Lib.hid hb3; have hz3 := hb3.size; have r0 : w3.cell? ⟨w.heap.size, 0, none⟩ = some (.bool yl) := (by rw [hb3.cell (p := ⟨w.heap.size, 0, none⟩) hz2']; exact q0); have r1 : w3.cell? ⟨w.heap.size, 1, none⟩ = some (.slice ya yn yc) := (by rw [hb3.cell (p := ⟨w.heap.size, 1, none⟩) hz2']; exact q1); have r2 : w3.cell? ⟨w.heap.size, 2, none⟩ = some (.slice ya' yn' yc') := (by rw [hb3.cell (p := ⟨w.heap.size, 2, none⟩) hz2']; exact q2); have H3 := Lib.hid (H2.out.below hb3); clear hb3)
          | (go_at_call 38; (with_reducible refine ((form_V M k HS.out).at x _ _ _ _ m HM.out H3.out HA.out).mono ?_); rintro e w4 ⟨ab, cb, rfl, ho, hb4⟩; have HO4 := Lib.hid ho; have HB4 := Lib.hid hb4; clear ho hb4))
        go_returns
        rw [E.out]
        exact ⟨rfl, ((hb0.trans (HB2.out.mono (by simp))).trans (HB3.out.mono (by omega))).trans (HB4.out.mono (by omega))⟩
      · have E : Hid (enc x = .ok (Rlp.form x)) := by show _ = _; unfold enc; rw [HD.out, if_neg h16, HR.out, if_neg (by decide), HM.out, if_neg h5]
        go_enter Tryd.func22, Tryd.ntmps22
        go_wp2_with (first
          | (go_at_call 36; (with_reducible refine (nesting_V 16 k x _ _ _ _ 16 rfl (Nat.le_refl _) H.out).mono ?_); rintro e w2 ⟨rfl, hb2⟩; rw [HD.out]; have HB2 := Lib.hid hb2; have hz2 := hb2.size; have q0 : w2.cell? ⟨w.heap.size, 0, none⟩ = some (.bool yl) := (by rw [hb2.cell (p := ⟨w.heap.size, 0, none⟩) (by simp)]; go_cell); have q1 : w2.cell? ⟨w.heap.size, 1, none⟩ = some (.slice ya yn yc) := (by rw [hb2.cell (p := ⟨w.heap.size, 1, none⟩) (by simp)]; go_cell); have q2 : w2.cell? ⟨w.heap.size, 2, none⟩ = some (.slice ya' yn' yc') := (by rw [hb2.cell (p := ⟨w.heap.size, 2, none⟩) (by simp)]; go_cell); have H2 := Lib.hid (H.out.below hb2); have hz2' : w.heap.size < w2.heap.size := (by simp at hz2; omega); clear hb2 hz2)
          | (go_at_call 37; (with_reducible refine ((right_V k).at x _ _ _ _ H2.out).mono ?_); rintro e w3 ⟨rfl, hb3⟩; rw [HR.out]; have HB3 := Lib.hid hb3; have hz3 := hb3.size; have r0 : w3.cell? ⟨w.heap.size, 0, none⟩ = some (.bool yl) := (by rw [hb3.cell (p := ⟨w.heap.size, 0, none⟩) hz2']; exact q0); have r1 : w3.cell? ⟨w.heap.size, 1, none⟩ = some (.slice ya yn yc) := (by rw [hb3.cell (p := ⟨w.heap.size, 1, none⟩) hz2']; exact q1); have r2 : w3.cell? ⟨w.heap.size, 2, none⟩ = some (.slice ya' yn' yc') := (by rw [hb3.cell (p := ⟨w.heap.size, 2, none⟩) hz2']; exact q2); have H3 := Lib.hid (H2.out.below hb3); clear hb3)
          | (go_at_call 38; (with_reducible refine ((form_V M k HS.out).at x _ _ _ _ m HM.out H3.out HA.out).mono ?_); rintro e w4 ⟨ab, cb, rfl, ho, hb4⟩; have HO4 := Lib.hid ho; have HB4 := Lib.hid hb4; clear ho hb4))
        go_returns
        rw [E.out]
        exact ⟨_, _, _, rfl, HO4.out.le (by omega), ((hb0.trans (HB2.out.mono (by simp))).trans (HB3.out.mono (by omega))).trans (HB4.out.mono (by omega))⟩
end Go.Proofs.YtgcpnhnckbgjmaaDoor
