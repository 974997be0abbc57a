/-
  rlp.Value by its contract.
-/
import Derived.Test.YtgcpnhnckbgjmaaDoorValPl
set_option linter.unusedVariables false
set_option linter.unusedSimpArgs false
namespace Go.Proofs.YtgcpnhnckbgjmaaDoor
open Go.RowKit
variable {F : Nat → Prop}
/-- An error of a number; none of 0. -/
def errV (n : Nat) : Value := if n = 0 then .nilIface else .iface TE (.int .i64 n)
theorem or8 (V : Int) (x : Nat) (h0 : 0 ≤ V) (h1 : V ≤ 72057594037927935) (hx : x ≤ 255) : bits .or .u64 (V * 256) (x : Int) = V * 256 + x := by
  obtain ⟨n, rfl⟩ := Int.eq_ofNat_of_zero_le h0
  have e : (n : Int) * 256 = ((n * 256 : Nat) : Int) := by omega
  have e2 : n * 256 ||| x = n * 256 + x := by
    have := Nat.shiftLeft_add_eq_or_of_lt (show x < 2 ^ 8 by omega) n
    rw [Nat.shiftLeft_eq] at this
    exact this.symm
  rw [e, bits_or_u64_nat _ _ (by omega) (by omega), e2]; omega
set_option maxRecDepth 100000 in
set_option maxHeartbeats 1000000 in
theorem value_V (k : Nat) (x : Rlp.It) (vl vb vi : Value) (w : World) (h : IsIt F w k x vl vb vi) :
    Calls Tryd.prog 28 #[.agg #[vl, vb, vi]] w fun e w' => e = .returned (.tuple #[.int .u64 (val x).1, errV (val x).2]) ∧ Below w.heap.size w w' := by
  cases k with
  | zero => exact h.elim
  | succ k =>
    obtain ⟨l, bs, its⟩ := x
    obtain ⟨rfl, ⟨a, c, rfl, hb1, hb2, hn, hb⟩, a', c', rfl, hc1, hc2, h9⟩ := h
    simp only [Rlp.It.items, Rlp.It.bytes, Rlp.It.list] at hb1 hc1 hb ⊢
    unfold maxLen at hb2 hc2
    obtain ⟨n, hn2⟩ : ∃ n, its.length = n := ⟨_, rfl⟩
    obtain ⟨m, hm⟩ : ∃ m, bs.length = m := ⟨_, rfl⟩
    rw [hn2] at hc1 ⊢
    rw [hm] at hb1 ⊢
    have HM := Lib.hid hm
    have HB := Lib.hid hb
    have AL : Below w.heap.size w (w.alloc (.cells #[.bool l, .slice a m c, .slice a' n c'] TI)) := (Below.refl _ _).alloc (Nat.le_refl _) _
    clear h9 hm hb hn hn2
    cases l
    · by_cases h8 : 8 < m
      · have E : Hid (val (.mk false bs its) = (0, 12)) := by show _ = _; simp [val, Rlp.It.list, Rlp.It.bytes, HM.out, h8]
        rw [E.out]
        go_enter Tryd.func28, Tryd.ntmps28
        go_wp2
        go_returns
        exact ⟨rfl, AL⟩
      · have h8' : m ≤ 8 := by omega
        by_cases h0 : 0 < m ∧ (bs.getD 0 0).toNat = 0
        · have E : Hid (val (.mk false bs its) = (0, 12)) := by
            show _ = _
            simp only [val, Rlp.It.list, Rlp.It.bytes, Bool.false_eq_true, if_false]
            exact if_pos (Or.inr ⟨by rw [HM.out]; exact h0.1, h0.2⟩)
          rw [E.out]
          obtain ⟨b, off, rfl, hF, hl, hc⟩ := HB.out 0 (by rw [HM.out]; exact h0.1)
          rw [h0.2, Nat.add_zero, ← AL.cell (p := ⟨b, off, none⟩) hl] at hc
          have hm0 := h0.1
          clear h0 h8
          go_enter Tryd.func28, Tryd.ntmps28
          go_wp2
          go_returns
          exact ⟨rfl, AL⟩
        · have E : Hid (val (.mk false bs its) = (Rlp.num bs, 0)) := by
            show _ = _
            simp only [val, Rlp.It.list, Rlp.It.bytes, Bool.false_eq_true, if_false]
            exact if_neg (by rw [HM.out]; omega)
          rw [E.out]
          have hq : 0 < m → ∃ b off y, a = some ⟨b, off, none⟩ ∧ (w.alloc (.cells #[.bool false, .slice a m c, .slice a' n c'] TI)).cell? ⟨b, off, none⟩ = some (.int .u8 (y : Nat)) ∧ 0 < y := by
            intro hm0
            obtain ⟨b, off, rfl, hF, hl, hc⟩ := HB.out 0 (by rw [HM.out]; exact hm0)
            rw [Nat.add_zero, ← AL.cell (p := ⟨b, off, none⟩) hl] at hc
            exact ⟨b, off, _, rfl, hc, by omega⟩
          clear h0
          rcases Nat.eq_zero_or_pos m with hm0 | hm0
          · subst hm0
            have e0 : bs = [] := List.length_eq_zero_iff.1 HM.out
            subst e0
            clear hq
            go_enter Tryd.func28, Tryd.ntmps28
            go_wp2
            refine wp_loop_rounds 1 ?_
            rw [rounds_succ]
            go_wp2
            go_returns
            exact ⟨rfl, AL⟩
          · obtain ⟨b, off, y, rfl, hc, hy⟩ := hq hm0
            clear hq
            have hy2 : ((y : Int) == 0) = false := by simp; omega
            have hm2 : decide ((m : Int) > 8) = false := by simp; omega
            have hm3 : decide ((m : Int) > 0) = true := by simp; omega
            go_enter Tryd.func28, Tryd.ntmps28
            go_wp2
            go_loop [4, 6, 31] (fun v p i => ∃ (j : Nat) (V : Int), j ≤ m ∧ i = .int .i64 j ∧ v = .int .u64 V ∧ Hid (V = (Rlp.num (bs.take j) : Nat))) (fun _ _ i => m - (intOf i).toNat)
            case atStart => exact ⟨0, 0, by omega, rfl, rfl, by show _ = _; simp [Rlp.num]⟩
            case round =>
              obtain ⟨j, V, hj, rfl, rfl, HV⟩ := hrel
              by_cases hlt : j < m
              · have hjl : j < bs.length := by rw [HM.out]; exact hlt
                obtain ⟨b', off', e, hF, hl, hcj⟩ := HB.out j hjl
                injection e with e
                injection e with e1 e2
                subst e1; subst e2
                rw [← AL.cell (p := ⟨b, off + j, none⟩) hl] at hcj
                have hv := num_56 bs j (by omega)
                have et := num_take bs j hjl
                have hV0 : 0 ≤ V := by have := HV.out; omega
                have hV1 : V ≤ 72057594037927935 := by have := HV.out; omega
                obtain ⟨x, hx⟩ : ∃ x, x = (bs.getD j 0).toNat := ⟨_, rfl⟩
                have hx2 : x ≤ 255 := by have := (bs.getD j 0).toNat_lt; omega
                rw [← hx] at hcj et
                have ET : Hid (V * 256 + x = (Rlp.num (bs.take (j + 1)) : Nat)) := by have := HV.out; show _ = _; omega
                have EO := or8 V x hV0 hV1 hx2
                clear et hv hx hjl
                go_wp2
                go_round
                case rel => exact ⟨j + 1, V * 256 + x, by omega, by go_num, by go_num, ET⟩
                case measure => simp [intOf]; omega
              · have hjm : m = j := by omega
                have EV : Hid (V = (Rlp.num bs : Nat)) := by have := HV.out; rw [← hjm, ← HM.out, List.take_length] at this; exact this
                have hjm' : j = m := hjm.symm
                subst hjm'
                clear hjm
                go_wp2
                go_returns
                exact ⟨by rw [← EV.out]; rfl, AL⟩
    · have E : Hid (val (.mk true bs its) = (0, 3)) := by show _ = _; simp [val, Rlp.It.list]
      rw [E.out]
      go_enter Tryd.func28, Tryd.ntmps28
      go_wp2
      go_returns
      exact ⟨rfl, AL⟩
end Go.Proofs.YtgcpnhnckbgjmaaDoor
