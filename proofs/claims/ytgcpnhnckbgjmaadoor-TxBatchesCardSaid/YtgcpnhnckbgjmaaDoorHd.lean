/-
  rlp.head by its contract.
-/
import Derived.Test.YtgcpnhnckbgjmaaDoorFault
set_option linter.unusedVariables false
set_option linter.unusedSimpArgs false
namespace Go.Proofs.YtgcpnhnckbgjmaaDoor
open Go.RowKit
variable {F : Nat → Prop}
/-- What the head's call answers: what the head says, or a fault of that number at this place. -/
def HeadRet (w : World) (i : Nat) (r : Except Nat (Bool × Nat × Nat)) (e : Ending) (w' : World) : Prop :=
  Below w.heap.size w w' ∧ match r with
  | .error c => ∃ l p, e = .returned (.tuple #[.bool l, .int .i64 0, .int .i64 0, .iface TF (.pointer (some ⟨p, 0, none⟩))]) ∧ FaultAt w' p i c ∧ w.heap.size ≤ p
  | .ok (l, k, n) => e = .returned (.tuple #[.bool l, .int .i64 k, .int .i64 n, .nilIface])
theorem HeadRet.err {w w' : World} {i c : Nat} {l : Bool} {e : Ending} {p : Nat} (hb : Below w.heap.size w w') (he : e = .returned (.tuple #[.bool l, .int .i64 0, .int .i64 0, .iface TF (.pointer (some ⟨p, 0, none⟩))])) (hf : FaultAt w' p i c) (hp : w.heap.size ≤ p) : HeadRet w i (.error c) e w' := ⟨hb, l, p, he, hf, hp⟩
theorem HeadRet.fine {w w' : World} {i : Nat} {l : Bool} {k n : Nat} {e : Ending} (hb : Below w.heap.size w w') (he : e = .returned (.tuple #[.bool l, .int .i64 k, .int .i64 n, .nilIface])) : HeadRet w i (.ok (l, k, n)) e w' := ⟨hb, he⟩
theorem head_lt (b : List UInt8) (i s y : Nat) (hy : (b.getD i 0).toNat = y) (h : y < 128) : Rlp.head b i s = .ok (false, 0, 1) := by
  unfold Rlp.head; rw [hy]; simp only; rw [if_pos h]
theorem head_s128 (b : List UInt8) (i s d : Nat) (hy : (b.getD i 0).toNat = 128 + d) (hd : d < 56) : Rlp.head b i s = (if s - i - 1 < d then .error 11 else if d = 1 ∧ false = false ∧ (b.getD (i + 1) 0).toNat < 128 then .error 12 else .ok (false, 1, d)) := by
  unfold Rlp.head; rw [hy]; simp only
  have e1 : decide (192 ≤ 128 + d) = false := by simp; omega
  have e2 : (if 192 ≤ 128 + d then 192 else 128) = 128 := by rw [if_neg (by omega)]
  rw [e1, e2, if_neg (by omega), show 128 + d - 128 = d by omega, if_pos hd]
  all_goals (try simp)
theorem head_l128 (b : List UInt8) (i s k : Nat) (hy : (b.getD i 0).toNat = 128 + (k + 55)) (hk : 0 < k) (hk8 : k ≤ 8) : Rlp.head b i s = (if s - i - 1 < k then .error 11 else if s - i - 1 - k < Rlp.num ((b.drop (i + 1)).take k) then .error 11 else if Rlp.num ((b.drop (i + 1)).take k) < 56 ∨ (b.getD (i + 1) 0).toNat = 0 then .error 12 else .ok (false, 1 + k, Rlp.num ((b.drop (i + 1)).take k))) := by
  unfold Rlp.head; rw [hy]; simp only
  have e1 : decide (192 ≤ 128 + (k + 55)) = false := by simp; omega
  have e2 : (if 192 ≤ 128 + (k + 55) then 192 else 128) = 128 := by rw [if_neg (by omega)]
  rw [e1, e2, if_neg (by omega), show 128 + (k + 55) - 128 = k + 55 by omega, if_neg (by omega), show k + 55 - 55 = k by omega]
theorem head_s192 (b : List UInt8) (i s d : Nat) (hy : (b.getD i 0).toNat = 192 + d) (hd : d < 56) : Rlp.head b i s = (if s - i - 1 < d then .error 11 else if d = 1 ∧ true = false ∧ (b.getD (i + 1) 0).toNat < 128 then .error 12 else .ok (true, 1, d)) := by
  unfold Rlp.head; rw [hy]; simp only
  have e1 : decide (192 ≤ 192 + d) = true := by simp
  have e2 : (if 192 ≤ 192 + d then 192 else 128) = 192 := by rw [if_pos (by omega)]
  rw [e1, e2, if_neg (by omega), show 192 + d - 192 = d by omega, if_pos hd]
  all_goals (try simp)
theorem head_l192 (b : List UInt8) (i s k : Nat) (hy : (b.getD i 0).toNat = 192 + (k + 55)) (hk : 0 < k) (hk8 : k ≤ 8) : Rlp.head b i s = (if s - i - 1 < k then .error 11 else if s - i - 1 - k < Rlp.num ((b.drop (i + 1)).take k) then .error 11 else if Rlp.num ((b.drop (i + 1)).take k) < 56 ∨ (b.getD (i + 1) 0).toNat = 0 then .error 12 else .ok (true, 1 + k, Rlp.num ((b.drop (i + 1)).take k))) := by
  unfold Rlp.head; rw [hy]; simp only
  have e1 : decide (192 ≤ 192 + (k + 55)) = true := by simp
  have e2 : (if 192 ≤ 192 + (k + 55) then 192 else 128) = 192 := by rw [if_pos (by omega)]
  rw [e1, e2, if_neg (by omega), show 192 + (k + 55) - 192 = k + 55 by omega, if_neg (by omega), show k + 55 - 55 = k by omega]
set_option maxRecDepth 100000 in
theorem hd_lt (w : World) (bb off n c : Nat) (b : List UInt8) (i s : Nat) (hl : b.length = n) (hc : n ≤ c) (hcm : c ≤ maxLen) (hn : n ≤ 4096) (his : i < s) (hsn : s ≤ n) (y : Nat) (hy : (b.getD i 0).toNat = y) (h : y < 128) (c0 : w.cell? ⟨bb, off + i, none⟩ = some (.int .u8 y)) :
    Calls Tryd.prog 55 #[.slice (some ⟨bb, off, none⟩) n c, .int .i64 i, .int .i64 s] w (HeadRet w i (Rlp.head b i s)) := by
  unfold maxLen at hcm
  have E := Lib.hid (head_lt b i s y hy h)
  clear hy hl
  rw [E.out]
  go_enter Tryd.func55, Tryd.ntmps55
  go_wp2
  go_returns
  exact HeadRet.fine (Below.refl _ _) rfl
set_option maxRecDepth 100000 in
theorem hd_s128e (w : World) (bb off n c : Nat) (b : List UInt8) (i s : Nat) (hl : b.length = n) (hc : n ≤ c) (hcm : c ≤ maxLen) (hn : n ≤ 4096) (his : i < s) (hsn : s ≤ n) (d : Nat) (hy : (b.getD i 0).toNat = 128 + d) (hd : d < 56) (Y : Int) (hYe : Y = ((128 + d : Nat) : Int)) (c0 : w.cell? ⟨bb, off + i, none⟩ = some (.int .u8 Y)) (h : s - i - 1 < d) :
    Calls Tryd.prog 55 #[.slice (some ⟨bb, off, none⟩) n c, .int .i64 i, .int .i64 s] w (HeadRet w i (Rlp.head b i s)) := by
  unfold maxLen at hcm
  have y1 : 128 ≤ Y := by omega
  have y2 : Y ≤ 255 := by omega
  have y3 : Y - 128 = (d : Int) := by omega
  have y4 : decide (Y ≥ 192) = false := by simp; omega
  have y5 : decide (192 ≤ Y) = false := by simp; omega
  clear hYe
  have E := head_s128 b i s d hy hd
  rw [if_pos h] at E
  rw [E]
  clear hy hl E
  have h1 : s < i + 1 + d := by omega
  clear h
  go_enter Tryd.func55, Tryd.ntmps55
  go_wp2_with (go_at_call 42; (with_reducible refine (fault_V i 11 _ 11 _ rfl (by decide)).mono ?_); rintro e w1 ⟨rfl, hfa, hb1, hz1⟩)
  go_returns
  exact HeadRet.err hb1 rfl hfa (Nat.le_refl _)
set_option maxRecDepth 100000 in
theorem hd_s128f (w : World) (bb off n c : Nat) (b : List UInt8) (i s : Nat) (hl : b.length = n) (hc : n ≤ c) (hcm : c ≤ maxLen) (hn : n ≤ 4096) (his : i < s) (hsn : s ≤ n) (d : Nat) (hy : (b.getD i 0).toNat = 128 + d) (hd : d < 56) (Y : Int) (hYe : Y = ((128 + d : Nat) : Int)) (c0 : w.cell? ⟨bb, off + i, none⟩ = some (.int .u8 Y)) (h : ¬ s - i - 1 < d) (h1 : d = 1) (h2 : (b.getD (i + 1) 0).toNat < 128) (c1 : w.cell? ⟨bb, off + (i + 1), none⟩ = some (.int .u8 ((b.getD (i + 1) 0).toNat : Int))) :
    Calls Tryd.prog 55 #[.slice (some ⟨bb, off, none⟩) n c, .int .i64 i, .int .i64 s] w (HeadRet w i (Rlp.head b i s)) := by
  unfold maxLen at hcm
  have y1 : 128 ≤ Y := by omega
  have y2 : Y ≤ 255 := by omega
  have y3 : Y - 128 = (d : Int) := by omega
  have y4 : decide (Y ≥ 192) = false := by simp; omega
  have y5 : decide (192 ≤ Y) = false := by simp; omega
  clear hYe
  have E := head_s128 b i s d hy hd
  rw [if_neg h, if_pos ⟨h1, rfl, h2⟩] at E
  rw [E]
  clear hy hl E
  subst h1
  obtain ⟨z, hz⟩ : ∃ z, z = (b.getD (i + 1) 0).toNat := ⟨_, rfl⟩
  rw [← hz] at c1 h2
  clear hz hd
  have h3 : i + 2 ≤ s := by omega
  clear h
  go_enter Tryd.func55, Tryd.ntmps55
  go_wp2_with (go_at_call 42; (with_reducible refine (fault_V i 12 _ 12 _ rfl (by decide)).mono ?_); rintro e w1 ⟨rfl, hfa, hb1, hz1⟩)
  go_returns
  exact HeadRet.err hb1 rfl hfa (Nat.le_refl _)
set_option maxRecDepth 100000 in
theorem hd_s128g (w : World) (bb off n c : Nat) (b : List UInt8) (i s : Nat) (hl : b.length = n) (hc : n ≤ c) (hcm : c ≤ maxLen) (hn : n ≤ 4096) (his : i < s) (hsn : s ≤ n) (d : Nat) (hy : (b.getD i 0).toNat = 128 + d) (hd : d < 56) (Y : Int) (hYe : Y = ((128 + d : Nat) : Int)) (c0 : w.cell? ⟨bb, off + i, none⟩ = some (.int .u8 Y)) (h : ¬ s - i - 1 < d) (h1 : d = 1) (h2 : ¬ (b.getD (i + 1) 0).toNat < 128) (c1 : w.cell? ⟨bb, off + (i + 1), none⟩ = some (.int .u8 ((b.getD (i + 1) 0).toNat : Int))) :
    Calls Tryd.prog 55 #[.slice (some ⟨bb, off, none⟩) n c, .int .i64 i, .int .i64 s] w (HeadRet w i (Rlp.head b i s)) := by
  unfold maxLen at hcm
  have y1 : 128 ≤ Y := by omega
  have y2 : Y ≤ 255 := by omega
  have y3 : Y - 128 = (d : Int) := by omega
  have y4 : decide (Y ≥ 192) = false := by simp; omega
  have y5 : decide (192 ≤ Y) = false := by simp; omega
  clear hYe
  have E := head_s128 b i s d hy hd
  rw [if_neg h, if_neg (fun e => h2 e.2.2)] at E
  rw [E]
  clear hy hl E
  subst h1
  have h4 := (b.getD (i + 1) 0).toNat_lt
  obtain ⟨z, hz⟩ : ∃ z, z = (b.getD (i + 1) 0).toNat := ⟨_, rfl⟩
  rw [← hz] at c1 h2 h4
  clear hz hd
  have h3 : i + 2 ≤ s := by omega
  clear h
  go_enter Tryd.func55, Tryd.ntmps55
  go_wp2
  go_returns
  exact HeadRet.fine (Below.refl _ _) rfl
set_option maxRecDepth 100000 in
theorem hd_s128o (w : World) (bb off n c : Nat) (b : List UInt8) (i s : Nat) (hl : b.length = n) (hc : n ≤ c) (hcm : c ≤ maxLen) (hn : n ≤ 4096) (his : i < s) (hsn : s ≤ n) (d : Nat) (hy : (b.getD i 0).toNat = 128 + d) (hd : d < 56) (Y : Int) (hYe : Y = ((128 + d : Nat) : Int)) (c0 : w.cell? ⟨bb, off + i, none⟩ = some (.int .u8 Y)) (h : ¬ s - i - 1 < d) (h1 : d ≠ 1) :
    Calls Tryd.prog 55 #[.slice (some ⟨bb, off, none⟩) n c, .int .i64 i, .int .i64 s] w (HeadRet w i (Rlp.head b i s)) := by
  unfold maxLen at hcm
  have y1 : 128 ≤ Y := by omega
  have y2 : Y ≤ 255 := by omega
  have y3 : Y - 128 = (d : Int) := by omega
  have y4 : decide (Y ≥ 192) = false := by simp; omega
  have y5 : decide (192 ≤ Y) = false := by simp; omega
  clear hYe
  have E := head_s128 b i s d hy hd
  rw [if_neg h, if_neg (fun e => h1 e.1)] at E
  rw [E]
  clear hy hl E
  have h3 : i + 1 + d ≤ s := by omega
  clear h
  have h4 : ((d : Int) == 1) = false := by simp; omega
  go_enter Tryd.func55, Tryd.ntmps55
  go_wp2
  go_returns
  exact HeadRet.fine (Below.refl _ _) rfl
set_option maxRecDepth 100000 in
theorem hd_l128e (w : World) (bb off n c : Nat) (b : List UInt8) (i s : Nat) (hl : b.length = n) (hc : n ≤ c) (hcm : c ≤ maxLen) (hn : n ≤ 4096) (his : i < s) (hsn : s ≤ n) (k : Nat) (hy : (b.getD i 0).toNat = 128 + (k + 55)) (hk : 0 < k) (hk8 : k ≤ 8) (Y : Int) (hYe : Y = ((128 + (k + 55) : Nat) : Int)) (c0 : w.cell? ⟨bb, off + i, none⟩ = some (.int .u8 Y)) (h : s - i - 1 < k) :
    Calls Tryd.prog 55 #[.slice (some ⟨bb, off, none⟩) n c, .int .i64 i, .int .i64 s] w (HeadRet w i (Rlp.head b i s)) := by
  unfold maxLen at hcm
  have y1 : 128 ≤ Y := by omega
  have y2 : Y ≤ 255 := by omega
  obtain ⟨d, hd⟩ : ∃ d : Int, d = (k : Int) + 55 := ⟨_, rfl⟩
  have y3 : Y - 128 = d := by omega
  have y4 : decide (Y ≥ 192) = false := by simp; omega
  have y5 : decide (192 ≤ Y) = false := by simp; omega
  have y6 : d - 55 = (k : Int) := by omega
  have y7 : 56 ≤ d := by omega
  have y8 : d ≤ 63 := by omega
  clear hYe hd
  have E := head_l128 b i s k hy hk hk8
  rw [if_pos h] at E
  rw [E]
  clear hy hl E
  have h1 : s < i + 1 + k := by omega
  clear h
  go_enter Tryd.func55, Tryd.ntmps55
  go_wp2_with (go_at_call 42; (with_reducible refine (fault_V i 11 _ 11 _ rfl (by decide)).mono ?_); rintro e w1 ⟨rfl, hfa, hb1, hz1⟩)
  go_returns
  exact HeadRet.err hb1 rfl hfa (Nat.le_refl _)
set_option maxRecDepth 100000 in
set_option maxHeartbeats 1000000 in
theorem hd_l128o (w : World) (bb off n c : Nat) (b : List UInt8) (i s : Nat) (hl : b.length = n) (hc : n ≤ c) (hcm : c ≤ maxLen) (hn : n ≤ 4096) (his : i < s) (hsn : s ≤ n) (k : Nat) (hy : (b.getD i 0).toNat = 128 + (k + 55)) (hk : 0 < k) (hk8 : k ≤ 8) (Y : Int) (hYe : Y = ((128 + (k + 55) : Nat) : Int)) (c0 : w.cell? ⟨bb, off + i, none⟩ = some (.int .u8 Y)) (h : ¬ s - i - 1 < k) (hb : ∀ j, j < n → w.cell? ⟨bb, off + j, none⟩ = some (.int .u8 ((b.getD j 0).toNat : Int))) :
    Calls Tryd.prog 55 #[.slice (some ⟨bb, off, none⟩) n c, .int .i64 i, .int .i64 s] w (HeadRet w i (Rlp.head b i s)) := by
  unfold maxLen at hcm
  have y1 : 128 ≤ Y := by omega
  have y2 : Y ≤ 255 := by omega
  obtain ⟨d, hd⟩ : ∃ d : Int, d = (k : Int) + 55 := ⟨_, rfl⟩
  have y3 : Y - 128 = d := by omega
  have y4 : decide (Y ≥ 192) = false := by simp; omega
  have y5 : decide (192 ≤ Y) = false := by simp; omega
  have y6 : d - 55 = (k : Int) := by omega
  have y7 : 56 ≤ d := by omega
  have y8 : d ≤ 63 := by omega
  clear hYe hd
  have HE := Lib.hid (head_l128 b i s k hy hk hk8)
  have HE2 := HE.out
  rw [if_neg h] at HE2
  have HE := Lib.hid HE2
  have HB := Lib.hid hb
  have h3 : i + 1 + k ≤ s := by omega
  obtain ⟨ks, hks⟩ : ∃ ks, ks = (b.drop (i + 1)).take k := ⟨_, rfl⟩
  have hkl : ks.length = k := by rw [hks]; simp; omega
  have hkg : ∀ j, j < k → ks.getD j 0 = b.getD (i + 1 + j) 0 := fun j hj => by
    rw [hks, List.getD_eq_getElem?_getD, List.getElem?_take_of_lt hj, List.getElem?_drop, List.getD_eq_getElem?_getD]
  rw [← hks] at HE
  have HL := Lib.hid hkl
  have HG := Lib.hid hkg
  obtain ⟨z, hz⟩ : ∃ z, z = (b.getD (i + 1) 0).toNat := ⟨_, rfl⟩
  rw [← hz] at HE
  have c1 := hb (i + 1) (by omega)
  rw [← hz] at c1
  have hz2 : z ≤ 255 := by have := (b.getD (i + 1) 0).toNat_lt; omega
  clear hks hkl hkg hb hy hl h HE2 hz
  go_enter Tryd.func55, Tryd.ntmps55
  go_wp2
  go_loop [15, 17, 87] (fun v p x => ∃ (j : Nat) (V : Int), j ≤ k ∧ x = .int .i64 j ∧ v = .int .u64 V ∧ Hid (V = (Rlp.num (ks.take j) : Nat))) (fun _ _ x => k - (intOf x).toNat)
  case atStart => exact ⟨0, 0, by omega, rfl, rfl, by show _ = _; simp [Rlp.num]⟩
  case round =>
    obtain ⟨j, V, hj, rfl, rfl, HV⟩ := hrel
    by_cases hlt : j < k
    · have hjl : j < ks.length := by rw [HL.out]; exact hlt
      have hcj := HB.out (i + 1 + j) (by omega)
      have hv := num_56 ks j (by omega)
      have et := num_take ks j hjl
      rw [HG.out j hlt] at et
      have hV0 : 0 ≤ V := by have := HV.out; omega
      have hV1 : V ≤ 72057594037927935 := by have := HV.out; omega
      obtain ⟨x, hx⟩ : ∃ x, x = (b.getD (i + 1 + j) 0).toNat := ⟨_, rfl⟩
      have hx2 : x ≤ 255 := by have := (b.getD (i + 1 + j) 0).toNat_lt; omega
      rw [← hx] at hcj et
      have ET : Hid (V * 256 + x = (Rlp.num (ks.take (j + 1)) : Nat)) := by have := HV.out; show _ = _; omega
      have EO := or8 V x hV0 hV1 hx2
      have hcj2 : w.cell? ⟨bb, off + (i + 1) + j, none⟩ = some (.int .u8 (x : Int)) := by rw [Nat.add_assoc]; exact hcj
      clear et hv hx hjl hcj
      go_wp2
      go_round
      case rel => exact ⟨j + 1, V * 256 + x, by omega, by go_num, by go_num, ET⟩
      case measure => simp [intOf]; omega
    · have hjm : k = j := by omega
      have EV : Hid (V = (Rlp.num ks : Nat)) := by have := HV.out; rw [← hjm, ← HL.out, List.take_length] at this; exact this
      have hjm' : j = k := hjm.symm
      subst hjm'
      clear hjm HV HL HG HB
      obtain ⟨N, hN⟩ : ∃ N, N = Rlp.num ks := ⟨_, rfl⟩
      have hVN : V = (N : Int) := by rw [hN]; exact EV.out
      rw [← hN] at HE
      clear EV hN
      subst hVN
      by_cases g1 : s - i - 1 - j < N
      · have E := HE.out
        rw [if_pos g1] at E
        have E3 := Lib.hid E
        clear E HE
        have g2 : (s : Int) - i - 1 - j < N := by omega
        clear g1
        as_aux_lemma =>
          go_wp2_with (go_at_call 42; (with_reducible refine (fault_V i 11 _ 11 _ rfl (by decide)).mono ?_); rintro e w1 ⟨rfl, hfa, hb1, hz1⟩)
          go_returns
          rw [E3.out]
          exact HeadRet.err hb1 rfl hfa (Nat.le_refl _)
      · have HE3 := HE.out
        rw [if_neg g1] at HE3
        have g2 : ¬ ((s : Int) - i - 1 - j < N) := by omega
        have g3 : N ≤ 4096 := by omega
        clear g1 HE
        by_cases g4 : N < 56
        · rw [if_pos (Or.inl g4)] at HE3
          have E3 := Lib.hid HE3
          clear HE3
          have g5 : decide ((N : Int) < 56) = true := by simp; omega
          as_aux_lemma =>
            go_wp2_with (go_at_call 42; (with_reducible refine (fault_V i 12 _ 12 _ rfl (by decide)).mono ?_); rintro e w1 ⟨rfl, hfa, hb1, hz1⟩)
            go_returns
            rw [E3.out]
            exact HeadRet.err hb1 rfl hfa (Nat.le_refl _)
        · have g5 : decide ((N : Int) < 56) = false := by simp; omega
          by_cases g6 : z = 0
          · rw [if_pos (Or.inr g6)] at HE3
            have E3 := Lib.hid HE3
            clear HE3
            subst g6
            as_aux_lemma =>
              go_wp2_with (go_at_call 42; (with_reducible refine (fault_V i 12 _ 12 _ rfl (by decide)).mono ?_); rintro e w1 ⟨rfl, hfa, hb1, hz1⟩)
              go_returns
              rw [E3.out]
              exact HeadRet.err hb1 rfl hfa (Nat.le_refl _)
          · rw [if_neg (by omega)] at HE3
            have E3 := Lib.hid HE3
            clear HE3
            have g7 : ((z : Int) == 0) = false := by simp; omega
            as_aux_lemma =>
              go_wp2
              go_returns
              rw [E3.out]
              exact HeadRet.fine (Below.refl _ _) (by go_num)
set_option maxRecDepth 100000 in
theorem hd_s192e (w : World) (bb off n c : Nat) (b : List UInt8) (i s : Nat) (hl : b.length = n) (hc : n ≤ c) (hcm : c ≤ maxLen) (hn : n ≤ 4096) (his : i < s) (hsn : s ≤ n) (d : Nat) (hy : (b.getD i 0).toNat = 192 + d) (hd : d < 56) (Y : Int) (hYe : Y = ((192 + d : Nat) : Int)) (c0 : w.cell? ⟨bb, off + i, none⟩ = some (.int .u8 Y)) (h : s - i - 1 < d) :
    Calls Tryd.prog 55 #[.slice (some ⟨bb, off, none⟩) n c, .int .i64 i, .int .i64 s] w (HeadRet w i (Rlp.head b i s)) := by
  unfold maxLen at hcm
  have y1 : 128 ≤ Y := by omega
  have y2 : Y ≤ 255 := by omega
  have y3 : Y - 192 = (d : Int) := by omega
  have y4 : decide (Y ≥ 192) = true := by simp; omega
  have y5 : decide (192 ≤ Y) = true := by simp; omega
  clear hYe
  have E := head_s192 b i s d hy hd
  rw [if_pos h] at E
  rw [E]
  clear hy hl E
  have h1 : s < i + 1 + d := by omega
  clear h
  go_enter Tryd.func55, Tryd.ntmps55
  go_wp2_with (go_at_call 42; (with_reducible refine (fault_V i 11 _ 11 _ rfl (by decide)).mono ?_); rintro e w1 ⟨rfl, hfa, hb1, hz1⟩)
  go_returns
  exact HeadRet.err hb1 rfl hfa (Nat.le_refl _)
set_option maxRecDepth 100000 in
theorem hd_s192o (w : World) (bb off n c : Nat) (b : List UInt8) (i s : Nat) (hl : b.length = n) (hc : n ≤ c) (hcm : c ≤ maxLen) (hn : n ≤ 4096) (his : i < s) (hsn : s ≤ n) (d : Nat) (hy : (b.getD i 0).toNat = 192 + d) (hd : d < 56) (Y : Int) (hYe : Y = ((192 + d : Nat) : Int)) (c0 : w.cell? ⟨bb, off + i, none⟩ = some (.int .u8 Y)) (h : ¬ s - i - 1 < d)  :
    Calls Tryd.prog 55 #[.slice (some ⟨bb, off, none⟩) n c, .int .i64 i, .int .i64 s] w (HeadRet w i (Rlp.head b i s)) := by
  unfold maxLen at hcm
  have y1 : 128 ≤ Y := by omega
  have y2 : Y ≤ 255 := by omega
  have y3 : Y - 192 = (d : Int) := by omega
  have y4 : decide (Y ≥ 192) = true := by simp; omega
  have y5 : decide (192 ≤ Y) = true := by simp; omega
  clear hYe
  have E := head_s192 b i s d hy hd
  rw [if_neg h, if_neg (fun e => by cases e.2.1)] at E
  rw [E]
  clear hy hl E
  have h3 : i + 1 + d ≤ s := by omega
  clear h
  by_cases h1 : d = 1
  · subst h1
    go_enter Tryd.func55, Tryd.ntmps55
    go_wp2
    go_returns
    exact HeadRet.fine (Below.refl _ _) rfl
  · have h4 : ((d : Int) == 1) = false := by simp; omega
    go_enter Tryd.func55, Tryd.ntmps55
    go_wp2
    go_returns
    exact HeadRet.fine (Below.refl _ _) rfl
set_option maxRecDepth 100000 in
theorem hd_l192e (w : World) (bb off n c : Nat) (b : List UInt8) (i s : Nat) (hl : b.length = n) (hc : n ≤ c) (hcm : c ≤ maxLen) (hn : n ≤ 4096) (his : i < s) (hsn : s ≤ n) (k : Nat) (hy : (b.getD i 0).toNat = 192 + (k + 55)) (hk : 0 < k) (hk8 : k ≤ 8) (Y : Int) (hYe : Y = ((192 + (k + 55) : Nat) : Int)) (c0 : w.cell? ⟨bb, off + i, none⟩ = some (.int .u8 Y)) (h : s - i - 1 < k) :
    Calls Tryd.prog 55 #[.slice (some ⟨bb, off, none⟩) n c, .int .i64 i, .int .i64 s] w (HeadRet w i (Rlp.head b i s)) := by
  unfold maxLen at hcm
  have y1 : 128 ≤ Y := by omega
  have y2 : Y ≤ 255 := by omega
  obtain ⟨d, hd⟩ : ∃ d : Int, d = (k : Int) + 55 := ⟨_, rfl⟩
  have y3 : Y - 192 = d := by omega
  have y4 : decide (Y ≥ 192) = true := by simp; omega
  have y5 : decide (192 ≤ Y) = true := by simp; omega
  have y6 : d - 55 = (k : Int) := by omega
  have y7 : 56 ≤ d := by omega
  have y8 : d ≤ 63 := by omega
  clear hYe hd
  have E := head_l192 b i s k hy hk hk8
  rw [if_pos h] at E
  rw [E]
  clear hy hl E
  have h1 : s < i + 1 + k := by omega
  clear h
  go_enter Tryd.func55, Tryd.ntmps55
  go_wp2_with (go_at_call 42; (with_reducible refine (fault_V i 11 _ 11 _ rfl (by decide)).mono ?_); rintro e w1 ⟨rfl, hfa, hb1, hz1⟩)
  go_returns
  exact HeadRet.err hb1 rfl hfa (Nat.le_refl _)
set_option maxRecDepth 100000 in
set_option maxHeartbeats 1000000 in
theorem hd_l192o (w : World) (bb off n c : Nat) (b : List UInt8) (i s : Nat) (hl : b.length = n) (hc : n ≤ c) (hcm : c ≤ maxLen) (hn : n ≤ 4096) (his : i < s) (hsn : s ≤ n) (k : Nat) (hy : (b.getD i 0).toNat = 192 + (k + 55)) (hk : 0 < k) (hk8 : k ≤ 8) (Y : Int) (hYe : Y = ((192 + (k + 55) : Nat) : Int)) (c0 : w.cell? ⟨bb, off + i, none⟩ = some (.int .u8 Y)) (h : ¬ s - i - 1 < k) (hb : ∀ j, j < n → w.cell? ⟨bb, off + j, none⟩ = some (.int .u8 ((b.getD j 0).toNat : Int))) :
    Calls Tryd.prog 55 #[.slice (some ⟨bb, off, none⟩) n c, .int .i64 i, .int .i64 s] w (HeadRet w i (Rlp.head b i s)) := by
  unfold maxLen at hcm
  have y1 : 128 ≤ Y := by omega
  have y2 : Y ≤ 255 := by omega
  obtain ⟨d, hd⟩ : ∃ d : Int, d = (k : Int) + 55 := ⟨_, rfl⟩
  have y3 : Y - 192 = d := by omega
  have y4 : decide (Y ≥ 192) = true := by simp; omega
  have y5 : decide (192 ≤ Y) = true := by simp; omega
  have y6 : d - 55 = (k : Int) := by omega
  have y7 : 56 ≤ d := by omega
  have y8 : d ≤ 63 := by omega
  clear hYe hd
  have HE := Lib.hid (head_l192 b i s k hy hk hk8)
  have HE2 := HE.out
  rw [if_neg h] at HE2
  have HE := Lib.hid HE2
  have HB := Lib.hid hb
  have h3 : i + 1 + k ≤ s := by omega
  obtain ⟨ks, hks⟩ : ∃ ks, ks = (b.drop (i + 1)).take k := ⟨_, rfl⟩
  have hkl : ks.length = k := by rw [hks]; simp; omega
  have hkg : ∀ j, j < k → ks.getD j 0 = b.getD (i + 1 + j) 0 := fun j hj => by
    rw [hks, List.getD_eq_getElem?_getD, List.getElem?_take_of_lt hj, List.getElem?_drop, List.getD_eq_getElem?_getD]
  rw [← hks] at HE
  have HL := Lib.hid hkl
  have HG := Lib.hid hkg
  obtain ⟨z, hz⟩ : ∃ z, z = (b.getD (i + 1) 0).toNat := ⟨_, rfl⟩
  rw [← hz] at HE
  have c1 := hb (i + 1) (by omega)
  rw [← hz] at c1
  have hz2 : z ≤ 255 := by have := (b.getD (i + 1) 0).toNat_lt; omega
  clear hks hkl hkg hb hy hl h HE2 hz
  go_enter Tryd.func55, Tryd.ntmps55
  go_wp2
  go_loop [15, 17, 87] (fun v p x => ∃ (j : Nat) (V : Int), j ≤ k ∧ x = .int .i64 j ∧ v = .int .u64 V ∧ Hid (V = (Rlp.num (ks.take j) : Nat))) (fun _ _ x => k - (intOf x).toNat)
  case atStart => exact ⟨0, 0, by omega, rfl, rfl, by show _ = _; simp [Rlp.num]⟩
  case round =>
    obtain ⟨j, V, hj, rfl, rfl, HV⟩ := hrel
    by_cases hlt : j < k
    · have hjl : j < ks.length := by rw [HL.out]; exact hlt
      have hcj := HB.out (i + 1 + j) (by omega)
      have hv := num_56 ks j (by omega)
      have et := num_take ks j hjl
      rw [HG.out j hlt] at et
      have hV0 : 0 ≤ V := by have := HV.out; omega
      have hV1 : V ≤ 72057594037927935 := by have := HV.out; omega
      obtain ⟨x, hx⟩ : ∃ x, x = (b.getD (i + 1 + j) 0).toNat := ⟨_, rfl⟩
      have hx2 : x ≤ 255 := by have := (b.getD (i + 1 + j) 0).toNat_lt; omega
      rw [← hx] at hcj et
      have ET : Hid (V * 256 + x = (Rlp.num (ks.take (j + 1)) : Nat)) := by have := HV.out; show _ = _; omega
      have EO := or8 V x hV0 hV1 hx2
      have hcj2 : w.cell? ⟨bb, off + (i + 1) + j, none⟩ = some (.int .u8 (x : Int)) := by rw [Nat.add_assoc]; exact hcj
      clear et hv hx hjl hcj
      go_wp2
      go_round
      case rel => exact ⟨j + 1, V * 256 + x, by omega, by go_num, by go_num, ET⟩
      case measure => simp [intOf]; omega
    · have hjm : k = j := by omega
      have EV : Hid (V = (Rlp.num ks : Nat)) := by have := HV.out; rw [← hjm, ← HL.out, List.take_length] at this; exact this
      have hjm' : j = k := hjm.symm
      subst hjm'
      clear hjm HV HL HG HB
      obtain ⟨N, hN⟩ : ∃ N, N = Rlp.num ks := ⟨_, rfl⟩
      have hVN : V = (N : Int) := by rw [hN]; exact EV.out
      rw [← hN] at HE
      clear EV hN
      subst hVN
      by_cases g1 : s - i - 1 - j < N
      · have E := HE.out
        rw [if_pos g1] at E
        have E3 := Lib.hid E
        clear E HE
        have g2 : (s : Int) - i - 1 - j < N := by omega
        clear g1
        as_aux_lemma =>
          go_wp2_with (go_at_call 42; (with_reducible refine (fault_V i 11 _ 11 _ rfl (by decide)).mono ?_); rintro e w1 ⟨rfl, hfa, hb1, hz1⟩)
          go_returns
          rw [E3.out]
          exact HeadRet.err hb1 rfl hfa (Nat.le_refl _)
      · have HE3 := HE.out
        rw [if_neg g1] at HE3
        have g2 : ¬ ((s : Int) - i - 1 - j < N) := by omega
        have g3 : N ≤ 4096 := by omega
        clear g1 HE
        by_cases g4 : N < 56
        · rw [if_pos (Or.inl g4)] at HE3
          have E3 := Lib.hid HE3
          clear HE3
          have g5 : decide ((N : Int) < 56) = true := by simp; omega
          as_aux_lemma =>
            go_wp2_with (go_at_call 42; (with_reducible refine (fault_V i 12 _ 12 _ rfl (by decide)).mono ?_); rintro e w1 ⟨rfl, hfa, hb1, hz1⟩)
            go_returns
            rw [E3.out]
            exact HeadRet.err hb1 rfl hfa (Nat.le_refl _)
        · have g5 : decide ((N : Int) < 56) = false := by simp; omega
          by_cases g6 : z = 0
          · rw [if_pos (Or.inr g6)] at HE3
            have E3 := Lib.hid HE3
            clear HE3
            subst g6
            as_aux_lemma =>
              go_wp2_with (go_at_call 42; (with_reducible refine (fault_V i 12 _ 12 _ rfl (by decide)).mono ?_); rintro e w1 ⟨rfl, hfa, hb1, hz1⟩)
              go_returns
              rw [E3.out]
              exact HeadRet.err hb1 rfl hfa (Nat.le_refl _)
          · rw [if_neg (by omega)] at HE3
            have E3 := Lib.hid HE3
            clear HE3
            have g7 : ((z : Int) == 0) = false := by simp; omega
            as_aux_lemma =>
              go_wp2
              go_returns
              rw [E3.out]
              exact HeadRet.fine (Below.refl _ _) (by go_num)
theorem head_V (w : World) (a : Option Addr) (n c : Nat) (b : List UInt8) (i s : Nat) (hl : b.length = n) (hc : n ≤ c) (hcm : c ≤ maxLen) (hn : n ≤ 4096) (his : i < s) (hsn : s ≤ n) (hb : BytesF F w a b) :
    Calls Tryd.prog 55 #[.slice a n c, .int .i64 i, .int .i64 s] w (HeadRet w i (Rlp.head b i s)) := by
  obtain ⟨bb, off, rfl, _, _, c0⟩ := hb i (by omega)
  have hb2 : ∀ j, j < n → w.cell? ⟨bb, off + j, none⟩ = some (.int .u8 ((b.getD j 0).toNat : Int)) := fun j hj => by
    obtain ⟨bb', off', e, _, _, c1⟩ := hb j (by omega)
    injection e with e; injection e with e1 e2
    subst e1; subst e2; exact c1
  have hlt := (b.getD i 0).toNat_lt
  obtain ⟨y, hy⟩ : ∃ y, (b.getD i 0).toNat = y := ⟨_, rfl⟩
  rw [hy] at c0 hlt
  by_cases h1 : y < 128
  · exact hd_lt w bb off n c b i s hl hc hcm hn his hsn y hy h1 c0
  by_cases h2 : y < 192
  · obtain ⟨d, rfl⟩ : ∃ d, y = 128 + d := ⟨y - 128, by omega⟩
    by_cases h3 : d < 56
    · by_cases h4 : s - i - 1 < d
      · exact hd_s128e w bb off n c b i s hl hc hcm hn his hsn d hy h3 _ rfl c0 h4
      · by_cases h5 : d = 1
        · by_cases h6 : (b.getD (i + 1) 0).toNat < 128
          · exact hd_s128f w bb off n c b i s hl hc hcm hn his hsn d hy h3 _ rfl c0 h4 h5 h6 (hb2 (i + 1) (by omega))
          · exact hd_s128g w bb off n c b i s hl hc hcm hn his hsn d hy h3 _ rfl c0 h4 h5 h6 (hb2 (i + 1) (by omega))
        · exact hd_s128o w bb off n c b i s hl hc hcm hn his hsn d hy h3 _ rfl c0 h4 h5
    · obtain ⟨k, rfl⟩ : ∃ k, d = k + 55 := ⟨d - 55, by omega⟩
      by_cases h4 : s - i - 1 < k
      · exact hd_l128e w bb off n c b i s hl hc hcm hn his hsn k hy (by omega) (by omega) _ rfl c0 h4
      · exact hd_l128o w bb off n c b i s hl hc hcm hn his hsn k hy (by omega) (by omega) _ rfl c0 h4 hb2
  · obtain ⟨d, rfl⟩ : ∃ d, y = 192 + d := ⟨y - 192, by omega⟩
    by_cases h3 : d < 56
    · by_cases h4 : s - i - 1 < d
      · exact hd_s192e w bb off n c b i s hl hc hcm hn his hsn d hy h3 _ rfl c0 h4
      · exact hd_s192o w bb off n c b i s hl hc hcm hn his hsn d hy h3 _ rfl c0 h4
    · obtain ⟨k, rfl⟩ : ∃ k, d = k + 55 := ⟨d - 55, by omega⟩
      by_cases h4 : s - i - 1 < k
      · exact hd_l192e w bb off n c b i s hl hc hcm hn his hsn k hy (by omega) (by omega) _ rfl c0 h4
      · exact hd_l192o w bb off n c b i s hl hc hcm hn his hsn k hy (by omega) (by omega) _ rfl c0 h4 hb2
end Go.Proofs.YtgcpnhnckbgjmaaDoor
