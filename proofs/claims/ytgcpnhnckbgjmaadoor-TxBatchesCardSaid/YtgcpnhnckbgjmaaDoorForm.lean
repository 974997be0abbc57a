/-
  rlp.form by its contract.
-/
import Derived.Test.YtgcpnhnckbgjmaaDoorBig
import Derived.Test.YtgcpnhnckbgjmaaDoorRight
set_option linter.unusedVariables false
set_option linter.unusedSimpArgs false
namespace Go.Proofs.YtgcpnhnckbgjmaaDoor
open Go.RowKit
variable {F : Nat → Prop}

/-- All bytes of an item (of a depth below k) are at most M long. -/
def allB (M : Nat) : Nat → Rlp.It → Prop
  | 0, _ => False
  | k + 1, x => x.bytes.length ≤ M ∧ ∀ i, i < x.items.length → allB M k (x.items.getD i default)
theorem form_list (bs : List UInt8) (its : List Rlp.It) : Rlp.form (.mk true bs its) = Rlp.headed 192 (Rlp.formL its []) := by simp [Rlp.form]
theorem form_one (u : UInt8) (its : List Rlp.It) : Rlp.form (.mk false [u] its) = if u < 128 then [u] else Rlp.headed 128 [u] := by simp [Rlp.form]
theorem form_bytes (bs : List UInt8) (its : List Rlp.It) (h : bs.length ≠ 1) : Rlp.form (.mk false bs its) = Rlp.headed 128 bs := by
  simp only [Rlp.form]
  rw [if_neg (by decide)]
  split
  · rename_i u; simp at h
  · rfl
theorem headed_len (sh : Nat) (b : List UInt8) : (Rlp.headed sh b).length ≤ b.length + 9 := by
  have h := lows_len 8 b.length
  unfold Rlp.headed
  split
  · simp
  · simp [Rlp.big]; omega
theorem formL_len (L : Nat) (its : List Rlp.It) (acc : List UInt8) (ha : acc.length ≤ 4096) (h : ∀ i, i < its.length → (Rlp.form (its.getD i default)).length ≤ L) : (Rlp.formL its acc).length ≤ 4096 + L := by
  induction its generalizing acc with
  | nil => simp [Rlp.formL]; omega
  | cons x xs ih =>
    have h0 := h 0 (by simp)
    simp at h0
    rw [Rlp.formL]
    split
    · simp; omega
    · rename_i hn
      exact ih _ (by simp at hn ⊢; omega) (fun i hi => by have := h (i + 1) (by simp; omega); simpa using this)
theorem form_len (M : Nat) (k : Nat) : ∀ x, allB M k x → (Rlp.form x).length ≤ M + 4200 * k + 1 := by
  induction k with
  | zero => intro x h; exact h.elim
  | succ k ih =>
    rintro ⟨l, bs, its⟩ ⟨h1, h2⟩
    simp only [Rlp.It.bytes, Rlp.It.items] at h1 h2
    cases l
    · by_cases h : bs.length = 1
      · obtain ⟨u, rfl⟩ := List.length_eq_one_iff.1 h
        rw [form_one]
        split
        · simp
        · have := headed_len 128 [u]; simp at this h1; omega
      · rw [form_bytes _ _ h]
        have := headed_len 128 bs; omega
    · rw [form_list]
      have := formL_len (M + 4200 * k + 1) its [] (by simp) (fun i hi => ih _ (h2 i hi))
      have h3 := headed_len 192 (Rlp.formL its [])
      omega
theorem formL_drop (its : List Rlp.It) (acc : List UInt8) (j : Nat) (hj : j < its.length) : Rlp.formL (its.drop j) acc = if 4096 < (acc ++ Rlp.form (its.getD j default)).length then acc ++ Rlp.form (its.getD j default) else Rlp.formL (its.drop (j + 1)) (acc ++ Rlp.form (its.getD j default)) := by
  rw [List.drop_eq_getElem_cons hj, Rlp.formL]
  rw [List.getD_eq_getElem?_getD, List.getElem?_eq_getElem hj]; rfl
def GivesN (w : World) (bs : List UInt8) (m : Nat) (e : Ending) (w' : World) : Prop := ∃ ao c, e = .returned (.slice ao m c) ∧ OwnB w' w.heap.size ao m c bs ∧ Below w.heap.size w w'
theorem GivesB.n {w w' : World} {bs : List UInt8} {m : Nat} {e : Ending} (h : GivesB w bs e w') (hm : bs.length = m) : GivesN w bs m e w' := by
  obtain ⟨ao, n, c, rfl, ho, hb⟩ := h
  have : n = m := by rw [← ho.len]; exact hm
  subst this
  exact ⟨_, _, rfl, ho, hb⟩
structure Room (M k : Nat) : Prop where
  sm : Sm (M + 4200 * k + 10000)
theorem Room.down {M k : Nat} (h : Room M (k + 1)) : Room M k := ⟨h.sm.le (by omega)⟩
def FormAt (F : Nat → Prop) (M k : Nat) : Prop := ∀ (x : Rlp.It) (vl vb vi : Value) (w : World), IsIt F w k x vl vb vi → allB M k x →
    Calls Tryd.prog 38 #[.agg #[vl, vb, vi]] w (GivesB w (Rlp.form x))
theorem FormAt.at {M k : Nat} (h : FormAt F M k) (x : Rlp.It) (vl vb vi : Value) (w : World) (m : Nat) (hm : (Rlp.form x).length = m) (hx : IsIt F w k x vl vb vi) (ha : allB M k x) :
    Calls Tryd.prog 38 #[.agg #[vl, vb, vi]] w (GivesN w (Rlp.form x) m) := (h x vl vb vi w hx ha).mono fun _ _ h => h.n hm
set_option maxRecDepth 100000 in
set_option maxHeartbeats 4000000 in
theorem form_V (M : Nat) : ∀ k : Nat, Room M k → FormAt F M k := by
  intro k
  induction k with
  | zero => intro _ x vl vb vi w h; exact h.elim
  | succ k ih =>
    intro hS x vl vb vi w h hA
    obtain ⟨l, bs, its⟩ := x
    obtain ⟨rfl, ⟨a, c, rfl, hb1, hb2, hn, hb⟩, a', c', rfl, hc1, hc2, h9⟩ := h
    obtain ⟨hM, hA⟩ := hA
    have hm := hc2
    unfold maxLen at hc2 hb2
    simp only [Rlp.It.items, Rlp.It.bytes, Rlp.It.list] at h9 hc1 hb1 hM hA hb ⊢
    have H9 : Hid (ItsAt F w k a' its) := h9
    have IH := Lib.hid (ih hS.down)
    have HM := Lib.hid hm
    have HA := Lib.hid hA
    have HB := Lib.hid hb
    have HN := Lib.hid hn
    have HS := Lib.hid hS
    obtain ⟨n, hn⟩ : ∃ n, its.length = n := ⟨_, rfl⟩
    obtain ⟨m, hm⟩ : ∃ m, bs.length = m := ⟨_, rfl⟩
    rw [hn] at hc1
    rw [hm] at hb1 hM
    rw [hn, hm]
    have HL := Lib.hid hn
    have HBL := Lib.hid hm
    have HB1 : Hid (BytesF F (w.alloc (.cells #[.bool l, .slice a m c, .slice a' n c'] TI)) a bs) := HB.out.below ((Below.refl _ _).alloc (Nat.le_refl _) _)
    clear h9 ih hm hA hb hS
    have AL : ∀ o, Below w.heap.size w (w.alloc o) := fun o => (Below.refl _ _).alloc (Nat.le_refl _) o
    cases l
    · by_cases h1 : m = 1
      · subst h1
        obtain ⟨u, rfl⟩ : ∃ u, bs = [u] := List.length_eq_one_iff.1 HBL.out
        obtain ⟨b, off, rfl, hF, hl, hc⟩ := HB.out 0 (by simp)
        simp only [List.getD_cons_zero, Nat.add_zero] at hc
        rw [← (AL (.cells #[.bool false, .slice (some ⟨b, off, none⟩) 1 c, .slice a' n c'] TI)).cell (p := ⟨b, off, none⟩) hl] at hc
        by_cases hu : u.toNat < 128
        · have E : Hid (Rlp.form (.mk false [u] its) = [u]) := by show _ = _; rw [form_one, if_pos (by rw [UInt8.lt_iff_toNat_lt]; exact hu)]
          obtain ⟨x, hxu⟩ : ∃ x, x = u.toNat := ⟨_, rfl⟩
          rw [← hxu] at hc hu
          clear hxu
          go_enter Tryd.func38, Tryd.ntmps38
          go_wp2_with (go_at_call 52; (with_reducible refine (clone_V _ _ 1 c [u] rfl (Sm.of (by omega)) HN.out HB1.out).mono ?_); rintro e w2 ⟨ab, k2, cb, rfl, ho, hb2⟩; have HO := Lib.hid ho; have hz2 := hb2.size; (try simp at hz2); clear ho)
          go_returns
          exact ⟨_, _, _, rfl, by rw [E.out]; exact HO.out.le (by simp), (AL _).trans (hb2.mono (by simp))⟩
        · have E : Hid (Rlp.form (.mk false [u] its) = Rlp.headed 128 [u]) := by show _ = _; rw [form_one, if_neg (by rw [UInt8.lt_iff_toNat_lt]; exact hu)]
          obtain ⟨x, hxu⟩ : ∃ x, x = u.toNat := ⟨_, rfl⟩
          rw [← hxu] at hc hu
          clear hxu
          go_enter Tryd.func38, Tryd.ntmps38
          go_wp2_with (go_at_call 53; (with_reducible refine (headed_V 128 128 _ _ 1 c [u] (.inl ⟨rfl, rfl⟩) rfl (Sm.of (by omega)) HN.out HB1.out).mono ?_); rintro e w2 ⟨ab, k2, cb, rfl, ho, hb2⟩; have HO := Lib.hid ho; have hz2 := hb2.size; (try simp at hz2); clear ho)
          go_returns
          exact ⟨_, _, _, rfl, by rw [E.out]; exact HO.out.le (by simp), (AL _).trans (hb2.mono (by simp))⟩
      · have E : Hid (Rlp.form (.mk false bs its) = Rlp.headed 128 bs) := form_bytes _ _ (by rw [HBL.out]; exact h1)
        have c1 : ((m : Int) == 1) = false := by simp; omega
        have HSm : Hid (Sm (m + 9)) := HS.out.sm.le (by omega)
        go_enter Tryd.func38, Tryd.ntmps38
        go_wp2_with (go_at_call 53; (with_reducible refine (headed_V 128 128 _ _ m c bs (.inl ⟨rfl, rfl⟩) HBL.out HSm.out HN.out HB1.out).mono ?_); rintro e w2 ⟨ab, k2, cb, rfl, ho, hb2⟩; have HO := Lib.hid ho; have hz2 := hb2.size; (try simp at hz2); clear ho)
        go_returns
        exact ⟨_, _, _, rfl, by rw [E.out]; exact HO.out.le (by simp), (AL _).trans (hb2.mono (by simp))⟩
    · have E : Hid (Rlp.form (.mk true bs its) = Rlp.headed 192 (Rlp.formL its [])) := form_list _ _
      go_enter Tryd.func38, Tryd.ntmps38
      go_wp2
      go_loopw [3, 5, 29] (fun v p i wr => ∃ (j q cq : Nat) (ao : Option Addr) (acc : List UInt8), j ≤ n ∧ i = .int .i64 j ∧ v = .slice ao q cq ∧ q ≤ 4096 ∧ Hid (OwnB wr w.heap.size ao q cq acc) ∧ Hid (Rlp.formL (its.drop j) acc = Rlp.formL its []) ∧ Below w.heap.size w wr) (fun _ _ i _ => n - (intOf i).toNat)
      case atStart => exact ⟨0, 0, 0, none, [], by omega, rfl, rfl, by omega, OwnB.nil _ _, by show _ = _; rfl, AL _⟩
      case round =>
        obtain ⟨j, q, cq, ao, acc, hj, rfl, rfl, hq, HO, HP, hbr⟩ := hrel
        have hzr := hbr.size
        by_cases hlt : j < n
        · have hl : j < its.length := by rw [HL.out]; exact hlt
          obtain ⟨b, off, u, v, z, rfl, hF, hbl, c0, c1, c2, hx⟩ := H9.out j hl
          rw [← hbr.cell (p := ⟨b, off + j * 3, none⟩) hbl] at c0
          rw [← hbr.cell (p := ⟨b, off + j * 3 + 1, none⟩) hbl] at c1
          rw [← hbr.cell (p := ⟨b, off + j * 3 + 2, none⟩) hbl] at c2
          obtain ⟨yl, ya, yn, yc, ya', yn', yc', rfl, rfl, rfl⟩ := hx.shape
          have HX := Lib.hid (hx.below (hbr.alloc (by omega) (.cells #[.bool yl, .slice ya yn yc, .slice ya' yn' yc'] TI)))
          have HAy := Lib.hid (HA.out j hl)
          have et := formL_drop its acc j hl
          rw [HP.out] at et
          have hfl := form_len M k _ (HA.out j hl)
          obtain ⟨y, hy⟩ : ∃ y, y = its.getD j default := ⟨_, rfl⟩
          rw [← hy] at et hfl
          obtain ⟨fm, hfm⟩ : ∃ fm, (Rlp.form y).length = fm := ⟨_, rfl⟩
          rw [hfm] at hfl
          have HX' : Hid (IsIt F _ k y _ _ _) := hy ▸ HX
          have HAy' : Hid (allB M k y) := hy ▸ HAy
          have HFM := Lib.hid hfm
          have HSm : Hid (Sm (q + fm)) := HS.out.sm.le (by omega)
          have HSm2 : Hid (Sm (q + fm + 9)) := HS.out.sm.le (by omega)
          have el : (acc ++ Rlp.form y).length = q + fm := by rw [List.length_append, HO.out.len, hfm]
          rw [el] at et
          have HOa := Lib.hid (HO.out.below ((Below.refl _ _).alloc (Nat.le_refl _) (.cells #[.bool yl, .slice ya yn yc, .slice ya' yn' yc'] TI)))
          clear hx HX HAy hfm el hy
          by_cases hbig : 4096 < q + fm
          · rw [if_pos hbig] at et
            have ET := Lib.hid et
            clear et
            go_wp2_with (first
              | (go_at_call 38; (with_reducible refine (IH.out.at y _ _ _ _ fm HFM.out HX'.out HAy'.out).mono ?_); rintro e w1 ⟨ab, cb, rfl, ho1, hb1⟩; have HO1 := Lib.hid ho1; have HW1 := Lib.hid hb1; have hz1 := hb1.size; (simp at hz1); have HO2 := Lib.hid (HOa.out.below hb1); clear ho1 hb1)
              | (at_builtin; refine wpList_append_B rfl (.tmp 33) (.tmp 35) rfl w.heap.size ao q cq acc ab fm cb (Rlp.form y) HO2.out HO1.out.bytes rfl rfl HO1.out.len HO1.out.cap.2.2 HSm.out (by omega) ?_; intro ao2 c2 w2 ho hg _; have hb2 := Lib.hid (grown_below hg HO2.out (Nat.le_refl _) (by omega)); have HO3 := Lib.hid ho; clear ho hg)
              | (go_at_call 53; (with_reducible refine (headed_V 192 192 w2 ao2 (q + fm) c2 (acc ++ Rlp.form y) (.inr ⟨rfl, rfl⟩) HO3.out.len HSm2.out HO3.out.cap.2.2 HO3.out.bytes).mono ?_); rintro e w4 ⟨ab4, k4, cb4, rfl, ho4, hb4⟩; have HO4 := Lib.hid ho4; have HB4 := Lib.hid hb4; clear ho4 hb4))
            go_returns
            exact ⟨_, _, _, rfl, by rw [E.out, ET.out]; exact HO4.out.le (by have := hb2.out.size; omega), (hbr.alloc (by omega) _).trans ((HW1.out.mono (by simp; omega)).trans (hb2.out.trans (HB4.out.mono (by have := hb2.out.size; omega))))⟩
          · rw [if_neg hbig] at et
            have ET := Lib.hid et
            clear et
            go_wp2_with (first
              | (go_at_call 38; (with_reducible refine (IH.out.at y _ _ _ _ fm HFM.out HX'.out HAy'.out).mono ?_); rintro e w1 ⟨ab, cb, rfl, ho1, hb1⟩; have HO1 := Lib.hid ho1; have HW1 := Lib.hid hb1; have hz1 := hb1.size; (simp at hz1); have HO2 := Lib.hid (HOa.out.below hb1); clear ho1 hb1)
              | (at_builtin; refine wpList_append_B rfl (.tmp 33) (.tmp 35) rfl w.heap.size ao q cq acc ab fm cb (Rlp.form y) HO2.out HO1.out.bytes rfl rfl HO1.out.len HO1.out.cap.2.2 HSm.out (by omega) ?_; intro ao2 c2 w2 ho hg _; have hb2 := Lib.hid (grown_below hg HO2.out (Nat.le_refl _) (by omega)); have HO3 := Lib.hid ho; clear ho hg))
            go_roundw
            case rel => exact ⟨j + 1, q + fm, c2, ao2, acc ++ Rlp.form y, by omega, by go_num, by go_num, by omega, HO3, ET.out.symm, (hbr.alloc (by omega) _).trans ((HW1.out.mono (by simp; omega)).trans hb2.out)⟩
            case measure => simp [intOf]; omega
        · have hjn : n = j := by omega
          have EA : Hid (acc = Rlp.formL its []) := by
            have := HP.out
            rw [← hjn, ← HL.out, List.drop_length, Rlp.formL] at this
            exact this
          go_wp2_with (go_at_call 53; (with_reducible refine (headed_V 192 192 wr ao q cq acc (.inr ⟨rfl, rfl⟩) HO.out.len (Sm.of (by omega)) HO.out.cap.2.2 HO.out.bytes).mono ?_); rintro e w4 ⟨ab4, k4, cb4, rfl, ho4, hb4⟩; have HO4 := Lib.hid ho4; have HB4 := Lib.hid hb4; clear ho4 hb4)
          go_returns
          exact ⟨_, _, _, rfl, by rw [E.out, ← EA.out]; exact HO4.out.le hzr, hbr.trans (HB4.out.mono hzr)⟩
end Go.Proofs.YtgcpnhnckbgjmaaDoor
