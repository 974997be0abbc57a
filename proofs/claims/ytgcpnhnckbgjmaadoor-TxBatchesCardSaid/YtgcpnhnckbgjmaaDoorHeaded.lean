/-
  slices.Clone, rlp.big and rlp.headed by their contracts.
-/
import Derived.Test.YtgcpnhnckbgjmaaDoorByt
import Derived.Lib.SliceRun
set_option linter.unusedVariables false
set_option linter.unusedSimpArgs false
namespace Go.Proofs.YtgcpnhnckbgjmaaDoor
open Go.RowKit
variable {F : Nat → Prop}

theorem own_none (w : World) : OwnB (w.alloc (.cells #[] TU)) w.heap.size (some ⟨w.heap.size, 0, none⟩) 0 0 [] :=
  ⟨rfl, rfl, .inr ⟨w.heap.size, 0, #[], rfl, Nat.le_refl _, heap_alloc_new w _, Nat.le_refl _, Nat.zero_le _, rfl, rfl⟩⟩
theorem own_one (w : World) (u : UInt8) (x : Int) (hx : x = u.toNat) : OwnB (w.alloc (.cells #[.int .u8 x] TU)) w.heap.size (some ⟨w.heap.size, 0, none⟩) 1 1 [u] := by
  subst hx
  exact ⟨rfl, rfl, .inr ⟨w.heap.size, 1, _, rfl, Nat.le_refl _, heap_alloc_new w _, Nat.le_refl _, by decide, rfl, rfl⟩⟩
/-- Bytes that a call answers. -/
def GivesB (w : World) (bs : List UInt8) (e : Ending) (w' : World) : Prop := ∃ ao n c, e = .returned (.slice ao n c) ∧ OwnB w' w.heap.size ao n c bs ∧ Below w.heap.size w w'
set_option maxRecDepth 100000 in
set_option maxHeartbeats 2000000 in
theorem clone_V (w : World) (a : Option Addr) (n c : Nat) (bs : List UInt8) (hl : bs.length = n) (h40 : Sm n) (hn : a = none → c = 0) (hb : BytesF F w a bs) :
    Calls Tryd.prog 52 #[.slice a n c] w (GivesB w bs) := by
  have q22 : ∀ (w : World) (a : Option Addr) (n c n' c' : Nat), (binOp .eql TBS (.slice a n c) (.slice none n' c')).run Tryd.prog w = .ok (.bool a.isNone) w := fun w a n c n' c' => Lib.run_eql_slice_nil w _ _ a n c n' c' Tryd.underlying25
  cases a with
  | none =>
    have h0 : bs = [] := by
      cases bs with
      | nil => rfl
      | cons x xs => obtain ⟨_, _, e, _⟩ := hb 0 (by simp); cases e
    subst h0
    have := hn rfl
    subst this
    simp at hl
    subst hl
    go_enter Tryd.func52, Tryd.ntmps52
    go_wp2
    go_returns
    exact ⟨_, _, _, rfl, OwnB.nil _ _, by (repeat' (first | (with_reducible exact Below.refl _ _) | (with_reducible refine Below.alloc ?_ ?_ _) | (with_reducible refine Below.drew ?_) | (with_reducible refine Below.setCell ?_ ?_ _) | (with_reducible refine Below.thn (by assumption) ?_ ?_) | (with_reducible refine below_drewN ?_ _) | go_size))⟩
  | some ad =>
    have HL := Lib.hid hl
    have HB := Lib.hid hb
    clear hl hb hn
    go_enter Tryd.func52, Tryd.ntmps52
    go_wp2_with (at_builtin; refine wpList_append_B rfl (.tmp 5) (.tmp 6) rfl w.heap.size (some ⟨w.heap.size, 0, none⟩) 0 0 [] (some ad) n c bs (own_none w) (HB.out.below ((Below.refl _ _).alloc (Nat.le_refl _) _)) rfl rfl HL.out (by simp) (by simpa using h40) (by simp) ?_; intro ao' c' w1 ho hg _)
    have hb1 : Below w.heap.size w w1 := ((Below.refl _ _).alloc (Nat.le_refl _) _).trans (grown_below hg (own_none w) (Nat.le_refl _) (by simp))
    have HO := Lib.hid ho
    clear ho hg
    go_wp2
    go_returns
    exact ⟨_, _, _, rfl, by simpa using HO.out, hb1⟩
theorem OwnB.set {w : World} {base g n c : Nat} {bs : List UInt8} (h : OwnB w base (some ⟨g, 0, none⟩) n c bs) (i : Nat) (hi : i < n) (u : UInt8) (x : Int) (hx : x = u.toNat) : OwnB (w.setCell ⟨g, i, none⟩ (.int .u8 x)) base (some ⟨g, 0, none⟩) n c (bs.set i u) := by
  subst hx
  refine ⟨by simp [h.len], by simp [h.own.1], ?_⟩
  rcases h.own.2 with ⟨e, _⟩ | ⟨g', cap, cur, e, hg, hh, h1, h2, h3, h4⟩
  · cases e
  · injection e with e1 e2 e3
    injection e1 with e1
    injection e1 with e1
    subst e1; subst e3
    refine .inr ⟨g, c, _, rfl, hg, Go.heap_setCell_same w g i cur _ _ hh, h1, h2, by simpa using h3, ?_⟩
    rw [Array.toList_setIfInBounds, List.take_set, h4, List.map_set]; rfl
/-- What has been turned after j rounds. -/
def rv : Nat → List UInt8 → List UInt8
  | 0, bs => bs
  | j + 1, bs => ((rv j bs).set j ((rv j bs).getD (bs.length - 1 - j) 0)).set (bs.length - 1 - j) ((rv j bs).getD j 0)
theorem rv_len (j : Nat) (bs : List UInt8) : (rv j bs).length = bs.length := by
  induction j with
  | zero => rfl
  | succ j ih => simp [rv, ih]
theorem getD_set (l : List UInt8) (i k : Nat) (x : UInt8) (hi : i < l.length) : (l.set i x).getD k 0 = if k = i then x else l.getD k 0 := by
  rw [List.getD_eq_getElem?_getD, List.getElem?_set, List.getD_eq_getElem?_getD]
  by_cases h : i = k
  · subst h; simp [hi]
  · have : ¬ k = i := fun e => h e.symm
    simp [h, this]
theorem rv_get (bs : List UInt8) (j : Nat) (hj : 2 * j ≤ bs.length) (k : Nat) (hk : k < bs.length) : (rv j bs).getD k 0 = if k < j ∨ bs.length - 1 - k < j then bs.getD (bs.length - 1 - k) 0 else bs.getD k 0 := by
  induction j generalizing k with
  | zero => simp [rv]
  | succ j ih =>
    rw [rv, getD_set _ _ _ _ (by simp [rv_len]; omega), getD_set _ _ _ _ (by rw [rv_len]; omega)]
    have i1 := ih (by omega) (bs.length - 1 - j) (by omega)
    have i2 := ih (by omega) j (by omega)
    have i3 := ih (by omega) k hk
    rw [if_neg (by omega)] at i1 i2
    by_cases c1 : k = bs.length - 1 - j
    · rw [if_pos c1, i2, if_pos (by omega)]; congr 1; omega
    · rw [if_neg c1]
      by_cases c2 : k = j
      · rw [if_pos c2, i1, if_pos (by omega)]; congr 1; omega
      · rw [if_neg c2, i3]
        by_cases c3 : k < j ∨ bs.length - 1 - k < j
        · rw [if_pos c3, if_pos (by omega)]
        · rw [if_neg c3, if_neg (by omega)]
theorem rv_all (bs : List UInt8) (j : Nat) (h1 : 2 * j ≤ bs.length) (h2 : bs.length ≤ 2 * j + 1) : rv j bs = bs.reverse := by
  apply List.ext_getElem (by simp [rv_len])
  intro k hk _
  have hk' : k < bs.length := by rw [rv_len] at hk; exact hk
  have := rv_get bs j h1 k hk'
  rw [List.getD_eq_getElem?_getD, List.getElem?_eq_getElem hk] at this
  rw [List.getElem_reverse]
  simp only [Option.getD_some] at this
  rw [this]
  split
  · rw [List.getD_eq_getElem?_getD, List.getElem?_eq_getElem (by omega)]; rfl
  · have e : bs.length - 1 - k = k := by omega
    rw [List.getD_eq_getElem?_getD, List.getElem?_eq_getElem hk']
    simp [e]
theorem OwnB.cellIs {w : World} {base g n c : Nat} {bs : List UInt8} (h : OwnB w base (some ⟨g, 0, none⟩) n c bs) (i : Nat) (hi : i < n) : w.cell? ⟨g, i, none⟩ = some (.int .u8 ((bs.getD i 0).toNat : Int)) := by
  obtain ⟨b, off, e, _, _, hc⟩ := h.bytes i (by rw [h.len]; exact hi)
  have hf := h.form
  rcases hf with ⟨e2, _⟩ | ⟨g', e2, _⟩
  · cases e2
  · injection e with e; injection e with e3 e4
    subst e3; subst e4
    rw [Nat.zero_add] at hc; exact hc
theorem OwnB.free {w : World} {base g n c : Nat} {bs : List UInt8} (h : OwnB w base (some ⟨g, 0, none⟩) n c bs) (i : Nat) : w.frozen? ⟨g, i, none⟩ = false := by
  rcases h.own.2 with ⟨e, _⟩ | ⟨g', cap, cur, e, hg, hh, _⟩
  · cases e
  · injection e with e1 e2 e3
    injection e1 with e1
    injection e1 with e1
    subst e1
    simp [World.frozen?, hh]
set_option maxRecDepth 100000 in
set_option maxHeartbeats 4000000 in
theorem reverse_V (w : World) (base g n c : Nat) (bs : List UInt8) (h : OwnB w base (some ⟨g, 0, none⟩) n c bs) (hs : Sm n) :
    Calls Tryd.prog 49 #[.slice (some ⟨g, 0, none⟩) n c] w fun e w' => e = .returned (.tuple #[]) ∧ OwnB w' base (some ⟨g, 0, none⟩) n c bs.reverse ∧ Below base w w' ∧ w'.heap.size = w.heap.size := by
  have hgb : base ≤ g := by
    rcases h.form with ⟨e, _⟩ | ⟨g', e, hb, _⟩
    · cases e
    · injection e with e; injection e with e; subst e; exact hb
  have H := Lib.hid h
  unfold Sm at hs
  have hs2 : (n : Int) ≤ 140737488420864 := by omega
  clear h hs
  go_enter Tryd.func49, Tryd.ntmps49
  go_wp2
  go_loopw [2, 3] (fun i x wr => ∃ (j : Nat) (y : Int), i = .int .i64 j ∧ x = .int .i64 y ∧ Hid (y = (n : Int) - 1 - j) ∧ 2 * j ≤ n ∧ Hid (OwnB wr base (some ⟨g, 0, none⟩) n c (rv j bs)) ∧ Below base w wr ∧ Hid (wr.heap.size = w.heap.size)) (fun i _ _ => n - (intOf i).toNat)
  case atStart => exact ⟨0, _, rfl, rfl, by show _ = _; simp, by omega, H, Below.refl _ _, by show _ = _; rfl⟩
  case round =>
    obtain ⟨j, y, rfl, rfl, HY, hj, HO, hbr, HZ⟩ := hrel
    by_cases hlt : (j : Int) < y
    · have hy := HY.out
      obtain ⟨j2, rfl⟩ := Int.eq_ofNat_of_zero_le (show 0 ≤ y by omega)
      have hj2 : j2 < n := by omega
      have hjn : j < n := by omega
      have hjj : j < j2 := by omega
      have c1 := HO.out.cellIs j hjn
      have c2 := HO.out.cellIs j2 hj2
      have f1 := HO.out.free j
      have f2 := HO.out.free j2
      obtain ⟨x1, hx1⟩ : ∃ x, x = (rv j bs).getD j 0 := ⟨_, rfl⟩
      obtain ⟨x2, hx2⟩ : ∃ x, x = (rv j bs).getD j2 0 := ⟨_, rfl⟩
      rw [← hx1] at c1
      rw [← hx2] at c2
      have ER : rv (j + 1) bs = ((rv j bs).set j x2).set j2 x1 := by
        have e : bs.length - 1 - j = j2 := by rw [H.out.len]; omega
        rw [rv, e, hx1, hx2]
      have HN := Lib.hid ((HO.out.set j hjn x2 _ rfl).set j2 hj2 x1 _ rfl)
      rw [← ER] at HN
      clear hx1 hx2 ER hy
      go_wp2
      go_region
      go_wp2
      go_roundw
      case rel => exact ⟨j + 1, _, by go_num, rfl, by have := HY.out; show _ = _; omega, by have := HY.out; omega, Lib.hid ⟨HN.out.len, HN.out.own⟩, by first | exact (hbr.setCell (p := ⟨g, j, none⟩) hgb _).setCell (p := ⟨g, j2, none⟩) hgb _ | exact ((hbr.setCell (p := ⟨g, j, none⟩) hgb _).setCell (p := ⟨g, j2, none⟩) hgb _).drew, by have := HZ.out; show _ = _; simpa using this⟩
      case measure => simp [intOf]; omega
    · have e : rv j bs = bs.reverse := rv_all bs j (by rw [H.out.len]; exact hj) (by have := HY.out; rw [H.out.len]; omega)
      have HE := HO
      rw [e] at HE
      clear e
      go_wp2
      go_returns
      exact ⟨rfl, HE.out, hbr, HZ.out⟩
end Go.Proofs.YtgcpnhnckbgjmaaDoor
