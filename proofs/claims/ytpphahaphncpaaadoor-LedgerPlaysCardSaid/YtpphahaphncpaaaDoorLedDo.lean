/-
  mootref18's Do by its contract.
-/
import Derived.Test.YtpphahaphncpaaaDoorLedRef2
import Derived.Deep.RegionLaw
import Derived.Deep.DrawnRows
import Derived.Deep.AppendLies
import Derived.Deep.Cut
set_option linter.unusedVariables false
set_option linter.unusedSimpArgs false
namespace Go.Proofs.YtpphahaphncpaaaDoor
open Go.RowKit
attribute [local go_sem ↓] Go.wp_at_zero Go.wp_at_succ

/-- What Do answers, and what it leaves (the player is one). -/
def doE (es : List Ev) (e : Ev) : Int × Int × List Ev :=
  if e.k = 1 then (if 281474976710656 < e.v ∨ 281474976710656 < sumE es 1 (-1) + e.v then (0, 2, es) else (0, 0, es ++ [e]))
  else if e.k = 2 then (if balE es e.p < e.v then (0, 21, es) else (0, 0, es ++ [e]))
  else if e.k = 3 then (if balE es e.p < e.v then (0, 21, es) else (((scan e.b es).1 : Int), 0, es ++ [e]))
  else if e.b < 0 ∨ ((scan e.b es).1 : Int) ≤ e.b then (0, 4, es)
  else if (scan e.b es).2.2 = true then (0, 41, es)
  else (0, 0, es ++ [⟨e.k, e.p, e.b, (scan e.b es).2.1⟩])
theorem do_bad (t : Nat) (ek ep eb ev : Int) (w : World) (hp : ep < 0 ∨ 8 ≤ ep) :
    Calls Tryd.prog 13 #[.pointer (some ⟨t, 0, none⟩), .agg #[.int .i64 ek, .int .i64 ep, .int .i64 eb, .int .u64 ev]] w fun e w' => e = .returned (.tuple #[.int .i64 0, .int .i64 2]) ∧ Below w.heap.size w w' := by
  by_cases h : ep < 0
  · clear hp
    go_enter Tryd.func13, Tryd.ntmps13
    go_wp2
    go_returns
    exact ⟨rfl, by (repeat' (first | (with_reducible exact Below.refl _ _) | (with_reducible refine Below.alloc ?_ ?_ _) | (with_reducible refine Below.drew ?_) | (with_reducible refine Below.setCell ?_ ?_ _) | (with_reducible refine Below.thn (by assumption) ?_ ?_) | (with_reducible refine below_drewN ?_ _) | go_size))⟩
  · have h2 : 8 ≤ ep := by omega
    clear hp
    go_enter Tryd.func13, Tryd.ntmps13
    go_wp2
    go_returns
    exact ⟨rfl, by (repeat' (first | (with_reducible exact Below.refl _ _) | (with_reducible refine Below.alloc ?_ ?_ _) | (with_reducible refine Below.drew ?_) | (with_reducible refine Below.setCell ?_ ?_ _) | (with_reducible refine Below.thn (by assumption) ?_ ?_) | (with_reducible refine below_drewN ?_ _) | go_size))⟩
theorem infoE : (Tryd.prog.info? TEV).map (fun i => (i.zero, i.size, i.bytes)) = some (some (.agg #[.int .i64 0, .int .i64 0, .int .i64 0, .int .u64 0]), 4, 32) := by kernel_rfl
theorem scan_val (b : Int) (es : List Ev) (he : Evs es) : 0 ≤ (scan b es).2.1 ∧ (scan b es).2.1 ≤ 281474976710656 := by
  have h : ∀ (es : List Ev) (s : Nat × Int × Bool), (∀ e ∈ es, 0 ≤ e.v ∧ e.v ≤ 281474976710656) → 0 ≤ s.2.1 ∧ s.2.1 ≤ 281474976710656 → 0 ≤ (es.foldl (scan1 b) s).2.1 ∧ (es.foldl (scan1 b) s).2.1 ≤ 281474976710656 := by
    intro es
    induction es with
    | nil => intro s _ h; exact h
    | cons x xs ih =>
      intro s hx h
      refine ih _ (fun e h => hx e (List.mem_cons_of_mem _ h)) ?_
      have := hx x (List.mem_cons_self ..)
      unfold scan1; simp only; split <;> omega
  exact h es _ he.b (by decide)
/-- The worlds of Do's tests. -/
def DS (wr : World) (t E base n : Nat) (v : Value) (f : Nat → Value) (es : List Ev) (W : World) : Prop := (W.cell? ⟨t, 0, none⟩ = some v ∧ W.rowIs E TEV 4 f) ∧ t < W.heap.size ∧ Below wr.heap.size wr W ∧ W.ownsRow base TEV 4 v n (flatE es)
theorem dsKeep {wr : World} {t E base n : Nat} {v : Value} {f : Nat → Value} {es : List Ev} : ∀ W W', DS wr t E base n v f es W → Below W.heap.size W W' → DS wr t E base n v f es W' := by
  rintro W W' ⟨⟨h0, h1⟩, h2, h3, h4⟩ hb
  have hs := hb.size
  exact ⟨⟨by rw [hb.cell (p := ⟨t, 0, none⟩) h2]; exact h0, rowIs_keep h1 hb⟩, by omega, h3.trans (hb.mono (by have := h3.size; omega)), ownsRow_below h4 hb⟩
theorem ds_own {wr : World} {t E base n : Nat} {v : Value} {f : Nat → Value} {es : List Ev} (s : Held (DS wr t E base n v f es)) : s.w.ownsRow base TEV 4 v n (flatE es) := s.ok.2.2.2
def evf (e : Ev) (i : Nat) : Value := e.cells.getD i undef
theorem evf0 (e : Ev) : evf e 0 = .int .i64 e.k := rfl
theorem evf1 (e : Ev) : evf e 1 = .int .i64 e.p := rfl
theorem evf2 (e : Ev) : evf e 2 = .int .i64 e.b := rfl
theorem evf3 (e : Ev) : evf e 3 = .int .u64 e.v := rfl
theorem ev_row (ek ep eb ev : Int) (w : World) : (w.alloc (.cells #[.int .i64 ek, .int .i64 ep, .int .i64 eb, .int .u64 ev] TEV)).rowIs w.heap.size TEV 4 (evf ⟨ek, ep, eb, ev⟩) := by
  refine World.rowIs_alloc _ _ _ _ ?_
  intro i hi
  have hi : i < 4 := hi
  rcases (by omega : i = 0 ∨ i = 1 ∨ i = 2 ∨ i = 3) with rfl | rfl | rfl | rfl <;> rfl
theorem evs_snoc {es : List Ev} (h : Evs es) (hn : es.length < 150) (e : Ev) (hb : 0 ≤ e.v ∧ e.v ≤ 281474976710656) : Evs (es ++ [e]) :=
  ⟨by simp; omega, fun x hx => by rcases List.mem_append.1 hx with h1 | h1; exact h.b x h1; rw [List.mem_singleton.1 h1]; exact hb⟩
theorem own_apart {w : World} {base n t : Nat} {v : Value} {xs : List Value} (h : w.ownsRow base TEV 4 v n xs) (ht : t < base) : v.ownBlock ≠ some t := fun e => by
  have := (h.lt t e).1; omega
theorem own_old {w : World} {base n : Nat} {v : Value} {xs : List Value} (h : w.ownsRow base TEV 4 v n xs) : v.ownBlock ≠ some w.heap.size := fun e => by
  rcases h.2 with ⟨rfl, _⟩ | ⟨g, cap, cur, rfl, _, hh, _⟩
  · simp [Value.ownBlock] at e
  · have := lt_of_block hh
    simp [Value.ownBlock] at e; omega
theorem ownsRow_apart {w : World} {base n size : Nat} {t : TypeId} {v : Value} {xs : List Value} (h : w.ownsRow base t size v n xs) (a : Addr) (hne : v.ownBlock ≠ some a.block) (u : Value) : (w.setCell a u).ownsRow base t size v n xs := by
  refine ⟨h.1, ?_⟩
  rcases h.2 with h2 | ⟨g, cap, cur, e, hg, hh, r⟩
  · exact .inl h2
  · refine .inr ⟨g, cap, cur, e, hg, ?_, r⟩
    rw [Deep.blk_setCell_other _ _ _ _ (by intro e2; apply hne; rw [e, e2]; rfl)]; exact hh
theorem do_end {w W w1 : World} {t base n g cap cp : Nat} {es : List Ev} {e : Ev} {ao : Option Addr} {C : Array Value} (hlt : t < base) (hbase : base ≤ w.heap.size) (hEvs : Evs (es ++ [e])) (rowT : W.rowIs t TRL 1 (fun _ => .slice ao n cp))
    (ownW : W.ownsRow base TEV 4 (.slice ao n cp) n (flatE es)) (KW : Kept TRL TEV t w W) (hl : es.length = n)
    (hown1 : w1.ownsRow base TEV 4 (.slice (some ⟨g, 0, none⟩) (n + 1) cap) (n + 1) (flatE es ++ e.cells)) (hgrow : ((W.alloc (.cells C TEV)).drew).grownBy w1 (Value.slice ao n cp).ownBlock) :
    RL (w1.setCell ⟨t, 0, none⟩ (.slice (some ⟨g, 0, none⟩) (n + 1) cap)) t base (es ++ [e]) ∧ Kept TRL TEV t w (w1.setCell ⟨t, 0, none⟩ (.slice (some ⟨g, 0, none⟩) (n + 1) cap)) := by
  have hsz := KW.below.size
  have htl := rowT.lt
  have row1 : w1.rowIs t TRL 1 (fun _ => .slice ao n cp) := by
    refine ((rowT.alloc (.cells C TEV)).drew).of_block (hgrow.block t (by simp; omega) ?_)
    exact fun e => own_apart ownW hlt e.symm
  have k1 := ((KW.alloc (by omega) (.cells C TEV))).drew
  have k2 := k1.grown hgrow (by simp; omega) (fun k hk => by
    refine ⟨by have := (ownW.lt k hk).1; omega, ?_⟩
    rcases ownW.2 with ⟨e1, _⟩ | ⟨g', cap', cur, e1, _, hh, _⟩
    · rw [e1] at hk; simp [Value.ownBlock] at hk
    · rw [e1] at hk; simp [Value.ownBlock] at hk; subst hk
      refine ⟨cur, (0, 0), ?_⟩
      show (W.alloc _).heap[_]? = _
      rw [Below.heap_alloc _ _ _ (lt_of_block hh)]; exact hh)
  obtain ⟨c, hb, r⟩ := row1
  refine ⟨⟨hlt, hEvs, .slice (some ⟨g, 0, none⟩) (n + 1) cap, (World.rowIs.set ⟨c, hb, r⟩ 0 _).congr (fun i hi => ?_), ?_⟩, k2.setCell (p := ⟨t, 0, none⟩) (Nat.le_refl _) hb (.inl rfl) _⟩
  · have : i = 0 := by omega
    subst this; rfl
  · have e1 : (es ++ [e]).length = n + 1 := by simp; omega
    rw [e1, flatE_append]
    exact ownsRow_setCell_below hown1 hlt _

set_option maxRecDepth 100000 in
set_option maxHeartbeats 8000000 in
theorem do_V (t base : Nat) (es es' : List Ev) (ek ep eb ev n y : Int) (w : World) (h : RL w t base es) (hk : ek = 1 ∨ ek = 2 ∨ ek = 3 ∨ ek = 4) (hp0 : 0 ≤ ep) (hp1 : ep < 8) (hv0 : 0 ≤ ev) (hbase : base ≤ w.heap.size) (hn : es.length < 150) (hb0 : 0 ≤ balE es ep) (hb1 : balE es ep ≤ 281474976710656) (hd : doE es ⟨ek, ep, eb, ev⟩ = (n, y, es')) :
    Calls Tryd.prog 13 #[.pointer (some ⟨t, 0, none⟩), .agg #[.int .i64 ek, .int .i64 ep, .int .i64 eb, .int .u64 ev]] w fun e w' => e = .returned (.tuple #[.int .i64 n, .int .i64 y]) ∧ RL w' t base es' ∧ Kept TRL TEV t w w' := by
  obtain ⟨v, hr, hown⟩ := h.row
  have htl := hr.lt
  have HRow := Lib.hid hr
  have HOwn := Lib.hid hown
  have HLs := Lib.hid h
  have HD := Lib.hid hd
  have HB0 := Lib.hid hb0
  have HB1 := Lib.hid hb1
  have HK := Lib.hid hk
  clear hr hown h hd hb0 hb1 hk
  go_enter Tryd.func13, Tryd.ntmps13
  go_wp2
  go_loopw [6, 7, 8, 9] (fun a b c i wr => ∃ j : Nat, j ≤ es.length ∧ ∃ (cn : Nat) (vv : Int) (gg : Bool), a = .int .i64 cn ∧ b = .int .u64 vv ∧ c = .bool gg ∧ i = .int .i64 j ∧ Hid (scan eb (es.take j) = (cn, vv, gg)) ∧ Below w.heap.size w wr ∧ w.heap.size < wr.heap.size ∧ Hid (wr.rowIs w.heap.size TEV 4 (evf ⟨ek, ep, eb, ev⟩))) (fun _ _ _ i _ => es.length - (intOf i).toNat)
  case atStart => exact ⟨0, by omega, 0, 0, false, rfl, rfl, rfl, rfl, rfl, by (repeat' (first | (with_reducible exact Below.refl _ _) | (with_reducible refine Below.alloc ?_ ?_ _) | (with_reducible refine Below.drew ?_) | (with_reducible refine Below.setCell ?_ ?_ _) | (with_reducible refine Below.thn (by assumption) ?_ ?_) | (with_reducible refine below_drewN ?_ _) | go_size)), by simp, ev_row ek ep eb ev w⟩
  case round =>
    obtain ⟨j, hj, cn, vv, gg, rfl, rfl, rfl, rfl, HSc, hbr, hsr, HE⟩ := hrel
    have e0 := (HE.out.cell (i := 0) (by decide)).trans (congrArg some (evf0 _))
    have e1 := (HE.out.cell (i := 1) (by decide)).trans (congrArg some (evf1 _))
    have e2 := (HE.out.cell (i := 2) (by decide)).trans (congrArg some (evf2 _))
    have e3 := (HE.out.cell (i := 3) (by decide)).trans (congrArg some (evf3 _))
    simp only at e0 e1 e2 e3
    have hrow := HRow.out.of_block (hbr.block t htl)
    have ht0 : wr.cell? ⟨t, 0, none⟩ = some v := hrow.cell (by decide)
    have hcn : cn ≤ j := by
      have := scan_le eb (es.take j); rw [HSc.out] at this; simp at this; omega
    by_cases hlt : j < es.length
    · obtain ⟨g, cp, rfl, hg, _⟩ := rowE_form HOwn.out (by omega : 0 < es.length)
      have q0 := (rowE_cell HOwn.out rfl j 0 hlt (by decide))
      have q1 := (rowE_cell HOwn.out rfl j 1 hlt (by decide))
      have q2 := (rowE_cell HOwn.out rfl j 2 hlt (by decide))
      have q3 := (rowE_cell HOwn.out rfl j 3 hlt (by decide))
      rw [← hbr.cell (p := ⟨g, j * 4 + 0, none⟩) hg] at q0
      rw [← hbr.cell (p := ⟨g, j * 4 + 1, none⟩) hg] at q1
      rw [← hbr.cell (p := ⟨g, j * 4 + 2, none⟩) hg] at q2
      rw [← hbr.cell (p := ⟨g, j * 4 + 3, none⟩) hg] at q3
      have st := scan_take eb es j hlt
      rw [HSc.out] at st
      obtain ⟨x, hx⟩ : ∃ x, x = es.getD j ev0 := ⟨_, rfl⟩
      rw [← hx] at q0 q1 q2 q3 st
      simp only [Ev.cells, List.getElem?_cons_zero, List.getElem?_cons_succ, Nat.add_zero] at q0 q1 q2 q3
      obtain ⟨xk, xp, xb, xv⟩ := x
      simp only at q0 q1 q2 q3
      clear hx hrow
      by_cases c1 : xk = 3
      · subst c1
        by_cases c2 : (cn : Int) = eb
        · have c3 : ((cn : Int) == eb) = true := by simpa using c2
          cases gg
          · have SC : scan eb (es.take (j + 1)) = (cn + 1, xv, false) := by rw [st]; simp [scan1, c2]
            clear st c2
            have EQ := Lib.hid SC
            clear SC
            go_wp2
            go_roundw
            case rel => exact ⟨j + 1, by omega, cn + 1, xv, false, by go_num, rfl, rfl, by go_num, by rw [EQ.out]; rfl, hbr.trans (by (repeat' (first | (with_reducible exact Below.refl _ _) | (with_reducible refine Below.alloc ?_ ?_ _) | (with_reducible refine Below.drew ?_) | (with_reducible refine Below.setCell ?_ ?_ _) | (with_reducible refine Below.thn (by assumption) ?_ ?_) | (with_reducible refine below_drewN ?_ _) | go_size))), by simp; omega, rowIs_keep HE.out (by (repeat' (first | (with_reducible exact Below.refl _ _) | (with_reducible refine Below.alloc ?_ ?_ _) | (with_reducible refine Below.drew ?_) | (with_reducible refine Below.setCell ?_ ?_ _) | (with_reducible refine Below.thn (by assumption) ?_ ?_) | (with_reducible refine below_drewN ?_ _) | go_size)))⟩
            case measure => simp [intOf]; omega
          · have SC : scan eb (es.take (j + 1)) = (cn + 1, xv, true) := by rw [st]; simp [scan1, c2]
            clear st c2
            have EQ := Lib.hid SC
            clear SC
            go_wp2
            go_roundw
            case rel => exact ⟨j + 1, by omega, cn + 1, xv, true, by go_num, rfl, rfl, by go_num, by rw [EQ.out]; rfl, hbr.trans (by (repeat' (first | (with_reducible exact Below.refl _ _) | (with_reducible refine Below.alloc ?_ ?_ _) | (with_reducible refine Below.drew ?_) | (with_reducible refine Below.setCell ?_ ?_ _) | (with_reducible refine Below.thn (by assumption) ?_ ?_) | (with_reducible refine below_drewN ?_ _) | go_size))), by simp; omega, rowIs_keep HE.out (by (repeat' (first | (with_reducible exact Below.refl _ _) | (with_reducible refine Below.alloc ?_ ?_ _) | (with_reducible refine Below.drew ?_) | (with_reducible refine Below.setCell ?_ ?_ _) | (with_reducible refine Below.thn (by assumption) ?_ ?_) | (with_reducible refine below_drewN ?_ _) | go_size)))⟩
            case measure => simp [intOf]; omega
        · have c3 : ((cn : Int) == eb) = false := by simpa using c2
          cases gg
          · have SC : scan eb (es.take (j + 1)) = (cn + 1, vv, false) := by rw [st]; simp [scan1, c2]
            clear st c2
            have EQ := Lib.hid SC
            clear SC
            go_wp2
            go_roundw
            case rel => exact ⟨j + 1, by omega, cn + 1, vv, false, by go_num, rfl, rfl, by go_num, by rw [EQ.out]; rfl, hbr.trans (by (repeat' (first | (with_reducible exact Below.refl _ _) | (with_reducible refine Below.alloc ?_ ?_ _) | (with_reducible refine Below.drew ?_) | (with_reducible refine Below.setCell ?_ ?_ _) | (with_reducible refine Below.thn (by assumption) ?_ ?_) | (with_reducible refine below_drewN ?_ _) | go_size))), by simp; omega, rowIs_keep HE.out (by (repeat' (first | (with_reducible exact Below.refl _ _) | (with_reducible refine Below.alloc ?_ ?_ _) | (with_reducible refine Below.drew ?_) | (with_reducible refine Below.setCell ?_ ?_ _) | (with_reducible refine Below.thn (by assumption) ?_ ?_) | (with_reducible refine below_drewN ?_ _) | go_size)))⟩
            case measure => simp [intOf]; omega
          · have SC : scan eb (es.take (j + 1)) = (cn + 1, vv, true) := by rw [st]; simp [scan1, c2]
            clear st c2
            have EQ := Lib.hid SC
            clear SC
            go_wp2
            go_roundw
            case rel => exact ⟨j + 1, by omega, cn + 1, vv, true, by go_num, rfl, rfl, by go_num, by rw [EQ.out]; rfl, hbr.trans (by (repeat' (first | (with_reducible exact Below.refl _ _) | (with_reducible refine Below.alloc ?_ ?_ _) | (with_reducible refine Below.drew ?_) | (with_reducible refine Below.setCell ?_ ?_ _) | (with_reducible refine Below.thn (by assumption) ?_ ?_) | (with_reducible refine below_drewN ?_ _) | go_size))), by simp; omega, rowIs_keep HE.out (by (repeat' (first | (with_reducible exact Below.refl _ _) | (with_reducible refine Below.alloc ?_ ?_ _) | (with_reducible refine Below.drew ?_) | (with_reducible refine Below.setCell ?_ ?_ _) | (with_reducible refine Below.thn (by assumption) ?_ ?_) | (with_reducible refine below_drewN ?_ _) | go_size)))⟩
            case measure => simp [intOf]; omega
      · have c3 : (xk == 3) = false := by simpa using c1
        cases gg
        · by_cases c4 : xk = 4
          · subst c4
            by_cases c5 : xb = eb
            · have c6 : (xb == eb) = true := by simpa using c5
              have SC : scan eb (es.take (j + 1)) = (cn, vv, true) := by rw [st]; simp [scan1, c5]
              clear st c5 c1
              have EQ := Lib.hid SC
              clear SC
              go_wp2
              go_roundw
              case rel => exact ⟨j + 1, by omega, cn, vv, true, by go_num, rfl, rfl, by go_num, by rw [EQ.out]; rfl, hbr.trans (by (repeat' (first | (with_reducible exact Below.refl _ _) | (with_reducible refine Below.alloc ?_ ?_ _) | (with_reducible refine Below.drew ?_) | (with_reducible refine Below.setCell ?_ ?_ _) | (with_reducible refine Below.thn (by assumption) ?_ ?_) | (with_reducible refine below_drewN ?_ _) | go_size))), by simp; omega, rowIs_keep HE.out (by (repeat' (first | (with_reducible exact Below.refl _ _) | (with_reducible refine Below.alloc ?_ ?_ _) | (with_reducible refine Below.drew ?_) | (with_reducible refine Below.setCell ?_ ?_ _) | (with_reducible refine Below.thn (by assumption) ?_ ?_) | (with_reducible refine below_drewN ?_ _) | go_size)))⟩
              case measure => simp [intOf]; omega
            · have c6 : (xb == eb) = false := by simpa using c5
              have SC : scan eb (es.take (j + 1)) = (cn, vv, false) := by rw [st]; simp [scan1, c5]
              clear st c5 c1
              have EQ := Lib.hid SC
              clear SC
              go_wp2
              go_roundw
              case rel => exact ⟨j + 1, by omega, cn, vv, false, by go_num, rfl, rfl, by go_num, by rw [EQ.out]; rfl, hbr.trans (by (repeat' (first | (with_reducible exact Below.refl _ _) | (with_reducible refine Below.alloc ?_ ?_ _) | (with_reducible refine Below.drew ?_) | (with_reducible refine Below.setCell ?_ ?_ _) | (with_reducible refine Below.thn (by assumption) ?_ ?_) | (with_reducible refine below_drewN ?_ _) | go_size))), by simp; omega, rowIs_keep HE.out (by (repeat' (first | (with_reducible exact Below.refl _ _) | (with_reducible refine Below.alloc ?_ ?_ _) | (with_reducible refine Below.drew ?_) | (with_reducible refine Below.setCell ?_ ?_ _) | (with_reducible refine Below.thn (by assumption) ?_ ?_) | (with_reducible refine below_drewN ?_ _) | go_size)))⟩
              case measure => simp [intOf]; omega
          · have c6 : (xk == 4) = false := by simpa using c4
            have SC : scan eb (es.take (j + 1)) = (cn, vv, false) := by rw [st]; simp [scan1, c1, c4]
            clear st c4 c1
            have EQ := Lib.hid SC
            clear SC
            go_wp2
            go_roundw
            case rel => exact ⟨j + 1, by omega, cn, vv, false, by go_num, rfl, rfl, by go_num, by rw [EQ.out]; rfl, hbr.trans (by (repeat' (first | (with_reducible exact Below.refl _ _) | (with_reducible refine Below.alloc ?_ ?_ _) | (with_reducible refine Below.drew ?_) | (with_reducible refine Below.setCell ?_ ?_ _) | (with_reducible refine Below.thn (by assumption) ?_ ?_) | (with_reducible refine below_drewN ?_ _) | go_size))), by simp; omega, rowIs_keep HE.out (by (repeat' (first | (with_reducible exact Below.refl _ _) | (with_reducible refine Below.alloc ?_ ?_ _) | (with_reducible refine Below.drew ?_) | (with_reducible refine Below.setCell ?_ ?_ _) | (with_reducible refine Below.thn (by assumption) ?_ ?_) | (with_reducible refine below_drewN ?_ _) | go_size)))⟩
            case measure => simp [intOf]; omega
        · have SC : scan eb (es.take (j + 1)) = (cn, vv, true) := by rw [st]; simp [scan1, c1]
          clear st c1
          have EQ := Lib.hid SC
          clear SC
          go_wp2
          go_roundw
          case rel => exact ⟨j + 1, by omega, cn, vv, true, by go_num, rfl, rfl, by go_num, by rw [EQ.out]; rfl, hbr.trans (by (repeat' (first | (with_reducible exact Below.refl _ _) | (with_reducible refine Below.alloc ?_ ?_ _) | (with_reducible refine Below.drew ?_) | (with_reducible refine Below.setCell ?_ ?_ _) | (with_reducible refine Below.thn (by assumption) ?_ ?_) | (with_reducible refine below_drewN ?_ _) | go_size))), by simp; omega, rowIs_keep HE.out (by (repeat' (first | (with_reducible exact Below.refl _ _) | (with_reducible refine Below.alloc ?_ ?_ _) | (with_reducible refine Below.drew ?_) | (with_reducible refine Below.setCell ?_ ?_ _) | (with_reducible refine Below.thn (by assumption) ?_ ?_) | (with_reducible refine below_drewN ?_ _) | go_size)))⟩
          case measure => simp [intOf]; omega
    · have hjn : es.length = j := by omega
      subst hjn
      have HScan : Hid (scan eb es = (cn, vv, gg)) := by have := HSc.out; rw [List.take_length] at this; exact this
      clear hlt hj HSc
      have hev := HLs.out.ev
      have HEv := Lib.hid hev
      obtain ⟨ao, cp, rfl⟩ := row_form HOwn.out
      have HO2 : Hid (wr.ownsRow base TEV 4 (.slice ao es.length cp) es.length (flatE es)) := ownsRow_below HOwn.out hbr
      have hrowW := Lib.hid hrow
      clear hev hrow
      have hcn2 : cn ≤ es.length := hcn
      rcases HK.out with rfl | rfl | rfl | rfl
      · -- kind 1
        obtain ⟨sm, hsm⟩ : ∃ s, sumE es 1 (-1) = s := ⟨_, rfl⟩
        have smb := HEv.out.sum 1 (-1)
        rw [hsm] at smb
        have HSm := Lib.hid hsm
        by_cases d1 : 281474976710656 < ev
        · have D3 : 0 = n ∧ 2 = y ∧ es = es' := by
            have := HD.out; unfold doE at this; rw [if_pos rfl, if_pos (.inl d1)] at this; simpa using this
          have HD3 := Lib.hid D3
          clear hsm D3
          go_wp2
          have hS : DS wr t w.heap.size base es.length (.slice ao es.length cp) (evf ⟨1, ep, eb, ev⟩) es wr := ⟨⟨ht0, HE.out⟩, by omega, Below.refl _ _, HO2.out⟩
          have hne : Nonempty (Held (DS wr t w.heap.size base es.length (.slice ao es.length cp) (evf ⟨1, ep, eb, ev⟩) es)) := ⟨⟨_, hS⟩⟩
          have i0 : ∀ s : Held (DS wr t w.heap.size base es.length (.slice ao es.length cp) (evf ⟨1, ep, eb, ev⟩) es), s.w.cell? ⟨t, 0, none⟩ = some (.slice ao es.length cp) := fun s => s.ok.1.1
          have i1 : ∀ s : Held (DS wr t w.heap.size base es.length (.slice ao es.length cp) (evf ⟨1, ep, eb, ev⟩) es), s.w.cell? ⟨w.heap.size, 1, none⟩ = some (.int .i64 ep) := fun s => s.ok.1.2.cell (by decide)
          have i2 : ∀ s : Held (DS wr t w.heap.size base es.length (.slice ao es.length cp) (evf ⟨1, ep, eb, ev⟩) es), s.w.cell? ⟨w.heap.size, 3, none⟩ = some (.int .u64 ev) := fun s => s.ok.1.2.cell (by decide)
          refine wp_region_held (S := DS wr t w.heap.size base es.length (.slice ao es.length cp) (evf ⟨1, ep, eb, ev⟩) es) (by kernel_rfl) (by kernel_rfl) (dsKeep _ _ hS (Below.refl _ _).drew) ?_
          repeat (go_big_quiet_step (first
              | fail))
          refine wpQuiet_nil ?_
          intro W hw'
          obtain ⟨s6, hw'⟩ := hw'
          have hSW : DS wr t w.heap.size base es.length (.slice ao es.length cp) (evf ⟨1, ep, eb, ev⟩) es W := by rw [hw']; exact s6.ok
          have HSW := Lib.hid hSW
          clear i0 i1 i2 hw' s6 hSW hS hne
          go_wp2
          go_returns
          obtain ⟨rfl, rfl, rfl⟩ := HD3.out
          exact ⟨rfl, ⟨HLs.out.below (hbr.trans (HSW.out.2.2.1.mono (by omega))), (Kept.ofBelow (hbr.trans (HSW.out.2.2.1.mono (by omega)))).mono (by omega)⟩⟩
        · have d0 : decide (281474976710656 < ev) = false := decide_eq_false d1
          have se : IntKind.u64.wrap (sm + ev) = sm + ev := by rw [IntKind.wrap_u64]; omega
          by_cases d2 : 281474976710656 < sm + ev
          · have D3 : 0 = n ∧ 2 = y ∧ es = es' := by
              have := HD.out; unfold doE at this; rw [if_pos rfl, hsm, if_pos (.inr d2)] at this; simpa using this
            have d3 : decide (281474976710656 < sm + ev) = true := decide_eq_true d2
            have HD3 := Lib.hid D3
            clear hsm D3
            go_wp2
            have hS : DS wr t w.heap.size base es.length (.slice ao es.length cp) (evf ⟨1, ep, eb, ev⟩) es wr := ⟨⟨ht0, HE.out⟩, by omega, Below.refl _ _, HO2.out⟩
            have hne : Nonempty (Held (DS wr t w.heap.size base es.length (.slice ao es.length cp) (evf ⟨1, ep, eb, ev⟩) es)) := ⟨⟨_, hS⟩⟩
            have i0 : ∀ s : Held (DS wr t w.heap.size base es.length (.slice ao es.length cp) (evf ⟨1, ep, eb, ev⟩) es), s.w.cell? ⟨t, 0, none⟩ = some (.slice ao es.length cp) := fun s => s.ok.1.1
            have i1 : ∀ s : Held (DS wr t w.heap.size base es.length (.slice ao es.length cp) (evf ⟨1, ep, eb, ev⟩) es), s.w.cell? ⟨w.heap.size, 1, none⟩ = some (.int .i64 ep) := fun s => s.ok.1.2.cell (by decide)
            have i2 : ∀ s : Held (DS wr t w.heap.size base es.length (.slice ao es.length cp) (evf ⟨1, ep, eb, ev⟩) es), s.w.cell? ⟨w.heap.size, 3, none⟩ = some (.int .u64 ev) := fun s => s.ok.1.2.cell (by decide)
            refine wp_region_held (S := DS wr t w.heap.size base es.length (.slice ao es.length cp) (evf ⟨1, ep, eb, ev⟩) es) (by kernel_rfl) (by kernel_rfl) (dsKeep _ _ hS (Below.refl _ _).drew) ?_
            repeat (go_big_quiet_step (first
                | (go_at_call 17; with_reducible exact held_call (sum_V base es.length (.slice ao es.length cp) es 1 (-1) sm _ (ds_own _) rfl HEv.out HSm.out) dsKeep)))
            refine wpQuiet_nil ?_
            intro W hw'
            obtain ⟨s6, hw'⟩ := hw'
            have hSW : DS wr t w.heap.size base es.length (.slice ao es.length cp) (evf ⟨1, ep, eb, ev⟩) es W := by rw [hw']; exact s6.ok
            have HSW := Lib.hid hSW
            clear i0 i1 i2 hw' s6 hSW hS hne
            go_wp2
            go_returns
            obtain ⟨rfl, rfl, rfl⟩ := HD3.out
            exact ⟨rfl, ⟨HLs.out.below (hbr.trans (HSW.out.2.2.1.mono (by omega))), (Kept.ofBelow (hbr.trans (HSW.out.2.2.1.mono (by omega)))).mono (by omega)⟩⟩
          · have D3 : 0 = n ∧ 0 = y ∧ es ++ [⟨1, ep, eb, ev⟩] = es' := by
              have := HD.out; unfold doE at this; rw [if_pos rfl, hsm, if_neg (by rintro (h | h); exact d1 h; exact d2 h)] at this; simpa using this
            have d3 : decide (281474976710656 < sm + ev) = false := decide_eq_false d2
            have HD3 := Lib.hid D3
            clear hsm D3
            go_wp2
            have hS : DS wr t w.heap.size base es.length (.slice ao es.length cp) (evf ⟨1, ep, eb, ev⟩) es wr := ⟨⟨ht0, HE.out⟩, by omega, Below.refl _ _, HO2.out⟩
            have hne : Nonempty (Held (DS wr t w.heap.size base es.length (.slice ao es.length cp) (evf ⟨1, ep, eb, ev⟩) es)) := ⟨⟨_, hS⟩⟩
            have i0 : ∀ s : Held (DS wr t w.heap.size base es.length (.slice ao es.length cp) (evf ⟨1, ep, eb, ev⟩) es), s.w.cell? ⟨t, 0, none⟩ = some (.slice ao es.length cp) := fun s => s.ok.1.1
            have i1 : ∀ s : Held (DS wr t w.heap.size base es.length (.slice ao es.length cp) (evf ⟨1, ep, eb, ev⟩) es), s.w.cell? ⟨w.heap.size, 1, none⟩ = some (.int .i64 ep) := fun s => s.ok.1.2.cell (by decide)
            have i2 : ∀ s : Held (DS wr t w.heap.size base es.length (.slice ao es.length cp) (evf ⟨1, ep, eb, ev⟩) es), s.w.cell? ⟨w.heap.size, 3, none⟩ = some (.int .u64 ev) := fun s => s.ok.1.2.cell (by decide)
            refine wp_region_held (S := DS wr t w.heap.size base es.length (.slice ao es.length cp) (evf ⟨1, ep, eb, ev⟩) es) (by kernel_rfl) (by kernel_rfl) (dsKeep _ _ hS (Below.refl _ _).drew) ?_
            repeat (go_big_quiet_step (first
                | (go_at_call 17; with_reducible exact held_call (sum_V base es.length (.slice ao es.length cp) es 1 (-1) sm _ (ds_own _) rfl HEv.out HSm.out) dsKeep)))
            refine wpQuiet_nil ?_
            intro W hw'
            obtain ⟨s6, hw'⟩ := hw'
            have hSW : DS wr t w.heap.size base es.length (.slice ao es.length cp) (evf ⟨1, ep, eb, ev⟩) es W := by rw [hw']; exact s6.ok
            have HSW := Lib.hid hSW
            clear i0 i1 i2 hw' s6 hSW hS hne
            go_wp2
            have OW : Hid (W.ownsRow base TEV 4 (.slice ao es.length cp) es.length (flatE es)) := HSW.out.2.2.2
            have RW : Hid (W.rowIs t TRL 1 (fun _ => .slice ao es.length cp)) := hrowW.out.of_block (HSW.out.2.2.1.block t (by omega))
            have KWW : Hid (Kept TRL TEV t w W) := (Kept.ofBelow (hbr.trans (HSW.out.2.2.1.mono (by omega)))).mono (by omega)
            have s0 := HSW.out.1.1
            have s1 : W.cell? ⟨w.heap.size, 0, none⟩ = some (.int .i64 1) := HSW.out.1.2.cell (by decide)
            have s2 : W.cell? ⟨w.heap.size, 1, none⟩ = some (.int .i64 ep) := HSW.out.1.2.cell (by decide)
            have s3 : W.cell? ⟨w.heap.size, 2, none⟩ = some (.int .i64 eb) := HSW.out.1.2.cell (by decide)
            have s4 : W.cell? ⟨w.heap.size, 3, none⟩ = some (.int .u64 ev) := HSW.out.1.2.cell (by decide)
            have XSZ := HSW.out.1.2.lt
            have ap1 := own_apart OW.out (HLs.out.lt)
            have ap2 := own_old HOwn.out
            have s5 : W.frozen? ⟨t, 0, none⟩ = false := RW.out.frozen 0
            obtain ⟨i0, hi, hz0, hz1, hz2⟩ := info_parts infoE
            have ebs := KWW.out.below.size
            have x5 : w.heap.size < W.heap.size := XSZ
            have x6 : t < W.heap.size := by omega
            go_region_law
              ((refine step_append_lies _ (by rfl) _ _ _ (by rfl) base TEV i0 _ 4 32 Tryd.underlying26 hi hz0 hz1 hz2 rfl (by omega) (.slice ao es.length cp) es.length (flatE es) (by rfl) ((OW.out.alloc _).drew)
                  ⟨W.heap.size, 0, none⟩ 1 1 [.int .i64 1, .int .i64 ep, .int .i64 eb, .int .u64 ev] (by rfl) (by rfl) (World.news_of_block (cs := #[.int .i64 1, .int .i64 ep, .int .i64 eb, .int .u64 ev]) (t := TEV) (fr := (0, 0)) (heap_alloc_new W _)) (by simp [Value.oneCell'])
                  (by omega) (by unfold maxLen; omega) (by omega) (by simp; omega) (W.heap.size + 1) (by simp) ?_; intro gg1 cap1 w1 hown1 hgrow hat hlt1; have g1 : w1.cell? ⟨t, 0, none⟩ = some (.slice ao es.length cp) := (by rw [hgrow.cell_far _ (by simp; omega) (Ne.symm ap1)]; go_cell); have f1 : w1.frozen? ⟨t, 0, none⟩ = false := (by rw [hgrow.frozen_far _ (by simp; omega) (Ne.symm ap1)]; simp [s5, frozen?_alloc_cells]); have g2 : w1.cell? ⟨w.heap.size, 0, none⟩ = some (.int .i64 1) := (by rw [hgrow.cell_far _ (by simp; omega) (Ne.symm ap2)]; go_cell)))
            all_goals
              have HX1 := Lib.hid hown1
              have HX2 := Lib.hid hgrow
              clear hown1 hgrow hat
              go_wp2
              go_returns
              obtain ⟨rfl, rfl, rfl⟩ := HD3.out
              exact ⟨rfl, do_end HLs.out.lt hbase (evs_snoc HEv.out hn _ ⟨hv0, by show ev ≤ _; omega⟩) RW.out OW.out KWW.out rfl HX1.out HX2.out⟩
      · -- kind 2
        obtain ⟨bl, hbl⟩ : ∃ s, balE es ep = s := ⟨_, rfl⟩
        have hbl0 : 0 ≤ bl := by rw [← hbl]; exact HB0.out
        have hbl1 : bl ≤ 281474976710656 := by rw [← hbl]; exact HB1.out
        have HBl := Lib.hid hbl
        by_cases d1 : bl < ev
        · have D3 : 0 = n ∧ 21 = y ∧ es = es' := by
            have := HD.out; unfold doE at this; rw [if_neg (by simp), if_pos rfl, hbl, if_pos d1] at this; simpa using this
          have d0 : decide (bl < ev) = true := decide_eq_true d1
          have HD3 := Lib.hid D3
          clear hbl D3
          go_wp2
          have hS : DS wr t w.heap.size base es.length (.slice ao es.length cp) (evf ⟨2, ep, eb, ev⟩) es wr := ⟨⟨ht0, HE.out⟩, by omega, Below.refl _ _, HO2.out⟩
          have hne : Nonempty (Held (DS wr t w.heap.size base es.length (.slice ao es.length cp) (evf ⟨2, ep, eb, ev⟩) es)) := ⟨⟨_, hS⟩⟩
          have i0 : ∀ s : Held (DS wr t w.heap.size base es.length (.slice ao es.length cp) (evf ⟨2, ep, eb, ev⟩) es), s.w.cell? ⟨t, 0, none⟩ = some (.slice ao es.length cp) := fun s => s.ok.1.1
          have i1 : ∀ s : Held (DS wr t w.heap.size base es.length (.slice ao es.length cp) (evf ⟨2, ep, eb, ev⟩) es), s.w.cell? ⟨w.heap.size, 1, none⟩ = some (.int .i64 ep) := fun s => s.ok.1.2.cell (by decide)
          have i2 : ∀ s : Held (DS wr t w.heap.size base es.length (.slice ao es.length cp) (evf ⟨2, ep, eb, ev⟩) es), s.w.cell? ⟨w.heap.size, 3, none⟩ = some (.int .u64 ev) := fun s => s.ok.1.2.cell (by decide)
          refine wp_region_held (S := DS wr t w.heap.size base es.length (.slice ao es.length cp) (evf ⟨2, ep, eb, ev⟩) es) (by kernel_rfl) (by kernel_rfl) (dsKeep _ _ hS (Below.refl _ _).drew) ?_
          repeat (go_big_quiet_step (first
              | (go_at_call 12; with_reducible exact held_call (rbalance_V base es.length (.slice ao es.length cp) es ep bl _ (ds_own _) rfl HEv.out HBl.out hbl0) dsKeep)))
          refine wpQuiet_nil ?_
          intro W hw'
          obtain ⟨s6, hw'⟩ := hw'
          have hSW : DS wr t w.heap.size base es.length (.slice ao es.length cp) (evf ⟨2, ep, eb, ev⟩) es W := by rw [hw']; exact s6.ok
          have HSW := Lib.hid hSW
          clear i0 i1 i2 hw' s6 hSW hS hne
          go_wp2
          go_returns
          obtain ⟨rfl, rfl, rfl⟩ := HD3.out
          exact ⟨rfl, ⟨HLs.out.below (hbr.trans (HSW.out.2.2.1.mono (by omega))), (Kept.ofBelow (hbr.trans (HSW.out.2.2.1.mono (by omega)))).mono (by omega)⟩⟩
        · have D3 : 0 = n ∧ 0 = y ∧ es ++ [⟨2, ep, eb, ev⟩] = es' := by
            have := HD.out; unfold doE at this; rw [if_neg (by simp), if_pos rfl, hbl, if_neg d1] at this; simpa using this
          have d0 : decide (bl < ev) = false := decide_eq_false d1
          have HD3 := Lib.hid D3
          clear hbl D3
          go_wp2
          have hS : DS wr t w.heap.size base es.length (.slice ao es.length cp) (evf ⟨2, ep, eb, ev⟩) es wr := ⟨⟨ht0, HE.out⟩, by omega, Below.refl _ _, HO2.out⟩
          have hne : Nonempty (Held (DS wr t w.heap.size base es.length (.slice ao es.length cp) (evf ⟨2, ep, eb, ev⟩) es)) := ⟨⟨_, hS⟩⟩
          have i0 : ∀ s : Held (DS wr t w.heap.size base es.length (.slice ao es.length cp) (evf ⟨2, ep, eb, ev⟩) es), s.w.cell? ⟨t, 0, none⟩ = some (.slice ao es.length cp) := fun s => s.ok.1.1
          have i1 : ∀ s : Held (DS wr t w.heap.size base es.length (.slice ao es.length cp) (evf ⟨2, ep, eb, ev⟩) es), s.w.cell? ⟨w.heap.size, 1, none⟩ = some (.int .i64 ep) := fun s => s.ok.1.2.cell (by decide)
          have i2 : ∀ s : Held (DS wr t w.heap.size base es.length (.slice ao es.length cp) (evf ⟨2, ep, eb, ev⟩) es), s.w.cell? ⟨w.heap.size, 3, none⟩ = some (.int .u64 ev) := fun s => s.ok.1.2.cell (by decide)
          refine wp_region_held (S := DS wr t w.heap.size base es.length (.slice ao es.length cp) (evf ⟨2, ep, eb, ev⟩) es) (by kernel_rfl) (by kernel_rfl) (dsKeep _ _ hS (Below.refl _ _).drew) ?_
          repeat (go_big_quiet_step (first
              | (go_at_call 12; with_reducible exact held_call (rbalance_V base es.length (.slice ao es.length cp) es ep bl _ (ds_own _) rfl HEv.out HBl.out hbl0) dsKeep)))
          refine wpQuiet_nil ?_
          intro W hw'
          obtain ⟨s6, hw'⟩ := hw'
          have hSW : DS wr t w.heap.size base es.length (.slice ao es.length cp) (evf ⟨2, ep, eb, ev⟩) es W := by rw [hw']; exact s6.ok
          have HSW := Lib.hid hSW
          clear i0 i1 i2 hw' s6 hSW hS hne
          have OW : Hid (W.ownsRow base TEV 4 (.slice ao es.length cp) es.length (flatE es)) := HSW.out.2.2.2
          have RW : Hid (W.rowIs t TRL 1 (fun _ => .slice ao es.length cp)) := hrowW.out.of_block (HSW.out.2.2.1.block t (by omega))
          have KWW : Hid (Kept TRL TEV t w W) := (Kept.ofBelow (hbr.trans (HSW.out.2.2.1.mono (by omega)))).mono (by omega)
          have s0 := HSW.out.1.1
          have s1 : W.cell? ⟨w.heap.size, 0, none⟩ = some (.int .i64 2) := HSW.out.1.2.cell (by decide)
          have s2 : W.cell? ⟨w.heap.size, 1, none⟩ = some (.int .i64 ep) := HSW.out.1.2.cell (by decide)
          have s3 : W.cell? ⟨w.heap.size, 2, none⟩ = some (.int .i64 eb) := HSW.out.1.2.cell (by decide)
          have s4 : W.cell? ⟨w.heap.size, 3, none⟩ = some (.int .u64 ev) := HSW.out.1.2.cell (by decide)
          have XSZ := HSW.out.1.2.lt
          go_wp2
          have ap1 := own_apart OW.out (HLs.out.lt)
          have ap2 := own_old HOwn.out
          have s5 : W.frozen? ⟨t, 0, none⟩ = false := RW.out.frozen 0
          obtain ⟨i0, hi, hz0, hz1, hz2⟩ := info_parts infoE
          have ebs := KWW.out.below.size
          have x5 : w.heap.size < W.heap.size := XSZ
          have x6 : t < W.heap.size := by omega
          go_region_law
            ((refine step_append_lies _ (by rfl) _ _ _ (by rfl) base TEV i0 _ 4 32 Tryd.underlying26 hi hz0 hz1 hz2 rfl (by omega) (.slice ao es.length cp) es.length (flatE es) (by rfl) ((OW.out.alloc _).drew)
                ⟨W.heap.size, 0, none⟩ 1 1 [.int .i64 2, .int .i64 ep, .int .i64 eb, .int .u64 ev] (by rfl) (by rfl) (World.news_of_block (cs := #[.int .i64 2, .int .i64 ep, .int .i64 eb, .int .u64 ev]) (t := TEV) (fr := (0, 0)) (heap_alloc_new W _)) (by simp [Value.oneCell'])
                (by omega) (by unfold maxLen; omega) (by omega) (by simp; omega) (W.heap.size + 1) (by simp) ?_; intro gg1 cap1 w1 hown1 hgrow hat hlt1; have g1 : w1.cell? ⟨t, 0, none⟩ = some (.slice ao es.length cp) := (by rw [hgrow.cell_far _ (by simp; omega) (Ne.symm ap1)]; go_cell); have f1 : w1.frozen? ⟨t, 0, none⟩ = false := (by rw [hgrow.frozen_far _ (by simp; omega) (Ne.symm ap1)]; simp [s5, frozen?_alloc_cells]); have g2 : w1.cell? ⟨w.heap.size, 0, none⟩ = some (.int .i64 2) := (by rw [hgrow.cell_far _ (by simp; omega) (Ne.symm ap2)]; go_cell)))
          all_goals
            have HX1 := Lib.hid hown1
            have HX2 := Lib.hid hgrow
            clear hown1 hgrow hat
            go_wp2
            go_returns
            obtain ⟨rfl, rfl, rfl⟩ := HD3.out
            exact ⟨rfl, do_end HLs.out.lt hbase (evs_snoc HEv.out hn _ ⟨hv0, by show ev ≤ _; omega⟩) RW.out OW.out KWW.out rfl HX1.out HX2.out⟩
      · -- kind 3
        obtain ⟨bl, hbl⟩ : ∃ s, balE es ep = s := ⟨_, rfl⟩
        have hbl0 : 0 ≤ bl := by rw [← hbl]; exact HB0.out
        have hbl1 : bl ≤ 281474976710656 := by rw [← hbl]; exact HB1.out
        have HBl := Lib.hid hbl
        have cb : decide ((65536 : Int) ≤ (cn : Int)) = false := by simp; omega
        by_cases d1 : bl < ev
        · have D3 : 0 = n ∧ 21 = y ∧ es = es' := by
            have := HD.out; unfold doE at this; rw [if_neg (by simp), if_neg (by simp), if_pos rfl, hbl, if_pos d1] at this; simpa using this
          have d0 : decide (bl < ev) = true := decide_eq_true d1
          have HD3 := Lib.hid D3
          clear hbl D3
          go_wp2
          have hS : DS wr t w.heap.size base es.length (.slice ao es.length cp) (evf ⟨3, ep, eb, ev⟩) es wr := ⟨⟨ht0, HE.out⟩, by omega, Below.refl _ _, HO2.out⟩
          have hne : Nonempty (Held (DS wr t w.heap.size base es.length (.slice ao es.length cp) (evf ⟨3, ep, eb, ev⟩) es)) := ⟨⟨_, hS⟩⟩
          have i0 : ∀ s : Held (DS wr t w.heap.size base es.length (.slice ao es.length cp) (evf ⟨3, ep, eb, ev⟩) es), s.w.cell? ⟨t, 0, none⟩ = some (.slice ao es.length cp) := fun s => s.ok.1.1
          have i1 : ∀ s : Held (DS wr t w.heap.size base es.length (.slice ao es.length cp) (evf ⟨3, ep, eb, ev⟩) es), s.w.cell? ⟨w.heap.size, 1, none⟩ = some (.int .i64 ep) := fun s => s.ok.1.2.cell (by decide)
          have i2 : ∀ s : Held (DS wr t w.heap.size base es.length (.slice ao es.length cp) (evf ⟨3, ep, eb, ev⟩) es), s.w.cell? ⟨w.heap.size, 3, none⟩ = some (.int .u64 ev) := fun s => s.ok.1.2.cell (by decide)
          refine wp_region_held (S := DS wr t w.heap.size base es.length (.slice ao es.length cp) (evf ⟨3, ep, eb, ev⟩) es) (by kernel_rfl) (by kernel_rfl) (dsKeep _ _ hS (Below.refl _ _).drew) ?_
          repeat (go_big_quiet_step (first
              | (go_at_call 12; with_reducible exact held_call (rbalance_V base es.length (.slice ao es.length cp) es ep bl _ (ds_own _) rfl HEv.out HBl.out hbl0) dsKeep)))
          refine wpQuiet_nil ?_
          intro W hw'
          obtain ⟨s6, hw'⟩ := hw'
          have hSW : DS wr t w.heap.size base es.length (.slice ao es.length cp) (evf ⟨3, ep, eb, ev⟩) es W := by rw [hw']; exact s6.ok
          have HSW := Lib.hid hSW
          clear i0 i1 i2 hw' s6 hSW hS hne
          go_wp2
          go_returns
          obtain ⟨rfl, rfl, rfl⟩ := HD3.out
          exact ⟨rfl, ⟨HLs.out.below (hbr.trans (HSW.out.2.2.1.mono (by omega))), (Kept.ofBelow (hbr.trans (HSW.out.2.2.1.mono (by omega)))).mono (by omega)⟩⟩
        · have D3 : (cn : Int) = n ∧ 0 = y ∧ es ++ [⟨3, ep, eb, ev⟩] = es' := by
            have := HD.out; unfold doE at this; rw [if_neg (by simp), if_neg (by simp), if_pos rfl, hbl, if_neg d1] at this; rw [HScan.out] at this; simpa using this
          have d0 : decide (bl < ev) = false := decide_eq_false d1
          have HD3 := Lib.hid D3
          clear hbl D3
          go_wp2
          have hS : DS wr t w.heap.size base es.length (.slice ao es.length cp) (evf ⟨3, ep, eb, ev⟩) es wr := ⟨⟨ht0, HE.out⟩, by omega, Below.refl _ _, HO2.out⟩
          have hne : Nonempty (Held (DS wr t w.heap.size base es.length (.slice ao es.length cp) (evf ⟨3, ep, eb, ev⟩) es)) := ⟨⟨_, hS⟩⟩
          have i0 : ∀ s : Held (DS wr t w.heap.size base es.length (.slice ao es.length cp) (evf ⟨3, ep, eb, ev⟩) es), s.w.cell? ⟨t, 0, none⟩ = some (.slice ao es.length cp) := fun s => s.ok.1.1
          have i1 : ∀ s : Held (DS wr t w.heap.size base es.length (.slice ao es.length cp) (evf ⟨3, ep, eb, ev⟩) es), s.w.cell? ⟨w.heap.size, 1, none⟩ = some (.int .i64 ep) := fun s => s.ok.1.2.cell (by decide)
          have i2 : ∀ s : Held (DS wr t w.heap.size base es.length (.slice ao es.length cp) (evf ⟨3, ep, eb, ev⟩) es), s.w.cell? ⟨w.heap.size, 3, none⟩ = some (.int .u64 ev) := fun s => s.ok.1.2.cell (by decide)
          refine wp_region_held (S := DS wr t w.heap.size base es.length (.slice ao es.length cp) (evf ⟨3, ep, eb, ev⟩) es) (by kernel_rfl) (by kernel_rfl) (dsKeep _ _ hS (Below.refl _ _).drew) ?_
          repeat (go_big_quiet_step (first
              | (go_at_call 12; with_reducible exact held_call (rbalance_V base es.length (.slice ao es.length cp) es ep bl _ (ds_own _) rfl HEv.out HBl.out hbl0) dsKeep)))
          refine wpQuiet_nil ?_
          intro W hw'
          obtain ⟨s6, hw'⟩ := hw'
          have hSW : DS wr t w.heap.size base es.length (.slice ao es.length cp) (evf ⟨3, ep, eb, ev⟩) es W := by rw [hw']; exact s6.ok
          have HSW := Lib.hid hSW
          clear i0 i1 i2 hw' s6 hSW hS hne
          have OW : Hid (W.ownsRow base TEV 4 (.slice ao es.length cp) es.length (flatE es)) := HSW.out.2.2.2
          have RW : Hid (W.rowIs t TRL 1 (fun _ => .slice ao es.length cp)) := hrowW.out.of_block (HSW.out.2.2.1.block t (by omega))
          have KWW : Hid (Kept TRL TEV t w W) := (Kept.ofBelow (hbr.trans (HSW.out.2.2.1.mono (by omega)))).mono (by omega)
          have s0 := HSW.out.1.1
          have s1 : W.cell? ⟨w.heap.size, 0, none⟩ = some (.int .i64 3) := HSW.out.1.2.cell (by decide)
          have s2 : W.cell? ⟨w.heap.size, 1, none⟩ = some (.int .i64 ep) := HSW.out.1.2.cell (by decide)
          have s3 : W.cell? ⟨w.heap.size, 2, none⟩ = some (.int .i64 eb) := HSW.out.1.2.cell (by decide)
          have s4 : W.cell? ⟨w.heap.size, 3, none⟩ = some (.int .u64 ev) := HSW.out.1.2.cell (by decide)
          have XSZ := HSW.out.1.2.lt
          go_wp2
          have ap1 := own_apart OW.out (HLs.out.lt)
          have ap2 := own_old HOwn.out
          have s5 : W.frozen? ⟨t, 0, none⟩ = false := RW.out.frozen 0
          obtain ⟨i0, hi, hz0, hz1, hz2⟩ := info_parts infoE
          have ebs := KWW.out.below.size
          have x5 : w.heap.size < W.heap.size := XSZ
          have x6 : t < W.heap.size := by omega
          go_region_law
            ((refine step_append_lies _ (by rfl) _ _ _ (by rfl) base TEV i0 _ 4 32 Tryd.underlying26 hi hz0 hz1 hz2 rfl (by omega) (.slice ao es.length cp) es.length (flatE es) (by rfl) ((OW.out.alloc _).drew)
                ⟨W.heap.size, 0, none⟩ 1 1 [.int .i64 3, .int .i64 ep, .int .i64 eb, .int .u64 ev] (by rfl) (by rfl) (World.news_of_block (cs := #[.int .i64 3, .int .i64 ep, .int .i64 eb, .int .u64 ev]) (t := TEV) (fr := (0, 0)) (heap_alloc_new W _)) (by simp [Value.oneCell'])
                (by omega) (by unfold maxLen; omega) (by omega) (by simp; omega) (W.heap.size + 1) (by simp) ?_; intro gg1 cap1 w1 hown1 hgrow hat hlt1; have g1 : w1.cell? ⟨t, 0, none⟩ = some (.slice ao es.length cp) := (by rw [hgrow.cell_far _ (by simp; omega) (Ne.symm ap1)]; go_cell); have f1 : w1.frozen? ⟨t, 0, none⟩ = false := (by rw [hgrow.frozen_far _ (by simp; omega) (Ne.symm ap1)]; simp [s5, frozen?_alloc_cells]); have g2 : w1.cell? ⟨w.heap.size, 0, none⟩ = some (.int .i64 3) := (by rw [hgrow.cell_far _ (by simp; omega) (Ne.symm ap2)]; go_cell)))
          all_goals
            have HX1 := Lib.hid hown1
            have HX2 := Lib.hid hgrow
            clear hown1 hgrow hat
            go_wp2
            go_returns
            obtain ⟨rfl, rfl, rfl⟩ := HD3.out
            exact ⟨rfl, do_end HLs.out.lt hbase (evs_snoc HEv.out hn _ ⟨hv0, by show ev ≤ _; omega⟩) RW.out OW.out KWW.out rfl HX1.out HX2.out⟩
      · -- kind 4
        by_cases d1 : eb < 0
        · have D3 : 0 = n ∧ 4 = y ∧ es = es' := by
            have := HD.out; unfold doE at this; rw [if_neg (by simp), if_neg (by simp), if_neg (by simp), if_pos (.inl d1)] at this; simpa using this
          have HD3 := Lib.hid D3
          clear D3
          go_wp2
          go_returns
          obtain ⟨rfl, rfl, rfl⟩ := HD3.out
          exact ⟨rfl, ⟨HLs.out.below hbr, (Kept.ofBelow hbr).mono (by omega)⟩⟩
        by_cases d2 : (cn : Int) ≤ eb
        · have D3 : 0 = n ∧ 4 = y ∧ es = es' := by
            have := HD.out; unfold doE at this; rw [if_neg (by simp), if_neg (by simp), if_neg (by simp), if_pos (.inr (by rw [HScan.out]; exact d2))] at this; simpa using this
          have HD3 := Lib.hid D3
          clear D3
          go_wp2
          go_returns
          obtain ⟨rfl, rfl, rfl⟩ := HD3.out
          exact ⟨rfl, ⟨HLs.out.below hbr, (Kept.ofBelow hbr).mono (by omega)⟩⟩
        have D0 : doE es ⟨4, ep, eb, ev⟩ = if (scan eb es).2.2 = true then (0, 41, es) else (0, 0, es ++ [⟨4, ep, eb, (scan eb es).2.1⟩]) := by
          unfold doE; rw [if_neg (by simp), if_neg (by simp), if_neg (by simp), if_neg (by rintro (h | h); exact d1 h; rw [HScan.out] at h; exact d2 h)]
        have svb := scan_val eb es HEv.out
        rw [HScan.out] at D0 svb
        have D1 := HD.out
        rw [D0] at D1
        clear D0
        cases gg
        · have D3 : 0 = n ∧ 0 = y ∧ es ++ [⟨4, ep, eb, vv⟩] = es' := by simpa using D1
          have HD3 := Lib.hid D3
          clear D3 D1
          have f3 := HE.out.frozen 3
          have hre := HE.out.set 3 (.int .u64 vv)
          obtain ⟨ce, hce, _⟩ := HE.out
          have kww := ((Kept.ofBelow (t1 := TRL) (t2 := TEV) hbr).mono (by omega : t ≤ w.heap.size)).setCell (p := ⟨w.heap.size, 3, none⟩) (by show t ≤ w.heap.size; omega) hce (.inr rfl) (.int .u64 vv)
          have oww := ownsRow_apart HO2.out ⟨w.heap.size, 3, none⟩ (own_old HOwn.out) (.int .u64 vv)
          have rww := hrowW.out.setOther (a := ⟨w.heap.size, 3, none⟩) (by show t ≠ w.heap.size; omega) (.int .u64 vv)
          clear hce
          go_upto_region 31 with (fail)
          generalize hWW : wr.setCell ⟨w.heap.size, 3, none⟩ (.int .u64 vv) = W at *
          have KWW := Lib.hid kww
          have OW := Lib.hid oww
          have RW := Lib.hid rww
          have s0 : W.cell? ⟨t, 0, none⟩ = some (.slice ao es.length cp) := rww.cell (by decide)
          have s1 : W.cell? ⟨w.heap.size, 0, none⟩ = some (.int .i64 4) := hre.cell (by decide)
          have s2 : W.cell? ⟨w.heap.size, 1, none⟩ = some (.int .i64 ep) := hre.cell (by decide)
          have s3 : W.cell? ⟨w.heap.size, 2, none⟩ = some (.int .i64 eb) := hre.cell (by decide)
          have s4 : W.cell? ⟨w.heap.size, 3, none⟩ = some (.int .u64 vv) := hre.cell (by decide)
          have XSZ := hre.lt
          clear hWW kww oww rww hre
          have ap1 := own_apart OW.out (HLs.out.lt)
          have ap2 := own_old HOwn.out
          have s5 : W.frozen? ⟨t, 0, none⟩ = false := RW.out.frozen 0
          obtain ⟨i0, hi, hz0, hz1, hz2⟩ := info_parts infoE
          have ebs := KWW.out.below.size
          have x5 : w.heap.size < W.heap.size := XSZ
          have x6 : t < W.heap.size := by omega
          go_region_law
            ((refine step_append_lies _ (by rfl) _ _ _ (by rfl) base TEV i0 _ 4 32 Tryd.underlying26 hi hz0 hz1 hz2 rfl (by omega) (.slice ao es.length cp) es.length (flatE es) (by rfl) ((OW.out.alloc _).drew)
                ⟨W.heap.size, 0, none⟩ 1 1 [.int .i64 4, .int .i64 ep, .int .i64 eb, .int .u64 vv] (by rfl) (by rfl) (World.news_of_block (cs := #[.int .i64 4, .int .i64 ep, .int .i64 eb, .int .u64 vv]) (t := TEV) (fr := (0, 0)) (heap_alloc_new W _)) (by simp [Value.oneCell'])
                (by omega) (by unfold maxLen; omega) (by omega) (by simp; omega) (W.heap.size + 1) (by simp) ?_; intro gg1 cap1 w1 hown1 hgrow hat hlt1; have g1 : w1.cell? ⟨t, 0, none⟩ = some (.slice ao es.length cp) := (by rw [hgrow.cell_far _ (by simp; omega) (Ne.symm ap1)]; go_cell); have f1 : w1.frozen? ⟨t, 0, none⟩ = false := (by rw [hgrow.frozen_far _ (by simp; omega) (Ne.symm ap1)]; simp [s5, frozen?_alloc_cells]); have g2 : w1.cell? ⟨w.heap.size, 0, none⟩ = some (.int .i64 4) := (by rw [hgrow.cell_far _ (by simp; omega) (Ne.symm ap2)]; go_cell)))
          all_goals
            have HX1 := Lib.hid hown1
            have HX2 := Lib.hid hgrow
            clear hown1 hgrow hat
            go_wp2
            go_returns
            obtain ⟨rfl, rfl, rfl⟩ := HD3.out
            exact ⟨rfl, do_end HLs.out.lt hbase (evs_snoc HEv.out hn _ ⟨svb.1, svb.2⟩) RW.out OW.out KWW.out rfl HX1.out HX2.out⟩
        · have D3 : 0 = n ∧ 41 = y ∧ es = es' := by simpa using D1
          have HD3 := Lib.hid D3
          clear D3 D1
          go_wp2
          go_returns
          obtain ⟨rfl, rfl, rfl⟩ := HD3.out
          exact ⟨rfl, ⟨HLs.out.below hbr, (Kept.ofBelow hbr).mono (by omega)⟩⟩

end Go.Proofs.YtpphahaphncpaaaDoor
