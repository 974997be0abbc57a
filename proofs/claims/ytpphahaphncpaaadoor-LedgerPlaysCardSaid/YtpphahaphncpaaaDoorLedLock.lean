/-
  Lock and Give by their contracts.
-/
import Derived.Test.YtpphahaphncpaaaDoorLedFn
set_option linter.unusedVariables false
set_option linter.unusedSimpArgs false
namespace Go.Proofs.YtpphahaphncpaaaDoor
open Go.RowKit

theorem flatB_len (bs : List (Int × Bool)) : (flatB bs).length = bs.length * 2 := by
  induction bs with
  | nil => rfl
  | cons x xs ih => simp [flatB] at ih ⊢; omega
theorem flatB_append (bs : List (Int × Bool)) (x : Int × Bool) : flatB (bs ++ [x]) = flatB bs ++ [.int .u64 x.1, .bool x.2] := by simp [flatB]
theorem flatB_get0 (bs : List (Int × Bool)) (n : Nat) (hn : n < bs.length) : (flatB bs)[2 * n]? = some (.int .u64 (bs.getD n (0, false)).1) := by
  induction bs generalizing n with
  | nil => simp at hn
  | cons x xs ih =>
    cases n with
    | zero => rfl
    | succ n => rw [show 2 * (n + 1) = 2 * n + 1 + 1 by omega]; exact ih n (by simpa using hn)
theorem flatB_get1 (bs : List (Int × Bool)) (n : Nat) (hn : n < bs.length) : (flatB bs)[2 * n + 1]? = some (.bool (bs.getD n (0, false)).2) := by
  induction bs generalizing n with
  | nil => simp at hn
  | cons x xs ih =>
    cases n with
    | zero => rfl
    | succ n => rw [show 2 * (n + 1) + 1 = 2 * n + 1 + 1 + 1 by omega]; exact ih n (by simpa using hn)
theorem flatB_set (bs : List (Int × Bool)) (n : Nat) (hn : n < bs.length) (g : Bool) : (flatB bs).set (2 * n + 1) (.bool g) = flatB (bs.set n ((bs.getD n (0, false)).1, g)) := by
  induction bs generalizing n with
  | nil => simp at hn
  | cons x xs ih =>
    cases n with
    | zero => rfl
    | succ n =>
      have e := ih n (by simpa using hn)
      rw [show 2 * (n + 1) + 1 = 2 * n + 1 + 1 + 1 by omega]
      show Value.int .u64 x.1 :: Value.bool x.2 :: ((flatB xs).set (2 * n + 1) (.bool g)) = _
      rw [e]; rfl

theorem row_form {w : World} {base n size : Nat} {e : TypeId} {v : Value} {xs : List Value} (h : w.ownsRow base e size v n xs) : ∃ ao cp, v = .slice ao n cp := by
  rcases h.2 with ⟨rfl, rfl⟩ | ⟨g, cap, cur, rfl, _⟩
  · exact ⟨_, _, rfl⟩
  · exact ⟨_, _, rfl⟩
theorem infoB : (Tryd.prog.info? TB).map (fun i => (i.zero, i.size, i.bytes)) = some (some (.agg #[.int .u64 0, .bool false]), 2, 16) := by kernel_rfl

theorem cell_two_at (W : World) (g : Nat) (hg : g = W.heap.size) (x y : Value) (t : TypeId) : ∀ j u, [x, y][j]? = some u → ((W.alloc (.cells #[x, y] t)).drew).cell? ((⟨g, 0, none⟩ : Addr).add j) = some u := by
  subst hg; exact cell_two_new _ _ _ _
theorem lock_mid {w w3 : World} {b base p n : Nat} {S : LS} {x u : Value} {y : Value} {xs : List Value} {o : Obj} (hr : w.rowIs b TL 12 (S.cell x)) (hown : w.ownsRow base TB 2 y n xs) (hlt : b < base)
    (hg : (((w.setCell ⟨b, p, none⟩ u).alloc o).drew).grownBy w3 y.ownBlock) : w3.rowIs b TL 12 (fun j => if j = p then u else S.cell x j) := by
  refine ((hr.set p u).alloc o).drew.of_block (hg.block b ?_ ?_)
  · have := hr.lt; simp; omega
  · intro e
    have := (hown.lt b e.symm).1
    omega

set_option maxRecDepth 100000 in
set_option maxHeartbeats 1000000 in
theorem lock_ok (b base p : Nat) (v : Int) (S : LS) (w : World) (h : Led w b base S) (hp : p < 8) (h0 : 0 ≤ v) (h1 : v ≤ S.bal p) (hbase : base ≤ w.heap.size) (hn : S.bonds.length < 200) (hok : (S.lock p v).Ok) :
    Calls Tryd.prog 8 #[.pointer (some ⟨b, 0, none⟩), .int .i64 p, .int .u64 v] w fun e w' => e = .returned (.tuple #[.int .i64 S.bonds.length, .nilIface]) ∧ Led w' b base (S.lock p v) ∧ Kept TL TB b w w' := by
  obtain ⟨x, hr, hown⟩ := h.row
  obtain ⟨ao, cp, rfl⟩ := (row_form hown)
  obtain ⟨n, hN⟩ : ∃ n, n = S.bonds.length := ⟨_, rfl⟩
  rw [← hN] at hown hn hr
  have HN := Lib.hid hN
  clear hN
  have hs := seen hr hp
  have c3 := hs.bonds
  have c4 := hs.lk
  have f4 := hs.fr 11
  have f3 := hs.fr 10
  have i2 := h.ok.bal p hp
  have i3 := h.ok.lk
  have i4 : S.lk + v ≤ 281474976710656 := hok.lk.2
  obtain ⟨i0, hi, hz0, hz1, hz2⟩ := info_parts infoB
  have HW : Hid (w.rowIs b TL 12 (S.cell (.slice ao n cp))) := hr
  have HO : Hid (w.ownsRow base TB 2 (.slice ao n cp) n (flatB S.bonds)) := hown
  have HL : Hid (Led w b base S) := h
  have HK := Lib.hid hok
  clear hs hr hown h hok
  have hne : ((10 : Nat) = p) = False := by simp; omega
  have hne' : (p = (10 : Nat)) = False := by simp; omega
  have hne2 : ((11 : Nat) = p) = False := by simp; omega
  have HN2 := Lib.hid hn
  have h5 : decide ((65536 : Int) ≤ (n : Int)) = false := by simp; omega
  clear hn
  rw [← HN.out]
  go_enter Tryd.func8, Tryd.ntmps8
  go_wp2_with (first
    | (go_at_call 19; (with_reducible refine (take_ok b base p v S _ HL.out hp h0 h1).mono ?_); rintro e w' ⟨rfl, rfl⟩)
    | (at_builtin; go_loud (refine wpList_append_own _ rfl _ _ 54 rfl base TB i0 (.agg #[.int .u64 0, .bool false]) 2 16 Tryd.underlying54 hi hz0 hz1 hz2 rfl (by decide) _ _ _ rfl ((ownsRow_setCell_below HO.out HL.out.lt _).alloc _).drew ⟨w.heap.size, 0, none⟩ 1 1 [.int .u64 v, .bool false] rfl rfl (cell_two_at _ _ (by simp) _ _ _) (fun u hu => by simp at hu; rcases hu with rfl | rfl <;> rfl) (by unfold maxLen; have := HN2.out; omega) (by have := HN2.out; omega) (by simp; omega) ?_); intro v' w3 hown3 hgrow3 hx3; clear hx3; obtain ⟨ao3, cp3, rfl⟩ := (row_form hown3); have R3 := Lib.hid (lock_mid HW.out HO.out HL.out.lt hgrow3); have d3 : w3.cell? ⟨b, 10, none⟩ = some (.slice ao n cp) := (by rw [R3.out.cell (by omega), if_neg (by omega)]; rfl); have d4 : w3.cell? ⟨b, 11, none⟩ = some (.int .u64 S.lk) := (by rw [R3.out.cell (by omega), if_neg (by omega)]; rfl); have g3 := R3.out.frozen 10; have g4 := R3.out.frozen 11; have HO3 := Lib.hid hown3; have HG3 : Hid ((((w.setCell ⟨b, p, none⟩ (.int .u64 (S.bal p - v))).alloc (.cells #[.int .u64 v, .bool false] TB)).drew).grownBy w3 (Value.slice ao n cp).ownBlock) := hgrow3; clear hown3 hgrow3))
  go_returns
  refine ⟨?_, ⟨HL.out.lt, HK.out, .slice ao3 (n + 1) cp3, ?_, ?_⟩, ?_⟩
  · show Ending.returned (.tuple #[.int .i64 (wrap64 (n : Int)), .nilIface]) = _
    rw [IntWalk.wrap64_in _ (by have := HN2.out; omega)]
  · refine ((R3.out.set 10 _).set 11 _).congr ?_
    intro i hi
    have e1 : ¬ 8 = p := by omega
    have e2 : ¬ 9 = p := by omega
    have e3 : ¬ 10 = p := by omega
    have e4 : ¬ 11 = p := by omega
    rcases (by omega : i < 8 ∨ i = 8 ∨ i = 9 ∨ i = 10 ∨ i = 11) with h | rfl | rfl | rfl | rfl
    · have a1 : ¬ i = 8 := by omega
      have a2 : ¬ i = 9 := by omega
      have a3 : ¬ i = 10 := by omega
      have a4 : ¬ i = 11 := by omega
      by_cases h1 : i = p
      · subst h1; simp [LS.cell, LS.lock, LS.give, upd, h, a1, a2, a3, a4]
      · simp [LS.cell, LS.lock, LS.give, upd, h, h1, a1, a2, a3, a4]
    all_goals simp [LS.cell, LS.lock, LS.give, e1, e2, e3, e4]
  · have e : (S.lock p v).bonds.length = n + 1 := by simp [LS.lock, HN.out]
    rw [e, show (S.lock p v).bonds = S.bonds ++ [(v, false)] from rfl, flatB_append]
    exact ownsRow_setCell_below (ownsRow_setCell_below HO3.out HL.out.lt _) HL.out.lt _
  · have hb : b < w.heap.size := HW.out.lt
    have k1 := (((Kept.refl TL TB b w).own HW.out p (.int .u64 (S.bal p - v))).alloc (by simp; omega) (.cells #[.int .u64 v, .bool false] TB)).drew
    have k2 := k1.grown HG3.out (by simp; omega) (fun k hk => by
      have ho := (((ownsRow_setCell_below HO.out HL.out.lt (a := ⟨b, p, none⟩) (.int .u64 (S.bal p - v))).alloc (.cells #[.int .u64 v, .bool false] TB)).drew)
      refine ⟨by have := (ho.lt k hk).1; have := HL.out.lt; omega, ?_⟩
      rcases ho.2 with ⟨e, _⟩ | ⟨g, cap, cur, e, _, hh, _⟩
      · rw [e] at hk; simp [Value.ownBlock] at hk
      · rw [e] at hk; simp [Value.ownBlock] at hk; subst hk; exact ⟨_, _, hh⟩)
    exact (k2.own R3.out 10 _).own (R3.out.set 10 _) 11 _

set_option maxHeartbeats 1000000 in
theorem give_ok (b base n p : Nat) (S : LS) (w : World) (h : Led w b base S) (hp : p < 8) (hn : n < S.bonds.length) (hg : (S.bond n).2 = false) (hok : (S.give n p).Ok) :
    Calls Tryd.prog 9 #[.pointer (some ⟨b, 0, none⟩), .int .i64 n, .int .i64 p] w fun e w' => e = .returned .nilIface ∧ Led w' b base (S.give n p) ∧ Kept TL TB b w w' := by
  obtain ⟨x, hr, hown⟩ := h.row
  obtain ⟨m, hN⟩ : ∃ m, m = S.bonds.length := ⟨_, rfl⟩
  rw [← hN] at hown hn
  obtain ⟨g, cp, rfl, hbg⟩ : ∃ g cp, x = .slice (some ⟨g, 0, none⟩) m cp ∧ base ≤ g := by
    rcases hown.2 with ⟨_, h0⟩ | ⟨g, cap, cur, rfl, hb, _⟩
    · omega
    · exact ⟨_, _, rfl, hb⟩
  have hs := seen hr hp
  have c1 := hs.p
  have c3 := hs.bonds
  have c4 := hs.lk
  have f1 := hs.fr p
  have f4 := hs.fr 11
  have b0 : w.cell? ⟨g, n * 2, none⟩ = some (.int .u64 (S.bond n).1) := by rw [hown.cellAt (n * 2) (by omega), Nat.mul_comm]; exact flatB_get0 _ _ (by omega)
  have b1 : w.cell? ⟨g, n * 2 + 1, none⟩ = some (.bool false) := by rw [hown.cellAt (n * 2 + 1) (by omega), Nat.mul_comm, ← hg]; exact flatB_get1 _ _ (by omega)
  have fb := hown.frozenAt (n * 2 + 1)
  have i2 := h.ok.bal p hp
  have i3 := h.ok.lk
  have i5 := h.ok.bv n
  have i6 := hok.lk
  have i7 := hok.bal p hp
  simp only [LS.give, LS.bond, upd, if_pos] at i6 i7
  have hm : m ≤ 200 := by rw [hN]; exact h.ok.n
  have HN := Lib.hid hN
  have HW := Lib.hid hr
  have HO := Lib.hid hown
  have HL := Lib.hid h
  have HK := Lib.hid hok
  have HG := Lib.hid hg
  obtain ⟨y, hy⟩ : ∃ y, y = (S.bond n).1 := ⟨_, rfl⟩
  have hbg2 : b < g := by have := h.lt; omega
  have n1 : (b = g) = False := by simp; omega
  have n2 : (g = b) = False := by simp; omega
  have n3 : (11 = p) = False := by simp; omega
  have n4 : (p = 11) = False := by simp; omega
  rw [show S.bonds.getD n (0, false) = S.bond n from rfl, ← hy] at i5 i6 i7
  rw [← hy] at b0
  have HY := Lib.hid hy
  clear hs hr hown h hok hN hg hy
  go_enter Tryd.func9, Tryd.ntmps9
  go_wp2_with (first
    | (go_at_call 18; refine (ready_ok b p _ hp).mono ?_; rintro e w' ⟨rfl, rfl⟩))
  go_region
  go_wp2
  go_region
  go_wp2
  go_returns
  have st := HO.out.stored (n * 2 + 1) (.bool true)
  have R := ((HW.out.setOther (a := ⟨g, n * 2 + 1, none⟩) (by show b ≠ g; omega) (.bool true)).set 11 (.int .u64 (S.lk - y))).set p (.int .u64 (S.bal p + y))
  refine ⟨rfl, ⟨HL.out.lt, HK.out, .slice (some ⟨g, 0, none⟩) m cp, ?_, ?_⟩, ?_⟩
  · refine R.drew.drew.congr ?_
    intro i hi
    rw [HY.out]
    have e1 : ¬ 8 = p := by omega
    have e2 : ¬ 9 = p := by omega
    have e3 : ¬ 10 = p := by omega
    have e4 : ¬ 11 = p := by omega
    rcases (by omega : i < 8 ∨ i = 8 ∨ i = 9 ∨ i = 10 ∨ i = 11) with h | rfl | rfl | rfl | rfl
    · have a1 : ¬ i = 8 := by omega
      have a2 : ¬ i = 9 := by omega
      have a3 : ¬ i = 10 := by omega
      have a4 : ¬ i = 11 := by omega
      by_cases h1 : i = p
      · subst h1; simp [LS.cell, LS.lock, LS.give, upd, h, a1, a2, a3, a4]
      · simp [LS.cell, LS.lock, LS.give, upd, h, h1, a1, a2, a3, a4]
    all_goals simp [LS.cell, LS.lock, LS.give, e1, e2, e3, e4]
  · have e : (S.give n p).bonds.length = m := by simp [LS.give, HN.out]
    have e2 : (flatB S.bonds).set (n * 2 + 1) (.bool true) = flatB (S.give n p).bonds := by
      rw [Nat.mul_comm]; exact flatB_set _ _ (by have := HN.out; omega) true
    rw [e, ← e2]
    exact ((ownsRow_setCell_below (ownsRow_setCell_below st.1 HL.out.lt _) HL.out.lt _).drew).drew
  · have kg : ∃ cs, w.heap[g]? = some (.cells cs TB (0, 0)) := by
      rcases HO.out.2 with ⟨e, _⟩ | ⟨g', cap, cur, e, _, hh, _⟩
      · simp at e
      · simp at e; obtain ⟨rfl, rfl⟩ := e; exact ⟨_, hh⟩
    obtain ⟨cs, hcs⟩ := kg
    have k0 := (Kept.refl TL TB b w).setCell (p := ⟨g, n * 2 + 1, none⟩) (by show b ≤ g; omega) hcs (.inr rfl) (.bool true)
    have r0 := HW.out.setOther (a := ⟨g, n * 2 + 1, none⟩) (by show b ≠ g; omega) (.bool true)
    exact (((k0.own r0 11 _).own (r0.set 11 _) p _).drew).drew
theorem give_none (b base p : Nat) (n : Int) (S : LS) (w : World) (h : Led w b base S) (hp : p < 8) (hn : n < 0 ∨ S.bonds.length ≤ n) :
    Calls Tryd.prog 9 #[.pointer (some ⟨b, 0, none⟩), .int .i64 n, .int .i64 p] w fun e w' => e = .returned (.iface 42 (.int .i64 4)) ∧ w = w' := by
  obtain ⟨x, hr, hown⟩ := h.row
  obtain ⟨m, hN⟩ : ∃ m, m = S.bonds.length := ⟨_, rfl⟩
  rw [← hN] at hown hn
  obtain ⟨ao, cp, rfl⟩ := (row_form hown)
  have hs := seen hr hp
  have c3 := hs.bonds
  have hm : m ≤ 200 := by rw [hN]; exact h.ok.n
  clear hs hr hown h hN
  by_cases h0 : n < 0
  · clear hn
    go_enter Tryd.func9, Tryd.ntmps9
    go_wp2_with (first
      | (go_at_call 18; refine (ready_ok b p _ hp).mono ?_; rintro e w' ⟨rfl, rfl⟩))
    go_returns
    exact ⟨rfl, rfl⟩
  · have h1 : (m : Int) ≤ n := by omega
    clear hn
    go_enter Tryd.func9, Tryd.ntmps9
    go_wp2_with (first
      | (go_at_call 18; refine (ready_ok b p _ hp).mono ?_; rintro e w' ⟨rfl, rfl⟩))
    go_returns
    exact ⟨rfl, rfl⟩
theorem give_twice (b base n p : Nat) (S : LS) (w : World) (h : Led w b base S) (hp : p < 8) (hn : n < S.bonds.length) (hg : (S.bond n).2 = true) :
    Calls Tryd.prog 9 #[.pointer (some ⟨b, 0, none⟩), .int .i64 n, .int .i64 p] w fun e w' => e = .returned (.iface 42 (.int .i64 41)) ∧ w = w' := by
  obtain ⟨x, hr, hown⟩ := h.row
  obtain ⟨m, hN⟩ : ∃ m, m = S.bonds.length := ⟨_, rfl⟩
  rw [← hN] at hown hn
  obtain ⟨g, cp, rfl, hbg⟩ : ∃ g cp, x = .slice (some ⟨g, 0, none⟩) m cp ∧ base ≤ g := by
    rcases hown.2 with ⟨_, h0⟩ | ⟨g, cap, cur, rfl, hb, _⟩
    · omega
    · exact ⟨_, _, rfl, hb⟩
  have hs := seen hr hp
  have c3 := hs.bonds
  have b1 : w.cell? ⟨g, n * 2 + 1, none⟩ = some (.bool true) := by rw [hown.cellAt (n * 2 + 1) (by omega), Nat.mul_comm, ← hg]; exact flatB_get1 _ _ (by omega)
  clear hs hr hown h hN hg
  go_enter Tryd.func9, Tryd.ntmps9
  go_wp2_with (first
    | (go_at_call 18; refine (ready_ok b p _ hp).mono ?_; rintro e w' ⟨rfl, rfl⟩))
  go_returns
  exact ⟨rfl, rfl⟩
theorem give_bad (b : Nat) (n p : Int) (w : World) (hp : p < 0 ∨ 8 ≤ p) :
    Calls Tryd.prog 9 #[.pointer (some ⟨b, 0, none⟩), .int .i64 n, .int .i64 p] w fun e w' => e = .returned (.iface 42 (.int .i64 2)) ∧ w = w' := by
  have H := Lib.hid hp
  clear hp
  go_enter Tryd.func9, Tryd.ntmps9
  go_wp2_with (go_at_call 18; refine (ready_bad b p _ H.out).mono ?_; rintro e w' ⟨rfl, rfl⟩)
  go_returns
  exact ⟨rfl, rfl⟩
theorem give_nil (n p : Int) (w : World) :
    Calls Tryd.prog 9 #[.pointer none, .int .i64 n, .int .i64 p] w fun e w' => e = .returned (.iface 42 (.int .i64 1)) ∧ w = w' := by
  go_enter Tryd.func9, Tryd.ntmps9
  go_wp2_with (go_at_call 18; refine (ready_nil p _).mono ?_; rintro e w' ⟨rfl, rfl⟩)
  go_returns
  exact ⟨rfl, rfl⟩
theorem lock_few (b base p : Nat) (v : Int) (S : LS) (w : World) (h : Led w b base S) (hp : p < 8) (h1 : S.bal p < v) :
    Calls Tryd.prog 8 #[.pointer (some ⟨b, 0, none⟩), .int .i64 p, .int .u64 v] w fun e w' => e = .returned (.tuple #[.int .i64 0, .iface 42 (.int .i64 21)]) ∧ w = w' := by
  have HL := Lib.hid h
  have H1 := Lib.hid h1
  clear h h1
  go_enter Tryd.func8, Tryd.ntmps8
  go_wp2_with (go_at_call 19; (with_reducible refine (take_few b base p v S _ HL.out hp H1.out).mono ?_); rintro e w' ⟨rfl, rfl⟩)
  go_returns
  exact ⟨rfl, rfl⟩
theorem lock_bad (b : Nat) (p v : Int) (w : World) (hp : p < 0 ∨ 8 ≤ p) :
    Calls Tryd.prog 8 #[.pointer (some ⟨b, 0, none⟩), .int .i64 p, .int .u64 v] w fun e w' => e = .returned (.tuple #[.int .i64 0, .iface 42 (.int .i64 2)]) ∧ w = w' := by
  have H1 := Lib.hid hp
  clear hp
  go_enter Tryd.func8, Tryd.ntmps8
  go_wp2_with (go_at_call 19; (with_reducible refine (take_bad b p v _ H1.out).mono ?_); rintro e w' ⟨rfl, rfl⟩)
  go_returns
  exact ⟨rfl, rfl⟩
theorem lock_nil (p v : Int) (w : World) :
    Calls Tryd.prog 8 #[.pointer none, .int .i64 p, .int .u64 v] w fun e w' => e = .returned (.tuple #[.int .i64 0, .iface 42 (.int .i64 1)]) ∧ w = w' := by
  go_enter Tryd.func8, Tryd.ntmps8
  go_wp2_with (go_at_call 19; (with_reducible refine (take_nil p v _).mono ?_); rintro e w' ⟨rfl, rfl⟩)
  go_returns
  exact ⟨rfl, rfl⟩
theorem payOut_few (b base p : Nat) (v : Int) (S : LS) (w : World) (h : Led w b base S) (hp : p < 8) (h1 : S.bal p < v) :
    Calls Tryd.prog 7 #[.pointer (some ⟨b, 0, none⟩), .int .i64 p, .int .u64 v] w fun e w' => e = .returned (.iface 42 (.int .i64 21)) ∧ w = w' := by
  have HL := Lib.hid h
  have H1 := Lib.hid h1
  clear h h1
  go_enter Tryd.func7, Tryd.ntmps7
  go_wp2_with (go_at_call 19; (with_reducible refine (take_few b base p v S _ HL.out hp H1.out).mono ?_); rintro e w' ⟨rfl, rfl⟩)
  go_returns
  exact ⟨rfl, rfl⟩
theorem payOut_bad (b : Nat) (p v : Int) (w : World) (hp : p < 0 ∨ 8 ≤ p) :
    Calls Tryd.prog 7 #[.pointer (some ⟨b, 0, none⟩), .int .i64 p, .int .u64 v] w fun e w' => e = .returned (.iface 42 (.int .i64 2)) ∧ w = w' := by
  have H1 := Lib.hid hp
  clear hp
  go_enter Tryd.func7, Tryd.ntmps7
  go_wp2_with (go_at_call 19; (with_reducible refine (take_bad b p v _ H1.out).mono ?_); rintro e w' ⟨rfl, rfl⟩)
  go_returns
  exact ⟨rfl, rfl⟩
theorem payOut_nil (p v : Int) (w : World) :
    Calls Tryd.prog 7 #[.pointer none, .int .i64 p, .int .u64 v] w fun e w' => e = .returned (.iface 42 (.int .i64 1)) ∧ w = w' := by
  go_enter Tryd.func7, Tryd.ntmps7
  go_wp2_with (go_at_call 19; (with_reducible refine (take_nil p v _).mono ?_); rintro e w' ⟨rfl, rfl⟩)
  go_returns
  exact ⟨rfl, rfl⟩
end Go.Proofs.YtpphahaphncpaaaDoor
