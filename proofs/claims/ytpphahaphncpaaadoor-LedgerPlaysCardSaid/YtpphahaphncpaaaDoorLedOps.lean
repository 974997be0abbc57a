/-
  A script of calls as it comes in; the ledger beside the list of all that happened, plain.
-/
import Derived.Test.YtpphahaphncpaaaDoorLedDo
import Derived.Deep.Slices
import Derived.ChangeSame
import Derived.OpenShut
set_option linter.unusedVariables false
set_option linter.unusedSimpArgs false
namespace Go.Proofs.YtpphahaphncpaaaDoor
open Go.RowKit Go.ChangeShapes Go.WideShapes Go.Deep

/-- A script of len calls. -/
def IsOps (w : World) (a : Option Addr) (len : Nat) (z : Nat → Ev) : Prop :=
  ∀ i, i < len → ∃ b off, a = some ⟨b, off, none⟩ ∧ b < w.heap.size ∧ (∀ j, j < 4 → w.cell? ⟨b, off + (i * 4 + j), none⟩ = (z i).cells[j]?) ∧ 0 ≤ (z i).v ∧ (z i).v ≤ 18446744073709551615
abbrev TOS : TypeId := 22
instance : Inhabited Ev := ⟨ev0⟩
set_option maxRecDepth 100000 in
theorem ops_fields {H : Type} {enc : TypeId × Value → H} {w : World} {base : Nat} {sp : Nat → Bool} {held : Bool} {n : Nat} {cs : List Value} {x : DataW H × List MemPlace} (h : DataW.trod enc Tryd.prog w base sp held n 32 cs = some x) :
    ∃ e : Ev, cs = e.cells ∧ 0 ≤ e.v ∧ e.v ≤ 18446744073709551615 := by
  obtain ⟨xs, k, hk, _, hlen, hxl, hf⟩ := DataW.trod_struct Tryd.underlying32 h
  have hc4 : cs.length = 4 := hlen.trans (by kernel_rfl)
  have hx4 : xs.length = 4 := hxl.trans (by rfl)
  match cs, hc4, xs, hx4 with
  | [v0, v1, v2, v3], _, [y0, y1, y2, y3], _ =>
    have g0 := hf 0 _ rfl
    have g1 := hf 1 _ rfl
    have g2 := hf 2 _ rfl
    have g3 := hf 3 _ rfl
    have ci : Tryd.prog.cellsOf 3 = 1 := by kernel_rfl
    have cu : Tryd.prog.cellsOf 30 = 1 := by kernel_rfl
    simp [ci, cu] at g0 g1 g2 g3
    obtain ⟨n0, e0, _, _⟩ := DataW.trod_int Tryd.underlying3 g0
    obtain ⟨n1, e1, _, _⟩ := DataW.trod_int Tryd.underlying3 g1
    obtain ⟨n2, e2, _, _⟩ := DataW.trod_int Tryd.underlying3 g2
    obtain ⟨n3, e3, _, w3⟩ := DataW.trod_int Tryd.underlying30 g3
    simp at e0 e1 e2 e3
    subst e0; subst e1; subst e2; subst e3
    exact ⟨⟨n0, n1, n2, n3⟩, rfl, (u64_wf w3).1, (u64_wf w3).2⟩
set_option maxRecDepth 100000 in
theorem ops_open {H : Type} {enc : TypeId × Value → H} {w : World} {base fuel : Nat} {held : Bool} {a : Option Addr} {len cap : Nat} {x : DataW H × List MemPlace}
    (h : DataW.trod enc Tryd.prog w base (fun _ => true) held fuel TOS [.slice a len cap] = some x) : len ≤ cap ∧ cap ≤ maxLen ∧ ∃ z, IsOps w a len z := by
  have ce : Tryd.prog.cellsOf 32 = 4 := by kernel_rfl
  rcases open_slice Tryd.underlying22 h with ⟨h0, _⟩ | ⟨a', len', cap', m, n, D, Pl, hcs, _, hl, hm, hmm, _, hx⟩
  · simp at h0
    obtain ⟨rfl, rfl, rfl⟩ := h0
    exact ⟨Nat.le_refl _, Nat.zero_le _, fun _ => ev0, fun i hi => by omega⟩
  · simp at hcs
    obtain ⟨rfl, rfl, rfl⟩ := hcs
    refine ⟨hl, hm, ?_⟩
    have hlm : len ≤ m := by rw [hmm]; simp; exact hl
    obtain ⟨b, off, sp⟩ := a'
    have hs : 0 < len → sp = none := by
      intro h0
      obtain ⟨cs', h1, h2⟩ := hx 0 (by omega)
      rw [ce] at h1
      obtain ⟨e, rfl, _, _⟩ := ops_fields h2
      obtain ⟨_, _, hcell⟩ := World.cells?_some h1
      have c0 := hcell 0 (by omega)
      have e0 : ∀ q : Addr, q.add 0 = q := fun q => by simp [Addr.add]
      rw [Nat.zero_mul, e0, e0] at c0
      exact World.cell?_spot c0
    have each : ∀ i, i < len → ∃ e : Ev, ∃ b' off', (⟨b, off, sp⟩ : Addr) = ⟨b', off', none⟩ ∧ b' < w.heap.size ∧ (∀ j, j < 4 → w.cell? ⟨b', off' + (i * 4 + j), none⟩ = e.cells[j]?) ∧ 0 ≤ e.v ∧ e.v ≤ 18446744073709551615 := by
      intro i hi
      have hs := hs (by omega)
      subst hs
      obtain ⟨cs', h1, h2⟩ := hx i (by omega)
      rw [ce] at h1
      obtain ⟨e, rfl, hv0, hv1⟩ := ops_fields h2
      obtain ⟨_, _, hcell⟩ := World.cells?_some h1
      have c0 := hcell 0 (by omega)
      have ea : ∀ j, ((⟨b, off, none⟩ : Addr).add (i * 4)).add j = ⟨b, off + (i * 4 + j), none⟩ := fun j => by rw [add_add, add_plain]
      refine ⟨e, b, off, rfl, ?_, fun j hj => by rw [← ea]; exact hcell j hj, hv0, hv1⟩
      rw [ea] at c0
      rcases Nat.lt_or_ge b w.heap.size with h | h
      · exact h
      · simp [World.cell?, Array.getElem?_eq_none h, Ev.cells] at c0
    obtain ⟨z, hz⟩ := choose_lt each
    exact ⟨z, fun i hi => by obtain ⟨b', off', h1, h2⟩ := hz i hi; exact ⟨b', off', congrArg some h1, h2⟩⟩

/-! The ledger beside the list. -/
structure Rel (S : LS) (es : List Ev) : Prop where
  ev : Evs es
  inn : S.inn = sumE es 1 (-1)
  out : S.out = sumE es 2 (-1)
  lk : S.lk = sumE es 3 (-1) - sumE es 4 (-1)
  bal : ∀ p : Nat, p < 8 → S.bal p = balE es p
  tot : S.inn = S.out + S.lk + sum8 S.bal
  lu : S.lk = unp S.bonds
  nn : ∀ i, i < 8 → 0 ≤ S.bal i
  on : 0 ≤ S.out
  im : S.inn ≤ 281474976710656
  bv : ∀ n, 0 ≤ (S.bonds.getD n (0, false)).1 ∧ (S.bonds.getD n (0, false)).1 ≤ 281474976710656
  cnt : ∀ b, (scan b es).1 = S.bonds.length
  bond : ∀ n : Nat, n < S.bonds.length → (scan n es).2.1 = (S.bond n).1 ∧ (scan n es).2.2 = (S.bond n).2
  fut : ∀ n : Nat, S.bonds.length ≤ n → (scan n es).2.2 = false
variable {S : LS} {es : List Ev}
theorem Rel.l0 (h : Rel S es) : 0 ≤ S.lk := by rw [h.lu]; exact unp_nn _ fun j => (h.bv j).1
theorem Rel.bm (h : Rel S es) (i : Nat) (hi : i < 8) : S.bal i ≤ 281474976710656 := by
  have := h.tot; have := h.l0; have := h.on; have := h.im
  have n0 := h.nn 0 (by omega); have n1 := h.nn 1 (by omega); have n2 := h.nn 2 (by omega); have n3 := h.nn 3 (by omega)
  have n4 := h.nn 4 (by omega); have n5 := h.nn 5 (by omega); have n6 := h.nn 6 (by omega); have n7 := h.nn 7 (by omega)
  have e : sum8 S.bal = S.bal 0 + S.bal 1 + S.bal 2 + S.bal 3 + S.bal 4 + S.bal 5 + S.bal 6 + S.bal 7 := rfl
  rcases (by omega : i = 0 ∨ i = 1 ∨ i = 2 ∨ i = 3 ∨ i = 4 ∨ i = 5 ∨ i = 6 ∨ i = 7) with rfl | rfl | rfl | rfl | rfl | rfl | rfl | rfl <;> omega
theorem Rel.ok (h : Rel S es) : S.Ok := by
  have h1 := h.tot; have h2 := h.l0; have h3 := h.on; have h4 := h.im
  have n0 := h.nn 0 (by omega); have n1 := h.nn 1 (by omega); have n2 := h.nn 2 (by omega); have n3 := h.nn 3 (by omega)
  have n4 := h.nn 4 (by omega); have n5 := h.nn 5 (by omega); have n6 := h.nn 6 (by omega); have n7 := h.nn 7 (by omega)
  have e : sum8 S.bal = S.bal 0 + S.bal 1 + S.bal 2 + S.bal 3 + S.bal 4 + S.bal 5 + S.bal 6 + S.bal 7 := rfl
  refine ⟨fun i hi => ⟨h.nn i hi, h.bm i hi⟩, ⟨by omega, h4⟩, ⟨h3, by omega⟩, ⟨h2, by omega⟩, h.bv, ?_⟩
  have := scan_le 0 es; have := h.ev.n; have := h.cnt 0; omega
theorem Rel.zero : Rel LS.zero [] := by
  refine ⟨⟨by simp, fun e he => by simp at he⟩, rfl, rfl, rfl, fun p _ => rfl, rfl, rfl, fun i _ => by simp [LS.zero], by decide, by decide, fun n => by simp [LS.zero], fun b => rfl, fun n hn => ?_, fun n _ => rfl⟩
  simp [LS.zero] at hn
theorem balE_snoc (es : List Ev) (e : Ev) (q : Int) (hq : 0 ≤ q) : balE (es ++ [e]) q = balE es q + (if e.p = q then (if e.k = 1 then e.v else if e.k = 4 then e.v else if e.k = 2 then - e.v else if e.k = 3 then - e.v else 0) else 0) := by
  unfold balE
  simp only [sumE_snoc]
  have hq2 : ¬ q < 0 := by omega
  by_cases hp : e.p = q
  · rw [if_pos hp]
    by_cases h1 : e.k = 1
    · simp [hit, h1, hp]; omega
    · by_cases h4 : e.k = 4
      · simp [hit, h4, hp]; omega
      · by_cases h2 : e.k = 2
        · simp [hit, h2, hp]; omega
        · by_cases h3 : e.k = 3
          · simp [hit, h3, hp]; omega
          · simp [hit, h1, h2, h3, h4]
  · rw [if_neg hp]; simp [hit, hp, hq2]
theorem upd_bal (h : Rel S es) (p q : Nat) (v : Int) (hq : q < 8) : upd S.bal p (S.bal p + v) q = balE es q + (if p = q then v else 0) := by
  have := h.bal q hq
  unfold upd
  by_cases e : q = p
  · subst e; rw [if_pos rfl, if_pos rfl, this]
  · rw [if_neg e, if_neg (fun e2 => e e2.symm), this]; omega
theorem castp (p q : Nat) : ((p : Int) = (q : Int)) ↔ p = q := by omega
theorem Rel.payIn (h : Rel S es) (p : Nat) (b v : Int) (hn : es.length < 150) (hp : p < 8) (h0 : 0 ≤ v) (h1 : S.inn + v ≤ 281474976710656) : Rel (S.payIn p v) (es ++ [⟨1, p, b, v⟩]) := by
  have hi := h.inn
  have hinn : 0 ≤ S.inn := by rw [hi]; exact (h.ev.sum 1 (-1)).1
  refine ⟨evs_snoc h.ev hn _ ⟨h0, by show v ≤ _; omega⟩, ?_, ?_, ?_, fun q hq => ?_, ?_, h.lu, fun i hi => ?_, h.on, h1, h.bv, fun b' => ?_, fun n hn => ?_, fun n hn => ?_⟩
  · rw [sumE_snoc]; simp [hit]; exact congrArg (· + v) hi
  · rw [sumE_snoc]; simp [hit]; exact h.out
  · rw [sumE_snoc, sumE_snoc]; simp [hit]; exact h.lk
  · rw [balE_snoc _ _ _ (by omega)]
    show upd S.bal p (S.bal p + v) q = _
    rw [upd_bal h _ _ _ hq]; simp [castp]
  · show S.inn + v = S.out + S.lk + sum8 (upd S.bal p (S.bal p + v))
    rw [sum8_upd _ _ _ hp]; have := h.tot; omega
  · show 0 ≤ upd S.bal p (S.bal p + v) i
    have := h.nn i hi; have := h.nn p hp; unfold upd; split <;> omega
  · rw [scan_snoc]; show (scan1 b' (scan b' es) _).1 = S.bonds.length; simp [scan1]; exact h.cnt b'
  · rw [scan_snoc]; have := h.bond n hn; simp [scan1]; exact this
  · rw [scan_snoc]; have := h.fut n hn; simp [scan1]; exact this
theorem Rel.payOut (h : Rel S es) (p : Nat) (b v : Int) (hn : es.length < 150) (hp : p < 8) (h0 : 0 ≤ v) (h1 : v ≤ S.bal p) : Rel (S.payOut p v) (es ++ [⟨2, p, b, v⟩]) := by
  have hbm := h.bm p hp
  have eu : S.bal p - v = S.bal p + (-v) := by omega
  refine ⟨evs_snoc h.ev hn _ ⟨h0, by show v ≤ _; omega⟩, ?_, ?_, ?_, fun q hq => ?_, ?_, h.lu, fun i hi => ?_, ?_, h.im, h.bv, fun b' => ?_, fun n hn => ?_, fun n hn => ?_⟩
  · rw [sumE_snoc]; simp [hit]; exact h.inn
  · rw [sumE_snoc]; simp [hit]; exact congrArg (· + v) h.out
  · rw [sumE_snoc, sumE_snoc]; simp [hit]; exact h.lk
  · rw [balE_snoc _ _ _ (by omega)]
    show upd S.bal p (S.bal p - v) q = _
    rw [eu, upd_bal h _ _ _ hq]; simp [castp]
  · show S.inn = (S.out + v) + S.lk + sum8 (upd S.bal p (S.bal p - v))
    rw [eu, sum8_upd _ _ _ hp]; have := h.tot; omega
  · show 0 ≤ upd S.bal p (S.bal p - v) i
    have := h.nn i hi; unfold upd; split <;> omega
  · show 0 ≤ S.out + v; have := h.on; omega
  · rw [scan_snoc]; show (scan1 b' (scan b' es) _).1 = S.bonds.length; simp [scan1]; exact h.cnt b'
  · rw [scan_snoc]; have := h.bond n hn; simp [scan1]; exact this
  · rw [scan_snoc]; have := h.fut n hn; simp [scan1]; exact this
theorem unp_snoc (bs : List (Int × Bool)) (v : Int) : unp (bs ++ [(v, false)]) = unp bs + v := by simp [unp]
theorem getD_snoc (bs : List (Int × Bool)) (x : Int × Bool) (n : Nat) : (bs ++ [x]).getD n (0, false) = if n < bs.length then bs.getD n (0, false) else if n = bs.length then x else (0, false) := by
  rw [List.getD_eq_getElem?_getD, List.getD_eq_getElem?_getD]
  split
  · rename_i h; rw [List.getElem?_append_left h]
  · rename_i h
    rw [List.getElem?_append_right (by omega)]
    split
    · rename_i h2; subst h2; simp
    · rw [List.getElem?_eq_none (by simp; omega)]; rfl
theorem Rel.lock (h : Rel S es) (p : Nat) (b v : Int) (hn : es.length < 150) (hp : p < 8) (h0 : 0 ≤ v) (h1 : v ≤ S.bal p) : Rel (S.lock p v) (es ++ [⟨3, p, b, v⟩]) := by
  have hbm := h.bm p hp
  have eu : S.bal p - v = S.bal p + (-v) := by omega
  refine ⟨evs_snoc h.ev hn _ ⟨h0, by show v ≤ _; omega⟩, ?_, ?_, ?_, fun q hq => ?_, ?_, ?_, fun i hi => ?_, h.on, h.im, fun n => ?_, fun b' => ?_, fun n hn => ?_, fun n hn => ?_⟩
  · rw [sumE_snoc]; simp [hit]; exact h.inn
  · rw [sumE_snoc]; simp [hit]; exact h.out
  · rw [sumE_snoc, sumE_snoc]; simp [hit]; show S.lk + v = _; have := h.lk; omega
  · rw [balE_snoc _ _ _ (by omega)]
    show upd S.bal p (S.bal p - v) q = _
    rw [eu, upd_bal h _ _ _ hq]; simp [castp]
  · show S.inn = S.out + (S.lk + v) + sum8 (upd S.bal p (S.bal p - v))
    rw [eu, sum8_upd _ _ _ hp]; have := h.tot; omega
  · show S.lk + v = unp (S.bonds ++ [(v, false)]); rw [unp_snoc, h.lu]
  · show 0 ≤ upd S.bal p (S.bal p - v) i
    have := h.nn i hi; unfold upd; split <;> omega
  · show 0 ≤ ((S.bonds ++ [(v, false)]).getD n (0, false)).1 ∧ ((S.bonds ++ [(v, false)]).getD n (0, false)).1 ≤ _
    rw [getD_snoc]
    split
    · exact h.bv n
    · split
      · exact ⟨h0, by show v ≤ _; omega⟩
      · decide
  · rw [scan_snoc]; show (scan1 b' (scan b' es) _).1 = (S.bonds ++ [(v, false)]).length; simp [scan1]; exact h.cnt b'
  · have hc := h.cnt n
    rw [scan_snoc]
    have hn' : n < S.bonds.length + 1 := by have : (S.lock p v).bonds.length = S.bonds.length + 1 := (by simp [LS.lock]); omega
    show _ = ((S.bonds ++ [(v, false)]).getD n (0, false)).1 ∧ _ = ((S.bonds ++ [(v, false)]).getD n (0, false)).2
    rw [getD_snoc]
    by_cases hlt : n < S.bonds.length
    · rw [if_pos hlt]
      have := h.bond n hlt
      have hne : ¬ ((S.bonds.length : Int) = (n : Int)) := by omega
      simp [scan1, hc, hne]; simpa [LS.bond, List.getD_eq_getElem?_getD] using this
    · have hen : n = S.bonds.length := by omega
      rw [if_neg hlt, if_pos hen]
      have hng : (scan n es).2.2 = false := h.fut n (by omega)
      have hc2 : (scan (n : Int) es).1 = n := by rw [hc]; exact hen.symm
      exact ⟨by simp [scan1, hc2], by simp [scan1]; exact hng⟩
  · rw [scan_snoc]
    have := h.fut n (by have : (S.lock p v).bonds.length = S.bonds.length + 1 := (by simp [LS.lock]); omega)
    simp [scan1]; exact this
theorem Rel.give (h : Rel S es) (n p : Nat) (hn : es.length < 150) (hp : p < 8) (hl : n < S.bonds.length) (hg : (S.bond n).2 = false) : Rel (S.give n p) (es ++ [⟨4, p, n, (S.bond n).1⟩]) := by
  have hbv := h.bv n
  have hle : (S.bond n).1 ≤ S.lk := by
    rw [h.lu]
    have e := unp_set S.bonds n hl hg 0
    have e2 := unp_nn (S.bonds.set n (0, true)) (fun j => by
      by_cases e : n = j
      · subst e; rw [getD_set_eq _ _ _ hl]; decide
      · rw [getD_set_ne _ _ _ _ e]; exact (h.bv j).1)
    rw [e] at e2
    show (S.bonds.getD n (0, false)).1 ≤ _; omega
  refine ⟨evs_snoc h.ev hn _ hbv, ?_, ?_, ?_, fun q hq => ?_, ?_, ?_, fun i hi => ?_, h.on, h.im, fun m => ?_, fun b' => ?_, fun m hm => ?_, fun m hm => ?_⟩
  · rw [sumE_snoc]; simp [hit]; exact h.inn
  · rw [sumE_snoc]; simp [hit]; exact h.out
  · rw [sumE_snoc, sumE_snoc]; simp [hit]; show S.lk - (S.bond n).1 = _; have := h.lk; omega
  · rw [balE_snoc _ _ _ (by omega)]
    show upd S.bal p (S.bal p + (S.bond n).1) q = _
    rw [upd_bal h _ _ _ hq]; simp [castp]
  · show S.inn = S.out + (S.lk - (S.bond n).1) + sum8 (upd S.bal p (S.bal p + (S.bond n).1))
    rw [sum8_upd _ _ _ hp]; have := h.tot; omega
  · show S.lk - (S.bond n).1 = unp (S.bonds.set n _)
    rw [unp_set _ _ hl hg, h.lu]; rfl
  · show 0 ≤ upd S.bal p (S.bal p + (S.bond n).1) i
    have := h.nn i hi; have := h.nn p hp; have : 0 ≤ (S.bond n).1 := hbv.1
    unfold upd; split <;> omega
  · show 0 ≤ ((S.bonds.set n ((S.bonds.getD n (0, false)).1, true)).getD m (0, false)).1 ∧ ((S.bonds.set n ((S.bonds.getD n (0, false)).1, true)).getD m (0, false)).1 ≤ _
    rw [getD_set_fst _ _ _ hl]; exact h.bv m
  · rw [scan_snoc]; show (scan1 b' (scan b' es) _).1 = (S.bonds.set n _).length; simp [scan1]; exact h.cnt b'
  · have hm' : m < S.bonds.length := by have : (S.give n p).bonds.length = S.bonds.length := List.length_set; omega
    rw [scan_snoc]
    have hb := h.bond m hm'
    show _ = ((S.bonds.set n ((S.bonds.getD n (0, false)).1, true)).getD m (0, false)).1 ∧ _ = ((S.bonds.set n ((S.bonds.getD n (0, false)).1, true)).getD m (0, false)).2
    by_cases e : n = m
    · subst e
      rw [getD_set_eq _ _ _ hl]
      simp [scan1]; exact hb.1
    · rw [getD_set_ne _ _ _ _ e]
      have e2 : ¬ (n : Int) = (m : Int) := by omega
      have e3 : ((n : Int) == (m : Int)) = false := by simpa using e2
      simp [scan1, e2, e3]; simpa [LS.bond, List.getD_eq_getElem?_getD] using hb
  · have hm' : S.bonds.length ≤ m := by have : (S.give n p).bonds.length = S.bonds.length := List.length_set; omega
    rw [scan_snoc]
    have e : ¬ n = m := by omega
    have := h.fut m hm'
    simp [scan1]; exact ⟨this, by omega⟩
end Go.Proofs.YtpphahaphncpaaaDoor
