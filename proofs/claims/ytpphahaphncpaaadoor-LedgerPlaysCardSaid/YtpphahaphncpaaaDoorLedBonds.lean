/-
  LedgerBonds, the plain law: what the ledger holds behind each of its calls; what a world keeps.
-/
import Derived.Test.YtpphahaphncpaaaDoorLedFixed
set_option linter.unusedVariables false
set_option linter.unusedSimpArgs false
namespace Go.Proofs.YtpphahaphncpaaaDoor
open Go.RowKit

/-- Sums of at most 20 numbers below 2^40. -/
structure Vs (vs : List Int) : Prop where
  len : vs.length ≤ 20
  b : ∀ v ∈ vs, 0 ≤ v ∧ v ≤ 1099511627775
theorem sum_bd (vs : List Int) (M : Int) (hM : 0 ≤ M) (h : ∀ v ∈ vs, 0 ≤ v ∧ v ≤ M) : 0 ≤ vs.sum ∧ vs.sum ≤ vs.length * M := by
  induction vs with
  | nil => simp
  | cons x xs ih =>
    have := ih (fun v hv => h v (List.mem_cons_of_mem _ hv))
    have hx := h x (List.mem_cons_self ..)
    simp only [List.sum_cons, List.length_cons, Int.natCast_add, Int.add_mul]
    omega
theorem Vs.take {vs : List Int} (h : Vs vs) (k : Nat) : 0 ≤ (vs.take k).sum ∧ (vs.take k).sum ≤ 21990232555520 := by
  have := sum_bd (vs.take k) 1099511627775 (by decide) (fun v hv => h.b v (List.mem_of_mem_take hv))
  have hl : (vs.take k).length ≤ 20 := by have := h.len; simp; omega
  have : ((vs.take k).length : Int) * 1099511627775 ≤ 20 * 1099511627775 := Int.mul_le_mul_of_nonneg_right (by omega) (by decide)
  omega
theorem Vs.at {vs : List Int} (h : Vs vs) (k : Nat) : 0 ≤ vs.getD k 0 ∧ vs.getD k 0 ≤ 1099511627775 := by
  rcases Nat.lt_or_ge k vs.length with hk | hk
  · rw [List.getD_eq_getElem?_getD, List.getElem?_eq_getElem hk]; exact h.b _ (List.getElem_mem _)
  · rw [List.getD_eq_getElem?_getD, List.getElem?_eq_none hk]; decide
theorem sum_take_succ (vs : List Int) (k : Nat) (hk : k < vs.length) : (vs.take (k + 1)).sum = (vs.take k).sum + vs.getD k 0 := by
  rw [List.take_succ_eq_append_getElem hk, List.sum_append, List.getD_eq_getElem?_getD, List.getElem?_eq_getElem hk]; simp
/-- Behind k bonds: no balance, all locked. -/
def LA (vs : List Int) (k : Nat) : LS := ⟨fun _ => 0, (vs.take k).sum, 0, (vs.take k).sum, (vs.take k).map fun v => (v, false)⟩
theorem LA_zero (vs : List Int) : LA vs 0 = LS.zero := by simp [LA, LS.zero]
theorem LA_step (vs : List Int) (k p : Nat) (hk : k < vs.length) : ((LA vs k).payIn p (vs.getD k 0)).lock p (vs.getD k 0) = LA vs (k + 1) := by
  have e := sum_take_succ vs k hk
  have e2 : (vs.take (k + 1)).map (fun v => ((v, false) : Int × Bool)) = (vs.take k).map (fun v => (v, false)) ++ [(vs.getD k 0, false)] := by
    rw [List.take_succ_eq_append_getElem hk, List.map_append, List.getD_eq_getElem?_getD, List.getElem?_eq_getElem hk]; rfl
  unfold LA LS.payIn LS.lock
  rw [e, e2]
  congr 1
  funext i
  by_cases h : i = p <;> simp [upd, h]
theorem LA_bond (vs : List Int) (k n : Nat) : ((LA vs k).bonds.getD n (0, false)) = ((vs.take k).getD n 0, false) := by
  show ((vs.take k).map (fun v => ((v, false) : Int × Bool))).getD n (0, false) = _
  rw [List.getD_eq_getElem?_getD, List.getElem?_map, List.getD_eq_getElem?_getD]
  cases (vs.take k)[n]? <;> rfl
theorem Vs.bond {vs : List Int} (h : Vs vs) (k n : Nat) : 0 ≤ ((LA vs k).bonds.getD n (0, false)).1 ∧ ((LA vs k).bonds.getD n (0, false)).1 ≤ 281474976710656 := by
  rw [LA_bond]
  have : Vs (vs.take k) := ⟨by have := h.len; simp; omega, fun v hv => h.b v (List.mem_of_mem_take hv)⟩
  have := this.at n
  exact ⟨this.1, by show (vs.take k).getD n 0 ≤ _; omega⟩
theorem LA_ok {vs : List Int} (h : Vs vs) (k : Nat) : (LA vs k).Ok := by
  have ht := h.take k
  refine ⟨fun i _ => by simp [LA], ?_, by simp [LA], ?_, fun n => h.bond k n, ?_⟩
  · show 0 ≤ (vs.take k).sum ∧ (vs.take k).sum ≤ _; omega
  · show 0 ≤ (vs.take k).sum ∧ (vs.take k).sum ≤ _; omega
  · have := h.len; simp [LA]; omega
theorem LAin_ok {vs : List Int} (h : Vs vs) (k p : Nat) : ((LA vs k).payIn p (vs.getD k 0)).Ok := by
  have ht := h.take k
  have hv := h.at k
  refine ⟨fun i _ => ?_, ?_, by simp [LA, LS.payIn], ?_, fun n => h.bond k n, ?_⟩
  · show 0 ≤ upd (fun _ => 0) p (0 + vs.getD k 0) i ∧ upd (fun _ => 0) p (0 + vs.getD k 0) i ≤ _
    unfold upd; split
    · omega
    · show (0 : Int) ≤ 0 ∧ (0 : Int) ≤ 281474976710656; decide
  · show 0 ≤ (vs.take k).sum + vs.getD k 0 ∧ (vs.take k).sum + vs.getD k 0 ≤ _; omega
  · show 0 ≤ (vs.take k).sum ∧ (vs.take k).sum ≤ _; omega
  · have := h.len; simp [LA, LS.payIn]; omega

/-! All bonds given. -/
def unp (bs : List (Int × Bool)) : Int := (bs.map fun x => if x.2 then 0 else x.1).sum
def cntT (bs : List (Int × Bool)) : Nat := (bs.map fun x => if x.2 then 1 else 0).sum
def sum8 (f : Nat → Int) : Int := f 0 + f 1 + f 2 + f 3 + f 4 + f 5 + f 6 + f 7
theorem sum8_upd (f : Nat → Int) (p : Nat) (v : Int) (hp : p < 8) : sum8 (upd f p (f p + v)) = sum8 f + v := by
  rcases (by omega : p = 0 ∨ p = 1 ∨ p = 2 ∨ p = 3 ∨ p = 4 ∨ p = 5 ∨ p = 6 ∨ p = 7) with rfl | rfl | rfl | rfl | rfl | rfl | rfl | rfl <;> simp [sum8, upd] <;> omega
theorem unp_set (bs : List (Int × Bool)) (n : Nat) (hn : n < bs.length) (hg : (bs.getD n (0, false)).2 = false) (v : Int) : unp (bs.set n (v, true)) = unp bs - (bs.getD n (0, false)).1 := by
  induction bs generalizing n with
  | nil => simp at hn
  | cons x xs ih =>
    cases n with
    | zero => simp at hg; simp [unp, hg]; omega
    | succ n =>
      have := ih n (by simpa using hn) (by simpa using hg)
      simp [unp] at this ⊢; omega
theorem cnt_set (bs : List (Int × Bool)) (n : Nat) (hn : n < bs.length) (hg : (bs.getD n (0, false)).2 = false) (v : Int) : cntT (bs.set n (v, true)) = cntT bs + 1 := by
  induction bs generalizing n with
  | nil => simp at hn
  | cons x xs ih =>
    cases n with
    | zero => simp at hg; simp [cntT, hg]; omega
    | succ n =>
      have := ih n (by simpa using hn) (by simpa using hg)
      simp [cntT] at this ⊢; omega
theorem cnt_le (bs : List (Int × Bool)) : cntT bs ≤ bs.length := by
  induction bs with
  | nil => simp [cntT]
  | cons x xs ih => simp [cntT] at ih ⊢; split <;> omega
theorem unp_all (bs : List (Int × Bool)) (h : cntT bs = bs.length) : unp bs = 0 := by
  induction bs with
  | nil => rfl
  | cons x xs ih =>
    have hl := cnt_le xs
    cases hx : x.2
    · simp [cntT, hx] at h hl; omega
    · have : cntT xs = xs.length := by simp [cntT, hx] at h ⊢; omega
      have := ih this
      simp [unp, hx] at this ⊢; exact this
theorem unp_nn (bs : List (Int × Bool)) (h : ∀ j, 0 ≤ (bs.getD j (0, false)).1) : 0 ≤ unp bs := by
  induction bs with
  | nil => simp [unp]
  | cons x xs ih =>
    have h0 := h 0
    have := ih (fun j => by simpa using h (j + 1))
    simp [unp] at this h0 ⊢; split <;> omega
theorem getD_set_ne (bs : List (Int × Bool)) (n j : Nat) (x : Int × Bool) (h : n ≠ j) : (bs.set n x).getD j (0, false) = bs.getD j (0, false) := by
  rw [List.getD_eq_getElem?_getD, List.getElem?_set_ne h, List.getD_eq_getElem?_getD]
theorem getD_set_eq (bs : List (Int × Bool)) (n : Nat) (x : Int × Bool) (h : n < bs.length) : (bs.set n x).getD n (0, false) = x := by
  rw [List.getD_eq_getElem?_getD, List.getElem?_set_self h]; rfl
theorem getD_set_fst (bs : List (Int × Bool)) (n j : Nat) (h : n < bs.length) : ((bs.set n ((bs.getD n (0, false)).1, true)).getD j (0, false)).1 = (bs.getD j (0, false)).1 := by
  by_cases e : n = j
  · subst e; rw [getD_set_eq _ _ _ h]
  · rw [getD_set_ne _ _ _ _ e]

structure LB (vs : List Int) (k : Nat) (kk : Nat → Nat) (S : LS) : Prop where
  inn : S.inn = vs.sum
  out : S.out = 0
  len : S.bonds.length = vs.length
  fst : ∀ j, (S.bonds.getD j (0, false)).1 = vs.getD j 0
  flag : ∀ j, j < vs.length → ((S.bonds.getD j (0, false)).2 = true ↔ ∃ i, i < k ∧ kk i = j)
  lk : S.lk = unp S.bonds
  cnt : cntT S.bonds = k
  tot : sum8 S.bal + S.lk = vs.sum
  nn : ∀ i, i < 8 → 0 ≤ S.bal i
theorem unp_LA (l : List Int) : unp (l.map fun v => (v, false)) = l.sum := by
  induction l with
  | nil => rfl
  | cons x xs ih => simp [unp] at ih ⊢; rw [ih]
theorem cnt_LA (l : List Int) : cntT (l.map fun v => (v, false)) = 0 := by
  induction l with
  | nil => rfl
  | cons x xs ih => simp [cntT] at ih ⊢; exact ih
theorem LB.start (vs : List Int) (kk : Nat → Nat) : LB vs 0 kk (LA vs vs.length) := by
  refine ⟨by simp [LA], rfl, by simp [LA], fun j => by rw [LA_bond, List.take_length], fun j _ => ?_, ?_, ?_, by simp [LA, sum8], fun _ _ => by simp [LA]⟩
  · rw [LA_bond]; simp
  · show _ = unp ((vs.take vs.length).map fun v => (v, false)); rw [unp_LA]; rfl
  · show cntT ((vs.take vs.length).map fun v => (v, false)) = 0; rw [cnt_LA]
variable {vs : List Int} {k : Nat} {kk : Nat → Nat} {S : LS}
theorem LB.fresh (h : LB vs k kk S) (hk : kk k < vs.length) (hd : ∀ i, i < k → kk i ≠ kk k) : (S.bond (kk k)).2 = false := by
  cases e : (S.bond (kk k)).2
  · rfl
  · obtain ⟨i, hi, e2⟩ := (h.flag _ hk).1 e; exact absurd e2 (hd i hi)
theorem LB.next (h : LB vs k kk S) (hk : kk k < vs.length) (hd : ∀ i, i < k → kk i ≠ kk k) (hv : Vs vs) {p : Nat} (hp : p < 8) : LB vs (k + 1) kk (S.give (kk k) p) := by
  have hf := h.fresh hk hd
  have hl : kk k < S.bonds.length := by rw [h.len]; exact hk
  have hb : 0 ≤ (S.bond (kk k)).1 := by rw [show (S.bond (kk k)).1 = vs.getD (kk k) 0 from h.fst _]; exact (hv.at _).1
  refine ⟨h.inn, h.out, by show (S.bonds.set _ _).length = _; rw [List.length_set]; exact h.len, fun j => ?_, fun j hj => ?_, ?_, ?_, ?_, fun i hi => ?_⟩
  · show ((S.bonds.set (kk k) ((S.bonds.getD (kk k) (0, false)).1, true)).getD j (0, false)).1 = _
    rw [getD_set_fst _ _ _ hl]; exact h.fst j
  · show ((S.bonds.set (kk k) _).getD j (0, false)).2 = true ↔ _
    by_cases e : kk k = j
    · subst e; rw [getD_set_eq _ _ _ hl]; exact ⟨fun _ => ⟨k, by omega, rfl⟩, fun _ => rfl⟩
    · rw [getD_set_ne _ _ _ _ e, h.flag j hj]
      constructor
      · rintro ⟨i, hi, rfl⟩; exact ⟨i, by omega, rfl⟩
      · rintro ⟨i, hi, rfl⟩
        rcases (by omega : i < k ∨ i = k) with h2 | rfl
        · exact ⟨i, h2, rfl⟩
        · exact absurd rfl e
  · show S.lk - (S.bond (kk k)).1 = unp (S.bonds.set (kk k) _)
    rw [unp_set _ _ hl hf, h.lk]; rfl
  · show cntT (S.bonds.set (kk k) _) = _
    rw [cnt_set _ _ hl hf, h.cnt]
  · show sum8 (upd S.bal p (S.bal p + (S.bond (kk k)).1)) + (S.lk - (S.bond (kk k)).1) = _
    rw [sum8_upd _ _ _ hp]; have := h.tot; omega
  · show 0 ≤ upd S.bal p _ i
    have := h.nn i hi; have := h.nn p hp
    unfold upd; split <;> omega
theorem LB.lk0 (h : LB vs k kk S) (hv : Vs vs) : 0 ≤ S.lk := by rw [h.lk]; exact unp_nn _ fun j => by rw [h.fst]; exact (hv.at j).1
theorem LB.balb (h : LB vs k kk S) (hv : Vs vs) (i : Nat) (hi : i < 8) : S.bal i ≤ 21990232555520 := by
  have ht := hv.take vs.length
  rw [List.take_length] at ht
  have := h.tot; have := h.lk0 hv
  have n0 := h.nn 0 (by omega); have n1 := h.nn 1 (by omega); have n2 := h.nn 2 (by omega); have n3 := h.nn 3 (by omega)
  have n4 := h.nn 4 (by omega); have n5 := h.nn 5 (by omega); have n6 := h.nn 6 (by omega); have n7 := h.nn 7 (by omega)
  have e : sum8 S.bal = S.bal 0 + S.bal 1 + S.bal 2 + S.bal 3 + S.bal 4 + S.bal 5 + S.bal 6 + S.bal 7 := rfl
  rcases (by omega : i = 0 ∨ i = 1 ∨ i = 2 ∨ i = 3 ∨ i = 4 ∨ i = 5 ∨ i = 6 ∨ i = 7) with rfl | rfl | rfl | rfl | rfl | rfl | rfl | rfl <;> omega
theorem LB.s8 (h : LB vs k kk S) : 0 ≤ sum8 S.bal := by
  have n0 := h.nn 0 (by omega); have n1 := h.nn 1 (by omega); have n2 := h.nn 2 (by omega); have n3 := h.nn 3 (by omega)
  have n4 := h.nn 4 (by omega); have n5 := h.nn 5 (by omega); have n6 := h.nn 6 (by omega); have n7 := h.nn 7 (by omega)
  have e : sum8 S.bal = S.bal 0 + S.bal 1 + S.bal 2 + S.bal 3 + S.bal 4 + S.bal 5 + S.bal 6 + S.bal 7 := rfl
  omega
theorem LB.ok (h : LB vs k kk S) (hv : Vs vs) : S.Ok := by
  have ht := hv.take vs.length
  rw [List.take_length] at ht
  have h1 := h.tot; have h2 := h.lk0 hv; have h3 := h.s8
  refine ⟨fun i hi => ⟨h.nn i hi, by have := h.balb hv i hi; omega⟩, by rw [h.inn]; omega, by rw [h.out]; decide, by omega, fun n => ?_, by rw [h.len]; have := hv.len; omega⟩
  rw [h.fst]; have := hv.at n; omega
theorem LB.done (h : LB vs vs.length kk S) : S.lk = 0 := by rw [h.lk]; exact unp_all _ (by rw [h.cnt, h.len])
/-- Every balance paid out, one behind the other. -/
def osum (f : Nat → Int) : Nat → Int
  | 0 => 0
  | k + 1 => osum f k + f k
def LC (S : LS) (k : Nat) : LS := { S with bal := fun i => if i < k then 0 else S.bal i, out := S.out + osum S.bal k }
theorem LC_zero (S : LS) : LC S 0 = S := by simp [LC, osum]
theorem LC_bal (S : LS) (k : Nat) : (LC S k).bal k = S.bal k := by simp [LC]
theorem LC_step (S : LS) (k : Nat) : (LC S k).payOut k (S.bal k) = LC S (k + 1) := by
  unfold LC LS.payOut
  congr 1
  · funext i
    by_cases h : i = k
    · subst h; simp [upd]
    · have : i < k ↔ i < k + 1 := by omega
      simp [upd, h, this]
  · show S.out + osum S.bal k + S.bal k = S.out + (osum S.bal k + S.bal k); omega
theorem osum_le (f : Nat → Int) (h : ∀ i, i < 8 → 0 ≤ f i) (j k : Nat) (hk : k ≤ 8) (hj : j ≤ k) : 0 ≤ osum f j ∧ osum f j ≤ osum f k := by
  induction k with
  | zero => have : j = 0 := by omega
            subst this; simp [osum]
  | succ k ih =>
    have h0 := h k (by omega)
    have e : osum f (k + 1) = osum f k + f k := rfl
    rcases (by omega : j ≤ k ∨ j = k + 1) with h1 | rfl
    · have := ih (by omega) h1; omega
    · have := ih (by omega)
      have h2 : ∀ n, n ≤ k → 0 ≤ osum f n := by
        intro n hn
        induction n with
        | zero => simp [osum]
        | succ n ihn => have := ihn (by omega); have := h n (by omega); show 0 ≤ osum f n + f n; omega
      have := h2 k (by omega); omega
theorem osum8 (f : Nat → Int) : osum f 8 = sum8 f := by simp [osum, sum8]
theorem LB.lc_ok (h : LB vs k kk S) (hv : Vs vs) (j : Nat) (hj : j ≤ 8) : (LC S j).Ok := by
  have ho := h.ok hv
  have ht := hv.take vs.length
  rw [List.take_length] at ht
  have h1 := h.tot; have h2 := h.lk0 hv
  have h3 := osum_le S.bal h.nn j 8 (by omega) hj
  rw [osum8] at h3
  refine ⟨fun i hi => ?_, ho.inn, ?_, ho.lk, ho.bv, ho.n⟩
  · show 0 ≤ (if i < j then 0 else S.bal i) ∧ (if i < j then 0 else S.bal i) ≤ _
    have := ho.bal i hi
    split <;> omega
  · show 0 ≤ S.out + osum S.bal j ∧ S.out + osum S.bal j ≤ _; rw [h.out]; omega
theorem LB.paid (h : LB vs vs.length kk S) : (LC S 8).out = vs.sum := by
  show S.out + osum S.bal 8 = _
  rw [osum8, h.out]; have := h.tot; have := h.done; omega

/-! The order in which they are given. -/
theorem kk_inj (n t i j : Nat) (hn : n ≤ 20) (hi : i < n) (hj : j < n) (h : (t + i * 23) % n = (t + j * 23) % n) : i = j := by
  rcases (by omega : n = 1 ∨ n = 2 ∨ n = 3 ∨ n = 4 ∨ n = 5 ∨ n = 6 ∨ n = 7 ∨ n = 8 ∨ n = 9 ∨ n = 10 ∨ n = 11 ∨ n = 12 ∨ n = 13 ∨ n = 14 ∨ n = 15 ∨ n = 16 ∨ n = 17 ∨ n = 18 ∨ n = 19 ∨ n = 20) with rfl | rfl | rfl | rfl | rfl | rfl | rfl | rfl | rfl | rfl | rfl | rfl | rfl | rfl | rfl | rfl | rfl | rfl | rfl | rfl <;> omega

/-! What a world keeps. -/
theorem Kept.row {w w1 : World} {B b n : Nat} {t : TypeId} {f : Nat → Value} (k : Kept TL TB B w w1) (h : w.rowIs b t n f) (n1 : t ≠ TL) (n2 : t ≠ TB) : w1.rowIs b t n f := by
  obtain ⟨cs, hb, r⟩ := h
  exact ⟨cs, k.other _ _ _ _ hb n1 n2, r⟩
theorem Led.setRow {w : World} {b base g n : Nat} {S : LS} {t : TypeId} {f : Nat → Value} (h : Led w b base S) (hg : w.rowIs g t n f) (n1 : t ≠ TL) (n2 : t ≠ TB) (i : Nat) (u : Value) : Led (w.setCell ⟨g, i, none⟩ u) b base S := by
  obtain ⟨cs, hb, _⟩ := hg
  obtain ⟨v, hr, hown⟩ := h.row
  have hne : b ≠ g := by
    intro e; subst e
    obtain ⟨cs2, hb2, _⟩ := hr
    rw [hb] at hb2; simp at hb2; exact n1 hb2.2
  refine ⟨h.lt, h.ok, v, hr.setOther hne u, hown.1, ?_⟩
  rcases hown.2 with h2 | ⟨g2, cap, cur, e, hg2, hh, r⟩
  · exact .inl h2
  · refine .inr ⟨g2, cap, cur, e, hg2, ?_, r⟩
    have hne2 : g2 ≠ g := by intro e; subst e; rw [hb] at hh; simp at hh; exact n2 hh.2
    rw [Deep.blk_setCell_other _ _ _ _ hne2]; exact hh
theorem Led.drew {w : World} {b base : Nat} {S : LS} (h : Led w b base S) : Led w.drew b base S := h.kept ((Below.refl _ _).drew)
end Go.Proofs.YtpphahaphncpaaaDoor
