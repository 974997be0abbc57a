/-
  mootref18's Balance by its contract; what a ledger's list holds; the first loop of Do, plain.
-/
import Derived.Test.YtpphahaphncpaaaDoorLedRef
set_option linter.unusedVariables false
set_option linter.unusedSimpArgs false
namespace Go.Proofs.YtpphahaphncpaaaDoor
open Go.RowKit

theorem ownsRow_below {w w' : World} {base n size : Nat} {t : TypeId} {v : Value} {xs : List Value} (h : w.ownsRow base t size v n xs) (hb : Below w.heap.size w w') : w'.ownsRow base t size v n xs := by
  refine ⟨h.1, ?_⟩
  rcases h.2 with h2 | ⟨g, cap, cur, e, hg, hh, r⟩
  · exact .inl h2
  · exact .inr ⟨g, cap, cur, e, hg, by rw [hb.block g (lt_of_block hh)]; exact hh, r⟩
theorem rowIs_keep {w w' : World} {b n : Nat} {t : TypeId} {f : Nat → Value} (h : w.rowIs b t n f) (hb : Below w.heap.size w w') : w'.rowIs b t n f := h.of_block (hb.block b h.lt)
def balE (es : List Ev) (p : Int) : Int := sumE es 1 p + sumE es 4 p - sumE es 2 p - sumE es 3 p
/-- The worlds of Balance's sums. -/
def BS (w : World) (base n : Nat) (v : Value) (es : List Ev) (W : World) : Prop := W.cell? ⟨w.heap.size, 0, none⟩ = some v ∧ w.heap.size < W.heap.size ∧ Below w.heap.size w W ∧ W.ownsRow base TEV 4 v n (flatE es)
theorem bsKeep {w : World} {base n : Nat} {v : Value} {es : List Ev} : ∀ W W', BS w base n v es W → Below W.heap.size W W' → BS w base n v es W' := by
  rintro W W' ⟨h0, h1, h2, h3⟩ hb
  have hs := hb.size
  exact ⟨by rw [hb.cell (p := ⟨w.heap.size, 0, none⟩) h1]; exact h0, by omega, h2.trans (hb.mono (by have := h2.size; omega)), ownsRow_below h3 hb⟩
theorem bs_own {w : World} {base n : Nat} {v : Value} {es : List Ev} (t : Held (BS w base n v es)) : t.w.ownsRow base TEV 4 v n (flatE es) := t.ok.2.2.2
set_option maxRecDepth 100000 in
set_option maxHeartbeats 4000000 in
theorem rbalance_V (base n : Nat) (v : Value) (es : List Ev) (p r : Int) (w : World) (hv : w.ownsRow base TEV 4 v n (flatE es)) (hl : es.length = n) (he : Evs es) (hr : balE es p = r) (h0 : 0 ≤ r) :
    Calls Tryd.prog 12 #[.agg #[v], .int .i64 p] w fun e w' => e = .returned (.int .u64 r) ∧ Below w.heap.size w w' := by
  obtain ⟨s1, h1⟩ : ∃ s, sumE es 1 p = s := ⟨_, rfl⟩
  obtain ⟨s2, h2⟩ : ∃ s, sumE es 2 p = s := ⟨_, rfl⟩
  obtain ⟨s3, h3⟩ : ∃ s, sumE es 3 p = s := ⟨_, rfl⟩
  obtain ⟨s4, h4⟩ : ∃ s, sumE es 4 p = s := ⟨_, rfl⟩
  have b1 := he.sum 1 p
  have b2 := he.sum 2 p
  have b3 := he.sum 3 p
  have b4 := he.sum 4 p
  unfold balE at hr
  rw [h1, h2, h3, h4] at hr
  rw [h1] at b1; rw [h2] at b2; rw [h3] at b3; rw [h4] at b4
  have HE := Lib.hid he
  have HL := Lib.hid hl
  have H1 := Lib.hid h1
  have H2 := Lib.hid h2
  have H3 := Lib.hid h3
  have H4 := Lib.hid h4
  obtain ⟨t1, ht1⟩ : ∃ t, t = s1 + s4 := ⟨_, rfl⟩
  obtain ⟨t2, ht2⟩ : ∃ t, t = t1 - s2 := ⟨_, rfl⟩
  have E1 : IntKind.u64.wrap (s1 + s4) = t1 := by rw [IntKind.wrap_u64]; omega
  have E2 : IntKind.u64.wrap (t1 - s2) = t2 := by rw [IntKind.wrap_u64]; omega
  have E3 : IntKind.u64.wrap (t2 - s3) = r := by rw [IntKind.wrap_u64]; omega
  have HO := Lib.hid hv
  clear h1 h2 h3 h4 hr ht1 ht2 he hl b1 b2 b3 b4 hv
  go_enter Tryd.func12, Tryd.ntmps12
  go_wp2
  have hS : BS w base n v es (w.alloc (.cells #[v] TRL)) := ⟨by go_cell, by simp, (Below.refl _ _).alloc (Nat.le_refl _) _, HO.out.alloc _⟩
  have hne : Nonempty (Held (BS w base n v es)) := ⟨⟨_, hS⟩⟩
  have i0 : ∀ t : Held (BS w base n v es), t.w.cell? ⟨w.heap.size, 0, none⟩ = some v := fun t => t.ok.1
  refine wp_region_held (S := BS w base n v es) (by kernel_rfl) (by kernel_rfl) (bsKeep _ _ hS (Below.refl _ _).drew) ?_
  repeat (go_big_quiet_step (first
      | (go_at_call 17; with_reducible exact held_call (sum_V base n v es 1 p s1 _ (bs_own _) HL.out HE.out H1.out) bsKeep)
      | (go_at_call 17; with_reducible exact held_call (sum_V base n v es 4 p s4 _ (bs_own _) HL.out HE.out H4.out) bsKeep)
      | (go_at_call 17; with_reducible exact held_call (sum_V base n v es 2 p s2 _ (bs_own _) HL.out HE.out H2.out) bsKeep)
      | (go_at_call 17; with_reducible exact held_call (sum_V base n v es 3 p s3 _ (bs_own _) HL.out HE.out H3.out) bsKeep)))
  refine wpQuiet_nil ?_
  intro _ hw'
  obtain ⟨s6, hw''⟩ := hw'
  subst hw''
  go_wp2
  go_returns
  exact ⟨rfl, s6.ok.2.2.1⟩

/-- What Do's first loop has found: how many bonds, the bond's sum, whether it was given. -/
def scan1 (b : Int) (s : Nat × Int × Bool) (e : Ev) : Nat × Int × Bool :=
  (if e.k = 3 then s.1 + 1 else s.1, if e.k = 3 ∧ (s.1 : Int) = b then e.v else s.2.1, s.2.2 || (e.k == 4 && e.b == b))
def scan (b : Int) (es : List Ev) : Nat × Int × Bool := es.foldl (scan1 b) (0, 0, false)
theorem scan_take (b : Int) (es : List Ev) (j : Nat) (hj : j < es.length) : scan b (es.take (j + 1)) = scan1 b (scan b (es.take j)) (es.getD j ev0) := by
  unfold scan
  rw [List.take_succ_eq_append_getElem hj, List.foldl_append, List.getD_eq_getElem?_getD, List.getElem?_eq_getElem hj]; rfl
theorem scan_snoc (b : Int) (es : List Ev) (e : Ev) : scan b (es ++ [e]) = scan1 b (scan b es) e := by
  unfold scan; rw [List.foldl_append]; rfl
theorem scan_le (b : Int) (es : List Ev) : (scan b es).1 ≤ es.length := by
  have h : ∀ (es : List Ev) (s : Nat × Int × Bool), (es.foldl (scan1 b) s).1 ≤ s.1 + es.length := by
    intro es
    induction es with
    | nil => intro s; simp
    | cons x xs ih =>
      intro s
      have := ih (scan1 b s x)
      have h2 : (scan1 b s x).1 ≤ s.1 + 1 := by unfold scan1; simp only; split <;> omega
      simp only [List.foldl_cons, List.length_cons]; omega
  have := h es (0, 0, false)
  simp at this; exact this
theorem scan_cnt (b b' : Int) (es : List Ev) : (scan b es).1 = (scan b' es).1 := by
  have h : ∀ (es : List Ev) (s s' : Nat × Int × Bool), s.1 = s'.1 → (es.foldl (scan1 b) s).1 = (es.foldl (scan1 b') s').1 := by
    intro es
    induction es with
    | nil => intro s s' h; exact h
    | cons x xs ih => intro s s' h; exact ih _ _ (by unfold scan1; simp only [h])
  exact h es _ _ rfl
/-- A list of all that happened, where it lies. -/
structure RL (w : World) (t base : Nat) (es : List Ev) : Prop where
  lt : t < base
  ev : Evs es
  row : ∃ v, w.rowIs t TRL 1 (fun _ => v) ∧ w.ownsRow base TEV 4 v es.length (flatE es)
theorem RL.below {w w' : World} {t base : Nat} {es : List Ev} (h : RL w t base es) (hb : Below w.heap.size w w') : RL w' t base es := by
  obtain ⟨v, h1, h2⟩ := h.row
  exact ⟨h.lt, h.ev, v, rowIs_keep h1 hb, ownsRow_below h2 hb⟩
theorem ownsRow_other {w w' : World} {t1 t2 : TypeId} {B base n size : Nat} {t : TypeId} {v : Value} {xs : List Value} (h : w.ownsRow base t size v n xs) (k : Kept t1 t2 B w w') (n1 : t ≠ t1) (n2 : t ≠ t2) : w'.ownsRow base t size v n xs := by
  refine ⟨h.1, ?_⟩
  rcases h.2 with h2 | ⟨g, cap, cur, e, hg, hh, r⟩
  · exact .inl h2
  · exact .inr ⟨g, cap, cur, e, hg, k.other _ _ _ _ hh n1 n2, r⟩
theorem rowIs_other {w w' : World} {t1 t2 : TypeId} {B b n : Nat} {t : TypeId} {f : Nat → Value} (h : w.rowIs b t n f) (k : Kept t1 t2 B w w') (n1 : t ≠ t1) (n2 : t ≠ t2) : w'.rowIs b t n f := by
  obtain ⟨c, hb, r⟩ := h
  exact ⟨c, k.other _ _ _ _ hb n1 n2, r⟩
theorem RL.kept {w w' : World} {t base B : Nat} {es : List Ev} (h : RL w t base es) (k : Kept TL TB B w w') : RL w' t base es := by
  obtain ⟨v, h1, h2⟩ := h.row
  exact ⟨h.lt, h.ev, v, rowIs_other h1 k (by decide) (by decide), ownsRow_other h2 k (by decide) (by decide)⟩
theorem Led.keptR {w w' : World} {b base B : Nat} {S : LS} (h : Led w b base S) (k : Kept TRL TEV B w w') : Led w' b base S := by
  obtain ⟨v, h1, h2⟩ := h.row
  exact ⟨h.lt, h.ok, v, rowIs_other h1 k (by decide) (by decide), ownsRow_other h2 k (by decide) (by decide)⟩
end Go.Proofs.YtpphahaphncpaaaDoor
