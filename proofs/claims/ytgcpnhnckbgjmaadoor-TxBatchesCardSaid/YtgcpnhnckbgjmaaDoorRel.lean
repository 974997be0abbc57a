/-
  A region that draws its order and whose calls answer what hangs on the world: what may come up now and only reads is taken first; a call is met by what holds of its answer in every world that it may leave.
-/
import Derived.Test.YtgcpnhnckbgjmaaDoorAid
import Derived.Deep.QuietTactic
set_option linter.unusedVariables false
namespace Go.Proofs.YtgcpnhnckbgjmaaDoor
open Go Go.RowKit
section
variable {P : Program} {ops : Array Oper} {md : Region.Mode}
/-- What an operation yields: a value and a world that meet K. -/
def effUpon (P : Program) (K : Value → World → Prop) : Result Next → Prop
  | .ok (.value u) w' => K u w'
  | .ok .skip w' => K undef w'
  | .ok (.enter f args) w' => Calls P f args w' (fun e w'' => ∃ v, e = .returned v ∧ K v w'')
  | _ => False
def effAt (P : Program) (o : Oper) (a : Act) (w : World) (K : Value → World → Prop) : Prop := effUpon P K ((execOp a.eval o).run P w)
theorem effAt_mono {o : Oper} {a : Act} {w : World} {K K' : Value → World → Prop} (h : ∀ v w', K v w' → K' v w') (hh : effAt P o a w K) : effAt P o a w K' := by
  unfold effAt at *
  generalize (execOp a.eval o).run P w = r at *
  cases r with
  | ok n w' =>
    cases n <;> simp only [effUpon] at hh ⊢
    case value u => exact h _ _ hh
    case skip => exact h _ _ hh
    case enter f args => exact hh.mono fun e w'' ⟨v, he, hk⟩ => ⟨v, he, h _ _ hk⟩
  | halt x w' => simp only [effUpon] at hh
theorem effAt_wp {o : Oper} {a : Act} {w : World} {K : Value → World → Prop} {K' : Act → World → Prop} {Q : Exit → Act → World → Prop} (h : ∀ v w', K v w' → K' (a.put o.dst v) w') (hh : effAt P o a w K) : o.wp P a w K' Q := by
  unfold effAt at hh
  unfold Oper.wp
  generalize (execOp a.eval o).run P w = r at *
  cases r with
  | ok n w' =>
    cases n <;> simp only [effUpon] at hh <;> simp only [Oper.upon]
    case value u => exact h _ _ hh
    case skip => exact h _ _ hh
    case enter f args => exact hh.mono fun e w'' ⟨v, he, hk⟩ => by subst he; exact h _ _ hk
  | halt x w' => simp only [effUpon] at hh
/-- Operation number i comes up: G is what all worlds from here on meet, C what this one meets. -/
def relOp (P : Program) (ops : Array Oper) (i : Nat) (K : Act → (World → Prop) → (World → Prop) → Prop) (a : Act) (G C : World → Prop) : Prop :=
  match ops[i]? with
  | none => K a G C
  | some o => if Region.wanted o (yielded ops a.tmps) then
      ∃ (X : Type) (f : X → Value) (E D : X → World → Prop), (∀ x w, E x w → G w) ∧ (∀ w, C w → effAt P o a w (fun v w' => ∃ x, v = f x ∧ D x w' ∧ E x w')) ∧ ∀ x, K (a.put o.dst (f x)) (E x) (fun w => D x w ∧ E x w)
    else K (a.put o.dst undef) G C
theorem relOp_mono {i : Nat} {a : Act} {G C : World → Prop} {K K' : Act → (World → Prop) → (World → Prop) → Prop} (h : ∀ a E D, (∀ w, E w → G w) → K a E D → K' a E D) (hh : relOp P ops i K a G C) : relOp P ops i K' a G C := by
  unfold relOp at *
  split
  · exact h _ _ _ (fun _ hw => hw) (by simpa [*] using hh)
  · rename_i o ho
    simp only [ho] at hh
    split
    · rename_i hw
      simp only [hw, if_true] at hh
      obtain ⟨X, f, E, D, h1, h2, h3⟩ := hh
      exact ⟨X, f, E, D, h1, h2, fun x => h _ _ _ (h1 x) (h3 x)⟩
    · rename_i hw
      simp only [hw] at hh
      exact h _ _ _ (fun _ hw => hw) hh
/-- Whatever order is picked from here on. -/
def wpAnyR (P : Program) (md : Region.Mode) (ops : Array Oper) (Q : Act → World → Prop) : Nat → Array Bool → Act → (World → Prop) → (World → Prop) → Prop
  | 0, listed, a, G, C => Region.ready md ops listed = [] ∧ ∀ w, C w → Q a w
  | fuel + 1, listed, a, G, C => (Region.ready md ops listed = [] → ∀ w, C w → Q a w) ∧
    ∀ i ∈ Region.ready md ops listed, relOp P ops i (wpAnyR P md ops Q fuel (listed.setIfInBounds i true)) a G C
theorem wpAny_of_rel {Q : Act → World → Prop} {Q' : Exit → Act → World → Prop} (hQ : ∀ a w, Q a w → Q' .normal a w) : ∀ (fuel : Nat) (listed : Array Bool) (a : Act) (G C : World → Prop) (w : World), C w →
    wpAnyR P md ops Q fuel listed a G C → wpAny P md ops Q' fuel listed a w
  | 0, _, _, _, _, _, hw, h => ⟨h.1, hQ _ _ (h.2 _ hw)⟩
  | fuel + 1, listed, a, G, C, w, hw, h => ⟨fun h0 => hQ _ _ (h.1 h0 _ hw), fun i hi => by
      have h2 := h.2 i hi
      unfold relOp at h2
      unfold wpOp
      split
      · rename_i ho
        simp only [ho] at h2
        exact wpAny_of_rel hQ fuel _ _ _ _ _ hw h2
      · rename_i o ho
        simp only [ho] at h2
        split
        · rename_i hwn
          simp only [hwn, if_true] at h2
          obtain ⟨X, f, E, D, h1, h3, h4⟩ := h2
          refine .inl (effAt_wp (fun v w' hx => ?_) (h3 w hw))
          obtain ⟨x, rfl, hD⟩ := hx
          exact wpAny_of_rel hQ fuel _ _ _ _ _ hD (h4 x)
        · rename_i hwn
          simp only [hwn] at h2
          exact wpAny_of_rel hQ fuel _ _ _ _ _ hw h2⟩
/-- In every world of the class the operation yields v and leaves the world as it is. -/
def PureIn (P : Program) (ops : Array Oper) (G : World → Prop) (o : Oper) (v : Value) (a : Act) : Prop :=
  (Region.wanted o (yielded ops a.tmps) = true ∧ ∀ w, G w → effAt P o a w (fun u w' => u = v ∧ w' = w)) ∨
  (Region.wanted o (yielded ops a.tmps) = false ∧ v = undef)
theorem PureIn.sub {G D : World → Prop} {o : Oper} {v : Value} {a : Act} (h : PureIn P ops G o v a) (hs : ∀ w, D w → G w) : PureIn P ops D o v a := by
  rcases h with ⟨h1, h2⟩ | h
  · exact .inl ⟨h1, fun w hw => h2 w (hs w hw)⟩
  · exact .inr h
theorem PureIn.of_same {C : World → Prop} {o : Oper} {v : Value} {a a' : Act} (hy : PureIn P ops C o v a) (he : execOp a'.eval o = execOp a.eval o)
    (hw : Region.wanted o (yielded ops a'.tmps) = Region.wanted o (yielded ops a.tmps)) : PureIn P ops C o v a' := by
  unfold PureIn effAt at *
  rw [he, hw]
  exact hy
theorem relOp_put {j : Nat} {oi oj : Oper} {v : Value} {G C : World → Prop} (hj : ops[j]? = some oj) (hap : oi.apart ops oj = true)
    (hsi : ∀ cs b, oi.op ≠ .select cs b) (hsj : ∀ cs b, oj.op ≠ .select cs b) {K : Act → (World → Prop) → (World → Prop) → Prop} {a : Act}
    (hy : PureIn P ops G oi v a) (h : relOp P ops j K (a.put oi.dst v) G C) :
    relOp P ops j (fun a' E D => PureIn P ops E oi v a' ∧ K (a'.put oi.dst v) E D) a G C := by
  obtain ⟨h1, h2, h3⟩ := Oper.apart_spec hap
  have keep : ∀ (a : Act), PureIn P ops G oi v a → ∀ u, PureIn P ops G oi v (a.put oj.dst u) := fun a hy u =>
    hy.of_same (execOp_put oi hsi a oj.dst u h3) (wanted_put oi a oj.dst u h3)
  unfold relOp at *
  simp only [hj] at *
  rw [wanted_put oj a oi.dst v h1] at h
  split
  · rename_i hw
    simp only [hw, if_true] at h
    obtain ⟨X, f, E, D, g1, g2, g3⟩ := h
    refine ⟨X, f, E, D, g1, fun w hw' => ?_, fun x => ⟨(keep a hy _).sub (g1 x), by rw [← Act.put_comm a v (f x) h2]; exact g3 x⟩⟩
    have := g2 w hw'
    unfold effAt at *
    rwa [execOp_put oj hsj a oi.dst v h1] at this
  · rename_i hw
    simp only [hw] at h
    exact ⟨keep a hy _, by rw [← Act.put_comm a v undef h2]; exact h⟩
theorem PureIn.rel {i : Nat} {o : Oper} {v : Value} {a : Act} {G C : World → Prop} (hCG : ∀ w, C w → G w) (hi : ops[i]? = some o) (hy : PureIn P ops G o v a) {K : Act → (World → Prop) → (World → Prop) → Prop} (hK : ∀ a D, (∀ w, D w → C w) → K a G C → K a G D) (h : K (a.put o.dst v) G C) : relOp P ops i K a G C := by
  unfold relOp
  simp only [hi]
  rcases hy with ⟨hw, hv⟩ | ⟨hw, rfl⟩
  · simp only [hw, if_true]
    exact ⟨Unit, fun _ => v, fun _ => G, fun _ => C, fun _ _ hw => hw, fun w hw => effAt_mono (fun u w' ⟨e1, e2⟩ => ⟨(), e1, by rw [e2]; exact hw, by rw [e2]; exact hCG w hw⟩) (hv w (hCG w hw)), fun _ => hK _ _ (fun w hw => hw.1) h⟩
  · simp only [hw, Bool.false_eq_true, if_false]; exact h
theorem relOp_sub {i : Nat} {a : Act} {G C C' : World → Prop} {K : Act → (World → Prop) → (World → Prop) → Prop} (hs : ∀ w, C' w → C w) (hK : ∀ a, K a G C → K a G C') (hh : relOp P ops i K a G C) : relOp P ops i K a G C' := by
  unfold relOp at *
  split
  · exact hK _ (by simpa [*] using hh)
  · rename_i o ho
    simp only [ho] at hh
    split
    · rename_i hw
      simp only [hw, if_true] at hh
      obtain ⟨X, f, E, D, h1, h2, h3⟩ := hh
      exact ⟨X, f, E, D, h1, fun w hw => h2 w (hs w hw), h3⟩
    · rename_i hw
      simp only [hw] at hh
      exact hK _ hh
theorem wpAnyR_sub {Q : Act → World → Prop} {G : World → Prop} : ∀ (fuel : Nat) (listed : Array Bool) (a : Act) (C C' : World → Prop), (∀ w, C' w → C w) → wpAnyR P md ops Q fuel listed a G C → wpAnyR P md ops Q fuel listed a G C'
  | 0, _, _, _, _, hs, h => ⟨h.1, fun w hw => h.2 w (hs w hw)⟩
  | fuel + 1, _, _, _, _, hs, h => ⟨fun h0 w hw => h.1 h0 w (hs w hw), fun i hi => relOp_sub hs (fun a => wpAnyR_sub fuel _ a _ _ hs) (h.2 i hi)⟩
theorem relOp_in {i : Nat} {o : Oper} {a : Act} {G C : World → Prop} (hi : ops[i]? = some o) (hCG : ∀ w, C w → G w) {K K' : Act → (World → Prop) → (World → Prop) → Prop} (hh : relOp P ops i K a G C) (h : ∀ a E D, (∀ w, D w → E w) → K a E D → K' a E D) : relOp P ops i K' a G C := by
  unfold relOp at *
  simp only [hi] at *
  split
  · rename_i hw
    simp only [hw, if_true] at hh
    obtain ⟨X, f, E, D, h1, h2, h3⟩ := hh
    exact ⟨X, f, E, D, h1, h2, fun x => h _ _ _ (fun w hw => hw.2) (h3 x)⟩
  · rename_i hw
    simp only [hw] at hh
    exact h _ _ _ hCG hh
theorem wpAnyR_first {Q : Act → World → Prop} {i : Nat} {oi : Oper} {v : Value} (hi : ops[i]? = some oi) (hsel : ∀ (j : Nat) (o : Oper) cs b, ops[j]? = some o → o.op ≠ .select cs b) :
    ∀ (fuel : Nat) (listed : Array Bool) (a : Act) (G C : World → Prop), (∀ w, C w → G w) →
      (∀ j oj, ops[j]? = some oj → j ≠ i → listed.getD j true = false → (∀ e ∈ oj.after, Region.binds md e = true → e.on ≠ i) → oi.apart ops oj = true) →
      i ∈ Region.ready md ops listed → PureIn P ops G oi v a →
      wpAnyR P md ops Q fuel (listed.setIfInBounds i true) (a.put oi.dst v) G C → wpAnyR P md ops Q (fuel + 1) listed a G C := by
  intro fuel
  induction fuel with
  | zero =>
    intro listed a G C hCG _ hr hy H
    refine ⟨fun h => (by rw [h] at hr; cases hr), fun j hj => ?_⟩
    by_cases hji : j = i
    · subst hji; exact hy.rel hCG hi (fun a D hs => wpAnyR_sub 0 _ a _ _ hs) H
    · have := ready_mono hj hji
      rw [H.1] at this
      cases this
  | succ fuel ih =>
    intro listed a G C hCG hfree hr hy H
    refine ⟨fun h => (by rw [h] at hr; cases hr), fun j hj => ?_⟩
    by_cases hji : j = i
    · subst hji; exact hy.rel hCG hi (fun a D hs => wpAnyR_sub (fuel + 1) _ a _ _ hs) H
    · have h1 := H.2 j (ready_mono hj hji)
      obtain ⟨hjun, oj, hoj, hall⟩ := mem_ready.1 hj
      have hnot : ∀ e ∈ oj.after, Region.binds md e = true → e.on ≠ i := fun e he hb heq => by
        have h1 := hall e he hb
        have h0 := (mem_ready.1 hr).1
        rw [heq] at h1
        rcases Nat.lt_or_ge i listed.size with h' | h'
        · simp [h'] at h0 h1; rw [h0] at h1; cases h1
        · simp [Array.getElem?_eq_none h'] at h1
      have h2 := relOp_put hoj (hfree j oj hoj hji hjun hnot) (fun cs b => hsel i oi cs b hi) (fun cs b => hsel j oj cs b hoj) hy h1
      have hfree' : ∀ k ok, ops[k]? = some ok → k ≠ i → (listed.setIfInBounds j true).getD k true = false →
          (∀ e ∈ ok.after, Region.binds md e = true → e.on ≠ i) → oi.apart ops ok = true := fun k ok hk hki hun hno => by
        refine hfree k ok hk hki ?_ hno
        by_cases hjk : j = k
        · subst hjk; exact hjun
        · rw [getD_set_ne true hjk] at hun; exact hun
      refine relOp_in hoj hCG h2 (fun a' E D hDE h3 => ih (listed.setIfInBounds j true) a' E D hDE hfree' (ready_mono hr (Ne.symm hji)) h3.1 ?_)
      rw [Array.setIfInBounds_comm _ _ hji]
      exact h3.2
/-! ### The steps -/
theorem relR_pure {Q : Act → World → Prop} {fuel : Nat} {listed : Array Bool} {a : Act} {G C : World → Prop} (i : Nat) (o : Oper) (hCG : ∀ w, C w → G w) (hs : Region.noSelect ops = true) (hi : ops[i]? = some o) (hr : (Region.ready md ops listed).contains i = true) (hf : Region.free md ops listed i = true) (hw : Region.wanted o (yielded ops a.tmps) = true)
    (h : ∃ v, (∀ w, G w → effAt P o a w (fun u w' => u = v ∧ w' = w)) ∧ ∀ K : Act → Prop, (∀ a', wpAnyR P md ops Q fuel (listed.setIfInBounds i true) a' G C → K a') → K (a.put o.dst v)) : wpAnyR P md ops Q (fuel + 1) listed a G C := by
  obtain ⟨v, h1, h2⟩ := h
  exact wpAnyR_first hi (Region.noSelect_spec hs) fuel listed a G C hCG (Region.free_spec hi hf) (by simpa using hr) (.inl ⟨hw, h1⟩) (h2 _ fun _ h => h)
theorem relR_skip {Q : Act → World → Prop} {fuel : Nat} {listed : Array Bool} {a : Act} {G C : World → Prop} (i : Nat) (o : Oper) (hCG : ∀ w, C w → G w) (hs : Region.noSelect ops = true) (hi : ops[i]? = some o) (hr : (Region.ready md ops listed).contains i = true) (hf : Region.free md ops listed i = true) (hw : Region.wanted o (yielded ops a.tmps) = false)
    (h : ∀ K : Act → Prop, (∀ a', wpAnyR P md ops Q fuel (listed.setIfInBounds i true) a' G C → K a') → K (a.put o.dst undef)) : wpAnyR P md ops Q (fuel + 1) listed a G C :=
  wpAnyR_first hi (Region.noSelect_spec hs) fuel listed a G C hCG (Region.free_spec hi hf) (by simpa using hr) (.inr ⟨hw, rfl⟩) (h _ fun _ h => h)
/-- An operation that works, where it may come up alone: E is what all worlds behind it meet, D what holds right behind it. -/
theorem relR_call {Q : Act → World → Prop} {fuel : Nat} {listed : Array Bool} {a : Act} {G C : World → Prop} (i : Nat) (o : Oper) (hi : ops[i]? = some o) (hr : Region.ready md ops listed = [i]) (hw : Region.wanted o (yielded ops a.tmps) = true)
    (X : Type) (f : X → Value) (E D : X → World → Prop) (hs : ∀ x w, E x w → G w) (h1 : ∀ w, C w → effAt P o a w (fun v w' => ∃ x, v = f x ∧ D x w' ∧ E x w'))
    (h : ∀ x, ∀ K : Act → Prop, (∀ a', wpAnyR P md ops Q fuel (listed.setIfInBounds i true) a' (E x) (fun w => D x w ∧ E x w) → K a') → K (a.put o.dst (f x))) : wpAnyR P md ops Q (fuel + 1) listed a G C := by
  refine ⟨fun h0 => (by rw [hr] at h0; cases h0), fun j hj => ?_⟩
  rw [hr, List.mem_singleton] at hj
  subst hj
  unfold relOp
  simp only [hi, hw, if_true]
  exact ⟨X, f, E, D, hs, h1, fun x => h x _ fun _ h => h⟩
/-- The same for one of several that may come up. -/
theorem relOp_call {Q : Act → World → Prop} {fuel : Nat} {listed : Array Bool} {a : Act} {G C : World → Prop} (i : Nat) (o : Oper) (hi : ops[i]? = some o) (hw : Region.wanted o (yielded ops a.tmps) = true)
    (X : Type) (f : X → Value) (E D : X → World → Prop) (hs : ∀ x w, E x w → G w) (h1 : ∀ w, C w → effAt P o a w (fun v w' => ∃ x, v = f x ∧ D x w' ∧ E x w'))
    (h : ∀ x, ∀ K : Act → Prop, (∀ a', wpAnyR P md ops Q fuel (listed.setIfInBounds i true) a' (E x) (fun w => D x w ∧ E x w) → K a') → K (a.put o.dst (f x))) : relOp P ops i (wpAnyR P md ops Q fuel (listed.setIfInBounds i true)) a G C := by
  unfold relOp
  simp only [hi, hw, if_true]
  exact ⟨X, f, E, D, hs, h1, fun x => h x _ fun _ h => h⟩
theorem relR_pair {Q : Act → World → Prop} {fuel : Nat} {listed : Array Bool} {a : Act} {G C : World → Prop} (i j : Nat) (hr : Region.ready md ops listed = [i, j])
    (h1 : relOp P ops i (wpAnyR P md ops Q fuel (listed.setIfInBounds i true)) a G C) (h2 : relOp P ops j (wpAnyR P md ops Q fuel (listed.setIfInBounds j true)) a G C) : wpAnyR P md ops Q (fuel + 1) listed a G C := by
  refine ⟨fun h0 => (by rw [hr] at h0; cases h0), fun k hk => ?_⟩
  rw [hr] at hk
  rcases List.mem_cons.1 hk with rfl | hk
  · exact h1
  · rw [List.mem_singleton] at hk
    subst hk; exact h2
theorem relR_end {Q : Act → World → Prop} {fuel : Nat} {listed : Array Bool} {a : Act} {G C : World → Prop} (hr : Region.ready md ops listed = []) (h : ∀ w, C w → Q a w) : wpAnyR P md ops Q fuel listed a G C := by
  cases fuel with
  | zero => exact ⟨hr, h⟩
  | succ fuel => exact ⟨fun _ => h, fun i hi => by rw [hr] at hi; cases hi⟩
theorem wp_region_relG {id : Nat} {Q : Exit → Act → World → Prop} {a : Act} {w : World} {l : List Oper} (G C : World → Prop) (hm : P.follows .mixedOrders = true) (hC : C w.drew)
    (h : wpAnyR P .any l.toArray (fun a' w' => Q .normal a' w') l.length (Array.replicate l.length false) a G C) : (Code.region id l.toArray true).wp P Q a w := by
  refine wp_region_any hm ?_
  have := wpAny_of_rel (Q' := Q) (fun _ _ h => h) _ _ _ _ _ w.drew hC h
  simpa using this
theorem wp_region_rel {id : Nat} {Q : Exit → Act → World → Prop} {a : Act} {w : World} {l : List Oper} (C : World → Prop) (hm : P.follows .mixedOrders = true) (hC : C w.drew)
    (h : wpAnyR P .any l.toArray (fun a' w' => Q .normal a' w') l.length (Array.replicate l.length false) a C C) : (Code.region id l.toArray true).wp P Q a w := by
  refine wp_region_any hm ?_
  have := wpAny_of_rel (Q' := Q) (fun _ _ h => h) _ _ _ _ _ w.drew hC h
  simpa using this
end
end Go.Proofs.YtgcpnhnckbgjmaaDoor
