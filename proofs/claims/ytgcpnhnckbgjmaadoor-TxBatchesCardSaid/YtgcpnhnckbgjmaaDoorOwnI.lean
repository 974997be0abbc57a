/-
  Items in a row that a call owns; appending an item to them.
-/
import Derived.Test.YtgcpnhnckbgjmaaDoorByt
import Derived.Test.YtgcpnhnckbgjmaaDoorRight
set_option linter.unusedVariables false
set_option linter.unusedSimpArgs false
namespace Go.Proofs.YtgcpnhnckbgjmaaDoor
open Go.RowKit

abbrev TIS : TypeId := 54
abbrev ZI : Value := .agg #[.bool false, .slice none 0 0, .slice none 0 0]
theorem infoI : (Tryd.prog.info? TI).map (fun i => (i.zero, i.size, i.bytes)) = some (some ZI, 3, 56) := by kernel_rfl
/-- Items in a row of the call's own; what they lead to lies elsewhere above the base. -/
structure OwnI (w : World) (base k : Nat) (v : Value) (n : Nat) (its : List Rlp.It) : Prop where
  len : its.length = n
  own : ∃ vs, w.ownsRow base TI 3 v n vs ∧ ∀ i, i < n → ∃ x y z, vs[i * 3]? = some x ∧ vs[i * 3 + 1]? = some y ∧ vs[i * 3 + 2]? = some z ∧ IsIt (fun b => base ≤ b ∧ v.ownBlock ≠ some b) w k (its.getD i default) x y z
theorem OwnI.nil (w : World) (base k : Nat) : OwnI w base k (.slice none 0 0) 0 [] := ⟨rfl, [], World.ownsRow_nil _ _ _ _, fun i hi => by omega⟩
theorem OwnI.form {w : World} {base k n : Nat} {v : Value} {its : List Rlp.It} (h : OwnI w base k v n its) : (v = .slice none 0 0 ∧ n = 0) ∨ ∃ g c, v = .slice (some ⟨g, 0, none⟩) n c ∧ base ≤ g ∧ g < w.heap.size ∧ n ≤ c ∧ c ≤ maxLen := by
  obtain ⟨vs, ho, _⟩ := h.own
  rcases ho.2 with e | ⟨g, cap, cur, e, hb, hh, h1, h2, _⟩
  · exact .inl e
  · exact .inr ⟨g, cap, e, hb, lt_of_block hh, h1, h2⟩
theorem OwnI.keep {w w' : World} {base k n : Nat} {v : Value} {its : List Rlp.It} (h : OwnI w base k v n its) (hk : ∀ b, base ≤ b → b < w.heap.size → b < w'.heap.size ∧ w'.heap[b]? = w.heap[b]?) : OwnI w' base k v n its := by
  obtain ⟨vs, ho, hi⟩ := h.own
  refine ⟨h.len, vs, ⟨ho.1, ?_⟩, fun i hin => ?_⟩
  · rcases ho.2 with e | ⟨g, cap, cur, e, hb, hh, r⟩
    · exact .inl e
    · exact .inr ⟨g, cap, cur, e, hb, by rw [(hk g hb (lt_of_block hh)).2]; exact hh, r⟩
  · obtain ⟨x, y, z, h1, h2, h3, hx⟩ := hi i hin
    exact ⟨x, y, z, h1, h2, h3, hx.move fun b hF hl => ⟨hF, hk b hF.1 hl⟩⟩
theorem OwnI.below {w w' : World} {base k n : Nat} {v : Value} {its : List Rlp.It} (h : OwnI w base k v n its) (hb : Below w.heap.size w w') : OwnI w' base k v n its :=
  h.keep fun b _ hl => ⟨by have := hb.size; omega, hb.block b hl⟩
theorem OwnI.setBelow {w : World} {base k n : Nat} {v : Value} {its : List Rlp.It} (h : OwnI w base k v n its) {a : Addr} (ha : a.block < base) (u : Value) : OwnI (w.setCell a u) base k v n its :=
  h.keep fun b hb hl => ⟨by simpa using hl, Below.heap_setCell _ _ _ _ (by omega)⟩
/-- The list as it stands. -/
theorem OwnI.at {w : World} {base k n c : Nat} {ao : Option Addr} {its : List Rlp.It} (h : OwnI w base k (.slice ao n c) n its) : ItsAt (fun b => base ≤ b) w k ao its := fun i hi => by
  obtain ⟨vs, ho, hx⟩ := h.own
  rw [h.len] at hi
  obtain ⟨x, y, z, h1, h2, h3, hx⟩ := hx i hi
  rcases ho.2 with ⟨_, e⟩ | ⟨g, cap, cur, e, hb, hh, _⟩
  · omega
  · injection e with e1 e2 e3
    subst e1
    have hc := ho.cells (g := g) rfl
    have ad : ∀ j, (⟨g, 0, none⟩ : Addr).add j = ⟨g, 0 + j, none⟩ := fun j => by unfold Addr.add; split <;> simp_all
    refine ⟨g, 0, x, y, z, rfl, hb, lt_of_block hh, ?_, ?_, ?_, hx.move fun b hF hl => ⟨hF.1, hl, rfl⟩⟩
    · have := hc _ _ h1; rw [ad] at this; exact this
    · have := hc _ _ h2; rw [ad] at this; rw [Nat.add_assoc]; exact this
    · have := hc _ _ h3; rw [ad] at this; rw [Nat.add_assoc]; exact this
theorem getD_app (its : List Rlp.It) (y : Rlp.It) (i : Nat) (hi : i < its.length) : (its ++ [y]).getD i default = its.getD i default := by
  rw [List.getD_eq_getElem?_getD, List.getElem?_append_left hi, List.getD_eq_getElem?_getD]
theorem getD_new (its : List Rlp.It) (y : Rlp.It) : (its ++ [y]).getD its.length default = y := by
  rw [List.getD_eq_getElem?_getD, List.getElem?_append_right (Nat.le_refl _)]; simp
theorem oneCell_it {F : Nat → Prop} {w : World} {k : Nat} {x : Rlp.It} {u v z : Value} (h : IsIt F w k x u v z) : u.oneCell' = true ∧ v.oneCell' = true ∧ z.oneCell' = true := by
  obtain ⟨l, a, n, c, a', n', c', rfl, rfl, rfl⟩ := h.shape
  exact ⟨rfl, rfl, rfl⟩
theorem run_append_I (w : World) (ty : TypeId) (base k : Nat) (ao : Option Addr) (n c : Nat) (its : List Rlp.It) (hown : OwnI w base k (.slice ao n c) n its) (ad : Nat) (y : Rlp.It) (u v z : Value) (cs : Nat)
    (hy : IsIt (fun b => base ≤ b ∧ (Value.slice ao n c).ownBlock ≠ some b) w k y u v z) (q0 : w.cell? ⟨ad, 0, none⟩ = some u) (q1 : w.cell? ⟨ad, 1, none⟩ = some v) (q2 : w.cell? ⟨ad, 2, none⟩ = some z)
    (h40 : Sm ((n + 1) * 56)) (hbase : base ≤ w.heap.size) :
    ∃ ao' c' w', (Builtin.append_ #[TIS, TIS] ty #[.slice ao n c, .slice (some ⟨ad, 0, none⟩) 1 cs]).run Tryd.prog w = .ok (.slice ao' (n + 1) c') w' ∧ OwnI w' base k (.slice ao' (n + 1) c') (n + 1) (its ++ [y]) ∧ w.grownBy w' (Value.slice ao n c).ownBlock := by
  obtain ⟨i0, hi, hz0, hz1, hz2⟩ := info_parts infoI
  obtain ⟨vs, ho, hx⟩ := hown.own
  obtain ⟨o1, o2, o3⟩ := oneCell_it hy
  unfold Sm at h40
  obtain ⟨v', w', h1, h2, h3, h5⟩ := run_append_wide (P := Tryd.prog) w base TIS ty TI i0 ZI 3 56 Tryd.underlying54 hi hz0 hz1 hz2 rfl (by decide) (by decide) _ n _ ho ⟨ad, 0, none⟩ 1 cs [u, v, z] rfl (fun j t hj => by
      have ade : ∀ j, (⟨ad, 0, none⟩ : Addr).add j = ⟨ad, 0 + j, none⟩ := fun j => by unfold Addr.add; split <;> simp_all
      rw [ade]
      match j, hj with
      | 0, hj => simp at hj; subst hj; exact q0
      | 1, hj => simp at hj; subst hj; exact q1
      | 2, hj => simp at hj; subst hj; exact q2) (fun t ht => by
      simp at ht
      rcases ht with rfl | rfl | rfl <;> assumption) (by unfold maxLen; omega) (by omega) hbase
  have hf : ∃ ao' c', v' = .slice ao' (n + 1) c' := by
    rcases h2.2 with ⟨e, e2⟩ | ⟨g, cap, cur, e, _⟩
    · omega
    · exact ⟨_, _, e⟩
  obtain ⟨ao', c', rfl⟩ := hf
  have mv : ∀ b, base ≤ b ∧ (Value.slice ao n c).ownBlock ≠ some b → b < w.heap.size → (base ≤ b ∧ (Value.slice ao' (n + 1) c').ownBlock ≠ some b) ∧ b < w'.heap.size ∧ w'.heap[b]? = w.heap[b]? := by
    intro b hb hl
    refine ⟨⟨hb.1, ?_⟩, by have := h3.size; omega, h3.block b hl (fun e => hb.2 e.symm)⟩
    rcases h5 with e | e
    · rw [e]; exact hb.2
    · rw [e]; intro e2; injection e2 with e2; omega
  refine ⟨ao', c', w', h1, ⟨by simp [hown.len], vs ++ [u, v, z], h2, fun i hin => ?_⟩, h3⟩
  have hvl : vs.length = n * 3 := ho.1
  rcases Nat.lt_or_ge i n with hlt | hge
  · obtain ⟨x, y', z', g1, g2, g3, hx⟩ := hx i hlt
    refine ⟨x, y', z', ?_, ?_, ?_, ?_⟩
    · rw [List.getElem?_append_left (by omega)]; exact g1
    · rw [List.getElem?_append_left (by omega)]; exact g2
    · rw [List.getElem?_append_left (by omega)]; exact g3
    · rw [getD_app _ _ _ (by rw [hown.len]; exact hlt)]; exact hx.move mv
  · have : i = n := by omega
    subst this
    refine ⟨u, v, z, ?_, ?_, ?_, ?_⟩
    · rw [List.getElem?_append_right (by omega), hvl]; simp
    · rw [List.getElem?_append_right (by omega), hvl, show i * 3 + 1 - i * 3 = 1 by omega]; rfl
    · rw [List.getElem?_append_right (by omega), hvl, show i * 3 + 2 - i * 3 = 2 by omega]; rfl
    · have e := hown.len
      subst e
      rw [getD_new]; exact hy.move mv
/-- At the list of a plain region's operations. -/
theorem wpList_append_I {w : World} {ops : Array Oper} {rest : List Oper} {o : Oper} {a : Act} {Q : Exit → Act → World → Prop} (hgd : o.guard = none) (s x : Operand)
    (ho : o.op = .call { callee := .builtin .append, args := #[s, x], argTypes := #[TIS, TIS] }) (base k : Nat) (ao : Option Addr) (n c : Nat) (its : List Rlp.It) (ad : Nat) (cs : Nat) (y : Rlp.It) (u v z : Value) (hown : OwnI w base k (.slice ao n c) n its)
    (hy : IsIt (fun b => base ≤ b ∧ (Value.slice ao n c).ownBlock ≠ some b) w k y u v z) (q0 : w.cell? ⟨ad, 0, none⟩ = some u) (q1 : w.cell? ⟨ad, 1, none⟩ = some v) (q2 : w.cell? ⟨ad, 2, none⟩ = some z) (hs : a.eval s = .slice ao n c) (hx : a.eval x = .slice (some ⟨ad, 0, none⟩) 1 cs)
    (h40 : Sm ((n + 1) * 56)) (hbase : base ≤ w.heap.size)
    (h : ∀ ao' c' w', OwnI w' base k (.slice ao' (n + 1) c') (n + 1) (its ++ [y]) → w.grownBy w' (Value.slice ao n c).ownBlock → wpList Tryd.prog ops Q rest (a.put o.dst (.slice ao' (n + 1) c')) w') : wpList Tryd.prog ops Q (o :: rest) a w := by
  refine wpList_plain hgd fun K hK => ?_
  obtain ⟨ao', c', w', hr, h1, h2⟩ := run_append_I w o.type base k ao n c its hown ad y u v z cs hy q0 q1 q2 h40 hbase
  unfold Oper.wp
  simp [execOp, ho, resolve, invoke, builtin, hs, hx, hr, Result.andThen]
  exact hK _ _ (h _ _ _ h1 h2)
/-- What grew by an append to a row of the call's own. -/
theorem grownI_below {w w' : World} {B base k : Nat} {v : Value} {n : Nat} {its : List Rlp.It} (hg : w.grownBy w' v.ownBlock) (h : OwnI w base k v n its) (hB : B ≤ base) (hs : B ≤ w.heap.size) : Below B w w' := by
  refine Below.grown (Below.refl _ _) hg hs ?_
  intro j hj
  rcases h.form with ⟨rfl, _⟩ | ⟨g, c, rfl, hg, _⟩
  · simp [Value.ownBlock] at hj
  · simp [Value.ownBlock] at hj; omega
end Go.Proofs.YtgcpnhnckbgjmaaDoor
