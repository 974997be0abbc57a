/-
  mootref03.Reader.item by its contract: the list behind a short head.
-/
import Derived.Test.YtgcpnhnckbgjmaaDoorRItemB
set_option linter.unusedVariables false
set_option linter.unusedSimpArgs false
namespace Go.Proofs.YtgcpnhnckbgjmaaDoor
open Go.RowKit
def RItemAt (f : Nat) : Prop := ∀ (w : World) (r bb off n c : Nat) (b : List UInt8) (i s : Nat) (D : Int), b.length = n → n ≤ c → c ≤ maxLen → n ≤ 4096 → i < s → s ≤ n → Rd w r (some ⟨bb, off, none⟩) n c i 0 0 → BytesF (fun b => b < r) w (some ⟨bb, off, none⟩) b → D = 16 - f → f ≤ 16 →
    Calls Tryd.prog 44 #[.pointer (some ⟨r, 0, none⟩), .int .i64 s, .int .i64 D] w (RItemRet w r (some ⟨bb, off, none⟩) n c f (Rlp.dItem b f i s))
theorem RItemAt.at {f : Nat} (h : RItemAt f) (w : World) (r bb off n c : Nat) (b : List UInt8) (i s : Nat) (D S : Int) (h1 : b.length = n) (h2 : n ≤ c) (h3 : c ≤ maxLen) (h4 : n ≤ 4096) (h5 : i < s) (h6 : s ≤ n) (h7 : Rd w r (some ⟨bb, off, none⟩) n c i 0 0) (h8 : BytesF (fun b => b < r) w (some ⟨bb, off, none⟩) b) (h9 : D = 16 - f) (hf : f ≤ 16) (hS : S = (s : Int)) :
    Calls Tryd.prog 44 #[.pointer (some ⟨r, 0, none⟩), .int .i64 S, .int .i64 D] w (RItemRet w r (some ⟨bb, off, none⟩) n c f (Rlp.dItem b f i s)) := by subst hS; exact h w r bb off n c b i s D h1 h2 h3 h4 h5 h6 h7 h8 h9 hf
/-- What lies there in the list's loop. -/
structure LC (w : World) (r bx f q cq : Nat) (ao : Option Addr) (its : List Rlp.It) (W : World) : Prop where
  k : Keep r w W
  s : SlotI W w.heap.size (.bool false) (.slice none 0 0) (.slice none 0 0)
  x : SlotI W bx (.bool true) (.slice none 0 0) (.slice ao q cq)
  o : OwnI W (bx + 1) f (.slice ao q cq) q its
theorem LC.below {w : World} {r bx f q cq : Nat} {ao : Option Addr} {its : List Rlp.It} {W W' : World} (h : LC w r bx f q cq ao its W) (hb : Below W.heap.size W W') : LC w r bx f q cq ao its W' :=
  ⟨h.k.thn (hb.mono h.k.size), h.s.below hb, h.x.below hb, h.o.below hb⟩
theorem LC.kept {w : World} {r bx f q cq : Nat} {ao : Option Addr} {its : List Rlp.It} {W W' : World} (h : LC w r bx f q cq ao its W) (hk : Keep r W W') (h1 : r < w.heap.size) (h2 : w.heap.size < bx) : LC w r bx f q cq ao its W' :=
  ⟨h.k.trans hk, h.s.kept hk (by omega), h.x.kept hk (by omega), h.o.kept hk (by omega)⟩
structure LOk (b : List UInt8) (T : Nat) (R : Except (Nat × Nat) (List Rlp.It)) (w : World) (r : Nat) (a : Option Addr) (n c bx f q cq : Nat) (ao : Option Addr) (its : List Rlp.It) (x g : Nat) (W : World) : Prop where
  lc : LC w r bx (f + 1) q cq ao its W
  rd : Rd W r a n c x 0 0
  hx : x ≤ T
  hg : T ≤ x + g
  hq : q ≤ x
  d : Rlp.dList (Rlp.dItem b f) g x T its = R
structure LErr (R : Except (Nat × Nat) (List Rlp.It)) (w : World) (r : Nat) (a : Option Addr) (n c bx f q cq : Nat) (ao : Option Addr) (its : List Rlp.It) (p k j : Nat) (W : World) : Prop where
  lc : LC w r bx (f + 1) q cq ao its W
  rd : Rd W r a n c j k p
  hk : k ≠ 0
  e : R = .error (p, k)
def LRel (b : List UInt8) (T : Nat) (R : Except (Nat × Nat) (List Rlp.It)) (w : World) (r : Nat) (a : Option Addr) (n c bx f : Nat) (W : World) : Prop :=
  (∃ q cq ao its x g, LOk b T R w r a n c bx f q cq ao its x g W) ∨ (∃ q cq ao its p k j, LErr R w r a n c bx f q cq ao its p k j W)
def LMeas (r T : Nat) (W : World) : Nat := match W.cell? ⟨r, 2, none⟩ with
  | some (.int _ y) => if y = 0 then (match W.cell? ⟨r, 1, none⟩ with | some (.int _ x) => 1 + (T - x.toNat) | _ => 0) else 0
  | _ => 0
theorem LMeas.ok {r T x b : Nat} {a : Option Addr} {n c : Nat} {W : World} (h : Rd W r a n c x 0 b) : LMeas r T W = 1 + (T - x) := by
  unfold LMeas; rw [h.c2, h.c1]; simp
theorem LMeas.err {r T x k b : Nat} {a : Option Addr} {n c : Nat} {W : World} (h : Rd W r a n c x k b) (hk : k ≠ 0) : LMeas r T W = 0 := by
  unfold LMeas; rw [h.c2]; simp [hk]
/-- What the call within the list has answered. -/
structure ItV where
  y : Rlp.It
  l : Bool
  a1 : Option Addr
  n1 : Nat
  c1 : Nat
  a2 : Option Addr
  n2 : Nat
  c2 : Nat
def ResAt (b : List UInt8) (f x T : Nat) (r : Nat) (a : Option Addr) (n c : Nat) (y : Rlp.It) (W : World) : Prop := match Rlp.dItem b f x T with
  | .ok (y', j) => y = y' ∧ Rd W r a n c j 0 0
  | .error (p, k) => k ≠ 0 ∧ ∃ j, Rd W r a n c j k p
theorem ResAt.below {b : List UInt8} {f x T r : Nat} {a : Option Addr} {n c : Nat} {y : Rlp.It} {W W' : World} (h : ResAt b f x T r a n c y W) (hb : Below W.heap.size W W') : ResAt b f x T r a n c y W' := by
  unfold ResAt at *
  split at h
  · exact ⟨h.1, h.2.below hb⟩
  · exact ⟨h.1, h.2.choose, h.2.choose_spec.below hb⟩
theorem ResAt.keep {b : List UInt8} {f x T r : Nat} {a : Option Addr} {n c : Nat} {y : Rlp.It} {W W' : World} (h : ResAt b f x T r a n c y W) (hs : W.heap.size ≤ W'.heap.size) (hk : W'.heap[r]? = W.heap[r]?) : ResAt b f x T r a n c y W' := by
  unfold ResAt at *
  split at h
  · exact ⟨h.1, h.2.keep hs hk⟩
  · exact ⟨h.1, h.2.choose, h.2.choose_spec.keep hs hk⟩
/-- Behind the call. -/
structure L6 (b : List UInt8) (f x T : Nat) (w : World) (r : Nat) (a : Option Addr) (n c bx q cq : Nat) (ao : Option Addr) (its : List Rlp.It) (v : ItV) (W : World) : Prop where
  lc : LC w r bx (f + 1) q cq ao its W
  it : IsIt (fun b => bx + 1 ≤ b ∧ (Value.slice ao q cq).ownBlock ≠ some b) W (f + 1) v.y (.bool v.l) (.slice v.a1 v.n1 v.c1) (.slice v.a2 v.n2 v.c2)
  res : ResAt b f x T r a n c v.y W
theorem L6.below {b : List UInt8} {f x T : Nat} {w : World} {r : Nat} {a : Option Addr} {n c bx q cq : Nat} {ao : Option Addr} {its : List Rlp.It} {v : ItV} {W W' : World} (h : L6 b f x T w r a n c bx q cq ao its v W) (hb : Below W.heap.size W W') : L6 b f x T w r a n c bx q cq ao its v W' :=
  ⟨h.lc.below hb, h.it.below hb, h.res.below hb⟩
theorem L6.of {b : List UInt8} {f x T : Nat} {w : World} {r : Nat} {a : Option Addr} {n c bx q cq : Nat} {ao : Option Addr} {its : List Rlp.It} {W W' : World} {e : Ending} (h : LC w r bx (f + 1) q cq ao its W) (h1 : r < w.heap.size) (h2 : w.heap.size < bx) (hr : RItemRet W r a n c f (Rlp.dItem b f x T) e W') :
    ∃ v : ItV, e = .returned (.agg #[.bool v.l, .slice v.a1 v.n1 v.c1, .slice v.a2 v.n2 v.c2]) ∧ L6 b f x T w r a n c bx q cq ao its v W' := by
  obtain ⟨hk, y, vl, vb, vi, he, hi, hm⟩ := hr
  obtain ⟨l, a1, n1, c1, a2, n2, c2, rfl, rfl, rfl⟩ := hi.shape
  have hx := h.x.lt
  exact ⟨⟨y, l, a1, n1, c1, a2, n2, c2⟩, he, h.kept hk h1 h2, h.o.other hi (by omega), hm⟩
/-- Behind the slice of one item. -/
structure L7 (b : List UInt8) (f x T : Nat) (w : World) (r : Nat) (a : Option Addr) (n c bx q cq : Nat) (ao : Option Addr) (its : List Rlp.It) (v : ItV) (g : Nat) (W : World) : Prop where
  l6 : L6 b f x T w r a n c bx q cq ao its v W
  c0 : W.cell? ⟨g, 0, none⟩ = some (.bool v.l)
  c1 : W.cell? ⟨g, 1, none⟩ = some (.slice v.a1 v.n1 v.c1)
  c2 : W.cell? ⟨g, 2, none⟩ = some (.slice v.a2 v.n2 v.c2)
/-- Behind the append. -/
structure L8 (b : List UInt8) (f x T : Nat) (w : World) (r : Nat) (a : Option Addr) (n c bx q cq : Nat) (ao : Option Addr) (its : List Rlp.It) (v : ItV) (z : RowOf) (W : World) : Prop where
  k : Keep r w W
  s : SlotI W w.heap.size (.bool false) (.slice none 0 0) (.slice none 0 0)
  sx : SlotI W bx (.bool true) (.slice none 0 0) (.slice ao q cq)
  o : OwnI W (bx + 1) (f + 1) (.slice z.a (q + 1) z.c) (q + 1) (its ++ [v.y])
  res : ResAt b f x T r a n c v.y W
theorem L8.of {b : List UInt8} {f x T : Nat} {w : World} {r : Nat} {a : Option Addr} {n c bx q cq : Nat} {ao ao' : Option Addr} {c' : Nat} {its : List Rlp.It} {v : ItV} {W W' : World} (h : L6 b f x T w r a n c bx q cq ao its v W) (h1 : r < w.heap.size) (h2 : w.heap.size < bx) (hg : W.grownBy W' (Value.slice ao q cq).ownBlock) (ho : OwnI W' (bx + 1) (f + 1) (.slice ao' (q + 1) c') (q + 1) (its ++ [v.y])) :
    L8 b f x T w r a n c bx q cq ao its v ⟨ao', q + 1, c'⟩ W' := by
  have hx := h.lc.x.lt
  have hs := h.lc.s.lt
  have hb : Below (bx + 1) W W' := grownI_below hg h.lc.o (Nat.le_refl _) (by omega)
  exact ⟨h.lc.k.thn (hb.mono (by omega)), h.lc.s.keep hb.size (hb.block _ (by omega)), h.lc.x.keep hb.size (hb.block _ (by omega)), ho, h.res.keep hb.size (hb.block _ (by omega))⟩
/-- Behind the store. -/
structure L10 (b : List UInt8) (f x T : Nat) (w : World) (r : Nat) (a : Option Addr) (n c bx q : Nat) (its : List Rlp.It) (v : ItV) (z : RowOf) (W : World) : Prop where
  lc : LC w r bx (f + 1) (q + 1) z.c z.a (its ++ [v.y]) W
  res : ResAt b f x T r a n c v.y W
theorem L10.of {b : List UInt8} {f x T : Nat} {w : World} {r : Nat} {a : Option Addr} {n c bx q cq : Nat} {ao : Option Addr} {its : List Rlp.It} {v : ItV} {z : RowOf} {W : World} (h : L8 b f x T w r a n c bx q cq ao its v z W) (h1 : r < w.heap.size) (h2 : w.heap.size < bx) :
    L10 b f x T w r a n c bx q its v z (W.setCell ⟨bx, 2, none⟩ (.slice z.a (q + 1) z.c)) := by
    exact ⟨⟨h.k.setNew (Nat.le_of_lt h2) _, h.s.keep (by simp) (Below.heap_setCell _ _ _ _ (Nat.ne_of_lt h2)), h.sx.set2 _, h.o.setBelow (Nat.lt_succ_self bx) _⟩, h.res.keep (by simp) (Below.heap_setCell _ _ _ _ (Nat.ne_of_lt (Nat.lt_trans h1 h2)))⟩
/-- A round's end. -/
theorem L10.rel {b : List UInt8} {f x T g : Nat} {R : Except (Nat × Nat) (List Rlp.It)} {w : World} {r : Nat} {a : Option Addr} {n c bx q cq : Nat} {ao : Option Addr} {its : List Rlp.It} {v : ItV} {z : RowOf} {W0 W : World} (h : L10 b f x T w r a n c bx q its v z W) (h0 : LOk b T R w r a n c bx f q cq ao its x g W0) (hl : x < T) (hb : b.length ≤ 4096) (hT : T ≤ b.length) : LRel b T R w r a n c bx f W ∧ LMeas r T W < LMeas r T W0 := by
  obtain ⟨g', rfl, hd⟩ := dList_step (step := Rlp.dItem b f) (acc := its) hl h0.hg
  rw [h0.d] at hd
  have hr := h.res
  unfold ResAt at hr
  have hg := h0.hg
  have hq := h0.hq
  rw [LMeas.ok h0.rd]
  cases hi : Rlp.dItem b f x T with
  | ok p =>
    obtain ⟨y', j⟩ := p
    rw [hi] at hr hd
    obtain ⟨he, hrd⟩ := hr
    have hbk := Rlp.dItem_back b hb f x T y' j hl hT hi
    have h1 := hbk.1.1
    have h2 := hbk.2
    rw [LMeas.ok hrd]
    exact ⟨.inl ⟨q + 1, z.c, z.a, its ++ [v.y], j, g', h.lc, hrd, h2, by omega, by omega, by rw [he]; exact hd.symm⟩, by omega⟩
  | error p =>
    obtain ⟨p, k⟩ := p
    rw [hi] at hr hd
    obtain ⟨hk, j, hrd⟩ := hr
    rw [LMeas.err hrd hk]
    exact ⟨.inr ⟨q + 1, z.c, z.a, its ++ [v.y], p, k, j, h.lc, hrd, hk, hd⟩, by omega⟩
theorem effAt_append_I {w : World} {o : Oper} {a : Act} {K : Value → World → Prop} (s x : Operand)
    (ho : o.op = .call { callee := .builtin .append, args := #[s, x], argTypes := #[TIS, TIS] }) (base k : Nat) (ao : Option Addr) (n c : Nat) (its : List Rlp.It) (ad : Nat) (cs : Nat) (y : Rlp.It) (u v z : Value) (hown : OwnI w base k (.slice ao n c) n its)
    (hy : IsIt (fun b => base ≤ b ∧ (Value.slice ao n c).ownBlock ≠ some b) w k y u v z) (q0 : w.cell? ⟨ad, 0, none⟩ = some u) (q1 : w.cell? ⟨ad, 1, none⟩ = some v) (q2 : w.cell? ⟨ad, 2, none⟩ = some z) (hs : a.eval s = .slice ao n c) (hx : a.eval x = .slice (some ⟨ad, 0, none⟩) 1 cs)
    (h40 : Sm ((n + 1) * 56)) (hbase : base ≤ w.heap.size)
    (h : ∀ ao' c' w', OwnI w' base k (.slice ao' (n + 1) c') (n + 1) (its ++ [y]) → w.grownBy w' (Value.slice ao n c).ownBlock → K (.slice ao' (n + 1) c') w') : effAt Tryd.prog o a w K := by
  obtain ⟨ao', c', w', hr, h1, h2⟩ := run_append_I w o.type base k ao n c its hown ad y u v z cs hy q0 q1 q2 h40 hbase
  unfold effAt
  simp [execOp, ho, resolve, invoke, builtin, hs, hx, hr, effUpon]
  exact h _ _ _ h1 h2
theorem call_L6 {f : Nat} (ih : RItemAt f) {w : World} {r bb off n c : Nat} {b : List UInt8} {x T : Nat} {D S E : Int} {bx q cq : Nat} {ao : Option Addr} {its : List Rlp.It} (h1 : b.length = n) (h2 : n ≤ c) (h3 : c ≤ maxLen) (h4 : n ≤ 4096) (h5 : x < T) (h6 : T ≤ n) (h8 : BytesF (fun b => b < r) w (some ⟨bb, off, none⟩) b) (h9 : E = 16 - f) (hf : f ≤ 16) (hS : S = (T : Int)) (g1 : r < w.heap.size) (g2 : w.heap.size < bx) (W : World) (hL : LC w r bx (f + 1) q cq ao its W) (hR : Rd W r (some ⟨bb, off, none⟩) n c x 0 0) :
    Calls Tryd.prog 44 #[.pointer (some ⟨r, 0, none⟩), .int .i64 S, .int .i64 E] W fun e w' => ∃ v : ItV, e = .returned (.agg #[.bool v.l, .slice v.a1 v.n1 v.c1, .slice v.a2 v.n2 v.c2]) ∧ L6 b f x T w r (some ⟨bb, off, none⟩) n c bx q cq ao its v w' :=
  (ih.at W r bb off n c b x T E S h1 h2 h3 h4 h5 h6 hR (h8.kept hL.k (fun b hb => by have : b < r := hb; omega)) h9 hf hS).mono fun e w' hr => L6.of hL g1 g2 hr
theorem L7.app {b : List UInt8} {f x T : Nat} {w : World} {r : Nat} {a : Option Addr} {n c bx q cq : Nat} {ao : Option Addr} {its : List Rlp.It} {v : ItV} {g : Nat} {W : World} (h : L7 b f x T w r a n c bx q cq ao its v g W) (hq : q ≤ 4096) (h1 : r < w.heap.size) (h2 : w.heap.size < bx) {o : Oper} {A : Act} (s y : Operand)
    (ho : o.op = .call { callee := .builtin .append, args := #[s, y], argTypes := #[TIS, TIS] }) (hs : A.eval s = .slice ao q cq) (hx : A.eval y = .slice (some ⟨g, 0, none⟩) 1 1) :
    effAt Tryd.prog o A W (fun u w' => ∃ z : RowOf, u = .slice z.a (q + 1) z.c ∧ L8 b f x T w r a n c bx q cq ao its v z w' ∧ True) := by
  refine effAt_append_I s y ho (bx + 1) (f + 1) ao q cq its g 1 v.y _ _ _ h.l6.lc.o h.l6.it h.c0 h.c1 h.c2 hs hx (Sm.of (by omega)) (by have := h.l6.lc.x.lt; omega) ?_
  intro ao' c' w' ho hg
  exact ⟨⟨ao', q + 1, c'⟩, rfl, L8.of h.l6 h1 h2 hg ho, trivial⟩
/-- The list at its end. -/
theorem LC.isIt {w : World} {r bx f q cq : Nat} {ao : Option Addr} {its : List Rlp.It} {W W' : World} (h : LC w r bx f q cq ao its W) (h1 : w.heap.size < bx) (hk : ∀ b, bx + 1 ≤ b → b < W.heap.size → b < W'.heap.size ∧ W'.heap[b]? = W.heap[b]?) : IsIt (fun b => w.heap.size ≤ b) W' (f + 1) (.mk true [] its) (.bool true) (.slice none 0 0) (.slice ao q cq) := by
  have ho := h.o.keep hk
  have hf : q ≤ cq ∧ cq ≤ maxLen := by
    rcases ho.form with ⟨e, e2⟩ | ⟨g2, c2, e, _, _, h1, h2⟩
    · injection e with e1 e2 e3; subst e3; omega
    · injection e with e1 e2 e3; subst e3; exact ⟨h1, h2⟩
  refine ⟨rfl, ⟨none, 0, rfl, Nat.le_refl _, Nat.zero_le _, fun _ => rfl, fun i hi => by simp [Rlp.It.bytes] at hi⟩, ao, cq, ?_, ?_, hf.2, ?_⟩
  · show _ = Value.slice ao its.length cq
    rw [ho.len]
  · show its.length ≤ cq
    rw [ho.len]; exact hf.1
  · intro i hi
    obtain ⟨b, off, u, v, z, e, hF, hl, c0, c1, c2, hx⟩ := ho.at i hi
    exact ⟨b, off, u, v, z, e, by omega, hl, c0, c1, c2, hx.move fun b hF hl => ⟨by omega, hl, rfl⟩⟩
end Go.Proofs.YtgcpnhnckbgjmaaDoor
