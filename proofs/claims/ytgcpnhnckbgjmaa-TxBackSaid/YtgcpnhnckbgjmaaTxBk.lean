/-
  TxBack: byte slices as they come in; what lies there in the loop.
-/
import Derived.Test.YtgcpnhnckbgjmaaTxPlacesWalk
set_option linter.unusedVariables false
set_option linter.unusedSimpArgs false
namespace Go.Proofs.Ytgcpnhnckbgjmaa
open Go.RowKit Go.ChangeShapes Go.WideShapes Go.Deep
set_option maxRecDepth 100000 in
theorem bs_open {H : Type} {enc : TypeId × Value → H} {w : World} {base fuel : Nat} {held : Bool} {a : Option Addr} {len cap : Nat} {x : DataW H × List MemPlace}
    (h : DataW.trod enc Try.prog w base (fun _ => true) held fuel TBB [.slice a len cap] = some x) : len ≤ cap ∧ cap ≤ maxLen ∧ ∃ s ls, List.length ls = len ∧ BsAt (fun _ => True) w a s ls := by
  have ce : Try.prog.cellsOf TBS = 1 := by kernel_rfl
  rcases open_slice Try.underlying39 h with ⟨h0, _⟩ | ⟨a', len', cap', m, n, D, Pl, hcs, _, hl, hm, hmm, _, hx⟩
  · simp at h0
    obtain ⟨rfl, rfl, rfl⟩ := h0
    exact ⟨Nat.le_refl _, Nat.zero_le _, fun _ => ⟨none, 0⟩, [], rfl, fun i hi => by simp at hi, fun i hi => by simp at hi, fun i hi => by simp at hi⟩
  · simp at hcs
    obtain ⟨rfl, rfl, rfl⟩ := hcs
    refine ⟨hl, hm, ?_⟩
    have hlm : len ≤ m := by rw [hmm]; simp; exact hl
    obtain ⟨b, off, sp⟩ := a'
    have one : ∀ {n : Nat} {cs : List Value} {y : DataW H × List MemPlace}, DataW.trod enc Try.prog w base (fun _ => true) held n TBS cs = some y → ∃ (p : AC) (l : List UInt8), cs = [.slice p.a l.length p.c] ∧ l.length ≤ p.c ∧ p.c ≤ maxLen ∧ (p.a = none → p.c = 0) ∧ BytesF (fun _ => True) w p.a l := by
      intro n cs y hy
      rcases open_ints Try.underlying25 Try.underlying5 (by kernel_rfl) hy with ⟨hcs, _⟩ | ⟨x, l, c, zs, hcs, _, hl, hm, hz, _, hcell, hwz⟩
      · exact ⟨⟨none, 0⟩, [], hcs, Nat.le_refl _, Nat.zero_le _, fun _ => rfl, fun i hi => by simp at hi⟩
      · have hrow : IsRow .u8 w (some x) l c zs := .inr ⟨_, rfl, hl, hm, by simpa using hz, hcell, hwz⟩
        obtain ⟨r1, r2, r3, r4, r5⟩ := row_all hrow
        exact ⟨⟨some x, c⟩, rowB zs l, by rw [r1]; exact hcs, by rw [r1]; exact r2, r3, r4, r5⟩
    have hs : 0 < len → sp = none := by
      intro h0
      obtain ⟨cs', h1, h2⟩ := hx 0 (by omega)
      rw [ce] at h1
      obtain ⟨p, l, rfl, _⟩ := one h2
      obtain ⟨_, _, hcell⟩ := World.cells?_some h1
      have c0 := hcell 0 (by omega)
      have e0 : ∀ q : Addr, q.add 0 = q := fun q => by simp [Addr.add]
      rw [Nat.zero_mul, e0, e0] at c0
      exact World.cell?_spot c0
    have each : ∀ i, i < len → ∃ e : AC × List UInt8, sp = none ∧ b < w.heap.size ∧ w.cell? ⟨b, off + i, none⟩ = some (.slice e.1.a e.2.length e.1.c) ∧ e.2.length ≤ e.1.c ∧ e.1.c ≤ maxLen ∧ (e.1.a = none → e.1.c = 0) ∧ BytesF (fun _ => True) w e.1.a e.2 := by
      intro i hi
      have hs := hs (by omega)
      subst hs
      obtain ⟨cs', h1, h2⟩ := hx i (by omega)
      rw [ce] at h1
      obtain ⟨p, l, rfl, g1, g2, g3, g4⟩ := one h2
      obtain ⟨_, _, hcell⟩ := World.cells?_some h1
      have hc := hcell 0 (by omega)
      have ea : ((⟨b, off, none⟩ : Addr).add (i * 1)).add 0 = ⟨b, off + i, none⟩ := by rw [add_add, add_plain, Nat.mul_one, Nat.add_zero]
      rw [ea] at hc
      refine ⟨(p, l), rfl, ?_, hc, g1, g2, g3, g4⟩
      rcases Nat.lt_or_ge b w.heap.size with h | h
      · exact h
      · simp [World.cell?, Array.getElem?_eq_none h] at hc
    have : Inhabited (AC × List UInt8) := ⟨(⟨none, 0⟩, [])⟩
    obtain ⟨z, hz⟩ := choose_lt each
    have gl : ∀ i, i < len → ((List.range len).map fun i => (z i).2).getD i [] = (z i).2 := fun i hi => by
      rw [List.getD_eq_getElem?_getD, List.getElem?_map, List.getElem?_range hi]; rfl
    refine ⟨fun i => (z i).1, (List.range len).map fun i => (z i).2, by simp, fun i hi => ?_, fun i hi => ?_, fun i hi => ?_⟩
    all_goals
      have hi : i < len := by simpa using hi
      obtain ⟨h1, h2, h3, h4, h5, h6, h7⟩ := hz i hi
      rw [gl i hi]
    · subst h1; exact ⟨b, off, rfl, h2, h3⟩
    · exact ⟨h4, h5, h6⟩
    · exact h7
/-- What lies there in the loop: the batch's bytes, the transactions that it should give. -/
structure BX (w : World) (aa : Option Addr) (na ca : Nat) (aw : Option Addr) (nw cw : Nat) (S : Nat → AC) (ls : List (List UInt8)) (ts : List (Nat → Nat)) (W : World) : Prop where
  b : Below w.heap.size w W
  s : OwnS W w.heap.size (.slice aa na ca) (.slice aw nw cw) na S ls
  t : W.ownsRow w.heap.size TTX 6 (.slice aw nw cw) nw (txsC ts)
  n : ts.length = nw
  d : ∀ k, (Value.slice aa na ca).ownBlock = some k → (Value.slice aw nw cw).ownBlock ≠ some k
  l : ∀ l ∈ ls, l.length ≤ 100
theorem BX.below {w : World} {aa : Option Addr} {na ca : Nat} {aw : Option Addr} {nw cw : Nat} {S : Nat → AC} {ls : List (List UInt8)} {ts : List (Nat → Nat)} {W W' : World} (h : BX w aa na ca aw nw cw S ls ts W) (hb : Below W.heap.size W W') : BX w aa na ca aw nw cw S ls ts W' :=
  ⟨h.b.trans (hb.mono h.b.size), h.s.below hb, ownsRow_below h.t hb, h.n, h.d, h.l⟩
theorem BX.lt {w : World} {aa : Option Addr} {na ca : Nat} {aw : Option Addr} {nw cw : Nat} {S : Nat → AC} {ls : List (List UInt8)} {ts : List (Nat → Nat)} {W : World} (h : BX w aa na ca aw nw cw S ls ts W) :
    ∀ b, W.heap.size ≤ b ∨ b < w.heap.size → (Value.slice aa na ca).ownBlock ≠ some b ∧ (Value.slice aw nw cw).ownBlock ≠ some b := fun b hb => by
  have h1 := h.s.row.lt
  have h2 := World.ownsRow.lt h.t
  exact ⟨fun e => by have := h1 _ e; omega, fun e => by have := h2 _ e; omega⟩
/-- The batch's row has grown. -/
theorem BX.appS {w : World} {aa a' : Option Addr} {na ca c' : Nat} {aw : Option Addr} {nw cw : Nat} {S : Nat → AC} {ls : List (List UInt8)} {ts : List (Nat → Nat)} {W W' : World} (h : BX w aa na ca aw nw cw S ls ts W) {p : AC} {l : List UInt8}
    (hp : l.length ≤ p.c ∧ p.c ≤ maxLen ∧ (p.a = none → p.c = 0)) (hl : BytesF (fun b => (Value.slice aa na ca).ownBlock ≠ some b ∧ (Value.slice aw nw cw).ownBlock ≠ some b) W p.a l) (h100 : l.length ≤ 100)
    (ho : W'.ownsRow w.heap.size TBS 1 (.slice a' (na + 1) c') (na + 1) (slC S ls na ++ [.slice p.a l.length p.c])) (hg : W.grownBy W' (Value.slice aa na ca).ownBlock)
    (hw : (Value.slice a' (na + 1) c').ownBlock = (Value.slice aa na ca).ownBlock ∨ (Value.slice a' (na + 1) c').ownBlock = some W.heap.size) : BX w a' (na + 1) c' aw nw cw (updS S na p) (ls ++ [l]) ts W' := by
  refine ⟨h.b.trans (grownR_below hg h.s.row (Nat.le_refl _) h.b.size), h.s.app hp hl ho hg hw, World.ownsRow.kept h.t hg ?_, h.n, fun k hk e => ?_, fun x hx => ?_⟩
  · cases hv : (Value.slice aw nw cw).ownBlock with
    | none => exact .inl rfl
    | some k => exact .inr fun e => h.d k e.symm hv
  · rcases hw with hw | hw
    · rw [hw] at hk; exact h.d k hk e
    · rw [hw] at hk; injection hk with hk; subst hk
      have := (World.ownsRow.lt h.t _ e).2; omega
  · rcases List.mem_append.1 hx with hx | hx
    · exact h.l x hx
    · simp at hx; subst hx; exact h100
theorem BX.appN {w : World} {aa a' : Option Addr} {na ca c' : Nat} {aw : Option Addr} {nw cw : Nat} {S : Nat → AC} {ls : List (List UInt8)} {ts : List (Nat → Nat)} {W W' : World} (h : BX w aa na ca aw nw cw S ls ts W) (p : AC) {l : List UInt8} {n : Nat} (hn : l.length = n)
    (hp : n ≤ p.c ∧ p.c ≤ maxLen ∧ (p.a = none → p.c = 0)) (hl : BytesF (fun _ => True) w p.a l) (h100 : n ≤ 100)
    (ho : W'.ownsRow w.heap.size TBS 1 (.slice a' (na + 1) c') (na + 1) (slC S ls na ++ [.slice p.a n p.c])) (hg : W.grownBy W' (Value.slice aa na ca).ownBlock)
    (hw : (Value.slice a' (na + 1) c').ownBlock = (Value.slice aa na ca).ownBlock ∨ (Value.slice a' (na + 1) c').ownBlock = some W.heap.size) : BX w a' (na + 1) c' aw nw cw (updS S na p) (ls ++ [l]) ts W' := by
  subst hn
  exact h.appS hp (hl.move fun b _ hl => ⟨h.lt b (.inr hl), by have := h.b.size; omega, h.b.block b hl⟩) h100 ho hg hw
/-- The transactions' row has grown. -/
theorem BX.appT {w : World} {aa aw' : Option Addr} {na ca cw' : Nat} {aw : Option Addr} {nw cw : Nat} {S : Nat → AC} {ls : List (List UInt8)} {ts : List (Nat → Nat)} {W W' : World} (h : BX w aa na ca aw nw cw S ls ts W) {vs : Nat → Nat}
    (ho : W'.ownsRow w.heap.size TTX 6 (.slice aw' (nw + 1) cw') (nw + 1) (txsC ts ++ txC vs)) (hg : W.grownBy W' (Value.slice aw nw cw).ownBlock)
    (hw : (Value.slice aw' (nw + 1) cw').ownBlock = (Value.slice aw nw cw).ownBlock ∨ (Value.slice aw' (nw + 1) cw').ownBlock = some W.heap.size) : BX w aa na ca aw' (nw + 1) cw' S ls (ts ++ [vs]) W' := by
  refine ⟨h.b.trans (grownR_below hg h.t (Nat.le_refl _) h.b.size), h.s.other ?_ hg hw, by rw [txsC_app]; exact ho, by simp [h.n], fun k hk e => ?_, h.l⟩
  · cases hv : (Value.slice aa na ca).ownBlock with
    | none => exact .inl rfl
    | some k => exact .inr fun e => h.d k hv e.symm
  · rcases hw with hw | hw
    · rw [hw] at e; exact h.d k hk e
    · rw [hw] at e; injection e with e; subst e
      have := (h.s.row.lt _ hk).2; omega
theorem nrm_app {ls : List (List UInt8)} {ts : List (Nat → Nat)} {l : List UInt8} {us vs : Nat → Nat} (h : (ls.filterMap tOpt).map nrm = ts.map nrm) (hl : tOpt l = some us) (hn : nrm us = nrm vs) : ((ls ++ [l]).filterMap tOpt).map nrm = (ts ++ [vs]).map nrm := by
  rw [List.filterMap_append, List.map_append, List.map_append, h]
  congr 1
  simp [hl, hn]
theorem nrm_bad {ls : List (List UInt8)} {ts : List (Nat → Nat)} {l : List UInt8} (h : (ls.filterMap tOpt).map nrm = ts.map nrm) (hl : tOpt l = none) : ((ls ++ [l]).filterMap tOpt).map nrm = ts.map nrm := by
  rw [List.filterMap_append, List.map_append, h]
  simp [hl]
theorem tOpt_bad {l : List UInt8} {r : Option Nat × Nat} (h : tDec l = .error r) : tOpt l = none := by unfold tOpt; rw [h]
theorem tOpt_ok {l : List UInt8} {vs : Nat → Nat} (h : tDec l = .ok vs) : tOpt l = some vs := by unfold tOpt; rw [h]
/-- Cells that stay while the rows v and u grow. -/
structure Kp (v u : Value) (g : Nat) (xs : List Value) (W : World) : Prop where
  lt : g < W.heap.size
  c : ∀ k x, xs[k]? = some x → W.cell? ⟨g, k, none⟩ = some x
  n : v.ownBlock ≠ some g ∧ u.ownBlock ≠ some g
theorem Kp.below {v u : Value} {g : Nat} {xs : List Value} {W W' : World} (h : Kp v u g xs W) (hb : Below W.heap.size W W') : Kp v u g xs W' :=
  ⟨by have := h.lt; have := hb.size; omega, fun k x hx => by rw [hb.cell (p := ⟨g, k, none⟩) h.lt]; exact h.c k x hx, h.n⟩
theorem Kp.left {v v' u : Value} {g : Nat} {xs : List Value} {W W' : World} (h : Kp v u g xs W) (hg : W.grownBy W' v.ownBlock) (hw : v'.ownBlock = v.ownBlock ∨ v'.ownBlock = some W.heap.size) : Kp v' u g xs W' := by
  have hl := h.lt
  refine ⟨by have := hg.size; omega, fun k x hx => ?_, ?_, h.n.2⟩
  · rw [World.cell?_of_block (a := ⟨g, k, none⟩) (hg.block g hl (fun e => h.n.1 e.symm))]; exact h.c k x hx
  · rcases hw with e | e
    · rw [e]; exact h.n.1
    · rw [e]; intro e2; injection e2 with e2; omega
theorem Kp.swap {v u : Value} {g : Nat} {xs : List Value} {W : World} (h : Kp v u g xs W) : Kp u v g xs W := ⟨h.lt, h.c, h.n.2, h.n.1⟩
theorem Kp.right {v u u' : Value} {g : Nat} {xs : List Value} {W W' : World} (h : Kp v u g xs W) (hg : W.grownBy W' u.ownBlock) (hw : u'.ownBlock = u.ownBlock ∨ u'.ownBlock = some W.heap.size) : Kp v u' g xs W' := (h.swap.left hg hw).swap
theorem Kp.txc {v u : Value} {g : Nat} {vs : Nat → Nat} {W : World} (h : Kp v u g (txC vs) W) : TXC g vs W := ⟨h.lt, fun k hk => h.c k _ (txC_get vs k hk)⟩
theorem BX.kp {w : World} {aa : Option Addr} {na ca : Nat} {aw : Option Addr} {nw cw : Nat} {S : Nat → AC} {ls : List (List UInt8)} {ts : List (Nat → Nat)} {W : World} (h : BX w aa na ca aw nw cw S ls ts W) (xs : List Value) (T : TypeId) : Kp (.slice aa na ca) (.slice aw nw cw) W.heap.size xs (W.alloc (.cells xs.toArray T)) :=
  ⟨by simp, newC rfl, h.lt _ (.inl (Nat.le_refl _))⟩
theorem TXC.kp {v u : Value} {g : Nat} {vs : Nat → Nat} {W : World} (h : TXC g vs W) (n : v.ownBlock ≠ some g ∧ u.ownBlock ≠ some g) : Kp v u g (txC vs) W := ⟨h.1, fun k x hx => by
  have hk : k < 6 := by
    rcases Nat.lt_or_ge k 6 with h | h
    · exact h
    · rw [List.getElem?_eq_none (by simp [txC]; omega)] at hx; cases hx
  rw [txC_get vs k hk] at hx
  rw [← hx]; exact h.2 k hk, n⟩
theorem appS_eff {w : World} {aa : Option Addr} {na ca : Nat} {aw : Option Addr} {nw cw : Nat} {S : Nat → AC} {ls : List (List UInt8)} {ts : List (Nat → Nat)} {W : World} (h : BX w aa na ca aw nw cw S ls ts W) (h8 : na ≤ 8) {p : AC} {l : List UInt8} {n : Nat} (hn : l.length = n) {g : Nat} (hK : Kp (.slice aa na ca) (.slice aw nw cw) g [.slice p.a n p.c] W)
    (hp : n ≤ p.c ∧ p.c ≤ maxLen ∧ (p.a = none → p.c = 0)) (hl : BytesF (fun b => (Value.slice aa na ca).ownBlock ≠ some b ∧ (Value.slice aw nw cw).ownBlock ≠ some b) W p.a l) (h100 : n ≤ 100)
    {o : Oper} {A : Act} (s y : Operand) (ho : o.op = .call { callee := .builtin .append, args := #[s, y], argTypes := #[TBB, TBB] }) (hs : A.eval s = .slice aa na ca) (hx : A.eval y = .slice (some ⟨g, 0, none⟩) 1 1) {Q : AC → World → Prop}
    (hQ : ∀ (z : AC) W', BX w z.a (na + 1) z.c aw nw cw (updS S na p) (ls ++ [l]) ts W' → W.grownBy W' (Value.slice aa na ca).ownBlock → ((Value.slice z.a (na + 1) z.c).ownBlock = (Value.slice aa na ca).ownBlock ∨ (Value.slice z.a (na + 1) z.c).ownBlock = some W.heap.size) → Q z W') :
    effAt Try.prog o A W (fun u w' => ∃ z : AC, u = .slice z.a (na + 1) z.c ∧ Q z w') := by
  subst hn
  obtain ⟨ao', c', w', hr, h1, h2, h3⟩ := run_append_R rtB W o.type w.heap.size aa na ca _ h.s.row g 1 [.slice p.a l.length p.c] rfl hK.c (by simp [Value.oneCell']) (Sm.of (by omega)) (by unfold maxLen; omega) h.b.size
  unfold effAt
  simp [execOp, ho, resolve, invoke, builtin, hs, hx, hr, effUpon]
  exact ⟨⟨ao', c'⟩, ⟨rfl, rfl⟩, hQ ⟨ao', c'⟩ _ (h.appS hp hl h100 h1 h2 h3) h2 h3⟩
theorem appT_eff {w : World} {aa : Option Addr} {na ca : Nat} {aw : Option Addr} {nw cw : Nat} {S : Nat → AC} {ls : List (List UInt8)} {ts : List (Nat → Nat)} {W : World} (h : BX w aa na ca aw nw cw S ls ts W) (h8 : nw ≤ 8) {vs : Nat → Nat} {g : Nat} (hK : Kp (.slice aa na ca) (.slice aw nw cw) g (txC vs) W)
    {o : Oper} {A : Act} (s y : Operand) (ho : o.op = .call { callee := .builtin .append, args := #[s, y], argTypes := #[TTS, TTS] }) (hs : A.eval s = .slice aw nw cw) (hx : A.eval y = .slice (some ⟨g, 0, none⟩) 1 1) {Q : AC → World → Prop}
    (hQ : ∀ (z : AC) W', BX w aa na ca z.a (nw + 1) z.c S ls (ts ++ [vs]) W' → W.grownBy W' (Value.slice aw nw cw).ownBlock → ((Value.slice z.a (nw + 1) z.c).ownBlock = (Value.slice aw nw cw).ownBlock ∨ (Value.slice z.a (nw + 1) z.c).ownBlock = some W.heap.size) → Q z W') :
    effAt Try.prog o A W (fun u w' => ∃ z : AC, u = .slice z.a (nw + 1) z.c ∧ Q z w') := by
  obtain ⟨ao', c', w', hr, h1, h2, h3⟩ := run_append_R rtT W o.type w.heap.size aw nw cw _ h.t g 1 (txC vs) rfl hK.c (txC_one vs) (Sm.of (by omega)) (by unfold maxLen; omega) h.b.size
  unfold effAt
  simp [execOp, ho, resolve, invoke, builtin, hs, hx, hr, effUpon]
  exact ⟨⟨ao', c'⟩, ⟨rfl, rfl⟩, hQ ⟨ao', c'⟩ _ (h.appT h1 h2 h3) h2 h3⟩
/-- Ahead of the two appends. -/
structure Q0 (w : World) (aa : Option Addr) (na ca : Nat) (aw : Option Addr) (nw cw : Nat) (S : Nat → AC) (ls : List (List UInt8)) (ts : List (Nat → Nat)) (an : Option Addr) (L : List UInt8) (g : Nat) (vs : Nat → Nat) (W : World) : Prop where
  x : BX w aa na ca aw nw cw S ls ts W
  y : BytesF (fun b => (Value.slice aa na ca).ownBlock ≠ some b ∧ (Value.slice aw nw cw).ownBlock ≠ some b) W an L
  k : Kp (.slice aa na ca) (.slice aw nw cw) g (txC vs) W
theorem Q0.below {w : World} {aa : Option Addr} {na ca : Nat} {aw : Option Addr} {nw cw : Nat} {S : Nat → AC} {ls : List (List UInt8)} {ts : List (Nat → Nat)} {an : Option Addr} {L : List UInt8} {g : Nat} {vs : Nat → Nat} {W W' : World} (h : Q0 w aa na ca aw nw cw S ls ts an L g vs W) (hb : Below W.heap.size W W') : Q0 w aa na ca aw nw cw S ls ts an L g vs W' :=
  ⟨h.x.below hb, h.y.below hb, h.k.below hb⟩
/-- Behind the first append. -/
structure Q3 (w : World) (na : Nat) (aw : Option Addr) (nw cw : Nat) (S : Nat → AC) (ls : List (List UInt8)) (ts : List (Nat → Nat)) (g : Nat) (vs : Nat → Nat) (z : AC) (W : World) : Prop where
  x : BX w z.a (na + 1) z.c aw nw cw S ls ts W
  k : Kp (.slice z.a (na + 1) z.c) (.slice aw nw cw) g (txC vs) W
theorem Q3.below {w : World} {na : Nat} {aw : Option Addr} {nw cw : Nat} {S : Nat → AC} {ls : List (List UInt8)} {ts : List (Nat → Nat)} {g : Nat} {vs : Nat → Nat} {z : AC} {W W' : World} (h : Q3 w na aw nw cw S ls ts g vs z W) (hb : Below W.heap.size W W') : Q3 w na aw nw cw S ls ts g vs z W' :=
  ⟨h.x.below hb, h.k.below hb⟩
/-- What several ways end in, shown once. -/
theorem once {P : Prop} (D : AC → AC → World → Prop) (Q : Nat → Nat → AC → AC → World → Prop) (main : (∀ g1 g2 z y W, D z y W → Q g1 g2 z y W) → P) (rest : ∀ g1 g2 z y W, D z y W → Q g1 g2 z y W) : P := main rest
end Go.Proofs.Ytgcpnhnckbgjmaa
