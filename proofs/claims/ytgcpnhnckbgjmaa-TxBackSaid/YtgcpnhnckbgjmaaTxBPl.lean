/-
  Batches, plain: what leads back; rows of byte slices of a call's own.
-/
import Derived.Test.YtgcpnhnckbgjmaaTxBat
import Derived.Test.YtgcpnhnckbgjmaaTxSame
set_option linter.unusedVariables false
set_option linter.unusedSimpArgs false
namespace Go.Proofs.Ytgcpnhnckbgjmaa
open Go.RowKit
variable {F : Nat → Prop}
/-! ### What stands in a batch -/
theorem uSum (its : List Rlp.It) (j : Nat) (hj : j ≤ its.length) : (uTxs its j).length + (uBad its j).length = j := by
  induction j with
  | zero => simp [uTxs, uBad]
  | succ j ih =>
    have ih := ih (by omega)
    cases h : uTx (its.getD j default) with
    | none => rw [uTxs_none hj h, uBad_none h, List.length_append]; simp; omega
    | some vs => rw [uTxs_some hj h, uBad_some h, List.length_append]; simp; omega
theorem uBad_lt (its : List Rlp.It) (j i : Nat) (hi : i < (uBad its j).length) : (uBad its j).getD i 0 < j := by
  rw [List.getD_eq_getElem?_getD, List.getElem?_eq_getElem hi]
  have := List.getElem_mem hi
  unfold uBad at this ⊢
  rw [List.mem_filter, List.mem_range] at this
  exact this.1
theorem uBad_up (its : List Rlp.It) (j i : Nat) (hi : i + 1 < (uBad its j).length) : (uBad its j).getD i 0 < (uBad its j).getD (i + 1) 0 := by
  rw [List.getD_eq_getElem?_getD, List.getElem?_eq_getElem (by omega), List.getD_eq_getElem?_getD, List.getElem?_eq_getElem hi]
  have h : List.Pairwise (· < ·) (uBad its j) := List.pairwise_lt_range.sublist List.filter_sublist
  exact List.pairwise_iff_getElem.1 h i (i + 1) (by omega) hi (Nat.lt_succ_self _)
theorem uTx_ok {y : Rlp.It} {vs : Nat → Nat} (h : uTx y = some vs) : wide vs ∧ okTx vs := by
  unfold uTx at h
  split at h
  · cases h
  · split at h
    · rename_i us hu
      injection h with h; subst h
      exact tdec_ok hu
    · cases h
theorem uTxs_ok {its : List Rlp.It} {j : Nat} {vs : Nat → Nat} (h : vs ∈ uTxs its j) : wide vs ∧ okTx vs := by
  unfold uTxs at h
  rw [List.mem_filterMap] at h
  obtain ⟨y, _, h⟩ := h
  exact uTx_ok h
theorem uDec_len {b : List UInt8} {its : List Rlp.It} (h : uDec b = .ok its) : its.length ≤ 8 := by
  unfold uDec at h
  split at h
  · cases h
  · split at h
    · cases h
    · split at h
      · cases h
      · injection h with h; subst h; omega
/-! ### Bytes laid into a batch lead back -/
theorem leaf_form (l : List UInt8) : (Rlp.form (.mk false l [])).length ≤ l.length + 9 := by
  by_cases h : l.length = 1
  · obtain ⟨u, rfl⟩ := List.length_eq_one_iff.1 h
    rw [form_one]
    split
    · simp
    · exact headed_len 128 [u]
  · rw [form_bytes _ _ h]; exact headed_len 128 l
theorem formC_leaf (ls : List (List UInt8)) (hl : ∀ l ∈ ls, l.length ≤ 100) : (Rlp.formC (ls.map fun l => .mk false l [])).length ≤ 109 * ls.length := by
  induction ls with
  | nil => simp [Rlp.formC]
  | cons l ls ih =>
    have h1 := ih fun l h => hl l (List.mem_cons_of_mem _ h)
    have h2 := leaf_form l
    have h3 := hl l List.mem_cons_self
    have h4 : Rlp.formC [Rlp.It.mk false l []] = Rlp.form (.mk false l []) := by simp [Rlp.formC]
    rw [List.map_cons, show Rlp.It.mk false l [] :: ls.map (fun l => Rlp.It.mk false l []) = [Rlp.It.mk false l []] ++ ls.map (fun l => Rlp.It.mk false l []) from rfl, Rlp.formC_app, List.length_append, h4, List.length_cons]
    omega
theorem bForm (ls : List (List UInt8)) (h8 : ls.length ≤ 8) (hl : ∀ l ∈ ls, l.length ≤ 100) : Rlp.form (bItem ls) = Rlp.headed 192 (Rlp.formC (ls.map fun l => .mk false l [])) := by
  have := formC_leaf ls hl
  unfold bItem
  rw [form_list, Rlp.formL_cat _ _ (by simp; omega)]; simp
theorem bForm_len (ls : List (List UInt8)) (h8 : ls.length ≤ 8) (hl : ∀ l ∈ ls, l.length ≤ 100) : (Rlp.form (bItem ls)).length ≤ 1000 := by
  have := formC_leaf ls hl
  have h := headed_len 192 (Rlp.formC (ls.map fun l => .mk false l []))
  rw [bForm ls h8 hl]; omega
theorem bat_ok (ls : List (List UInt8)) (h8 : ls.length ≤ 8) (hl : ∀ l ∈ ls, l.length ≤ 100) : bat ls = .ok (Rlp.form (bItem ls)) := by
  have hlen := bForm_len ls h8 hl
  unfold bat
  rw [if_neg (by omega)]
  unfold enc
  have hm : ∀ x ∈ ls.map fun l => Rlp.It.mk false l [], ∃ l : List UInt8, x = .mk false l [] := fun x hx => by
    rw [List.mem_map] at hx
    obtain ⟨l, _, rfl⟩ := hx; exact ⟨l, rfl⟩
  have hn : Rlp.nest (bItem ls) 16 ≤ 2 := by
    unfold bItem
    rw [Rlp.nest]
    have := Rlp.nestL_le (ls.map fun l => .mk false l []) 15 1 (fun x hx => by obtain ⟨l, rfl⟩ := hm x hx; simp [Rlp.nest, Rlp.nestL])
    omega
  have hr : Rlp.right (bItem ls) = true := by
    unfold bItem
    simp only [Rlp.right, if_true, List.isEmpty_nil, Bool.true_and]
    exact Rlp.rightL_all _ (fun x hx => by obtain ⟨l, rfl⟩ := hm x hx; simp [Rlp.right])
  rw [if_neg (by omega), hr, if_neg (by decide), if_neg (by omega)]
theorem uDec_b (ls : List (List UInt8)) (h8 : ls.length ≤ 8) (hl : ∀ l ∈ ls, l.length ≤ 100) : uDec (Rlp.form (bItem ls)) = .ok (ls.map fun l => .mk false l []) := by
  have h1 := bForm_len ls h8 hl
  have h2 := formC_leaf ls hl
  have h : Rlp.decode (Rlp.form (bItem ls)) = .ok (bItem ls) := list_back ls (by unfold bItem at h1; omega) (by omega) fun l h => by have := hl l h; omega
  unfold uDec
  rw [h]
  simp only
  rw [if_neg (by simp [bItem, Rlp.It.list]), if_neg (by simp [bItem, Rlp.It.items]; omega)]
  rfl
def tOpt (l : List UInt8) : Option (Nat → Nat) := match tDec l with
  | .ok vs => some vs
  | .error _ => none
theorem uTx_leaf (l : List UInt8) : uTx (.mk false l []) = tOpt l := rfl
theorem uTxs_b (ls : List (List UInt8)) : uTxs (ls.map fun l => .mk false l []) ls.length = ls.filterMap tOpt := by
  unfold uTxs
  rw [List.take_of_length_le (by simp), List.filterMap_map]
  rfl
/-! ### Transactions up to what counts -/
def nrm (vs : Nat → Nat) : Nat → Nat := fun k => if k < 6 then vs k else 0
theorem sameT_nrm (vs us : Nat → Nat) : sameT vs us = true ↔ nrm vs = nrm us := by
  rw [sameT_iff]
  constructor
  · intro h
    funext k
    unfold nrm
    split
    · exact h k (by assumption)
    · rfl
  · intro h k hk
    have := congrFun h k
    simpa [nrm, hk] using this
theorem sameL_nrm (xs ys : List (Nat → Nat)) : sameL xs ys ↔ xs.map nrm = ys.map nrm := by
  unfold sameL sameF
  constructor
  · rintro ⟨h1, h2⟩
    apply List.ext_getElem
    · simpa using h1
    · intro i hi hj
      have hi' : i < xs.length := by simpa using hi
      have hj' : i < ys.length := by simpa using hj
      have := (sameT_nrm _ _).1 (h2 i hi')
      rw [List.getD_eq_getElem?_getD, List.getD_eq_getElem?_getD, List.getElem?_eq_getElem hi', List.getElem?_eq_getElem hj'] at this
      simpa using this
  · intro h
    have hl : xs.length = ys.length := by have := congrArg List.length h; simpa using this
    refine ⟨hl, fun i hi => (sameT_nrm _ _).2 ?_⟩
    have : (xs.map nrm)[i]? = (ys.map nrm)[i]? := by rw [h]
    rw [List.getElem?_map, List.getElem?_map, List.getElem?_eq_getElem hi, List.getElem?_eq_getElem (by omega)] at this
    rw [List.getD_eq_getElem?_getD, List.getD_eq_getElem?_getD, List.getElem?_eq_getElem hi, List.getElem?_eq_getElem (by omega)]
    simpa using this
theorem tOpt_form (vs : Nat → Nat) (hw : wide vs) (ho : okTx vs) : ∃ us, tOpt (Rlp.form (tItem vs)) = some us ∧ nrm us = nrm vs := by
  refine ⟨tNum (tItem vs), by unfold tOpt; rw [tdec_back vs hw ho], ?_⟩
  funext k
  unfold nrm
  split
  · exact tNum_t vs hw k (by assumption)
  · rfl
theorem filterMap_forms (ts : List (Nat → Nat)) (h : ∀ t ∈ ts, wide t ∧ okTx t) : ((ts.map fun t => Rlp.form (tItem t)).filterMap tOpt).map nrm = ts.map nrm := by
  induction ts with
  | nil => rfl
  | cons t ts ih =>
    obtain ⟨us, h1, h2⟩ := tOpt_form t (h t List.mem_cons_self).1 (h t List.mem_cons_self).2
    simp only [List.map_cons]
    rw [List.filterMap_cons, h1]
    simp only [List.map_cons]
    rw [h2, ih fun t ht => h t (List.mem_cons_of_mem _ ht)]
/-! ### Byte slices in a row of the call's own -/
def slC (s : Nat → AC) (ls : List (List UInt8)) (n : Nat) : List Value := (List.range n).map fun i => .slice (s i).a (ls.getD i []).length (s i).c
theorem slC_get (s : Nat → AC) (ls : List (List UInt8)) (n i : Nat) (hi : i < n) : (slC s ls n)[i]? = some (.slice (s i).a (ls.getD i []).length (s i).c) := by
  unfold slC
  rw [List.getElem?_map, List.getElem?_range hi]; rfl
/-- The row v of the call's own holds byte slices, none of which lies in the row's own block, nor in that of u. -/
structure OwnS (w : World) (base : Nat) (v u : Value) (n : Nat) (s : Nat → AC) (ls : List (List UInt8)) : Prop where
  len : ls.length = n
  row : w.ownsRow base TBS 1 v n (slC s ls n)
  cap : ∀ i, i < n → (ls.getD i []).length ≤ (s i).c ∧ (s i).c ≤ maxLen ∧ ((s i).a = none → (s i).c = 0)
  byt : ∀ i, i < n → BytesF (fun b => v.ownBlock ≠ some b ∧ u.ownBlock ≠ some b) w (s i).a (ls.getD i [])
theorem OwnS.nil (w : World) (base : Nat) (u : Value) (s : Nat → AC) : OwnS w base (.slice none 0 0) u 0 s [] := ⟨rfl, World.ownsRow_nil _ _ _ _, fun i hi => by omega, fun i hi => by omega⟩
theorem OwnS.below {w w' : World} {base n : Nat} {v u : Value} {s : Nat → AC} {ls : List (List UInt8)} (h : OwnS w base v u n s ls) (hb : Below w.heap.size w w') : OwnS w' base v u n s ls :=
  ⟨h.len, ownsRow_below h.row hb, h.cap, fun i hi => (h.byt i hi).below hb⟩
theorem OwnS.bsAt {w : World} {base n c : Nat} {a : Option Addr} {u : Value} {s : Nat → AC} {ls : List (List UInt8)} (h : OwnS w base (.slice a n c) u n s ls) : BsAt (fun _ => True) w a s ls := by
  have hl := h.len
  refine ⟨fun i hi => ?_, fun i hi => h.cap i (by omega), fun i hi => (h.byt i (by omega)).move fun b _ hl => ⟨trivial, hl, rfl⟩⟩
  obtain ⟨g, e, _, hg, hc⟩ := rowCell h.row i (by omega)
  exact ⟨g, 0, e, hg, by rw [Nat.zero_add, hc, slC_get _ _ _ _ (by omega)]⟩
def updS (s : Nat → AC) (n : Nat) (p : AC) : Nat → AC := fun i => if i = n then p else s i
theorem OwnS.app {W W' : World} {base n c c' : Nat} {a a' : Option Addr} {u : Value} {s : Nat → AC} {ls : List (List UInt8)} {p : AC} {l : List UInt8} (h : OwnS W base (.slice a n c) u n s ls)
    (hp : l.length ≤ p.c ∧ p.c ≤ maxLen ∧ (p.a = none → p.c = 0)) (hl : BytesF (fun b => (Value.slice a n c).ownBlock ≠ some b ∧ u.ownBlock ≠ some b) W p.a l)
    (ho : W'.ownsRow base TBS 1 (.slice a' (n + 1) c') (n + 1) (slC s ls n ++ [.slice p.a l.length p.c])) (hg : W.grownBy W' (Value.slice a n c).ownBlock)
    (hw : (Value.slice a' (n + 1) c').ownBlock = (Value.slice a n c).ownBlock ∨ (Value.slice a' (n + 1) c').ownBlock = some W.heap.size) : OwnS W' base (.slice a' (n + 1) c') u (n + 1) (updS s n p) (ls ++ [l]) := by
  have hlen := h.len
  have gO : ∀ i, i < n → (ls ++ [l]).getD i [] = ls.getD i [] := fun i hi => by rw [List.getD_eq_getElem?_getD, List.getElem?_append_left (by omega), List.getD_eq_getElem?_getD]
  have gN : (ls ++ [l]).getD n [] = l := by rw [List.getD_eq_getElem?_getD, List.getElem?_append_right (by omega), hlen]; simp
  have uO : ∀ i, i < n → updS s n p i = s i := fun i hi => by unfold updS; rw [if_neg (by omega)]
  have uN : updS s n p n = p := by unfold updS; rw [if_pos rfl]
  have mv : ∀ b, (Value.slice a n c).ownBlock ≠ some b ∧ u.ownBlock ≠ some b → b < W.heap.size → ((Value.slice a' (n + 1) c').ownBlock ≠ some b ∧ u.ownBlock ≠ some b) ∧ b < W'.heap.size ∧ W'.heap[b]? = W.heap[b]? := by
    intro b hb hl
    refine ⟨⟨?_, hb.2⟩, by have := hg.size; omega, hg.block b hl (fun e => hb.1 e.symm)⟩
    rcases hw with e | e
    · rw [e]; exact hb.1
    · rw [e]; intro e2; injection e2 with e2; omega
  refine ⟨by simp [hlen], ?_, fun i hi => ?_, fun i hi => ?_⟩
  · have e : slC (updS s n p) (ls ++ [l]) (n + 1) = slC s ls n ++ [.slice p.a l.length p.c] := by
      unfold slC
      rw [List.range_succ, List.map_append]
      congr 1
      · exact List.map_congr_left fun i hi => by have hi := List.mem_range.1 hi; rw [uO i hi, gO i hi]
      · simp only [List.map_cons, List.map_nil]; rw [uN, gN]
    rw [e]; exact ho
  · by_cases e : i = n
    · subst e; rw [uN, gN]; exact hp
    · rw [uO i (by omega), gO i (by omega)]; exact h.cap i (by omega)
  · by_cases e : i = n
    · subst e; rw [uN, gN]; exact hl.move mv
    · rw [uO i (by omega), gO i (by omega)]; exact (h.byt i (by omega)).move mv
/-- The other row grew. -/
theorem OwnS.other {W W' : World} {base n : Nat} {v u u' : Value} {s : Nat → AC} {ls : List (List UInt8)} (h : OwnS W base v u n s ls) (hd : v.ownBlock = none ∨ v.ownBlock ≠ u.ownBlock) (hg : W.grownBy W' u.ownBlock)
    (hw : u'.ownBlock = u.ownBlock ∨ u'.ownBlock = some W.heap.size) : OwnS W' base v u' n s ls :=
  ⟨h.len, World.ownsRow.kept h.row hg hd, h.cap, fun i hi => (h.byt i hi).move fun b hb hl => ⟨⟨hb.1, by
    rcases hw with e | e
    · rw [e]; exact hb.2
    · rw [e]; intro e2; injection e2 with e2; omega⟩, by have := hg.size; omega, hg.block b hl (fun e => hb.2 e.symm)⟩⟩
end Go.Proofs.Ytgcpnhnckbgjmaa
