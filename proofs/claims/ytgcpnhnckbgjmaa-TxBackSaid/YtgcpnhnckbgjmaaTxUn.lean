/-
  tx.Unbatch by its contract.
-/
import Derived.Test.YtgcpnhnckbgjmaaRow
import Derived.Deep.Onto
set_option linter.unusedVariables false
set_option linter.unusedSimpArgs false
namespace Go.Proofs.Ytgcpnhnckbgjmaa
open Go.RowKit
variable {F : Nat → Prop}
/-- The transaction that an item of a batch is. -/
def uTx (y : Rlp.It) : Option (Nat → Nat) := if y.list then none else match tDec y.bytes with
  | .ok vs => some vs
  | .error _ => none
def uTxs (its : List Rlp.It) (j : Nat) : List (Nat → Nat) := (its.take j).filterMap uTx
def uBad (its : List Rlp.It) (j : Nat) : List Nat := (List.range j).filter fun i => (uTx (its.getD i default)).isNone
theorem uTxs_len (its : List Rlp.It) (j : Nat) : (uTxs its j).length ≤ j := Nat.le_trans (List.length_filterMap_le _ _) (by rw [List.length_take]; exact Nat.min_le_left _ _)
theorem uBad_len (its : List Rlp.It) (j : Nat) : (uBad its j).length ≤ j := Nat.le_trans (List.length_filter_le _ _) (by simp)
theorem take_succD (its : List Rlp.It) (j : Nat) (hj : j < its.length) : its.take (j + 1) = its.take j ++ [its.getD j default] := by
  rw [List.take_add_one, List.getD_eq_getElem?_getD, List.getElem?_eq_getElem hj]; rfl
theorem uTxs_some {its : List Rlp.It} {j : Nat} {vs : Nat → Nat} (hj : j < its.length) (h : uTx (its.getD j default) = some vs) : uTxs its (j + 1) = uTxs its j ++ [vs] := by
  unfold uTxs
  rw [take_succD its j hj, List.filterMap_append]
  generalize its.getD j default = y at h ⊢
  simp [h]
theorem uTxs_none {its : List Rlp.It} {j : Nat} (hj : j < its.length) (h : uTx (its.getD j default) = none) : uTxs its (j + 1) = uTxs its j := by
  unfold uTxs
  rw [take_succD its j hj, List.filterMap_append]
  generalize its.getD j default = y at h ⊢
  simp [h]
theorem uBad_some {its : List Rlp.It} {j : Nat} {vs : Nat → Nat} (h : uTx (its.getD j default) = some vs) : uBad its (j + 1) = uBad its j := by
  unfold uBad
  rw [List.range_succ, List.filter_append]
  have h2 : (List.filter (fun i => (uTx (its.getD i default)).isNone) [j]) = [] := by
    rw [List.filter_cons, h]; rfl
  rw [h2, List.append_nil]
theorem uBad_none {its : List Rlp.It} {j : Nat} (h : uTx (its.getD j default) = none) : uBad its (j + 1) = uBad its j ++ [j] := by
  unfold uBad
  rw [List.range_succ, List.filter_append]
  have h2 : (List.filter (fun i => (uTx (its.getD i default)).isNone) [j]) = [j] := by
    rw [List.filter_cons, h]; rfl
  rw [h2]
/-- The items of a batch's bytes, or what is wrong. -/
def uDec (b : List UInt8) : Except (Option Nat × Nat) (List Rlp.It) := match Rlp.decode b with
  | .error (p, c) => .error (some p, c)
  | .ok x => if x.list = false then .error (none, 3) else if 8 < x.items.length then .error (none, 5) else .ok x.items
/-- What tx.Unbatch answers. -/
def UDec (w : World) (r : Except (Option Nat × Nat) (List Rlp.It)) (e : Ending) (w' : World) : Prop :=
  Below w.heap.size w w' ∧ match r with
  | .error (some p, c) => ∃ q, e = .returned (.tuple #[.slice none 0 0, .slice none 0 0, .iface TF (.pointer (some ⟨q, 0, none⟩))]) ∧ FaultAt w' q p c
  | .error (none, c) => e = .returned (.tuple #[.slice none 0 0, .slice none 0 0, .iface TE (.int .i64 c)])
  | .ok its => ∃ al nl cl ab nb cb, e = .returned (.tuple #[.slice al nl cl, .slice ab nb cb, .nilIface]) ∧ nl = (uTxs its its.length).length ∧ nb = (uBad its its.length).length ∧ OwnT w' w.heap.size (.slice al nl cl) (uTxs its its.length) ∧ OwnN w' w.heap.size (.slice ab nb cb) (uBad its its.length)
set_option maxRecDepth 100000 in
set_option maxHeartbeats 1000000 in
theorem unb_err (w : World) (a : Option Addr) (n c : Nat) (b : List UInt8) (hl : b.length = n) (hc : n ≤ c) (hcm : c ≤ maxLen) (hb : BytesF F w a b) (p k : Nat) (h : Rlp.decode b = .error (p, k)) :
    Calls Try.prog 9 #[.slice a n c] w (UDec w (.error (some p, k))) := by
  have HC := Lib.hid (dec_V w a n c b hl hc hcm hb)
  have HD := Lib.hid h
  clear hl hb h
  go_enter Try.func9, Try.ntmps9
  go_wp2_with (go_at_call 20; (with_reducible refine HC.out.mono ?_); rintro e w2 he; rw [HD.out] at he; obtain ⟨hb2, q, rfl, hfa, hq⟩ := he; have HF := Lib.hid hfa; have HB := Lib.hid hb2; have hz := hfa.lt; clear hfa hb2)
  go_returns
  exact ⟨HB.out.alloc HB.out.size _, _, rfl, HF.out.below ((Below.refl _ _).alloc (Nat.le_refl _) _)⟩
set_option maxRecDepth 100000 in
set_option maxHeartbeats 1000000 in
theorem unb_shape (w : World) (a : Option Addr) (n c : Nat) (b : List UInt8) (hl : b.length = n) (hc : n ≤ c) (hcm : c ≤ maxLen) (hb : BytesF F w a b) (x : Rlp.It) (h : Rlp.decode b = .ok x) (hx : x.list = false) :
    Calls Try.prog 9 #[.slice a n c] w (UDec w (.error (none, 3))) := by
  have HC := Lib.hid (dec_V w a n c b hl hc hcm hb)
  have HD := Lib.hid h
  have HX := Lib.hid hx
  clear hl hb h hx
  go_enter Try.func9, Try.ntmps9
  go_wp2_with (go_at_call 20; (with_reducible refine HC.out.mono ?_); rintro e w2 he; rw [HD.out] at he; obtain ⟨hb2, vl, vb, vi, rfl, hit⟩ := he; obtain ⟨h1, ⟨a1, c1, h2, _⟩, a2, c2, h3, _, _, _⟩ := hit; rw [HX.out] at h1; subst h1; subst h2; subst h3; have HB := Lib.hid hb2; clear hb2)
  go_returns
  exact ⟨HB.out.alloc HB.out.size _, rfl⟩
set_option maxRecDepth 100000 in
set_option maxHeartbeats 1000000 in
theorem unb_full (w : World) (a : Option Addr) (n c : Nat) (b : List UInt8) (hl : b.length = n) (hc : n ≤ c) (hcm : c ≤ maxLen) (hb : BytesF F w a b) (x : Rlp.It) (h : Rlp.decode b = .ok x) (hx : x.list = true) (h8 : 8 < x.items.length) :
    Calls Try.prog 9 #[.slice a n c] w (UDec w (.error (none, 5))) := by
  have HC := Lib.hid (dec_V w a n c b hl hc hcm hb)
  have HD := Lib.hid h
  have HX := Lib.hid hx
  obtain ⟨m, hm⟩ : ∃ m, x.items.length = m := ⟨_, rfl⟩
  have HM := Lib.hid hm
  rw [hm] at h8
  clear hl hb h hx hm
  go_enter Try.func9, Try.ntmps9
  go_wp2_with (go_at_call 20; (with_reducible refine HC.out.mono ?_); rintro e w2 he; rw [HD.out] at he; obtain ⟨hb2, vl, vb, vi, rfl, hit⟩ := he; obtain ⟨h1, ⟨a1, c1, h2, _⟩, a2, c2, h3, _, _, _⟩ := hit; rw [HX.out] at h1; rw [HM.out] at h3; subst h1; subst h2; subst h3; have HB := Lib.hid hb2; clear hb2)
  go_returns
  exact ⟨HB.out.alloc HB.out.size _, rfl⟩
/-- What lies there in the loop. -/
structure UR (w : World) (B : Nat) (its : List Rlp.It) (j : Nat) (vl vb : Value) (a2 : Option Addr) (W : World) : Prop where
  b : Below w.heap.size w W
  lt : B < W.heap.size
  hB : w.heap.size ≤ B
  t : OwnT W (B + 1) vl (uTxs its j)
  n : OwnN W (B + 1) vb (uBad its j)
  d : ∀ k, vl.ownBlock = some k → vb.ownBlock ≠ some k
  i : ItsAt (fun b => b < B) W 15 a2 its
theorem UR.below {w W W' : World} {B j : Nat} {its : List Rlp.It} {vl vb : Value} {a2 : Option Addr} (h : UR w B its j vl vb a2 W) (hb : Below W.heap.size W W') : UR w B its j vl vb a2 W' :=
  ⟨h.b.trans (hb.mono h.b.size), by have := h.lt; have := hb.size; omega, h.hB, h.t.below hb, h.n.below hb, h.d, h.i.below hb⟩
theorem ItsAt.grown {w w' : World} {k B : Nat} {a : Option Addr} {its : List Rlp.It} (h : ItsAt (fun b => b < B) w k a its) (hg : Below B w w') : ItsAt (fun b => b < B) w' k a its :=
  h.move fun b hF hl => ⟨hF, by have := hg.size; omega, hg.block b hF⟩
theorem ownBlock_ne {W : World} {base T size n m : Nat} {v : Value} {xs : List Value} (h : W.ownsRow base T size v n xs) : v.ownBlock ≠ some W.heap.size := fun e => by
  have := (h.lt _ e).2; omega
theorem UR.bad {w W W' : World} {B j nb : Nat} {its : List Rlp.It} {vl : Value} {ab ab' : Option Addr} {cb cb' : Nat} {a2 : Option Addr} (h : UR w B its j vl (.slice ab nb cb) a2 W) (hj : j < its.length) (hu : uTx (its.getD j default) = none) (hn : (uBad its j).length = nb)
    (ho : W'.ownsRow (B + 1) TN 1 (.slice ab' (nb + 1) cb') (nb + 1) ((uBad its j).map (fun (k : Nat) => Value.int .i64 (k : Int)) ++ [.int .i64 (j : Int)])) (hg : W.grownBy W' (Value.slice ab nb cb).ownBlock)
    (hw : (Value.slice ab' (nb + 1) cb').ownBlock = (Value.slice ab nb cb).ownBlock ∨ (Value.slice ab' (nb + 1) cb').ownBlock = some W.heap.size) : UR w B its (j + 1) vl (.slice ab' (nb + 1) cb') a2 W' := by
  have hl := h.lt
  have hbb : Below (B + 1) W W' := grownR_below hg h.n (Nat.le_refl _) (by omega)
  refine ⟨h.b.trans (hbb.mono (by have := h.hB; omega)), by have := hg.size; omega, h.hB, ?_, ?_, ?_, h.i.grown (hbb.mono (by omega))⟩
  · rw [uTxs_none hj hu]
    refine World.ownsRow.kept h.t hg ?_
    cases hv : vl.ownBlock with
    | none => exact .inl rfl
    | some k => exact .inr fun e => h.d k hv e.symm
  · unfold OwnN
    rw [uBad_none hu, List.map_append, List.length_append, hn]
    exact ho
  · intro k hk e
    rcases hw with hw | hw
    · rw [hw] at e; exact h.d k hk e
    · rw [hw] at e; injection e with e; subst e; exact ownBlock_ne (m := 0) h.t hk
theorem UR.good {w W W' : World} {B j nl : Nat} {its : List Rlp.It} {vb : Value} {al al' : Option Addr} {cl cl' : Nat} {a2 : Option Addr} {vs : Nat → Nat} (h : UR w B its j (.slice al nl cl) vb a2 W) (hj : j < its.length) (hu : uTx (its.getD j default) = some vs) (hn : (uTxs its j).length = nl)
    (ho : W'.ownsRow (B + 1) TTX 6 (.slice al' (nl + 1) cl') (nl + 1) (txsC (uTxs its j) ++ txC vs)) (hg : W.grownBy W' (Value.slice al nl cl).ownBlock)
    (hw : (Value.slice al' (nl + 1) cl').ownBlock = (Value.slice al nl cl).ownBlock ∨ (Value.slice al' (nl + 1) cl').ownBlock = some W.heap.size) : UR w B its (j + 1) (.slice al' (nl + 1) cl') vb a2 W' := by
  have hl := h.lt
  have hbb : Below (B + 1) W W' := grownR_below hg h.t (Nat.le_refl _) (by omega)
  refine ⟨h.b.trans (hbb.mono (by have := h.hB; omega)), by have := hg.size; omega, h.hB, ?_, ?_, ?_, h.i.grown (hbb.mono (by omega))⟩
  · unfold OwnT
    rw [uTxs_some hj hu, txsC_app, List.length_append, hn]
    exact ho
  · rw [uBad_some hu]
    refine World.ownsRow.kept h.n hg ?_
    cases hv : vb.ownBlock with
    | none => exact .inl rfl
    | some k => exact .inr fun e => h.d k e.symm hv
  · intro k hk e
    rcases hw with hw | hw
    · rw [hw] at hk; exact h.d k hk e
    · rw [hw] at hk; injection hk with hk; subst hk; exact ownBlock_ne (m := 0) h.n e
theorem tdec_good (w : World) (a : Option Addr) (n c : Nat) (b : List UInt8) (hl : b.length = n) (hc : n ≤ c) (hcm : c ≤ maxLen) (hb : BytesF F w a b) (vs : Nat → Nat) (h : tDec b = .ok vs) : Calls Try.prog 13 #[.slice a n c] w fun e w' => e = .returned (.tuple #[.agg #[.int .u64 (vs 0), .int .u64 (vs 1), .int .u64 (vs 2), .int .u64 (vs 3), .int .u64 (vs 4), .int .u64 (vs 5)], .nilIface]) ∧ Below w.heap.size w w' := by
  refine (tdec_V w a n c b hl hc hcm hb).mono ?_
  rw [h]
  rintro e w' ⟨hb, he⟩
  exact ⟨he, hb⟩
theorem tdec_wrong (w : World) (a : Option Addr) (n c : Nat) (b : List UInt8) (hl : b.length = n) (hc : n ≤ c) (hcm : c ≤ maxLen) (hb : BytesF F w a b) (r : Option Nat × Nat) (h : tDec b = .error r) : Calls Try.prog 13 #[.slice a n c] w fun e w' => ∃ ty x, e = .returned (.tuple #[ZT, .iface ty x]) ∧ Below w.heap.size w w' := by
  refine (tdec_V w a n c b hl hc hcm hb).mono ?_
  rw [h]
  obtain ⟨p, k⟩ := r
  cases p with
  | none => rintro e w' ⟨hb, he⟩; exact ⟨_, _, he, hb⟩
  | some p => rintro e w' ⟨hb, q, he, _⟩; exact ⟨_, _, he, hb⟩
theorem txC_one (vs : Nat → Nat) : ∀ u ∈ txC vs, u.oneCell' = true := by
  intro u hu
  simp [txC] at hu
  rcases hu with rfl | rfl | rfl | rfl | rfl | rfl <;> rfl
theorem newC {W : World} {xs : List Value} {T : TypeId} {g : Nat} (hg : W.heap.size = g) : ∀ j u, xs[j]? = some u → (W.alloc (.cells xs.toArray T)).cell? ⟨g, j, none⟩ = some u := by
  subst hg
  intro j u h
  rw [World.cell?_alloc_at _ _ _ _ rfl]
  simpa using h
set_option maxRecDepth 100000 in
set_option maxHeartbeats 8000000 in
theorem unb_list (w : World) (a : Option Addr) (n c : Nat) (b : List UInt8) (hl : b.length = n) (hc : n ≤ c) (hcm : c ≤ maxLen) (hb : BytesF F w a b) (x : Rlp.It) (h : Rlp.decode b = .ok x) (hx : x.list = true) (h8 : x.items.length ≤ 8) :
    Calls Try.prog 9 #[.slice a n c] w (UDec w (.ok x.items)) := by
  have HC := Lib.hid (dec_V w a n c b hl hc hcm hb)
  have HD := Lib.hid h
  have HX := Lib.hid hx
  obtain ⟨its, hits⟩ : ∃ its, x.items = its := ⟨_, rfl⟩
  obtain ⟨m, hm⟩ : ∃ m, x.items.length = m := ⟨_, rfl⟩
  have HM := Lib.hid hm
  rw [hm] at h8
  have HMI : Hid (its.length = m) := by rw [← hits]; exact hm
  have HIT := Lib.hid hits
  rw [hits]
  clear hl hb h hx hm hits
  go_enter Try.func9, Try.ntmps9
  go_wp2_with (go_at_call 20; (with_reducible refine HC.out.mono ?_); rintro e w2 he; rw [HD.out] at he; obtain ⟨hb2, vl, vb, vi, rfl, hit⟩ := he; obtain ⟨h1, ⟨a1, c1, h2, _⟩, a2, c2, h3, _, _, h9⟩ := hit; rw [HX.out] at h1; rw [HM.out] at h3; subst h1; subst h2; subst h3; have hU0 : UR w w2.heap.size its 0 (.slice none 0 0) (.slice none 0 0) a2 (w2.alloc (.cells #[.bool true, .slice a1 x.bytes.length c1, .slice a2 m c2] TI)) := (⟨hb2.alloc hb2.size _, by simp, hb2.size, OwnT.nil _ _, OwnN.nil _ _, (fun k hk => by simp [Value.ownBlock] at hk), (by rw [← HIT.out]; exact (ItsAt.move (F := fun b => w.heap.size ≤ b) h9 fun b hF hl => ⟨hl, by simp; omega, heap_alloc_old _ _ hl⟩))⟩); have HU0 := Lib.hid hU0; clear hb2 h9 hU0)
  go_loopw [7, 8, 9, 10, 11, 12, 36] (fun ll bb ii py pt ee idx wr => ∃ (j nl nb cl cb : Nat) (al ab : Option Addr), j ≤ m ∧ idx = .int .i64 j ∧ ll = .slice al nl cl ∧ bb = .slice ab nb cb ∧ Hid (UR w w2.heap.size its j (.slice al nl cl) (.slice ab nb cb) a2 wr) ∧ Hid ((uTxs its j).length = nl) ∧ Hid ((uBad its j).length = nb)) (fun _ _ _ _ _ _ idx _ => m - (intOf idx).toNat)
  case atStart => exact ⟨0, 0, 0, 0, 0, none, none, by omega, rfl, rfl, rfl, HU0.out, rfl, rfl⟩
  case round =>
    obtain ⟨j, nl, nb, cl, cb, al, ab, hj, rfl, rfl, rfl, HR, HNL, HNB⟩ := hrel
    have hwr := HR.out.lt
    have hnl8 : nl ≤ 8 := by have := uTxs_len its j; have := HNL.out; omega
    have hnb8 : nb ≤ 8 := by have := uBad_len its j; have := HNB.out; omega
    clear HU0
    by_cases hlt : j < m
    · have hlt' : j < its.length := by rw [HMI.out]; exact hlt
      obtain ⟨b, off, u, v, z, rfl, hF, hbl, c0, c1', c2', hx⟩ := HR.out.i j hlt'
      obtain ⟨h1, ⟨ya, yc, h2, h3, h4, h40, h5⟩, ya', yc', h6, _⟩ := hx
      obtain ⟨yl, hyl⟩ : ∃ yl, (its.getD j default).list = yl := ⟨_, rfl⟩
      obtain ⟨yb, hyb⟩ : ∃ yb, (its.getD j default).bytes = yb := ⟨_, rfl⟩
      obtain ⟨yn, hyn⟩ : ∃ yn, yb.length = yn := ⟨_, rfl⟩
      obtain ⟨ym, hym⟩ : ∃ ym, (its.getD j default).items.length = ym := ⟨_, rfl⟩
      rw [hyl] at h1; rw [hyb] at h2 h3 h5; rw [hyn] at h2 h3; rw [hym] at h6
      have H5 := Lib.hid h5
      subst h1; subst h2; subst h6
      have HYL := Lib.hid hyl
      have HYB := Lib.hid hyb
      have HYN := Lib.hid hyn
      have H4 := Lib.hid h4
      have hmx : (m : Nat) ≤ 8 := h8
      clear hyl hyb hyn hym h5 h4
      rcases ht : tDec yb with r | vs
      · have HT := Lib.hid ht
        have HUx : Hid (uTx (its.getD j default) = none) := by
          show _ = _
          unfold uTx
          rw [HYB.out, ht]
          split <;> rfl
        clear ht
        cases yl
        · go_wp2_with (first
            | (go_at_call 13; (with_reducible refine (tdec_wrong _ ya yn yc yb HYN.out h3 H4.out (H5.out.below ((Below.refl _ _).alloc (Nat.le_refl _) _)) r HT.out).mono ?_); rintro e w5 ⟨ty, tx, rfl, hb5⟩; have HSY := Lib.hid ((SlotI.new wr (.bool false) (.slice ya yn yc) (.slice ya' ym yc')).below hb5); have y0 := HSY.out.c0; have hy := HSY.out.lt; have HR5 := Lib.hid ((HR.out.below ((Below.refl _ _).alloc (Nat.le_refl _) _)).below hb5); have h5z := HR5.out.lt; clear hb5)
            | (at_builtin; have HRx := Lib.hid ((HR5.out.below ((Below.refl _ _).alloc (Nat.le_refl _) (.cells #[.int .u64 0, .int .u64 0, .int .u64 0, .int .u64 0, .int .u64 0, .int .u64 0] TTX))).below ((Below.refl _ _).alloc (Nat.le_refl _) (.cells #[.int .i64 (j : Int)] TN))); have hn0 := HRx.out.n; unfold OwnN at hn0; rw [HNB.out] at hn0; refine wpList_append_R rtN rfl (.tmp 53) (.tmp 55) rfl (w2.heap.size + 1) ab nb cb _ (w5.heap.size + 1) 1 [.int .i64 j] hn0 rfl (newC (by simp)) (by simp [Value.oneCell']) (Sm.of (by omega)) (by unfold maxLen; omega) (by simp; omega) rfl rfl ?_; clear hn0; intro ao' c' w6 ho hg hw; have HR6 := Lib.hid (HRx.out.bad hlt' HUx.out HNB.out ho hg hw); clear ho hg hw))
          go_roundw
          case rel => exact ⟨j + 1, nl, nb + 1, cl, c', al, ao', by omega, by go_num, rfl, rfl, HR6.out, by show _ = _; rw [uTxs_none hlt' HUx.out]; exact HNL.out, by show _ = _; rw [uBad_none HUx.out, List.length_append, HNB.out]; rfl⟩
          case measure => simp [intOf]; omega
        · go_wp2_with (first
            | (go_at_call 13; (with_reducible refine (tdec_wrong _ ya yn yc yb HYN.out h3 H4.out (H5.out.below ((Below.refl _ _).alloc (Nat.le_refl _) _)) r HT.out).mono ?_); rintro e w5 ⟨ty, tx, rfl, hb5⟩; have HSY := Lib.hid ((SlotI.new wr (.bool true) (.slice ya yn yc) (.slice ya' ym yc')).below hb5); have y0 := HSY.out.c0; have hy := HSY.out.lt; have HR5 := Lib.hid ((HR.out.below ((Below.refl _ _).alloc (Nat.le_refl _) _)).below hb5); have h5z := HR5.out.lt; clear hb5)
            | (at_builtin; have HRx := Lib.hid ((HR5.out.below ((Below.refl _ _).alloc (Nat.le_refl _) (.cells #[.int .u64 0, .int .u64 0, .int .u64 0, .int .u64 0, .int .u64 0, .int .u64 0] TTX))).below ((Below.refl _ _).alloc (Nat.le_refl _) (.cells #[.int .i64 (j : Int)] TN))); have hn0 := HRx.out.n; unfold OwnN at hn0; rw [HNB.out] at hn0; refine wpList_append_R rtN rfl (.tmp 53) (.tmp 55) rfl (w2.heap.size + 1) ab nb cb _ (w5.heap.size + 1) 1 [.int .i64 j] hn0 rfl (newC (by simp)) (by simp [Value.oneCell']) (Sm.of (by omega)) (by unfold maxLen; omega) (by simp; omega) rfl rfl ?_; clear hn0; intro ao' c' w6 ho hg hw; have HR6 := Lib.hid (HRx.out.bad hlt' HUx.out HNB.out ho hg hw); clear ho hg hw))
          go_roundw
          case rel => exact ⟨j + 1, nl, nb + 1, cl, c', al, ao', by omega, by go_num, rfl, rfl, HR6.out, by show _ = _; rw [uTxs_none hlt' HUx.out]; exact HNL.out, by show _ = _; rw [uBad_none HUx.out, List.length_append, HNB.out]; rfl⟩
          case measure => simp [intOf]; omega
      · have HT := Lib.hid ht
        cases yl
        · have HUx : Hid (uTx (its.getD j default) = some vs) := by
            show _ = _
            unfold uTx
            rw [HYL.out, HYB.out, ht]; rfl
          clear ht
          go_wp2_with (first
            | (go_at_call 13; (with_reducible refine (tdec_good _ ya yn yc yb HYN.out h3 H4.out (H5.out.below ((Below.refl _ _).alloc (Nat.le_refl _) _)) vs HT.out).mono ?_); rintro e w5 ⟨rfl, hb5⟩; have HSY := Lib.hid ((SlotI.new wr (.bool false) (.slice ya yn yc) (.slice ya' ym yc')).below hb5); have y0 := HSY.out.c0; have hy := HSY.out.lt; have HR5 := Lib.hid ((HR.out.below ((Below.refl _ _).alloc (Nat.le_refl _) _)).below hb5); have h5z := HR5.out.lt; clear hb5)
            | (at_builtin; have HRx := Lib.hid ((HR5.out.below ((Below.refl _ _).alloc (Nat.le_refl _) (.cells #[.int .u64 (vs 0), .int .u64 (vs 1), .int .u64 (vs 2), .int .u64 (vs 3), .int .u64 (vs 4), .int .u64 (vs 5)] TTX))).below ((Below.refl _ _).alloc (Nat.le_refl _) (.cells #[.int .u64 (vs 0), .int .u64 (vs 1), .int .u64 (vs 2), .int .u64 (vs 3), .int .u64 (vs 4), .int .u64 (vs 5)] TTX))); have hn0 := HRx.out.t; unfold OwnT at hn0; rw [HNL.out] at hn0; refine wpList_append_R rtT rfl (.tmp 57) (.tmp 59) rfl (w2.heap.size + 1) al nl cl _ (w5.heap.size + 1) 1 (txC vs) hn0 rfl (newC (by simp)) (txC_one vs) (Sm.of (by omega)) (by unfold maxLen; omega) (by simp; omega) rfl rfl ?_; clear hn0; intro ao' c' w6 ho hg hw; have HR6 := Lib.hid (HRx.out.good hlt' HUx.out HNL.out ho hg hw); clear ho hg hw))
          go_roundw
          case rel => exact ⟨j + 1, nl + 1, nb, c', cb, ao', ab, by omega, by go_num, rfl, rfl, HR6.out, by show _ = _; rw [uTxs_some hlt' HUx.out, List.length_append, HNL.out]; rfl, by show _ = _; rw [uBad_some HUx.out]; exact HNB.out⟩
          case measure => simp [intOf]; omega
        · have HUx : Hid (uTx (its.getD j default) = none) := by
            show _ = _
            unfold uTx
            rw [HYL.out]; rfl
          clear ht
          go_wp2_with (first
            | (go_at_call 13; (with_reducible refine (tdec_good _ ya yn yc yb HYN.out h3 H4.out (H5.out.below ((Below.refl _ _).alloc (Nat.le_refl _) _)) vs HT.out).mono ?_); rintro e w5 ⟨rfl, hb5⟩; have HSY := Lib.hid ((SlotI.new wr (.bool true) (.slice ya yn yc) (.slice ya' ym yc')).below hb5); have y0 := HSY.out.c0; have hy := HSY.out.lt; have HR5 := Lib.hid ((HR.out.below ((Below.refl _ _).alloc (Nat.le_refl _) _)).below hb5); have h5z := HR5.out.lt; clear hb5)
            | (at_builtin; have HRx := Lib.hid ((HR5.out.below ((Below.refl _ _).alloc (Nat.le_refl _) (.cells #[.int .u64 (vs 0), .int .u64 (vs 1), .int .u64 (vs 2), .int .u64 (vs 3), .int .u64 (vs 4), .int .u64 (vs 5)] TTX))).below ((Below.refl _ _).alloc (Nat.le_refl _) (.cells #[.int .i64 (j : Int)] TN))); have hn0 := HRx.out.n; unfold OwnN at hn0; rw [HNB.out] at hn0; refine wpList_append_R rtN rfl (.tmp 53) (.tmp 55) rfl (w2.heap.size + 1) ab nb cb _ (w5.heap.size + 1) 1 [.int .i64 j] hn0 rfl (newC (by simp)) (by simp [Value.oneCell']) (Sm.of (by omega)) (by unfold maxLen; omega) (by simp; omega) rfl rfl ?_; clear hn0; intro ao' c' w6 ho hg hw; have HR6 := Lib.hid (HRx.out.bad hlt' HUx.out HNB.out ho hg hw); clear ho hg hw))
          go_roundw
          case rel => exact ⟨j + 1, nl, nb + 1, cl, c', al, ao', by omega, by go_num, rfl, rfl, HR6.out, by show _ = _; rw [uTxs_none hlt' HUx.out]; exact HNL.out, by show _ = _; rw [uBad_none HUx.out, List.length_append, HNB.out]; rfl⟩
          case measure => simp [intOf]; omega
    · have hjm : j = m := by omega
      subst hjm
      go_wp2
      go_returns
      have ht := HR.out.t
      have hn := HR.out.n
      refine ⟨HR.out.b, al, nl, cl, ab, nb, cb, rfl, ?_, ?_, ?_, ?_⟩
      · rw [HMI.out]; exact HNL.out.symm
      · rw [HMI.out]; exact HNB.out.symm
      · rw [HMI.out]; exact World.ownsRow.mono ht (by have := HR.out.hB; omega)
      · rw [HMI.out]; exact World.ownsRow.mono hn (by have := HR.out.hB; omega)
/-- tx.Unbatch answers the batch's transactions and the places of what is none, or what is wrong. -/
theorem unb_V (w : World) (a : Option Addr) (n c : Nat) (b : List UInt8) (hl : b.length = n) (hc : n ≤ c) (hcm : c ≤ maxLen) (hb : BytesF F w a b) : Calls Try.prog 9 #[.slice a n c] w (UDec w (uDec b)) := by
  unfold uDec
  cases h : Rlp.decode b with
  | error e => exact unb_err w a n c b hl hc hcm hb e.1 e.2 h
  | ok x =>
    simp only
    cases hx : x.list with
    | false => exact unb_shape w a n c b hl hc hcm hb x h hx
    | true =>
      rw [if_neg (by simp)]
      by_cases h8 : 8 < x.items.length
      · rw [if_pos h8]; exact unb_full w a n c b hl hc hcm hb x h hx h8
      · rw [if_neg h8]; exact unb_list w a n c b hl hc hcm hb x h hx (by omega)
end Go.Proofs.Ytgcpnhnckbgjmaa
