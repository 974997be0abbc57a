/-
  tx.Decode by its contract.
-/
import Derived.Test.YtgcpnhnckbgjmaaDoorTxEnc
set_option linter.unusedVariables false
set_option linter.unusedSimpArgs false
namespace Go.Proofs.YtgcpnhnckbgjmaaDoor
open Go.RowKit
variable {F : Nat → Prop}
abbrev ZT : Value := .agg #[.int .u64 0, .int .u64 0, .int .u64 0, .int .u64 0, .int .u64 0, .int .u64 0]
/-- What is wrong with a list's item at a place. -/
def tBad (its : List Rlp.It) (j : Nat) : Option Nat :=
  if (val (its.getD j default)).2 ≠ 0 then some (val (its.getD j default)).2 else if inn j (val (its.getD j default)).1 = false then some 2 else none
def tScan (its : List Rlp.It) : Nat → Nat → Option (Nat × Nat)
  | 0, _ => none
  | g + 1, j => match tBad its j with
    | some c => some (j, c)
    | none => tScan its g (j + 1)
def tNum (x : Rlp.It) (k : Nat) : Nat := (val (x.items.getD k default)).1
/-- The transaction of bytes: its numbers; or the place (if there is one) and the number of what is wrong. -/
def tDec (b : List UInt8) : Except (Option Nat × Nat) (Nat → Nat) := match Rlp.decode b with
  | .error (p, c) => .error (some p, c)
  | .ok x => if x.list = false ∨ x.items.length ≠ 6 then .error (none, 3) else match tScan x.items 6 0 with
    | some (j, c) => .error (some j, c)
    | none => .ok (tNum x)
/-- What tx.Decode answers. -/
def TDec (w : World) (r : Except (Option Nat × Nat) (Nat → Nat)) (e : Ending) (w' : World) : Prop :=
  Below w.heap.size w w' ∧ match r with
  | .error (some p, c) => ∃ q, e = .returned (.tuple #[ZT, .iface TF (.pointer (some ⟨q, 0, none⟩))]) ∧ FaultAt w' q p c
  | .error (none, c) => e = .returned (.tuple #[ZT, .iface TE (.int .i64 c)])
  | .ok vs => e = .returned (.tuple #[.agg #[.int .u64 (vs 0), .int .u64 (vs 1), .int .u64 (vs 2), .int .u64 (vs 3), .int .u64 (vs 4), .int .u64 (vs 5)], .nilIface])
theorem FaultAt.set6 {W : World} {q p c b : Nat} (h : FaultAt W q p c) (hb : b < q) (u0 u1 u2 u3 u4 u5 : Value) : FaultAt ((((((W.setCell ⟨b, 0, none⟩ u0).setCell ⟨b, 1, none⟩ u1).setCell ⟨b, 2, none⟩ u2).setCell ⟨b, 3, none⟩ u3).setCell ⟨b, 4, none⟩ u4).setCell ⟨b, 5, none⟩ u5) q p c :=
  ((((((h.set (q := ⟨b, 0, none⟩) hb _).set (q := ⟨b, 1, none⟩) hb _).set (q := ⟨b, 2, none⟩) hb _).set (q := ⟨b, 3, none⟩) hb _).set (q := ⟨b, 4, none⟩) hb _).set (q := ⟨b, 5, none⟩) hb _)
theorem below_set6 {n b : Nat} {w W : World} (h : Below n w W) (hb : n ≤ b) (u0 u1 u2 u3 u4 u5 : Value) : Below n w ((((((W.setCell ⟨b, 0, none⟩ u0).setCell ⟨b, 1, none⟩ u1).setCell ⟨b, 2, none⟩ u2).setCell ⟨b, 3, none⟩ u3).setCell ⟨b, 4, none⟩ u4).setCell ⟨b, 5, none⟩ u5) :=
  ((((((h.setCell hb _).setCell hb _).setCell hb _).setCell hb _).setCell hb _).setCell hb _)
theorem fieldsU_V (b : Nat) (w : World) :
    Calls Tryd.prog 19 #[.pointer (some ⟨b, 0, none⟩)] w fun e w' => e = .returned (.agg #[.pointer (some ⟨b, 0, none⟩), .pointer (some ⟨b, 1, none⟩), .pointer (some ⟨b, 2, none⟩), .pointer (some ⟨b, 3, none⟩), .pointer (some ⟨b, 4, none⟩), .pointer (some ⟨b, 5, none⟩)]) ∧ Below w.heap.size w w' := fields_V b w
theorem Six.new (w : World) (v0 v1 v2 v3 v4 v5 : Value) (t : TypeId) : Six w (w.alloc (.cells #[v0, v1, v2, v3, v4, v5] t)) v0 v1 v2 v3 v4 v5 :=
  ⟨(Below.refl _ _).alloc (Nat.le_refl _) _, by simp, by go_cell, by go_cell, by go_cell, by go_cell, by go_cell, by go_cell, by simp, by simp, by simp, by simp, by simp, by simp⟩
set_option maxRecDepth 100000 in
set_option maxHeartbeats 1000000 in
theorem tdec_err (w : World) (a : Option Addr) (n c : Nat) (b : List UInt8) (hl : b.length = n) (hc : n ≤ c) (hcm : c ≤ maxLen) (hb : BytesF F w a b) (p k : Nat) (h : Rlp.decode b = .error (p, k)) :
    Calls Tryd.prog 7 #[.slice a n c] w (TDec w (.error (some p, k))) := by
  have HC := Lib.hid (dec_V (w.alloc (.cells #[.int .u64 0, .int .u64 0, .int .u64 0, .int .u64 0, .int .u64 0, .int .u64 0] TTX)) a n c b hl hc hcm (hb.below ((Below.refl _ _).alloc (Nat.le_refl _) _)))
  have HD := Lib.hid h
  clear hl hb h
  go_enter Tryd.func7, Tryd.ntmps7
  go_wp2_with (first
    | (go_at_call 27; (with_reducible refine HC.out.mono ?_); rintro e w2 he; rw [HD.out] at he; obtain ⟨hb2, q, rfl, hfa, hq⟩ := he; rw [World.size_alloc] at hq; have HF := Lib.hid hfa; have HS := Lib.hid ((Six.new w (.int .u64 0) (.int .u64 0) (.int .u64 0) (.int .u64 0) (.int .u64 0) (.int .u64 0) TTX).below hb2); have q0 := HS.out.c0; have q1 := HS.out.c1; have q2 := HS.out.c2; have q3 := HS.out.c3; have q4 := HS.out.c4; have q5 := HS.out.c5; have f0 := HS.out.f0; have f1 := HS.out.f1; have f2 := HS.out.f2; have f3 := HS.out.f3; have f4 := HS.out.f4; have f5 := HS.out.f5; have hs := HS.out.lt; clear hb2 hfa)
    | ((with_reducible refine bodyPost_ret (by simp [results, Tryd.results7, go_sem, q0, q1, q2, q3, q4, q5, hs]; try rfl) rfl ?_); exact ⟨(below_set6 HS.out.b (Nat.le_refl _) _ _ _ _ _ _).alloc (by simp; omega) _, q, rfl, (HF.out.set6 (by omega) _ _ _ _ _ _).below ((Below.refl _ _).alloc (Nat.le_refl _) _)⟩))
set_option maxRecDepth 100000 in
set_option maxHeartbeats 1000000 in
theorem tdec_shape (w : World) (a : Option Addr) (n c : Nat) (b : List UInt8) (hl : b.length = n) (hc : n ≤ c) (hcm : c ≤ maxLen) (hb : BytesF F w a b) (x : Rlp.It) (h : Rlp.decode b = .ok x) (hx : x.list = false ∨ x.items.length ≠ 6) :
    Calls Tryd.prog 7 #[.slice a n c] w (TDec w (.error (none, 3))) := by
  have HC := Lib.hid (dec_V (w.alloc (.cells #[.int .u64 0, .int .u64 0, .int .u64 0, .int .u64 0, .int .u64 0, .int .u64 0] TTX)) a n c b hl hc hcm (hb.below ((Below.refl _ _).alloc (Nat.le_refl _) _)))
  have HD := Lib.hid h
  have HX := Lib.hid hx
  clear hl hb h hx
  have took : ∀ e w2, DecRet (w.alloc (.cells #[.int .u64 0, .int .u64 0, .int .u64 0, .int .u64 0, .int .u64 0, .int .u64 0] TTX)) (.ok x) e w2 → ∃ l a1 n1 c1 a2 n2 c2, e = .returned (.tuple #[.agg #[.bool l, .slice a1 n1 c1, .slice a2 n2 c2], .nilIface]) ∧ Six w w2 (.int .u64 0) (.int .u64 0) (.int .u64 0) (.int .u64 0) (.int .u64 0) (.int .u64 0) ∧ (l = false ∨ (l = true ∧ ((n2 : Int) != 6) = true)) := by
    rintro e w2 ⟨hb2, vl, vb, vi, rfl, hit⟩
    obtain ⟨h1, ⟨a1, c1, h2, _⟩, a2, c2, h3, _⟩ := hit
    subst h1; subst h2; subst h3
    refine ⟨_, _, _, _, _, _, _, rfl, (Six.new w (.int .u64 0) (.int .u64 0) (.int .u64 0) (.int .u64 0) (.int .u64 0) (.int .u64 0) TTX).below hb2, ?_⟩
    cases hl : x.list with
    | false => exact .inl rfl
    | true =>
      right
      refine ⟨rfl, ?_⟩
      rcases HX.out with h | h
      · rw [hl] at h; cases h
      · simp; omega
  have HT := Lib.hid took
  clear took
  go_enter Tryd.func7, Tryd.ntmps7
  go_wp2_with (first
    | (go_at_call 27; (with_reducible refine HC.out.mono ?_); rintro e w2 he; rw [HD.out] at he; obtain ⟨l, a1, n1, c1, a2, n2, c2, rfl, hS, hor⟩ := HT.out _ _ he; clear he; have HS := Lib.hid hS; have HO := Lib.hid hor; have hs2 := hS.lt; clear hS hor)
    | (go_at_call 19; (with_reducible refine (fieldsU_V (w2.heap.size + 1) _).mono ?_); rintro e w3 ⟨rfl, hb3⟩; have HX3 := Lib.hid (((SlotI.new w2 (.bool l) (.slice a1 n1 c1) (.slice a2 n2 c2)).below ((Below.refl _ _).alloc (Nat.le_refl _) _)).below hb3); have x0 := HX3.out.c0; have x1 := HX3.out.c1; have x2 := HX3.out.c2; have hz3 := HX3.out.lt; have HS3 := Lib.hid ((((HS.out.below ((Below.refl _ _).alloc (Nat.le_refl _) _))).below ((Below.refl _ _).alloc (Nat.le_refl _) _)).below hb3); have q0 := HS3.out.c0; have q1 := HS3.out.c1; have q2 := HS3.out.c2; have q3 := HS3.out.c3; have q4 := HS3.out.c4; have q5 := HS3.out.c5; have f0 := HS3.out.f0; have f1 := HS3.out.f1; have f2 := HS3.out.f2; have f3 := HS3.out.f3; have f4 := HS3.out.f4; have f5 := HS3.out.f5; have hs := HS3.out.lt; rcases HO.out with rfl | ⟨rfl, hn6⟩)
    | ((with_reducible refine bodyPost_ret (by simp [results, Tryd.results7, go_sem, q0, q1, q2, q3, q4, q5, hs]; try rfl) rfl ?_); exact ⟨(below_set6 HS3.out.b (Nat.le_refl _) _ _ _ _ _ _).alloc (by simp; omega) _, rfl⟩))
end Go.Proofs.YtgcpnhnckbgjmaaDoor
