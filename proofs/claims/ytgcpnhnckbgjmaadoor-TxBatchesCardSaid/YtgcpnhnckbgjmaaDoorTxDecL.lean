/-
  tx.Decode's loop, and its contract.
-/
import Derived.Test.YtgcpnhnckbgjmaaDoorTxDec
set_option linter.unusedVariables false
set_option linter.unusedSimpArgs false
namespace Go.Proofs.YtgcpnhnckbgjmaaDoor
open Go.RowKit
variable {F F' : Nat → Prop}
theorem ItsAt.move {w w' : World} {k : Nat} {a : Option Addr} {its : List Rlp.It} (h : ItsAt F w k a its) (hm : ∀ b, F b → b < w.heap.size → F' b ∧ b < w'.heap.size ∧ w'.heap[b]? = w.heap[b]?) : ItsAt F' w' k a its := by
  intro i hi
  obtain ⟨b, off, u, v, z, rfl, hF, hl, c0, c1, c2, hx⟩ := h i hi
  obtain ⟨g1, g2, g3⟩ := hm b hF hl
  exact ⟨b, off, u, v, z, rfl, g1, g2, by rw [World.cell?_of_block (a := ⟨b, off + i * 3, none⟩) (w := w) g3]; exact c0, by rw [World.cell?_of_block (a := ⟨b, off + i * 3 + 1, none⟩) (w := w) g3]; exact c1, by rw [World.cell?_of_block (a := ⟨b, off + i * 3 + 2, none⟩) (w := w) g3]; exact c2, hx.move hm⟩
theorem Six.at {w W W' : World} {m : Nat} {v0 v1 v2 v3 v4 v5 : Value} (h : Six w W v0 v1 v2 v3 v4 v5) (hm : w.heap.size < m) (hb : Below m W W') : Six w W' v0 v1 v2 v3 v4 v5 :=
  ⟨h.b.trans (hb.mono (by omega)), by have := h.lt; have := hb.size; omega, by rw [hb.cell (p := ⟨w.heap.size, 0, none⟩) hm]; exact h.c0, by rw [hb.cell (p := ⟨w.heap.size, 1, none⟩) hm]; exact h.c1, by rw [hb.cell (p := ⟨w.heap.size, 2, none⟩) hm]; exact h.c2, by rw [hb.cell (p := ⟨w.heap.size, 3, none⟩) hm]; exact h.c3, by rw [hb.cell (p := ⟨w.heap.size, 4, none⟩) hm]; exact h.c4, by rw [hb.cell (p := ⟨w.heap.size, 5, none⟩) hm]; exact h.c5, by rw [hb.frozen (p := ⟨w.heap.size, 0, none⟩) hm]; exact h.f0, by rw [hb.frozen (p := ⟨w.heap.size, 1, none⟩) hm]; exact h.f1, by rw [hb.frozen (p := ⟨w.heap.size, 2, none⟩) hm]; exact h.f2, by rw [hb.frozen (p := ⟨w.heap.size, 3, none⟩) hm]; exact h.f3, by rw [hb.frozen (p := ⟨w.heap.size, 4, none⟩) hm]; exact h.f4, by rw [hb.frozen (p := ⟨w.heap.size, 5, none⟩) hm]; exact h.f5⟩
theorem errV_0 : errV 0 = .nilIface := rfl
/-- What has been read up to a place. -/
def tPart (x : Rlp.It) (j k : Nat) : Nat := if k < j then tNum x k else 0
theorem tPart_succ (x : Rlp.It) (j : Nat) : tPart x (j + 1) = fun k => if k = j then tNum x j else tPart x j k := by
  funext k
  unfold tPart
  by_cases h : k = j
  · subst h; rw [if_pos (by omega), if_pos rfl]
  · rw [if_neg h]
    by_cases h2 : k < j
    · rw [if_pos (by omega), if_pos h2]
    · rw [if_neg (by omega), if_neg h2]
/-- What lies there in the loop. -/
structure DL (w : World) (X : Nat) (its : List Rlp.It) (vs : Nat → Nat) (b1 : Value) (a2 : Option Addr) (c2 : Nat) (W : World) : Prop where
  r : Six w W (.int .u64 0) (.int .u64 0) (.int .u64 0) (.int .u64 0) (.int .u64 0) (.int .u64 0)
  hX : w.heap.size < X ∧ X + 1 < W.heap.size
  xi : SlotI W X (.bool true) b1 (.slice a2 6 c2)
  t : ∀ k, k < 6 → W.cell? ⟨X + 1, k, none⟩ = some (.int .u64 (vs k))
  f : ∀ k, k < 6 → W.frozen? ⟨X + 1, k, none⟩ = false
  i : ItsAt (fun b => w.heap.size < b ∧ b < X) W 15 a2 its
theorem DL.below {w : World} {X : Nat} {its : List Rlp.It} {vs : Nat → Nat} {b1 : Value} {a2 : Option Addr} {c2 : Nat} {W W' : World} (h : DL w X its vs b1 a2 c2 W) (hb : Below W.heap.size W W') : DL w X its vs b1 a2 c2 W' :=
  ⟨h.r.below hb, ⟨h.hX.1, by have := h.hX.2; have := hb.size; omega⟩, h.xi.below hb, fun k hk => by rw [hb.cell (p := ⟨X + 1, k, none⟩) h.hX.2]; exact h.t k hk, fun k hk => by rw [hb.frozen (p := ⟨X + 1, k, none⟩) h.hX.2]; exact h.f k hk, h.i.move fun b hF hl => ⟨hF, by have := hb.size; omega, hb.block b hl⟩⟩
theorem DL.store {w : World} {X : Nat} {its : List Rlp.It} {vs : Nat → Nat} {b1 : Value} {a2 : Option Addr} {c2 : Nat} {W : World} (h : DL w X its vs b1 a2 c2 W) (j v : Nat) (hj : j < 6) : DL w X its (fun k => if k = j then v else vs k) b1 a2 c2 (W.setCell ⟨X + 1, j, none⟩ (.int .u64 v)) := by
  have hB : Below (X + 1) W (W.setCell ⟨X + 1, j, none⟩ (.int .u64 v)) := by refine (Below.refl _ _).setCell ?_ _; exact Nat.le_refl _
  have hx := h.hX
  refine ⟨h.r.at (by omega) hB, ⟨hx.1, by simpa using hx.2⟩, h.xi.keep (by simp) (hB.block _ (by omega)), fun k hk => ?_, fun k hk => by rw [World.frozen?_setCell]; exact h.f k hk, h.i.move fun b hF hl => ⟨hF, by simpa using hl, hB.block _ (by omega)⟩⟩
  by_cases e : k = j
  · subst e
    simp only [if_true]
    exact World.cell?_setCell_same _ _ _ (h.t k hk)
  · rw [if_neg e, World.cell?_setCell_other _ _ _ _ (fun h2 => e (by injection h2 with _ h2; exact h2.symm))]
    exact h.t k hk
/-- The answer to a list of six. -/
def tRes (x : Rlp.It) : Except (Option Nat × Nat) (Nat → Nat) := match tScan x.items 6 0 with
  | some (j, c) => .error (some j, c)
  | none => .ok (tNum x)
theorem tScan_bad (its : List Rlp.It) (j c : Nat) (hj : j < 6) (h : tBad its j = some c) : tScan its (6 - j) j = some (j, c) := by
  obtain ⟨g, hg⟩ : ∃ g, 6 - j = g + 1 := ⟨5 - j, by omega⟩
  rw [hg, tScan, h]
theorem tScan_good (its : List Rlp.It) (j : Nat) (hj : j < 6) (h : tBad its j = none) : tScan its (6 - j) j = tScan its (6 - (j + 1)) (j + 1) := by
  obtain ⟨g, hg⟩ : ∃ g, 6 - j = g + 1 := ⟨5 - j, by omega⟩
  rw [hg, tScan, h, show 6 - (j + 1) = g by omega]
theorem idx6u (b j : Nat) (hj : j < 6) (w : World) : (Instr.index 58 (.agg #[.pointer (some ⟨b, 0, none⟩), .pointer (some ⟨b, 1, none⟩), .pointer (some ⟨b, 2, none⟩), .pointer (some ⟨b, 3, none⟩), .pointer (some ⟨b, 4, none⟩), .pointer (some ⟨b, 5, none⟩)]) (.int .i64 (j : Int))).run Tryd.prog w = .ok (.pointer (some ⟨b, j, none⟩)) w := idx6 b j hj w
theorem TDec.okR {w W : World} {x : Rlp.It} {e : Ending} (hb : Below w.heap.size w W) (h : tRes x = .ok (tNum x)) (he : e = .returned (.tuple #[.agg #[.int .u64 (tNum x 0), .int .u64 (tNum x 1), .int .u64 (tNum x 2), .int .u64 (tNum x 3), .int .u64 (tNum x 4), .int .u64 (tNum x 5)], .nilIface])) : TDec w (tRes x) e W := by
  rw [h]; exact ⟨hb, he⟩
theorem TDec.errR {w W : World} {x : Rlp.It} {e : Ending} {j c q : Nat} (hb : Below w.heap.size w W) (h : tRes x = .error (some j, c)) (he : e = .returned (.tuple #[ZT, .iface TF (.pointer (some ⟨q, 0, none⟩))])) (hf : FaultAt W q j c) : TDec w (tRes x) e W := by
  rw [h]; exact ⟨hb, q, he, hf⟩
theorem FaultAt.new (W : World) (j c : Nat) (J C : Int) (hJ : J = (j : Int)) (hC : C = (c : Int)) (q : Nat) (hq : W.heap.size = q) (T : TypeId) : FaultAt (W.alloc (.cells #[.int .i64 J, .iface TE (.int .i64 C)] T)) q j c := by
  subst hJ; subst hC; subst hq
  exact ⟨by simp, by go_cell, by go_cell⟩
set_option maxRecDepth 100000 in
set_option maxHeartbeats 1000000 in
theorem tdec_list (w : World) (a : Option Addr) (n c : Nat) (b : List UInt8) (hl : b.length = n) (hc : n ≤ c) (hcm : c ≤ maxLen) (hb : BytesF F w a b) (x : Rlp.It) (h : Rlp.decode b = .ok x) (hx : x.list = true) (hx6 : x.items.length = 6) :
    Calls Tryd.prog 7 #[.slice a n c] w (TDec w (tRes x)) := by
  have HC := Lib.hid (dec_V (w.alloc (.cells #[.int .u64 0, .int .u64 0, .int .u64 0, .int .u64 0, .int .u64 0, .int .u64 0] TTX)) a n c b hl hc hcm (hb.below ((Below.refl _ _).alloc (Nat.le_refl _) _)))
  have HD := Lib.hid h
  have HX := Lib.hid hx
  have H6 := Lib.hid hx6
  clear hl hb h hx hx6
  have took : ∀ e w2, DecRet (w.alloc (.cells #[.int .u64 0, .int .u64 0, .int .u64 0, .int .u64 0, .int .u64 0, .int .u64 0] TTX)) (.ok x) e w2 → ∃ a1 n1 c1 a2 c2, e = .returned (.tuple #[.agg #[.bool true, .slice a1 n1 c1, .slice a2 6 c2], .nilIface]) ∧ Six w w2 (.int .u64 0) (.int .u64 0) (.int .u64 0) (.int .u64 0) (.int .u64 0) (.int .u64 0) ∧ ItsAt (fun b => w.heap.size < b ∧ b < w2.heap.size) w2 15 a2 x.items := by
    rintro e w2 ⟨hb2, vl, vb, vi, rfl, hit⟩
    obtain ⟨h1, ⟨a1, c1, h2, _⟩, a2, c2, h3, _, _, h9⟩ := hit
    subst h1; subst h2; subst h3
    rw [HX.out, H6.out]
    refine ⟨_, _, _, a2, _, rfl, (Six.new w (.int .u64 0) (.int .u64 0) (.int .u64 0) (.int .u64 0) (.int .u64 0) (.int .u64 0) TTX).below hb2, ?_⟩
    have h9' : ItsAt (fun b => (w.alloc (.cells #[.int .u64 0, .int .u64 0, .int .u64 0, .int .u64 0, .int .u64 0, .int .u64 0] TTX)).heap.size ≤ b) w2 15 a2 x.items := h9
    exact h9'.move fun b hF hl => ⟨⟨by simp at hF; omega, hl⟩, hl, rfl⟩
  have HT := Lib.hid took
  clear took
  go_enter Tryd.func7, Tryd.ntmps7
  go_wp2_with (first
    | (go_at_call 27; (with_reducible refine HC.out.mono ?_); rintro e w2 he; rw [HD.out] at he; obtain ⟨a1, n1, c1, a2, c2, rfl, hS, hI⟩ := HT.out _ _ he; clear he; have HS := Lib.hid hS; have HI := Lib.hid hI; have hs2 := hS.lt; clear hS hI)
    | (go_at_call 19; (with_reducible refine (fieldsU_V (w2.heap.size + 1) _).mono ?_); rintro e w3 ⟨rfl, hb3⟩; have HX3 := Lib.hid (((SlotI.new w2 (.bool true) (.slice a1 n1 c1) (.slice a2 6 c2)).below ((Below.refl _ _).alloc (Nat.le_refl _) _)).below hb3); have x0 := HX3.out.c0; have x1 := HX3.out.c1; have x2 := HX3.out.c2; have hz3 := HX3.out.lt; have hz4 := hb3.size; (simp at hz4); have HS3 := Lib.hid ((((HS.out.below ((Below.refl _ _).alloc (Nat.le_refl _) _))).below ((Below.refl _ _).alloc (Nat.le_refl _) _)).below hb3); have HB3 := Lib.hid hb3; clear hb3))
  have HDL : Hid (DL w w2.heap.size x.items (tPart x 0) (.slice a1 n1 c1) a2 c2 w3) := by
    refine ⟨HS3.out, ⟨hs2, by omega⟩, HX3.out, fun k hk => ?_, fun k hk => ?_, HI.out.move fun b hF hl => ⟨hF, by omega, ?_⟩⟩
    · rw [HB3.out.cell (p := ⟨w2.heap.size + 1, k, none⟩) (by simp)]
      have e : tPart x 0 k = 0 := by unfold tPart; rw [if_neg (by omega)]
      rw [e]
      rcases (by omega : k = 0 ∨ k = 1 ∨ k = 2 ∨ k = 3 ∨ k = 4 ∨ k = 5) with rfl | rfl | rfl | rfl | rfl | rfl
      all_goals exact (World.cell?_alloc_at _ _ _ _ (by simp)).trans rfl
    · rw [HB3.out.frozen (p := ⟨w2.heap.size + 1, k, none⟩) (by simp)]
      simp
    · rw [HB3.out.block _ (by simp; omega), heap_alloc_old _ _ (by simp; omega), heap_alloc_old _ _ hl]
  clear HS HI HX3 HS3 HB3 x0 x1 x2
  go_loopw [8, 9, 10, 11, 35] (fun ii pp vv ee idx wr => ∃ j : Nat, j ≤ 6 ∧ idx = .int .i64 j ∧ Hid (DL w w2.heap.size x.items (tPart x j) (.slice a1 n1 c1) a2 c2 wr) ∧ Hid (tScan x.items 6 0 = tScan x.items (6 - j) j)) (fun _ _ _ _ idx _ => 6 - (intOf idx).toNat)
  case atStart => exact ⟨0, by omega, rfl, HDL.out.below (by (repeat' (first | (with_reducible exact Below.refl _ _) | (with_reducible refine Below.alloc ?_ ?_ _) | (with_reducible refine Below.drew ?_) | (with_reducible refine Below.setCell ?_ ?_ _) | (with_reducible refine Below.thn (by assumption) ?_ ?_) | (with_reducible refine below_drewN ?_ _) | go_size))), by show _ = _; rfl⟩
  case round =>
    obtain ⟨j, hj, rfl, HL, HSc⟩ := hrel
    have hwr := HL.out.hX
    clear HDL
    by_cases hlt : j < 6
    · have hix := fun W => idx6u (w2.heap.size + 1) j hlt W
      have x2 := HL.out.xi.c2
      obtain ⟨b, off, u, v, z, rfl, hF, hbl, c0, c1', c2', hx⟩ := HL.out.i j (by rw [H6.out]; exact hlt)
      obtain ⟨yl, ya, yn, yc, ya', yn', yc', rfl, rfl, rfl⟩ := hx.shape
      have hjc : decide ((j : Int) < 6) = true := by simp; omega
      obtain ⟨vv, hvv⟩ : ∃ vv, (val (x.items.getD j default)).1 = vv := ⟨_, rfl⟩
      obtain ⟨ce, hce⟩ : ∃ ce, (val (x.items.getD j default)).2 = ce := ⟨_, rfl⟩
      have HVV := Lib.hid hvv
      have HCE := Lib.hid hce
      have HXI := Lib.hid hx
      clear hvv hce hx
      by_cases h0 : ce = 0
      · subst h0
        by_cases hin : inn j vv = true
        · -- it is right
          have E : Hid (tScan x.items 6 0 = tScan x.items (6 - (j + 1)) (j + 1)) := by
            show _ = _
            rw [HSc.out, tScan_good _ _ hlt]
            unfold tBad
            rw [HVV.out, HCE.out, if_neg (by simp), if_neg (by rw [hin]; decide)]
          have HIN := Lib.hid hin
          clear hin
          go_wp2_with (first
            | (go_at_call 28; (with_reducible refine (value_V 15 (x.items.getD j default) _ _ _ wr HXI.out).mono ?_); rintro e w4 ⟨rfl, hb4⟩; have HL4 := Lib.hid (HL.out.below hb4); rw [HVV.out, HCE.out, errV_0]; have c4 := HL4.out.t j hlt; have f4 := HL4.out.f j hlt; have hw4 := HL4.out.hX; clear hb4)
            | (go_at_call 20; (with_reducible refine (within_V j vv hlt _ rfl _).mono ?_); rintro e w5 ⟨rfl, rfl⟩; rw [HIN.out]))
          go_roundw
          case rel =>
            refine ⟨j + 1, by omega, by go_num, ?_, E⟩
            rw [tPart_succ]
            have := HL4.out.store j (tNum x j) hlt
            unfold tNum at this ⊢
            rw [HVV.out] at this ⊢
            exact this
          case measure => simp [intOf]; omega
        · have E : Hid (tRes x = .error (some j, 2)) := by
            show _ = _
            unfold tRes
            rw [HSc.out, tScan_bad _ _ 2 hlt]
            unfold tBad
            rw [HVV.out, HCE.out, if_neg (by simp), if_pos (by simpa using hin)]
          have HIN : Hid (inn j vv = false) := by show _ = _; simpa using hin
          clear hin
          go_wp2_with (first
            | (go_at_call 28; (with_reducible refine (value_V 15 (x.items.getD j default) _ _ _ wr HXI.out).mono ?_); rintro e w4 ⟨rfl, hb4⟩; have HL4 := Lib.hid (HL.out.below hb4); rw [HVV.out, HCE.out, errV_0]; have q0 := HL4.out.r.c0; have q1 := HL4.out.r.c1; have q2 := HL4.out.r.c2; have q3 := HL4.out.r.c3; have q4 := HL4.out.r.c4; have q5 := HL4.out.r.c5; have f0 := HL4.out.r.f0; have f1 := HL4.out.r.f1; have f2 := HL4.out.r.f2; have f3 := HL4.out.r.f3; have f4 := HL4.out.r.f4; have f5 := HL4.out.r.f5; have hs := HL4.out.r.lt; have hw4 := HL4.out.hX; clear hb4)
            | (go_at_call 20; (with_reducible refine (within_V j vv hlt _ rfl _).mono ?_); rintro e w5 ⟨rfl, rfl⟩; rw [HIN.out])
            | ((with_reducible refine bodyPost_ret (by simp [results, Tryd.results7, go_sem, q0, q1, q2, q3, q4, q5, hs]; try rfl) rfl ?_); refine TDec.errR (j := j) (c := 2) (q := w4.heap.size) ((below_set6 HL4.out.r.b (Nat.le_refl _) _ _ _ _ _ _).alloc (by simp; omega) _) E.out rfl ?_; with_reducible exact FaultAt.new _ _ _ _ _ rfl (by first | rfl | decide) _ (by simp) _))
      · have E : Hid (tRes x = .error (some j, ce)) := by
          show _ = _
          unfold tRes
          rw [HSc.out, tScan_bad _ _ ce hlt]
          unfold tBad
          rw [HCE.out, if_pos h0]
        have EV : Hid (errV ce = .iface TE (.int .i64 ce)) := by show _ = _; unfold errV; rw [if_neg h0]
        go_wp2_with (first
          | (go_at_call 28; (with_reducible refine (value_V 15 (x.items.getD j default) _ _ _ wr HXI.out).mono ?_); rintro e w4 ⟨rfl, hb4⟩; have HL4 := Lib.hid (HL.out.below hb4); rw [HVV.out, HCE.out, EV.out]; have q0 := HL4.out.r.c0; have q1 := HL4.out.r.c1; have q2 := HL4.out.r.c2; have q3 := HL4.out.r.c3; have q4 := HL4.out.r.c4; have q5 := HL4.out.r.c5; have f0 := HL4.out.r.f0; have f1 := HL4.out.r.f1; have f2 := HL4.out.r.f2; have f3 := HL4.out.r.f3; have f4 := HL4.out.r.f4; have f5 := HL4.out.r.f5; have hs := HL4.out.r.lt; have hw4 := HL4.out.hX; clear hb4)
          | ((with_reducible refine bodyPost_ret (by simp [results, Tryd.results7, go_sem, q0, q1, q2, q3, q4, q5, hs]; try rfl) rfl ?_); refine TDec.errR (j := j) (c := ce) (q := w4.heap.size) ((below_set6 HL4.out.r.b (Nat.le_refl _) _ _ _ _ _ _).alloc (by simp; omega) _) E.out rfl ?_; with_reducible exact FaultAt.new _ _ _ _ _ rfl (by first | rfl | decide) _ (by simp) _))
    · have hj6 : j = 6 := by omega
      subst hj6
      have E : Hid (tRes x = .ok (tNum x)) := by
        show _ = _
        unfold tRes
        rw [HSc.out]; rfl
      have e0 : wr.cell? ⟨w2.heap.size + 1, 0, none⟩ = some (.int .u64 (tNum x 0)) := HL.out.t 0 (by omega)
      have e1 : wr.cell? ⟨w2.heap.size + 1, 1, none⟩ = some (.int .u64 (tNum x 1)) := HL.out.t 1 (by omega)
      have e2 : wr.cell? ⟨w2.heap.size + 1, 2, none⟩ = some (.int .u64 (tNum x 2)) := HL.out.t 2 (by omega)
      have e3 : wr.cell? ⟨w2.heap.size + 1, 3, none⟩ = some (.int .u64 (tNum x 3)) := HL.out.t 3 (by omega)
      have e4 : wr.cell? ⟨w2.heap.size + 1, 4, none⟩ = some (.int .u64 (tNum x 4)) := HL.out.t 4 (by omega)
      have e5 : wr.cell? ⟨w2.heap.size + 1, 5, none⟩ = some (.int .u64 (tNum x 5)) := HL.out.t 5 (by omega)
      have q0 := HL.out.r.c0
      have q1 := HL.out.r.c1
      have q2 := HL.out.r.c2
      have q3 := HL.out.r.c3
      have q4 := HL.out.r.c4
      have q5 := HL.out.r.c5
      have f0 := HL.out.r.f0
      have f1 := HL.out.r.f1
      have f2 := HL.out.r.f2
      have f3 := HL.out.r.f3
      have f4 := HL.out.r.f4
      have f5 := HL.out.r.f5
      have hs := HL.out.r.lt
      go_wp2_with ((with_reducible refine bodyPost_ret (by simp [results, Tryd.results7, go_sem, q0, q1, q2, q3, q4, q5, hs]; try rfl) rfl ?_); exact TDec.okR (below_set6 HL.out.r.b (Nat.le_refl _) _ _ _ _ _ _) E.out rfl)
/-- tx.Decode answers the transaction that the bytes are, or what is wrong. -/
theorem tdec_V (w : World) (a : Option Addr) (n c : Nat) (b : List UInt8) (hl : b.length = n) (hc : n ≤ c) (hcm : c ≤ maxLen) (hb : BytesF F w a b) : Calls Tryd.prog 7 #[.slice a n c] w (TDec w (tDec b)) := by
  unfold tDec
  cases h : Rlp.decode b with
  | error e => exact tdec_err w a n c b hl hc hcm hb e.1 e.2 h
  | ok x =>
    simp only
    by_cases hx : x.list = false ∨ x.items.length ≠ 6
    · rw [if_pos hx]; exact tdec_shape w a n c b hl hc hcm hb x h hx
    · rw [if_neg hx]
      have h1 : x.list = true := by cases h2 : x.list with
        | true => rfl
        | false => exact absurd (.inl h2) hx
      have h2 : x.items.length = 6 := Decidable.byContradiction fun h2 => hx (.inr h2)
      exact tdec_list w a n c b hl hc hcm hb x h h1 h2
end Go.Proofs.YtgcpnhnckbgjmaaDoor
