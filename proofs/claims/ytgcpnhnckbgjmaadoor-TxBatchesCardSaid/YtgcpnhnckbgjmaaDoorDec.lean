/-
  rlp.Decode by its contract.
-/
import Derived.Test.YtgcpnhnckbgjmaaDoorItem2
set_option linter.unusedVariables false
set_option linter.unusedSimpArgs false
namespace Go.Proofs.YtgcpnhnckbgjmaaDoor
open Go.RowKit
variable {F : Nat → Prop}
/-- What Decode answers: the item that the bytes are, or a fault. -/
def DecRet (w : World) (r : Except (Nat × Nat) Rlp.It) (e : Ending) (w' : World) : Prop :=
  Below w.heap.size w w' ∧ match r with
  | .error (p, c) => ∃ q, e = .returned (.tuple #[ZI, .iface TF (.pointer (some ⟨q, 0, none⟩))]) ∧ FaultAt w' q p c ∧ w.heap.size ≤ q
  | .ok x => ∃ vl vb vi, e = .returned (.tuple #[.agg #[vl, vb, vi], .nilIface]) ∧ IsIt (fun b => w.heap.size ≤ b) w' 16 x vl vb vi
set_option maxRecDepth 100000 in
set_option maxHeartbeats 1000000 in
theorem dec_full (w : World) (a : Option Addr) (n c : Nat) (hc : n ≤ c) (hcm : c ≤ maxLen) (hn : 4096 < n) :
    Calls Tryd.prog 27 #[.slice a n c] w (DecRet w (.error (0, 5))) := by
  unfold maxLen at hcm
  go_enter Tryd.func27, Tryd.ntmps27
  go_wp2_with (go_at_call 42; (with_reducible refine (fault_V 0 5 0 5 _ (by decide) (by decide)).mono ?_); rintro e w1 ⟨rfl, hfa, hb1, hz1⟩; rw [World.size_alloc] at hfa; have HS := Lib.hid ((SlotI.new w (.bool false) (.slice none 0 0) (.slice none 0 0)).below hb1); have q0 := HS.out.c0; have q1 := HS.out.c1; have q2 := HS.out.c2; have f0 := HS.out.f0; have f1 := HS.out.f1; have f2 := HS.out.f2; have HF := Lib.hid hfa; have HB := Lib.hid hb1; clear hfa hb1)
  refine bodyPost_ret (by simp [results, Tryd.results27, go_sem, q0, q1, q2]; try rfl) rfl ?_
  exact ⟨((((((Below.refl _ _).alloc (Nat.le_refl _) _).trans (HB.out.mono (by simp))).setCell (by simp) _).setCell (by simp) _).setCell (by simp) _), _, rfl, FaultAt.set (q := ⟨w.heap.size, 2, none⟩) (FaultAt.set (q := ⟨w.heap.size, 1, none⟩) (FaultAt.set (q := ⟨w.heap.size, 0, none⟩) HF.out (by simp) _) (by simp) _) (by simp) _, by simp⟩
set_option maxRecDepth 100000 in
set_option maxHeartbeats 1000000 in
theorem dec_none (w : World) (a : Option Addr) (c : Nat) :
    Calls Tryd.prog 27 #[.slice a 0 c] w (DecRet w (.error (0, 11))) := by
  go_enter Tryd.func27, Tryd.ntmps27
  go_wp2_with (go_at_call 42; (with_reducible refine (fault_V 0 11 0 11 _ (by decide) (by decide)).mono ?_); rintro e w1 ⟨rfl, hfa, hb1, hz1⟩; rw [World.size_alloc] at hfa; have HS := Lib.hid ((SlotI.new w (.bool false) (.slice none 0 0) (.slice none 0 0)).below hb1); have q0 := HS.out.c0; have q1 := HS.out.c1; have q2 := HS.out.c2; have f0 := HS.out.f0; have f1 := HS.out.f1; have f2 := HS.out.f2; have HF := Lib.hid hfa; have HB := Lib.hid hb1; clear hfa hb1)
  refine bodyPost_ret (by simp [results, Tryd.results27, go_sem, q0, q1, q2]; try rfl) rfl ?_
  exact ⟨((((((Below.refl _ _).alloc (Nat.le_refl _) _).trans (HB.out.mono (by simp))).setCell (by simp) _).setCell (by simp) _).setCell (by simp) _), _, rfl, FaultAt.set (q := ⟨w.heap.size, 2, none⟩) (FaultAt.set (q := ⟨w.heap.size, 1, none⟩) (FaultAt.set (q := ⟨w.heap.size, 0, none⟩) HF.out (by simp) _) (by simp) _) (by simp) _, by simp⟩
set_option maxRecDepth 100000 in
set_option maxHeartbeats 1000000 in
theorem dec_err (w : World) (a : Option Addr) (n c : Nat) (b : List UInt8) (hl : b.length = n) (hc : n ≤ c) (hcm : c ≤ maxLen) (hn : n ≤ 4096) (h0 : 0 < n) (hb : BytesF F w a b) (p k : Nat) (h : Rlp.dItem b 16 0 n = .error (p, k)) :
    Calls Tryd.prog 27 #[.slice a n c] w (DecRet w (.error (p, k))) := by
  have HK := Lib.hid ((item_V 16 (Nat.le_refl _)).at (w.alloc (.cells #[.bool false, .slice none 0 0, .slice none 0 0] TI)) a n c b 0 n 0 hl hc hcm hn h0 (Nat.le_refl _) (hb.below ((Below.refl _ _).alloc (Nat.le_refl _) _)) (by decide) (Nat.le_refl _) _ h n rfl 0 rfl)
  unfold maxLen at hcm
  have h1 : ((n : Int) == 0) = false := by simp; omega
  clear hl hb h
  go_enter Tryd.func27, Tryd.ntmps27
  go_wp2_with (go_at_call 43; (with_reducible refine HK.out.mono ?_); rintro e w1 ⟨hb1, q, rfl, hfa, hq⟩; rw [World.size_alloc] at hq; have HS := Lib.hid ((SlotI.new w (.bool false) (.slice none 0 0) (.slice none 0 0)).below hb1); have q0 := HS.out.c0; have q1 := HS.out.c1; have q2 := HS.out.c2; have f0 := HS.out.f0; have f1 := HS.out.f1; have f2 := HS.out.f2; have HF := Lib.hid hfa; have HB := Lib.hid hb1; have hz1 := hb1.size; (rw [World.size_alloc] at hz1); have hs1 : w.heap.size < w1.heap.size := (by omega); clear hfa hb1)
  refine bodyPost_ret (by simp [results, Tryd.results27, go_sem, q0, q1, q2, hs1]; try rfl) rfl ?_
  exact ⟨((((((Below.refl _ _).alloc (Nat.le_refl _) _).trans (HB.out.mono (by simp))).setCell (by simp) _).setCell (by simp) _).setCell (by simp) _).alloc (by simp; omega) _, _, rfl, (FaultAt.set (q := ⟨w.heap.size, 2, none⟩) (FaultAt.set (q := ⟨w.heap.size, 1, none⟩) (FaultAt.set (q := ⟨w.heap.size, 0, none⟩) HF.out (by simp; omega) _) (by simp; omega) _) (by simp; omega) _).below ((Below.refl _ _).alloc (Nat.le_refl _) _), by omega⟩
set_option maxRecDepth 100000 in
set_option maxHeartbeats 1000000 in
theorem dec_more (w : World) (a : Option Addr) (n c : Nat) (b : List UInt8) (hl : b.length = n) (hc : n ≤ c) (hcm : c ≤ maxLen) (hn : n ≤ 4096) (h0 : 0 < n) (hb : BytesF F w a b) (x : Rlp.It) (j : Nat) (h : Rlp.dItem b 16 0 n = .ok (x, j)) (hj : j < n) :
    Calls Tryd.prog 27 #[.slice a n c] w (DecRet w (.error (j, 11))) := by
  have HK := Lib.hid ((item_V 16 (Nat.le_refl _)).at (w.alloc (.cells #[.bool false, .slice none 0 0, .slice none 0 0] TI)) a n c b 0 n 0 hl hc hcm hn h0 (Nat.le_refl _) (hb.below ((Below.refl _ _).alloc (Nat.le_refl _) _)) (by decide) (Nat.le_refl _) _ h n rfl 0 rfl)
  unfold maxLen at hcm
  have h1 : ((n : Int) == 0) = false := by simp; omega
  clear hl hb h
  go_enter Tryd.func27, Tryd.ntmps27
  go_wp2_with (first
    | (go_at_call 43; (with_reducible refine HK.out.mono ?_); rintro e w1 ⟨hb1, yl, yb, yi, rfl, hit⟩; obtain ⟨l1, a1, n1, c1, a2, n2, c2, rfl, rfl, rfl⟩ := hit.shape; have HS := Lib.hid ((SlotI.new w (.bool false) (.slice none 0 0) (.slice none 0 0)).below hb1); have HB := Lib.hid hb1; have hz1 := hb1.size; (rw [World.size_alloc] at hz1); have hs1 : w.heap.size < w1.heap.size := (by omega); clear hit hb1)
    | (go_at_call 42; (with_reducible refine (fault_V j 11 _ 11 _ rfl (by decide)).mono ?_); rintro e w2 ⟨rfl, hfa, hb2, hz2⟩; rw [World.size_alloc] at hfa; have HS2 := Lib.hid ((HS.out.below ((Below.refl _ _).alloc (Nat.le_refl _) _)).below hb2); have q0 := HS2.out.c0; have q1 := HS2.out.c1; have q2 := HS2.out.c2; have f0 := HS2.out.f0; have f1 := HS2.out.f1; have f2 := HS2.out.f2; have HF := Lib.hid hfa; have HB2 := Lib.hid hb2; clear hfa hb2))
  refine bodyPost_ret (by simp [results, Tryd.results27, go_sem, q0, q1, q2]; try rfl) rfl ?_
  exact ⟨((((((Below.refl _ _).alloc (Nat.le_refl _) _).trans (HB.out.mono (by simp))).alloc (by omega) _).trans (HB2.out.mono (by simp; omega))).setCell (by simp) _).setCell (by simp) _ |>.setCell (by simp) _, _, rfl, FaultAt.set (q := ⟨w.heap.size, 2, none⟩) (FaultAt.set (q := ⟨w.heap.size, 1, none⟩) (FaultAt.set (q := ⟨w.heap.size, 0, none⟩) HF.out (by simp; omega) _) (by simp; omega) _) (by simp; omega) _, by omega⟩
set_option maxRecDepth 100000 in
set_option maxHeartbeats 1000000 in
theorem dec_ok (w : World) (a : Option Addr) (n c : Nat) (b : List UInt8) (hl : b.length = n) (hc : n ≤ c) (hcm : c ≤ maxLen) (hn : n ≤ 4096) (h0 : 0 < n) (hb : BytesF F w a b) (x : Rlp.It) (j : Nat) (h : Rlp.dItem b 16 0 n = .ok (x, j)) (hj : ¬ j < n) :
    Calls Tryd.prog 27 #[.slice a n c] w (DecRet w (.ok x)) := by
  have HK := Lib.hid ((item_V 16 (Nat.le_refl _)).at (w.alloc (.cells #[.bool false, .slice none 0 0, .slice none 0 0] TI)) a n c b 0 n 0 hl hc hcm hn h0 (Nat.le_refl _) (hb.below ((Below.refl _ _).alloc (Nat.le_refl _) _)) (by decide) (Nat.le_refl _) _ h n rfl 0 rfl)
  unfold maxLen at hcm
  have h1 : ((n : Int) == 0) = false := by simp; omega
  have h2 : decide ((j : Int) < n) = false := by simp; omega
  clear hl hb h
  go_enter Tryd.func27, Tryd.ntmps27
  go_wp2_with (go_at_call 43; (with_reducible refine HK.out.mono ?_); rintro e w1 ⟨hb1, yl, yb, yi, rfl, hit⟩; obtain ⟨l1, a1, n1, c1, a2, n2, c2, rfl, rfl, rfl⟩ := hit.shape; have HS := Lib.hid ((SlotI.new w (.bool false) (.slice none 0 0) (.slice none 0 0)).below hb1); have q0 := HS.out.c0; have q1 := HS.out.c1; have q2 := HS.out.c2; have f0 := HS.out.f0; have f1 := HS.out.f1; have f2 := HS.out.f2; have HI := Lib.hid hit; have HB := Lib.hid hb1; have hz1 := hb1.size; (rw [World.size_alloc] at hz1); have hs1 : w.heap.size < w1.heap.size := (by omega); clear hit hb1)
  refine bodyPost_ret (by simp [results, Tryd.results27, go_sem, q0, q1, q2, hs1]; try rfl) rfl ?_
  refine ⟨((((((Below.refl _ _).alloc (Nat.le_refl _) _).trans (HB.out.mono (by simp))).setCell (by simp) _).setCell (by simp) _).setCell (by simp) _).alloc (by simp; omega) _, _, _, _, rfl, HI.out.move fun b hF hl => ⟨?_, ?_, ?_⟩⟩
  · simp at hF; omega
  · simp; omega
  · simp at hF
    rw [heap_alloc_old _ _ (by simp; omega), Below.heap_setCell _ _ _ _ (by simp; omega), Below.heap_setCell _ _ _ _ (by simp; omega), Below.heap_setCell _ _ _ _ (by simp; omega)]
theorem dec_V (w : World) (a : Option Addr) (n c : Nat) (b : List UInt8) (hl : b.length = n) (hc : n ≤ c) (hcm : c ≤ maxLen) (hb : BytesF F w a b) :
    Calls Tryd.prog 27 #[.slice a n c] w (DecRet w (Rlp.decode b)) := by
  subst hl
  unfold Rlp.decode
  by_cases h1 : 4096 < b.length
  · rw [if_pos h1]; exact dec_full w a _ c hc hcm h1
  · rw [if_neg h1]
    by_cases h2 : b.length = 0
    · rw [if_pos h2, h2]; exact dec_none w a c
    · rw [if_neg h2]
      cases hd : Rlp.dItem b 16 0 b.length with
      | error e => exact dec_err w a _ c b rfl hc hcm (by omega) (by omega) hb _ _ hd
      | ok p =>
        obtain ⟨x, j⟩ := p
        by_cases h3 : j < b.length
        · simp only; rw [if_pos h3]; exact dec_more w a _ c b rfl hc hcm (by omega) (by omega) hb x j hd h3
        · simp only; rw [if_neg h3]; exact dec_ok w a _ c b rfl hc hcm (by omega) (by omega) hb x j hd h3
end Go.Proofs.YtgcpnhnckbgjmaaDoor
