/-
  mootref03.Decode by its contract.
-/
import Derived.Test.YtgcpnhnckbgjmaaDoorRItemV
set_option linter.unusedVariables false
set_option linter.unusedSimpArgs false
namespace Go.Proofs.YtgcpnhnckbgjmaaDoor
open Go.RowKit
variable {F : Nat → Prop}
/-- What the reference's Decode answers. -/
def RDecRet (w : World) (r : Except (Nat × Nat) Rlp.It) (e : Ending) (w' : World) : Prop :=
  Below w.heap.size w w' ∧ match r with
  | .error (p, k) => e = .returned (.tuple #[ZI, .int .i64 p, .int .i64 k])
  | .ok x => ∃ vl vb vi, e = .returned (.tuple #[.agg #[vl, vb, vi], .int .i64 0, .int .i64 0]) ∧ IsIt (fun b => w.heap.size ≤ b) w' 17 x vl vb vi
set_option maxRecDepth 100000 in
theorem rdec_full (w : World) (a : Option Addr) (n c : Nat) (hc : n ≤ c) (hcm : c ≤ maxLen) (hn : 4096 < n) :
    Calls Tryd.prog 29 #[.slice a n c] w (RDecRet w (.error (0, 5))) := by
  unfold maxLen at hcm
  go_enter Tryd.func29, Tryd.ntmps29
  go_wp2
  go_returns
  exact ⟨by (repeat' (first | (with_reducible exact Below.refl _ _) | (with_reducible refine Below.alloc ?_ ?_ _) | (with_reducible refine Below.drew ?_) | (with_reducible refine Below.setCell ?_ ?_ _) | (with_reducible refine Below.thn (by assumption) ?_ ?_) | (with_reducible refine below_drewN ?_ _) | go_size)), rfl⟩
set_option maxRecDepth 100000 in
theorem rdec_none (w : World) (a : Option Addr) (c : Nat) :
    Calls Tryd.prog 29 #[.slice a 0 c] w (RDecRet w (.error (0, 11))) := by
  go_enter Tryd.func29, Tryd.ntmps29
  go_wp2
  go_returns
  exact ⟨by (repeat' (first | (with_reducible exact Below.refl _ _) | (with_reducible refine Below.alloc ?_ ?_ _) | (with_reducible refine Below.drew ?_) | (with_reducible refine Below.setCell ?_ ?_ _) | (with_reducible refine Below.thn (by assumption) ?_ ?_) | (with_reducible refine below_drewN ?_ _) | go_size)), rfl⟩
/-- The world in which the reader stands ready. -/
abbrev rdW (w : World) (a : Option Addr) (n c : Nat) : World := (w.alloc (.cells #[.bool false, .slice none 0 0, .slice none 0 0] TI)).alloc (.cells #[.slice a n c, .int .i64 0, .int .i64 0, .int .i64 0] TRD)
theorem rdW_rd (w : World) (a : Option Addr) (n c : Nat) : Rd (rdW w a n c) (w.heap.size + 1) a n c 0 0 0 := ⟨by simp, by go_cell, by go_cell, by go_cell, by go_cell, by simp, by simp, by simp⟩
theorem rdW_slot (w : World) (a : Option Addr) (n c : Nat) : SlotI (rdW w a n c) w.heap.size (.bool false) (.slice none 0 0) (.slice none 0 0) := (SlotI.new w _ _ _).below ((Below.refl _ _).alloc (Nat.le_refl _) _)
theorem rdW_below (w : World) (a : Option Addr) (n c : Nat) : Below w.heap.size w (rdW w a n c) := ((Below.refl _ _).alloc (Nat.le_refl _) _).alloc (by simp) _
theorem rdW_item (w : World) (bb off : Nat) (n c : Nat) (b : List UInt8) (hl : b.length = n) (hc : n ≤ c) (hcm : c ≤ maxLen) (hn : n ≤ 4096) (h0 : 0 < n) (hb : BytesF F w (some ⟨bb, off, none⟩) b) (r : Except (Nat × Nat) (Rlp.It × Nat)) (hr : Rlp.dItem b 16 0 n = r) :
    Calls Tryd.prog 44 #[.pointer (some ⟨w.heap.size + 1, 0, none⟩), .int .i64 n, .int .i64 0] (rdW w (some ⟨bb, off, none⟩) n c) (RItemRet (rdW w (some ⟨bb, off, none⟩) n c) (w.heap.size + 1) (some ⟨bb, off, none⟩) n c 16 r) := by
  subst hr
  exact ritem_V 16 (Nat.le_refl _) _ _ bb off n c b 0 n 0 hl hc hcm hn h0 (Nat.le_refl _) (rdW_rd w _ n c) (hb.move fun b _ hl => ⟨by omega, by simp; omega, (rdW_below w _ n c).block b hl⟩) (by decide) (Nat.le_refl _)
/-- Behind the reader's item. -/
structure RD2 (w : World) (a : Option Addr) (n c j k p : Nat) (w2 : World) : Prop where
  b : Below w.heap.size w w2
  r : Rd w2 (w.heap.size + 1) a n c j k p
  s : SlotI w2 w.heap.size (.bool false) (.slice none 0 0) (.slice none 0 0)
theorem RD2.of {w : World} {a : Option Addr} {n c j k p : Nat} {w2 : World} (hk : Keep (w.heap.size + 1) (rdW w a n c) w2) (hr : Rd w2 (w.heap.size + 1) a n c j k p) : RD2 w a n c j k p w2 :=
  ⟨(rdW_below w a n c).trans (hk.below (by simp) _ (by omega)), hr, (rdW_slot w a n c).kept hk (by omega)⟩
theorem SlotI.setAll {w : World} {g : Nat} {x y z : Value} (h : SlotI w g x y z) (u v t : Value) : SlotI (((w.setCell ⟨g, 0, none⟩ u).setCell ⟨g, 1, none⟩ v).setCell ⟨g, 2, none⟩ t) g u v t := by
  have c0 := h.c0
  have c1 := h.c1
  have c2 := h.c2
  exact ⟨by simpa using h.lt, by go_cell, by go_cell, by go_cell, by simp only [World.frozen?_setCell]; exact h.f0, by simp only [World.frozen?_setCell]; exact h.f1, by simp only [World.frozen?_setCell]; exact h.f2⟩
theorem RD2.store {w : World} {a : Option Addr} {n c j k p : Nat} {W : World} (h : RD2 w a n c j k p W) (u v t : Value) (hu : u = .bool false) (hv : v = .slice none 0 0) (ht : t = .slice none 0 0) : RD2 w a n c j k p (((W.setCell ⟨w.heap.size, 0, none⟩ u).setCell ⟨w.heap.size, 1, none⟩ v).setCell ⟨w.heap.size, 2, none⟩ t) := by
  subst hu; subst hv; subst ht
  exact ⟨((h.b.setCell (Nat.le_refl _) _).setCell (Nat.le_refl _) _).setCell (Nat.le_refl _) _, ((h.r.setOther (q := ⟨w.heap.size, 0, none⟩) (by simp) _).setOther (q := ⟨w.heap.size, 1, none⟩) (by simp) _).setOther (q := ⟨w.heap.size, 2, none⟩) (by simp) _, h.s.setAll _ _ _⟩
theorem RD2.below {w : World} {a : Option Addr} {n c j k p : Nat} {W W' : World} (h : RD2 w a n c j k p W) (hb : Below W.heap.size W W') : RD2 w a n c j k p W' := ⟨h.b.trans (hb.mono h.b.size), h.r.below hb, h.s.below hb⟩
set_option maxRecDepth 100000 in
set_option maxHeartbeats 2000000 in
theorem rdec_err (w : World) (bb off n c : Nat) (b : List UInt8) (hl : b.length = n) (hc : n ≤ c) (hcm : c ≤ maxLen) (hn : n ≤ 4096) (h0 : 0 < n) (hb : BytesF F w (some ⟨bb, off, none⟩) b) (p k : Nat) (h : Rlp.dItem b 16 0 n = .error (p, k)) :
    Calls Tryd.prog 29 #[.slice (some ⟨bb, off, none⟩) n c] w (RDecRet w (.error (p, k))) := by
  have HC := Lib.hid (rdW_item w bb off n c b hl hc hcm hn h0 hb _ h)
  have h1 : ((n : Int) == 0) = false := by simp; omega
  unfold maxLen at hcm
  clear hl hb h
  go_enter Tryd.func29, Tryd.ntmps29
  go_wp2_with (first
    | (go_at_call 44; (with_reducible refine HC.out.mono ?_); rintro e w2 ⟨hk, y, vl, vb, vi, rfl, hi, h3, j, hrd⟩; obtain ⟨l1, a1, n1, c1, a2, n2, c2, rfl, rfl, rfl⟩ := hi.shape; have HR := Lib.hid (RD2.of hk hrd); have r1 := hrd.c1; have r2 := hrd.c2; have r3 := hrd.c3; have hrl := hrd.lt; have hs0 := HR.out.s.lt; have q0 := HR.out.s.c0; have q1 := HR.out.s.c1; have q2 := HR.out.s.c2; have f0 := HR.out.s.f0; have f1 := HR.out.s.f1; have f2 := HR.out.s.f2; have hk0 : ((k : Int) == 0) = false := (by simp; omega); clear hk hi hrd h3))
  refine wp_region_relG (fun W => Rd W (w.heap.size + 1) (some ⟨bb, off, none⟩) n c j k p) (fun W => RD2 w (some ⟨bb, off, none⟩) n c j k p W) (by kernel_rfl) (HR.out.below (by (repeat' (first | (with_reducible exact Below.refl _ _) | (with_reducible refine Below.alloc ?_ ?_ _) | (with_reducible refine Below.drew ?_) | (with_reducible refine Below.setCell ?_ ?_ _) | (with_reducible refine Below.thn (by assumption) ?_ ?_) | (with_reducible refine below_drewN ?_ _) | go_size)))) ?_
  refine relR_pure 0 _ (by intro _ h; first | exact h | exact h.r | exact h.1.r) (by kernel_rfl) rfl (by kernel_rfl) (by kernel_rfl) (by go_simp) ?_
  apply Exists.intro
  refine ⟨fun W hW => ?_, fun K hK => ?_⟩
  · unfold effAt
    have r2 := hW.c2
    have r3 := hW.c3
    have hrl := hW.lt
    go_simp
    exact ⟨rfl, rfl⟩
  go_simp
  refine hK _ ?_
  clear hK K
  refine relR_pure 1 _ (by intro _ h; first | exact h | exact h.r | exact h.1.r) (by kernel_rfl) rfl (by kernel_rfl) (by kernel_rfl) (by go_simp) ?_
  apply Exists.intro
  refine ⟨fun W hW => ?_, fun K hK => ?_⟩
  · unfold effAt
    have r2 := hW.c2
    have r3 := hW.c3
    have hrl := hW.lt
    go_simp
    exact ⟨rfl, rfl⟩
  go_simp
  refine hK _ ?_
  clear hK K
  refine relR_pure 2 _ (by intro _ h; first | exact h | exact h.r | exact h.1.r) (by kernel_rfl) rfl (by kernel_rfl) (by kernel_rfl) (by go_simp) ?_
  apply Exists.intro
  refine ⟨fun W hW => ?_, fun K hK => ?_⟩
  · unfold effAt
    have r2 := hW.c2
    have r3 := hW.c3
    have hrl := hW.lt
    go_simp
    exact ⟨rfl, rfl⟩
  go_simp
  refine hK _ ?_
  clear hK K
  refine relR_pure 3 _ (by intro _ h; first | exact h | exact h.r | exact h.1.r) (by kernel_rfl) rfl (by kernel_rfl) (by kernel_rfl) (by go_simp) ?_
  apply Exists.intro
  refine ⟨fun W hW => ?_, fun K hK => ?_⟩
  · unfold effAt
    have r2 := hW.c2
    have r3 := hW.c3
    have hrl := hW.lt
    go_simp
    exact ⟨rfl, rfl⟩
  go_simp
  refine hK _ ?_
  clear hK K
  refine relR_pure 4 _ (by intro _ h; first | exact h | exact h.r | exact h.1.r) (by kernel_rfl) rfl (by kernel_rfl) (by kernel_rfl) (by go_simp) ?_
  apply Exists.intro
  refine ⟨fun W hW => ?_, fun K hK => ?_⟩
  · unfold effAt
    have r2 := hW.c2
    have r3 := hW.c3
    have hrl := hW.lt
    go_simp
    exact ⟨rfl, rfl⟩
  go_simp
  refine hK _ ?_
  clear hK K
  refine relR_pure 5 _ (by intro _ h; first | exact h | exact h.r | exact h.1.r) (by kernel_rfl) rfl (by kernel_rfl) (by kernel_rfl) (by go_simp) ?_
  apply Exists.intro
  refine ⟨fun W hW => ?_, fun K hK => ?_⟩
  · unfold effAt
    have r2 := hW.c2
    have r3 := hW.c3
    have hrl := hW.lt
    go_simp
    exact ⟨rfl, rfl⟩
  go_simp
  refine hK _ ?_
  clear hK K
  refine relR_pure 6 _ (by intro _ h; first | exact h | exact h.r | exact h.1.r) (by kernel_rfl) rfl (by kernel_rfl) (by kernel_rfl) (by go_simp) ?_
  apply Exists.intro
  refine ⟨fun W hW => ?_, fun K hK => ?_⟩
  · unfold effAt
    have r2 := hW.c2
    have r3 := hW.c3
    have hrl := hW.lt
    go_simp
    exact ⟨rfl, rfl⟩
  go_simp
  refine hK _ ?_
  clear hK K
  refine relR_pure 7 _ (by intro _ h; first | exact h | exact h.r | exact h.1.r) (by kernel_rfl) rfl (by kernel_rfl) (by kernel_rfl) (by go_simp) ?_
  apply Exists.intro
  refine ⟨fun W hW => ?_, fun K hK => ?_⟩
  · unfold effAt
    have r2 := hW.c2
    have r3 := hW.c3
    have hrl := hW.lt
    go_simp
    exact ⟨rfl, rfl⟩
  go_simp
  refine hK _ ?_
  clear hK K
  refine relR_pure 8 _ (by intro _ h; first | exact h | exact h.r | exact h.1.r) (by kernel_rfl) rfl (by kernel_rfl) (by kernel_rfl) (by go_simp) ?_
  apply Exists.intro
  refine ⟨fun W hW => ?_, fun K hK => ?_⟩
  · unfold effAt
    have r2 := hW.c2
    have r3 := hW.c3
    have hrl := hW.lt
    go_simp
    exact ⟨rfl, rfl⟩
  go_simp
  refine hK _ ?_
  clear hK K
  refine relR_call 9 _ rfl (by kernel_rfl) (by go_simp) Unit (fun _ => undef) (fun _ => (fun W => Rd W (w.heap.size + 1) (some ⟨bb, off, none⟩) n c j k p)) (fun _ => (fun W => RD2 w (some ⟨bb, off, none⟩) n c j k p W)) (fun _ _ h => h) (fun W hW => ?_) (fun _ K hK => ?_)
  · have q0 := hW.s.c0
    have q1 := hW.s.c1
    have q2 := hW.s.c2
    have f0 := hW.s.f0
    have f1 := hW.s.f1
    have f2 := hW.s.f2
    have hs := hW.store _ _ _ rfl rfl rfl
    unfold effAt
    go_simp
    first | exact ⟨(), rfl, hs, hs.r⟩ | exact ⟨hs, hs.r⟩ | exact ⟨rfl, hs, hs.r⟩
  go_simp
  refine hK _ ?_
  clear hK K
  refine relR_pure 10 _ (by intro _ h; exact h.2) (by kernel_rfl) rfl (by kernel_rfl) (by kernel_rfl) (by go_simp) ?_
  apply Exists.intro
  refine ⟨fun W hW => ?_, fun K hK => ?_⟩
  · unfold effAt
    go_simp
    exact ⟨rfl, rfl⟩
  go_simp
  refine hK _ ?_
  clear hK K
  refine relR_pure 11 _ (by intro _ h; exact h.2) (by kernel_rfl) rfl (by kernel_rfl) (by kernel_rfl) (by go_simp) ?_
  apply Exists.intro
  refine ⟨fun W hW => ?_, fun K hK => ?_⟩
  · unfold effAt
    go_simp
    exact ⟨rfl, rfl⟩
  go_simp
  refine hK _ ?_
  clear hK K
  refine relR_end (by kernel_rfl) (fun W hW => ?_)
  have HE := Lib.hid hW.1
  have z0 := hW.1.s.c0
  have z1 := hW.1.s.c1
  have z2 := hW.1.s.c2
  clear hW
  go_wp2_with fail
  refine bodyPost_ret (by simp [results, Tryd.results29, go_sem, z0, z1, z2]; try rfl) rfl ?_
  exact ⟨HE.out.b, rfl⟩
set_option maxRecDepth 100000 in
set_option maxHeartbeats 2000000 in
theorem rdec_more (w : World) (bb off n c : Nat) (b : List UInt8) (hl : b.length = n) (hc : n ≤ c) (hcm : c ≤ maxLen) (hn : n ≤ 4096) (h0 : 0 < n) (hb : BytesF F w (some ⟨bb, off, none⟩) b) (x : Rlp.It) (j : Nat) (h : Rlp.dItem b 16 0 n = .ok (x, j)) (hj : j < n) :
    Calls Tryd.prog 29 #[.slice (some ⟨bb, off, none⟩) n c] w (RDecRet w (.error (j, 11))) := by
  have HC := Lib.hid (rdW_item w bb off n c b hl hc hcm hn h0 hb _ h)
  have h1 : ((n : Int) == 0) = false := by simp; omega
  unfold maxLen at hcm
  clear hl hb h
  go_enter Tryd.func29, Tryd.ntmps29
  go_wp2_with (first
    | (go_at_call 44; (with_reducible refine HC.out.mono ?_); rintro e w2 ⟨hk, y, vl, vb, vi, rfl, hi, h3, hrd⟩; obtain ⟨l1, a1, n1, c1, a2, n2, c2, rfl, rfl, rfl⟩ := hi.shape; have HR := Lib.hid (RD2.of hk hrd); have r1 := hrd.c1; have r2 : w2.cell? ⟨w.heap.size + 1, 2, none⟩ = some (.int .i64 0) := hrd.c2; have r3 := hrd.c3; have hrl := hrd.lt; have hs0 := HR.out.s.lt; clear hk hi hrd h3)
    | (go_at_call 45; (with_reducible refine (fail_V (w.heap.size + 1) _ n c j j 11 _ _ _ (HR.out.r.below (by (repeat' (first | (with_reducible exact Below.refl _ _) | (with_reducible refine Below.alloc ?_ ?_ _) | (with_reducible refine Below.drew ?_) | (with_reducible refine Below.setCell ?_ ?_ _) | (with_reducible refine Below.thn (by assumption) ?_ ?_) | (with_reducible refine below_drewN ?_ _) | go_size)))) rfl (by decide)).mono ?_); rintro e w4 ⟨rfl, hrd, hk⟩; have HR4 : Hid (RD2 w (some ⟨bb, off, none⟩) n c j 11 j w4) := ⟨(HR.out.below ((Below.refl _ _).alloc (Nat.le_refl _) _)).b.trans (hk.below (by simp; omega) _ (by omega)), hrd, (HR.out.below ((Below.refl _ _).alloc (Nat.le_refl _) _)).s.kept hk (by omega)⟩; have t1 := hrd.c1; have t2 : w4.cell? ⟨w.heap.size + 1, 2, none⟩ = some (.int .i64 11) := hrd.c2; have t3 := hrd.c3; have hrl4 := hrd.lt; clear hk hrd))
  refine wp_region_relG (fun W => Rd W (w.heap.size + 1) (some ⟨bb, off, none⟩) n c j 11 j) (fun W => RD2 w (some ⟨bb, off, none⟩) n c j 11 j W) (by kernel_rfl) (HR4.out.below (by (repeat' (first | (with_reducible exact Below.refl _ _) | (with_reducible refine Below.alloc ?_ ?_ _) | (with_reducible refine Below.drew ?_) | (with_reducible refine Below.setCell ?_ ?_ _) | (with_reducible refine Below.thn (by assumption) ?_ ?_) | (with_reducible refine below_drewN ?_ _) | go_size)))) ?_
  refine relR_pure 0 _ (by intro _ h; first | exact h | exact h.r | exact h.1.r) (by kernel_rfl) rfl (by kernel_rfl) (by kernel_rfl) (by go_simp) ?_
  apply Exists.intro
  refine ⟨fun W hW => ?_, fun K hK => ?_⟩
  · unfold effAt
    have r2 := hW.c2
    have r3 := hW.c3
    have hrl := hW.lt
    go_simp
    exact ⟨rfl, rfl⟩
  go_simp
  refine hK _ ?_
  clear hK K
  refine relR_pure 1 _ (by intro _ h; first | exact h | exact h.r | exact h.1.r) (by kernel_rfl) rfl (by kernel_rfl) (by kernel_rfl) (by go_simp) ?_
  apply Exists.intro
  refine ⟨fun W hW => ?_, fun K hK => ?_⟩
  · unfold effAt
    have r2 := hW.c2
    have r3 := hW.c3
    have hrl := hW.lt
    go_simp
    exact ⟨rfl, rfl⟩
  go_simp
  refine hK _ ?_
  clear hK K
  refine relR_pure 2 _ (by intro _ h; first | exact h | exact h.r | exact h.1.r) (by kernel_rfl) rfl (by kernel_rfl) (by kernel_rfl) (by go_simp) ?_
  apply Exists.intro
  refine ⟨fun W hW => ?_, fun K hK => ?_⟩
  · unfold effAt
    have r2 := hW.c2
    have r3 := hW.c3
    have hrl := hW.lt
    go_simp
    exact ⟨rfl, rfl⟩
  go_simp
  refine hK _ ?_
  clear hK K
  refine relR_pure 3 _ (by intro _ h; first | exact h | exact h.r | exact h.1.r) (by kernel_rfl) rfl (by kernel_rfl) (by kernel_rfl) (by go_simp) ?_
  apply Exists.intro
  refine ⟨fun W hW => ?_, fun K hK => ?_⟩
  · unfold effAt
    have r2 := hW.c2
    have r3 := hW.c3
    have hrl := hW.lt
    go_simp
    exact ⟨rfl, rfl⟩
  go_simp
  refine hK _ ?_
  clear hK K
  refine relR_pure 4 _ (by intro _ h; first | exact h | exact h.r | exact h.1.r) (by kernel_rfl) rfl (by kernel_rfl) (by kernel_rfl) (by go_simp) ?_
  apply Exists.intro
  refine ⟨fun W hW => ?_, fun K hK => ?_⟩
  · unfold effAt
    have r2 := hW.c2
    have r3 := hW.c3
    have hrl := hW.lt
    go_simp
    exact ⟨rfl, rfl⟩
  go_simp
  refine hK _ ?_
  clear hK K
  refine relR_pure 5 _ (by intro _ h; first | exact h | exact h.r | exact h.1.r) (by kernel_rfl) rfl (by kernel_rfl) (by kernel_rfl) (by go_simp) ?_
  apply Exists.intro
  refine ⟨fun W hW => ?_, fun K hK => ?_⟩
  · unfold effAt
    have r2 := hW.c2
    have r3 := hW.c3
    have hrl := hW.lt
    go_simp
    exact ⟨rfl, rfl⟩
  go_simp
  refine hK _ ?_
  clear hK K
  refine relR_pure 6 _ (by intro _ h; first | exact h | exact h.r | exact h.1.r) (by kernel_rfl) rfl (by kernel_rfl) (by kernel_rfl) (by go_simp) ?_
  apply Exists.intro
  refine ⟨fun W hW => ?_, fun K hK => ?_⟩
  · unfold effAt
    have r2 := hW.c2
    have r3 := hW.c3
    have hrl := hW.lt
    go_simp
    exact ⟨rfl, rfl⟩
  go_simp
  refine hK _ ?_
  clear hK K
  refine relR_pure 7 _ (by intro _ h; first | exact h | exact h.r | exact h.1.r) (by kernel_rfl) rfl (by kernel_rfl) (by kernel_rfl) (by go_simp) ?_
  apply Exists.intro
  refine ⟨fun W hW => ?_, fun K hK => ?_⟩
  · unfold effAt
    have r2 := hW.c2
    have r3 := hW.c3
    have hrl := hW.lt
    go_simp
    exact ⟨rfl, rfl⟩
  go_simp
  refine hK _ ?_
  clear hK K
  refine relR_pure 8 _ (by intro _ h; first | exact h | exact h.r | exact h.1.r) (by kernel_rfl) rfl (by kernel_rfl) (by kernel_rfl) (by go_simp) ?_
  apply Exists.intro
  refine ⟨fun W hW => ?_, fun K hK => ?_⟩
  · unfold effAt
    have r2 := hW.c2
    have r3 := hW.c3
    have hrl := hW.lt
    go_simp
    exact ⟨rfl, rfl⟩
  go_simp
  refine hK _ ?_
  clear hK K
  refine relR_call 9 _ rfl (by kernel_rfl) (by go_simp) Unit (fun _ => undef) (fun _ => (fun W => Rd W (w.heap.size + 1) (some ⟨bb, off, none⟩) n c j 11 j)) (fun _ => (fun W => RD2 w (some ⟨bb, off, none⟩) n c j 11 j W)) (fun _ _ h => h) (fun W hW => ?_) (fun _ K hK => ?_)
  · have q0 := hW.s.c0
    have q1 := hW.s.c1
    have q2 := hW.s.c2
    have f0 := hW.s.f0
    have f1 := hW.s.f1
    have f2 := hW.s.f2
    have hs := hW.store _ _ _ rfl rfl rfl
    unfold effAt
    go_simp
    first | exact ⟨(), rfl, hs, hs.r⟩ | exact ⟨hs, hs.r⟩ | exact ⟨rfl, hs, hs.r⟩
  go_simp
  refine hK _ ?_
  clear hK K
  refine relR_pure 10 _ (by intro _ h; exact h.2) (by kernel_rfl) rfl (by kernel_rfl) (by kernel_rfl) (by go_simp) ?_
  apply Exists.intro
  refine ⟨fun W hW => ?_, fun K hK => ?_⟩
  · unfold effAt
    go_simp
    exact ⟨rfl, rfl⟩
  go_simp
  refine hK _ ?_
  clear hK K
  refine relR_pure 11 _ (by intro _ h; exact h.2) (by kernel_rfl) rfl (by kernel_rfl) (by kernel_rfl) (by go_simp) ?_
  apply Exists.intro
  refine ⟨fun W hW => ?_, fun K hK => ?_⟩
  · unfold effAt
    go_simp
    exact ⟨rfl, rfl⟩
  go_simp
  refine hK _ ?_
  clear hK K
  refine relR_end (by kernel_rfl) (fun W hW => ?_)
  have HE := Lib.hid hW.1
  have z0 := hW.1.s.c0
  have z1 := hW.1.s.c1
  have z2 := hW.1.s.c2
  clear hW
  go_wp2_with fail
  refine bodyPost_ret (by simp [results, Tryd.results29, go_sem, z0, z1, z2]; try rfl) rfl ?_
  exact ⟨HE.out.b, rfl⟩
set_option maxRecDepth 100000 in
set_option maxHeartbeats 2000000 in
theorem rdec_ok (w : World) (bb off n c : Nat) (b : List UInt8) (hl : b.length = n) (hc : n ≤ c) (hcm : c ≤ maxLen) (hn : n ≤ 4096) (h0 : 0 < n) (hb : BytesF F w (some ⟨bb, off, none⟩) b) (x : Rlp.It) (j : Nat) (h : Rlp.dItem b 16 0 n = .ok (x, j)) (hj : ¬ j < n) :
    Calls Tryd.prog 29 #[.slice (some ⟨bb, off, none⟩) n c] w (RDecRet w (.ok x)) := by
  have HC := Lib.hid (rdW_item w bb off n c b hl hc hcm hn h0 hb _ h)
  have h1 : ((n : Int) == 0) = false := by simp; omega
  have h2 : decide ((j : Int) < n) = false := by simp; omega
  unfold maxLen at hcm
  clear hl hb h
  go_enter Tryd.func29, Tryd.ntmps29
  go_wp2_with (first
    | (go_at_call 44; (with_reducible refine HC.out.mono ?_); rintro e w2 ⟨hk, y, vl, vb, vi, rfl, hi, h3, hrd⟩; obtain ⟨l1, a1, n1, c1, a2, n2, c2, rfl, rfl, rfl⟩ := hi.shape; have HR := Lib.hid (RD2.of hk hrd); have HI := Lib.hid hi; have HX := Lib.hid h3; have r1 := hrd.c1; have r2 : w2.cell? ⟨w.heap.size + 1, 2, none⟩ = some (.int .i64 0) := hrd.c2; have r3 := hrd.c3; have hrl := hrd.lt; have hs0 := HR.out.s.lt; have q0 := HR.out.s.c0; have q1 := HR.out.s.c1; have q2 := HR.out.s.c2; have f0 := HR.out.s.f0; have f1 := HR.out.s.f1; have f2 := HR.out.s.f2; clear hk hi hrd h3))
  refine bodyPost_ret (by simp [results, Tryd.results29, go_sem, q0, q1, q2, hs0]; try rfl) rfl ?_
  have hx := HX.out
  subst hx
  refine ⟨?_, _, _, _, rfl, HI.out.move fun b hF hl => ⟨?_, ?_, ?_⟩⟩
  · first | exact ((((HR.out.b.setCell (Nat.le_refl _) _).setCell (Nat.le_refl _) _).setCell (Nat.le_refl _) _).alloc (by simp; omega) _)
  · simp at hF; omega
  · simp; omega
  · simp at hF
    first | rw [heap_alloc_old _ _ (by simp; omega), Below.heap_setCell _ _ _ _ (by simp; omega), Below.heap_setCell _ _ _ _ (by simp; omega), Below.heap_setCell _ _ _ _ (by simp; omega)]
theorem rdec_V (w : World) (a : Option Addr) (n c : Nat) (b : List UInt8) (hl : b.length = n) (hc : n ≤ c) (hcm : c ≤ maxLen) (hb : BytesF F w a b) :
    Calls Tryd.prog 29 #[.slice a n c] w (RDecRet w (Rlp.decode b)) := by
  subst hl
  unfold Rlp.decode
  by_cases h1 : 4096 < b.length
  · rw [if_pos h1]; exact rdec_full w a _ c hc hcm h1
  · rw [if_neg h1]
    by_cases h2 : b.length = 0
    · rw [if_pos h2, h2]; exact rdec_none w a c
    · rw [if_neg h2]
      obtain ⟨bb, off, rfl, _⟩ := hb 0 (by omega)
      cases hd : Rlp.dItem b 16 0 b.length with
      | error e => exact rdec_err w bb off _ c b rfl hc hcm (by omega) (by omega) hb _ _ hd
      | ok p =>
        obtain ⟨x, j⟩ := p
        by_cases h3 : j < b.length
        · simp only; rw [if_pos h3]; exact rdec_more w bb off _ c b rfl hc hcm (by omega) (by omega) hb x j hd h3
        · simp only; rw [if_neg h3]; exact rdec_ok w bb off _ c b rfl hc hcm (by omega) (by omega) hb x j hd h3
end Go.Proofs.YtgcpnhnckbgjmaaDoor
