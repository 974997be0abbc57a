/-
  The walk of RlpKnown: it returns true.
-/
import Derived.Test.YtcblbmjcfckgjaaDoorText
import Derived.Test.YtcblbmjcfckgjaaDoorLaid
import Derived.Test.YtcblbmjcfckgjaaDoorNumb
set_option linter.unusedVariables false
set_option linter.unusedSimpArgs false
namespace Go.Proofs.YtcblbmjcfckgjaaDoor
open Go.RowKit
abbrev TCS : TypeId := 40
def longB : List UInt8 := List.replicate 56 0
/-- The rows of the first loop. -/
structure KR (w : World) (G : Nat) (W : World) : Prop where
  b : Below w.heap.size w W
  lt : G < W.heap.size
  e : ∀ j, j < 9 → ∃ (x : Rlp.It) (want : List UInt8) (u v z : Value), W.cell? ⟨G, j * 4, none⟩ = some u ∧ W.cell? ⟨G, j * 4 + 1, none⟩ = some v ∧ W.cell? ⟨G, j * 4 + 2, none⟩ = some z ∧ W.cell? ⟨G, j * 4 + 3, none⟩ = some (strB want) ∧ IsIt (fun _ => True) W 2 x u v z ∧ enc x = .ok want ∧ allB 56 2 x
theorem KR.below {w : World} {G : Nat} {W W' : World} (h : KR w G W) (hb : Below W.heap.size W W') : KR w G W' := by
  refine ⟨h.b.trans (hb.mono h.b.size), by have := h.lt; have := hb.size; omega, fun j hj => ?_⟩
  obtain ⟨x, want, u, v, z, c0, c1, c2, c3, hx, he, ha⟩ := h.e j hj
  have hc : ∀ o y, W.cell? ⟨G, o, none⟩ = some y → W'.cell? ⟨G, o, none⟩ = some y := fun o y hy => by rw [hb.cell (p := ⟨G, o, none⟩) h.lt]; exact hy
  exact ⟨x, want, u, v, z, hc _ _ c0, hc _ _ c1, hc _ _ c2, hc _ _ c3, hx.below hb, he, ha⟩
theorem leaf_all (l : List UInt8) (h : l.length ≤ 56) : allB 56 2 (.mk false l []) := ⟨h, fun i hi => by simp [Rlp.It.items] at hi⟩
set_option maxRecDepth 100000 in
theorem known_rows {w W : World} {G g6 gl : Nat} {LB : ByteArray} (hLB : LB = ⟨(184 :: 56 :: longB).toArray⟩) {p1 p4 p7 p10 p15 p17 p27 p29 : AC} (hb : Below w.heap.size w W) (h1 : TextAt W [100, 111, 103] p1.a p1.c) (h4 : TextAt W [] p4.a p4.c) (h7 : TextAt W [15] p7.a p7.c) (h10 : TextAt W [128] p10.a p10.c) (h15 : TextAt W [99, 97, 116] p15.a p15.c) (h17 : TextAt W [100, 111, 103] p17.a p17.c) (h27 : TextAt W [] p27.a p27.c) (h29 : TextAt W [4, 0] p29.a p29.c) (h6 : RowAt W g6 [.bool false, .slice p15.a 3 p15.c, .slice none 0 0, .bool false, .slice p17.a 3 p17.c, .slice none 0 0]) (hl : TextAt W longB (some ⟨gl, 0, none⟩) 56) (h9 : RowAt W G [.bool false, .slice p1.a 3 p1.c, .slice none 0 0, .string { data := #[131, 100, 111, 103] }, .bool false, .slice p4.a 0 p4.c, .slice none 0 0, .string { data := #[128] }, .bool false, .slice p7.a 1 p7.c, .slice none 0 0, .string { data := #[15] }, .bool false, .slice p10.a 1 p10.c, .slice none 0 0, .string { data := #[129, 128] }, .bool true, .slice none 0 0, .slice none 0 0, .string { data := #[192] }, .bool true, .slice none 0 0, .slice (some ⟨g6, 0, none⟩) 2 2, .string { data := #[200, 131, 99, 97, 116, 131, 100, 111, 103] }, .bool false, .slice (some ⟨gl, 0, none⟩) 56 56, .slice none 0 0, .string LB, .bool false, .slice p27.a 0 p27.c, .slice none 0 0, .string { data := #[128] }, .bool false, .slice p29.a 2 p29.c, .slice none 0 0, .string { data := #[130, 4, 0] }]) : KR w G W := by
  subst hLB
  refine ⟨hb, h9.lt, fun j hj => ?_⟩
  rcases (by omega : j = 0 ∨ j = 1 ∨ j = 2 ∨ j = 3 ∨ j = 4 ∨ j = 5 ∨ j = 6 ∨ j = 7 ∨ j = 8) with rfl | rfl | rfl | rfl | rfl | rfl | rfl | rfl | rfl
  · exact ⟨.mk false [100, 111, 103] [], [131, 100, 111, 103], _, _, _, h9.c 0 _ rfl, h9.c 1 _ rfl, h9.c 2 _ rfl, h9.c 3 _ rfl, h1.leaf 1 _ rfl, by kernel_rfl, leaf_all _ (by decide)⟩
  · exact ⟨.mk false [] [], [128], _, _, _, h9.c 4 _ rfl, h9.c 5 _ rfl, h9.c 6 _ rfl, h9.c 7 _ rfl, h4.leaf 1 _ rfl, by kernel_rfl, leaf_all _ (by decide)⟩
  · exact ⟨.mk false [15] [], [15], _, _, _, h9.c 8 _ rfl, h9.c 9 _ rfl, h9.c 10 _ rfl, h9.c 11 _ rfl, h7.leaf 1 _ rfl, by kernel_rfl, leaf_all _ (by decide)⟩
  · exact ⟨.mk false [128] [], [129, 128], _, _, _, h9.c 12 _ rfl, h9.c 13 _ rfl, h9.c 14 _ rfl, h9.c 15 _ rfl, h10.leaf 1 _ rfl, by kernel_rfl, leaf_all _ (by decide)⟩
  · refine ⟨.mk true [] [], [192], _, _, _, h9.c 16 _ rfl, h9.c 17 _ rfl, h9.c 18 _ rfl, h9.c 19 _ rfl, ?_, by kernel_rfl, ⟨by decide, fun i hi => by simp [Rlp.It.items] at hi⟩⟩
    exact ⟨rfl, ⟨none, 0, rfl, Nat.le_refl _, Nat.zero_le _, fun _ => rfl, fun i hi => by simp [Rlp.It.bytes] at hi⟩, none, 0, rfl, Nat.le_refl _, Nat.zero_le _, fun i hi => by simp [Rlp.It.items] at hi⟩
  · refine ⟨.mk true [] [.mk false [99, 97, 116] [], .mk false [100, 111, 103] []], [200, 131, 99, 97, 116, 131, 100, 111, 103], _, _, _, h9.c 20 _ rfl, h9.c 21 _ rfl, h9.c 22 _ rfl, h9.c 23 _ rfl, ?_, by kernel_rfl, ?_⟩
    · refine ⟨rfl, ⟨none, 0, rfl, Nat.le_refl _, Nat.zero_le _, fun _ => rfl, fun i hi => by simp [Rlp.It.bytes] at hi⟩, _, 2, rfl, Nat.le_refl _, by decide, fun i hi => ?_⟩
      have hi : i < 2 := hi
      rcases (by omega : i = 0 ∨ i = 1) with rfl | rfl
      · exact ⟨g6, 0, _, _, _, rfl, trivial, h6.lt, h6.c 0 _ rfl, h6.c 1 _ rfl, h6.c 2 _ rfl, h15.leaf 0 _ rfl⟩
      · exact ⟨g6, 0, _, _, _, rfl, trivial, h6.lt, h6.c 3 _ rfl, h6.c 4 _ rfl, h6.c 5 _ rfl, h17.leaf 0 _ rfl⟩
    · refine ⟨by decide, fun i hi => ?_⟩
      have hi : i < 2 := hi
      rcases (by omega : i = 0 ∨ i = 1) with rfl | rfl
      · exact ⟨by decide, fun i hi => by simp [Rlp.It.items] at hi⟩
      · exact ⟨by decide, fun i hi => by simp [Rlp.It.items] at hi⟩
  · exact ⟨.mk false longB [], 184 :: 56 :: longB, _, _, _, h9.c 24 _ rfl, h9.c 25 _ rfl, h9.c 26 _ rfl, h9.c 27 _ rfl, hl.leaf 1 _ rfl, by kernel_rfl, leaf_all _ (by decide)⟩
  · exact ⟨.mk false [] [], [128], _, _, _, h9.c 28 _ rfl, h9.c 29 _ rfl, h9.c 30 _ rfl, h9.c 31 _ rfl, h27.leaf 1 _ rfl, by kernel_rfl, leaf_all _ (by decide)⟩
  · exact ⟨.mk false [4, 0] [], [130, 4, 0], _, _, _, h9.c 32 _ rfl, h9.c 33 _ rfl, h9.c 34 _ rfl, h9.c 35 _ rfl, h29.leaf 1 _ rfl, by kernel_rfl, leaf_all _ (by decide)⟩
def bad7 (j : Nat) : List UInt8 := match j with
  | 0 => []
  | 1 => [129, 15]
  | 2 => [131, 100, 111]
  | 3 => [184, 1, 97]
  | 4 => [193]
  | 5 => [128, 128]
  | _ => [248, 1, 128]
theorem bad_of {b : List UInt8} (h : (match Rlp.decode b with | .error _ => true | .ok _ => false) = true) : ∃ p c, Rlp.decode b = .error (p, c) := by
  cases hd : Rlp.decode b with
  | error e => exact ⟨e.1, e.2, rfl⟩
  | ok x => rw [hd] at h; cases h
theorem bad7_len (j : Nat) : (bad7 j).length ≤ 3 := by unfold bad7; split <;> decide
theorem bad7_err (j : Nat) (h : j < 7) : ∃ p c, Rlp.decode (bad7 j) = .error (p, c) := by
  rcases (by omega : j = 0 ∨ j = 1 ∨ j = 2 ∨ j = 3 ∨ j = 4 ∨ j = 5 ∨ j = 6) with rfl | rfl | rfl | rfl | rfl | rfl | rfl
  · exact bad_of (by kernel_rfl)
  · exact bad_of (by kernel_rfl)
  · exact bad_of (by kernel_rfl)
  · exact bad_of (by kernel_rfl)
  · exact bad_of (by kernel_rfl)
  · exact bad_of (by kernel_rfl)
  · exact bad_of (by kernel_rfl)
structure BR (w : World) (G : Nat) (W : World) : Prop where
  b : Below w.heap.size w W
  lt : G < W.heap.size
  e : ∀ j, j < 7 → W.cell? ⟨G, j, none⟩ = some (strB (bad7 j))
theorem BR.below {w : World} {G : Nat} {W W' : World} (h : BR w G W) (hb : Below W.heap.size W W') : BR w G W' :=
  ⟨h.b.trans (hb.mono h.b.size), by have := h.lt; have := hb.size; omega, fun j hj => by rw [hb.cell (p := ⟨G, j, none⟩) h.lt]; exact h.e j hj⟩
theorem enc_known (x : Rlp.It) (want : List UInt8) (he : enc x = .ok want) (ha : allB 56 2 x) (vl vb vi : Value) (w : World) (h : IsIt (fun _ => True) w 2 x vl vb vi) :
    Calls Tryd.prog 11 #[.agg #[vl, vb, vi]] w fun e w' => ∃ ao n c, e = .returned (.tuple #[.slice ao n c, .nilIface]) ∧ OwnB w' w.heap.size ao n c want ∧ Below w.heap.size w w' := by
  have := encode_V 56 2 ⟨Sm.of (by omega)⟩ x vl vb vi w h ha
  rw [he] at this
  exact this
theorem text_C (l : List UInt8) (w : World) (hl : l.length ≤ 1000) (n : Nat) (hn : l.length = n) :
    Calls Tryd.prog 12 #[strB l] w fun e w' => ∃ p : AC, e = .returned (.agg #[.bool false, .slice p.a n p.c, .slice none 0 0]) ∧ TextAt w' l p.a p.c ∧ Below w.heap.size w w' := by
  subst hn
  exact (text_V l w hl).mono fun e w' ⟨a, c, he, ht, hb⟩ => ⟨⟨a, c⟩, he, ht, hb⟩
theorem number_C (V : Nat) (l : List UInt8) (hV : Rlp.big V = l) (w : World) (h : Hid (V < 18446744073709551616)) (n : Nat) (hn : l.length = n) (A : Int) (hA : A = V) :
    Calls Tryd.prog 13 #[.int .u64 A] w fun e w' => ∃ p : AC, e = .returned (.agg #[.bool false, .slice p.a n p.c, .slice none 0 0]) ∧ TextAt w' l p.a p.c ∧ Below w.heap.size w w' := by
  subst hV; subst hn; subst hA
  exact (number_V V w h).mono fun e w' ⟨a, n, c, he, ho, hb⟩ => ⟨⟨a, c⟩, by rw [he, ho.len], ⟨ho.bytes.move fun b _ hl => ⟨trivial, hl, rfl⟩, by rw [ho.len]; exact ho.cap.1, ho.cap.2.1, ho.cap.2.2⟩, hb⟩

set_option maxRecDepth 100000 in
set_option maxHeartbeats 16000000 in
theorem rlpKnown_walk (w : World) (laid : laidMetH Tryd.prog Rows.rlpKnownRow.laid w) :
    Calls Tryd.prog 4 #[] w fun e w' => e = .returned (.bool true) ∧ Below w.heap.size w w' := by
  have HE : Hid (ErrType w) := errType_of_laid laid
  clear laid
  go_enter Tryd.func4, Tryd.ntmps4
  have hmk : (Instr.makeSlice TBS (.int .i64 56) (.int .i64 56)).run Tryd.prog w = .ok (.slice (some ⟨w.heap.size, 0, none⟩) 56 56) (mkW 56 w) := mk_run 56 (by decide) w
  have HK0 : Hid (KS w [(longB, some ⟨w.heap.size, 0, none⟩, 56)] [] (mkW 56 w)) := ⟨mk_below 56 w, fun p hp => by rw [List.mem_singleton] at hp; subst hp; exact mk_text 56 (by decide) w, fun p hp => by simp at hp⟩
  obtain ⟨LB, hLB⟩ : ∃ LB : ByteArray, LB = ⟨(184 :: 56 :: longB).toArray⟩ := ⟨_, rfl⟩
  have HLB := Lib.hid hLB
  have hadd : ∀ W, (binOp .add TS (.string ⟨#[184, 56]⟩) (strB longB)).run Tryd.prog W = .ok (.string LB) W := fun W => by rw [hLB]; exact run_add_str [184, 56] longB (by decide) W
  clear hLB
  go_wp2_with fail
  generalize mkW 56 w = w1 at HK0 ⊢
  clear hmk
  refine wp_region_rel (KS w [(longB, some ⟨w.heap.size, 0, none⟩, 56)] []) (by kernel_rfl) (HK0.out.below (by (repeat' (first | (with_reducible exact Below.refl _ _) | (with_reducible refine Below.alloc ?_ ?_ _) | (with_reducible refine Below.drew ?_) | (with_reducible refine Below.setCell ?_ ?_ _) | (with_reducible refine Below.thn (by assumption) ?_ ?_) | (with_reducible refine below_drewN ?_ _) | go_size)))) ?_
  refine relR_pure 0 _ (by intro _ h; first | exact h | exact h.2) (by kernel_rfl) rfl (by kernel_rfl) (by kernel_rfl) (by go_simp) ?_
  apply Exists.intro
  refine ⟨fun W hW => ?_, fun K hK => ?_⟩
  · unfold effAt
    go_simp
    exact ⟨rfl, rfl⟩
  go_simp
  refine hK _ ?_
  clear hK K
  refine relR_pure 3 _ (by intro _ h; first | exact h | exact h.2) (by kernel_rfl) rfl (by kernel_rfl) (by kernel_rfl) (by go_simp) ?_
  apply Exists.intro
  refine ⟨fun W hW => ?_, fun K hK => ?_⟩
  · unfold effAt
    go_simp
    exact ⟨rfl, rfl⟩
  go_simp
  refine hK _ ?_
  clear hK K
  refine relR_pure 6 _ (by intro _ h; first | exact h | exact h.2) (by kernel_rfl) rfl (by kernel_rfl) (by kernel_rfl) (by go_simp) ?_
  apply Exists.intro
  refine ⟨fun W hW => ?_, fun K hK => ?_⟩
  · unfold effAt
    go_simp
    exact ⟨rfl, rfl⟩
  go_simp
  refine hK _ ?_
  clear hK K
  refine relR_pure 9 _ (by intro _ h; first | exact h | exact h.2) (by kernel_rfl) rfl (by kernel_rfl) (by kernel_rfl) (by go_simp) ?_
  apply Exists.intro
  refine ⟨fun W hW => ?_, fun K hK => ?_⟩
  · unfold effAt
    go_simp
    exact ⟨rfl, rfl⟩
  go_simp
  refine hK _ ?_
  clear hK K
  refine relR_pure 12 _ (by intro _ h; first | exact h | exact h.2) (by kernel_rfl) rfl (by kernel_rfl) (by kernel_rfl) (by go_simp) ?_
  apply Exists.intro
  refine ⟨fun W hW => ?_, fun K hK => ?_⟩
  · unfold effAt
    go_simp
    exact ⟨rfl, rfl⟩
  go_simp
  refine hK _ ?_
  clear hK K
  refine relR_pure 13 _ (by intro _ h; first | exact h | exact h.2) (by kernel_rfl) rfl (by kernel_rfl) (by kernel_rfl) (by go_simp) ?_
  apply Exists.intro
  refine ⟨fun W hW => ?_, fun K hK => ?_⟩
  · unfold effAt
    go_simp
    exact ⟨rfl, rfl⟩
  go_simp
  refine hK _ ?_
  clear hK K
  refine relR_pure 14 _ (by intro _ h; first | exact h | exact h.2) (by kernel_rfl) rfl (by kernel_rfl) (by kernel_rfl) (by go_simp) ?_
  apply Exists.intro
  refine ⟨fun W hW => ?_, fun K hK => ?_⟩
  · unfold effAt
    go_simp
    exact ⟨rfl, rfl⟩
  go_simp
  refine hK _ ?_
  clear hK K
  refine relR_pure 16 _ (by intro _ h; first | exact h | exact h.2) (by kernel_rfl) rfl (by kernel_rfl) (by kernel_rfl) (by go_simp) ?_
  apply Exists.intro
  refine ⟨fun W hW => ?_, fun K hK => ?_⟩
  · unfold effAt
    go_simp
    exact ⟨rfl, rfl⟩
  go_simp
  refine hK _ ?_
  clear hK K
  refine relR_pure 21 _ (by intro _ h; first | exact h | exact h.2) (by kernel_rfl) rfl (by kernel_rfl) (by kernel_rfl) (by go_simp) ?_
  apply Exists.intro
  refine ⟨fun W hW => ?_, fun K hK => ?_⟩
  · unfold effAt
    go_simp
    exact ⟨rfl, rfl⟩
  go_simp
  refine hK _ ?_
  clear hK K
  refine relR_pure 22 _ (by intro _ h; first | exact h | exact h.2) (by kernel_rfl) rfl (by kernel_rfl) (by kernel_rfl) (by go_simp) ?_
  apply Exists.intro
  refine ⟨fun W hW => ?_, fun K hK => ?_⟩
  · unfold effAt
    go_simp
    exact ⟨rfl, rfl⟩
  go_simp
  refine hK _ ?_
  clear hK K
  refine relR_pure 23 _ (by intro _ h; first | exact h | exact h.2) (by kernel_rfl) rfl (by kernel_rfl) (by kernel_rfl) (by go_simp) ?_
  apply Exists.intro
  refine ⟨fun W hW => ?_, fun K hK => ?_⟩
  · unfold effAt
    go_simp
    exact ⟨rfl, rfl⟩
  go_simp
  refine hK _ ?_
  clear hK K
  refine relR_pure 24 _ (by intro _ h; first | exact h | exact h.2) (by kernel_rfl) rfl (by kernel_rfl) (by kernel_rfl) (by go_simp) ?_
  apply Exists.intro
  refine ⟨fun W hW => ?_, fun K hK => ?_⟩
  · unfold effAt
    have hcv := str_V (n := 56) rfl (hW.t _ (List.mem_singleton.2 rfl)).z (hW.t _ (List.mem_singleton.2 rfl)).b
    go_simp
    exact ⟨rfl, rfl⟩
  go_simp
  refine hK _ ?_
  clear hK K
  refine relR_pure 25 _ (by intro _ h; first | exact h | exact h.2) (by kernel_rfl) rfl (by kernel_rfl) (by kernel_rfl) (by go_simp) ?_
  apply Exists.intro
  refine ⟨fun W hW => ?_, fun K hK => ?_⟩
  · unfold effAt
    go_simp
    exact ⟨rfl, rfl⟩
  go_simp
  refine hK _ ?_
  clear hK K
  refine relR_pure 26 _ (by intro _ h; first | exact h | exact h.2) (by kernel_rfl) rfl (by kernel_rfl) (by kernel_rfl) (by go_simp) ?_
  apply Exists.intro
  refine ⟨fun W hW => ?_, fun K hK => ?_⟩
  · unfold effAt
    go_simp
    exact ⟨rfl, rfl⟩
  go_simp
  refine hK _ ?_
  clear hK K
  refine relR_pure 33 _ (by intro _ h; first | exact h | exact h.2) (by kernel_rfl) rfl (by kernel_rfl) (by kernel_rfl) (by go_simp) ?_
  apply Exists.intro
  refine ⟨fun W hW => ?_, fun K hK => ?_⟩
  · unfold effAt
    go_simp
    exact ⟨rfl, rfl⟩
  go_simp
  refine hK _ ?_
  clear hK K
  refine relR_call 1 _ rfl (by kernel_rfl) (by go_simp) AC (fun p => .agg #[.bool false, .slice p.a 3 p.c, .slice none 0 0]) (fun p1 => KS w [([100, 111, 103], p1.a, p1.c), (longB, some ⟨w.heap.size, 0, none⟩, 56)] []) (fun p1 => KS w [([100, 111, 103], p1.a, p1.c), (longB, some ⟨w.heap.size, 0, none⟩, 56)] []) (fun _ _ h => h.tail) (fun W hW => ?_) (fun p1 K hK => ?_)
  · have hW2 : KS w [(longB, some ⟨w.heap.size, 0, none⟩, 56)] [] W := by first | exact hW | exact hW.1
    unfold effAt
    go_simp
    change Calls _ _ _ _ _
    refine (text_C [100, 111, 103] W (by decide) 3 rfl).mono ?_
    rintro e w' ⟨p, he, ht, hb⟩
    have hk := (hW2.below hb).text ht
    first | exact ⟨_, he, p, rfl, hk⟩ | exact ⟨_, he, p, rfl, hk, hk⟩
  go_simp
  refine hK _ ?_
  clear hK K
  refine relR_pure 2 _ (by intro _ h; first | exact h | exact h.2) (by kernel_rfl) rfl (by kernel_rfl) (by kernel_rfl) (by go_simp) ?_
  apply Exists.intro
  refine ⟨fun W hW => ?_, fun K hK => ?_⟩
  · unfold effAt
    go_simp
    exact ⟨rfl, rfl⟩
  go_simp
  refine hK _ ?_
  clear hK K
  refine relR_call 4 _ rfl (by kernel_rfl) (by go_simp) AC (fun p => .agg #[.bool false, .slice p.a 0 p.c, .slice none 0 0]) (fun p4 => KS w [([], p4.a, p4.c), ([100, 111, 103], p1.a, p1.c), (longB, some ⟨w.heap.size, 0, none⟩, 56)] []) (fun p4 => KS w [([], p4.a, p4.c), ([100, 111, 103], p1.a, p1.c), (longB, some ⟨w.heap.size, 0, none⟩, 56)] []) (fun _ _ h => h.tail) (fun W hW => ?_) (fun p4 K hK => ?_)
  · have hW2 : KS w [([100, 111, 103], p1.a, p1.c), (longB, some ⟨w.heap.size, 0, none⟩, 56)] [] W := by first | exact hW | exact hW.1
    unfold effAt
    go_simp
    change Calls _ _ _ _ _
    refine (text_C [] W (by decide) 0 rfl).mono ?_
    rintro e w' ⟨p, he, ht, hb⟩
    have hk := (hW2.below hb).text ht
    first | exact ⟨_, he, p, rfl, hk⟩ | exact ⟨_, he, p, rfl, hk, hk⟩
  go_simp
  refine hK _ ?_
  clear hK K
  refine relR_pure 5 _ (by intro _ h; first | exact h | exact h.2) (by kernel_rfl) rfl (by kernel_rfl) (by kernel_rfl) (by go_simp) ?_
  apply Exists.intro
  refine ⟨fun W hW => ?_, fun K hK => ?_⟩
  · unfold effAt
    go_simp
    exact ⟨rfl, rfl⟩
  go_simp
  refine hK _ ?_
  clear hK K
  refine relR_call 7 _ rfl (by kernel_rfl) (by go_simp) AC (fun p => .agg #[.bool false, .slice p.a 1 p.c, .slice none 0 0]) (fun p7 => KS w [([15], p7.a, p7.c), ([], p4.a, p4.c), ([100, 111, 103], p1.a, p1.c), (longB, some ⟨w.heap.size, 0, none⟩, 56)] []) (fun p7 => KS w [([15], p7.a, p7.c), ([], p4.a, p4.c), ([100, 111, 103], p1.a, p1.c), (longB, some ⟨w.heap.size, 0, none⟩, 56)] []) (fun _ _ h => h.tail) (fun W hW => ?_) (fun p7 K hK => ?_)
  · have hW2 : KS w [([], p4.a, p4.c), ([100, 111, 103], p1.a, p1.c), (longB, some ⟨w.heap.size, 0, none⟩, 56)] [] W := by first | exact hW | exact hW.1
    unfold effAt
    go_simp
    change Calls _ _ _ _ _
    refine (text_C [15] W (by decide) 1 rfl).mono ?_
    rintro e w' ⟨p, he, ht, hb⟩
    have hk := (hW2.below hb).text ht
    first | exact ⟨_, he, p, rfl, hk⟩ | exact ⟨_, he, p, rfl, hk, hk⟩
  go_simp
  refine hK _ ?_
  clear hK K
  refine relR_pure 8 _ (by intro _ h; first | exact h | exact h.2) (by kernel_rfl) rfl (by kernel_rfl) (by kernel_rfl) (by go_simp) ?_
  apply Exists.intro
  refine ⟨fun W hW => ?_, fun K hK => ?_⟩
  · unfold effAt
    go_simp
    exact ⟨rfl, rfl⟩
  go_simp
  refine hK _ ?_
  clear hK K
  refine relR_call 10 _ rfl (by kernel_rfl) (by go_simp) AC (fun p => .agg #[.bool false, .slice p.a 1 p.c, .slice none 0 0]) (fun p10 => KS w [([128], p10.a, p10.c), ([15], p7.a, p7.c), ([], p4.a, p4.c), ([100, 111, 103], p1.a, p1.c), (longB, some ⟨w.heap.size, 0, none⟩, 56)] []) (fun p10 => KS w [([128], p10.a, p10.c), ([15], p7.a, p7.c), ([], p4.a, p4.c), ([100, 111, 103], p1.a, p1.c), (longB, some ⟨w.heap.size, 0, none⟩, 56)] []) (fun _ _ h => h.tail) (fun W hW => ?_) (fun p10 K hK => ?_)
  · have hW2 : KS w [([15], p7.a, p7.c), ([], p4.a, p4.c), ([100, 111, 103], p1.a, p1.c), (longB, some ⟨w.heap.size, 0, none⟩, 56)] [] W := by first | exact hW | exact hW.1
    unfold effAt
    go_simp
    change Calls _ _ _ _ _
    refine (text_C [128] W (by decide) 1 rfl).mono ?_
    rintro e w' ⟨p, he, ht, hb⟩
    have hk := (hW2.below hb).text ht
    first | exact ⟨_, he, p, rfl, hk⟩ | exact ⟨_, he, p, rfl, hk, hk⟩
  go_simp
  refine hK _ ?_
  clear hK K
  refine relR_pure 11 _ (by intro _ h; first | exact h | exact h.2) (by kernel_rfl) rfl (by kernel_rfl) (by kernel_rfl) (by go_simp) ?_
  apply Exists.intro
  refine ⟨fun W hW => ?_, fun K hK => ?_⟩
  · unfold effAt
    go_simp
    exact ⟨rfl, rfl⟩
  go_simp
  refine hK _ ?_
  clear hK K
  refine relR_call 15 _ rfl (by kernel_rfl) (by go_simp) AC (fun p => .agg #[.bool false, .slice p.a 3 p.c, .slice none 0 0]) (fun p15 => KS w [([99, 97, 116], p15.a, p15.c), ([128], p10.a, p10.c), ([15], p7.a, p7.c), ([], p4.a, p4.c), ([100, 111, 103], p1.a, p1.c), (longB, some ⟨w.heap.size, 0, none⟩, 56)] []) (fun p15 => KS w [([99, 97, 116], p15.a, p15.c), ([128], p10.a, p10.c), ([15], p7.a, p7.c), ([], p4.a, p4.c), ([100, 111, 103], p1.a, p1.c), (longB, some ⟨w.heap.size, 0, none⟩, 56)] []) (fun _ _ h => h.tail) (fun W hW => ?_) (fun p15 K hK => ?_)
  · have hW2 : KS w [([128], p10.a, p10.c), ([15], p7.a, p7.c), ([], p4.a, p4.c), ([100, 111, 103], p1.a, p1.c), (longB, some ⟨w.heap.size, 0, none⟩, 56)] [] W := by first | exact hW | exact hW.1
    unfold effAt
    go_simp
    change Calls _ _ _ _ _
    refine (text_C [99, 97, 116] W (by decide) 3 rfl).mono ?_
    rintro e w' ⟨p, he, ht, hb⟩
    have hk := (hW2.below hb).text ht
    first | exact ⟨_, he, p, rfl, hk⟩ | exact ⟨_, he, p, rfl, hk, hk⟩
  go_simp
  refine hK _ ?_
  clear hK K
  refine relR_call 17 _ rfl (by kernel_rfl) (by go_simp) AC (fun p => .agg #[.bool false, .slice p.a 3 p.c, .slice none 0 0]) (fun p17 => KS w [([100, 111, 103], p17.a, p17.c), ([99, 97, 116], p15.a, p15.c), ([128], p10.a, p10.c), ([15], p7.a, p7.c), ([], p4.a, p4.c), ([100, 111, 103], p1.a, p1.c), (longB, some ⟨w.heap.size, 0, none⟩, 56)] []) (fun p17 => KS w [([100, 111, 103], p17.a, p17.c), ([99, 97, 116], p15.a, p15.c), ([128], p10.a, p10.c), ([15], p7.a, p7.c), ([], p4.a, p4.c), ([100, 111, 103], p1.a, p1.c), (longB, some ⟨w.heap.size, 0, none⟩, 56)] []) (fun _ _ h => h.tail) (fun W hW => ?_) (fun p17 K hK => ?_)
  · have hW2 : KS w [([99, 97, 116], p15.a, p15.c), ([128], p10.a, p10.c), ([15], p7.a, p7.c), ([], p4.a, p4.c), ([100, 111, 103], p1.a, p1.c), (longB, some ⟨w.heap.size, 0, none⟩, 56)] [] W := by first | exact hW | exact hW.1
    unfold effAt
    go_simp
    change Calls _ _ _ _ _
    refine (text_C [100, 111, 103] W (by decide) 3 rfl).mono ?_
    rintro e w' ⟨p, he, ht, hb⟩
    have hk := (hW2.below hb).text ht
    first | exact ⟨_, he, p, rfl, hk⟩ | exact ⟨_, he, p, rfl, hk, hk⟩
  go_simp
  refine hK _ ?_
  clear hK K
  refine relR_pair 18 27 (by kernel_rfl) ?_ ?_
  · skip
    refine relOp_call 18 _ rfl (by go_simp) Nat (fun g => .slice (some ⟨g, 0, none⟩) 2 2) (fun g6 => KS w [([100, 111, 103], p17.a, p17.c), ([99, 97, 116], p15.a, p15.c), ([128], p10.a, p10.c), ([15], p7.a, p7.c), ([], p4.a, p4.c), ([100, 111, 103], p1.a, p1.c), (longB, some ⟨w.heap.size, 0, none⟩, 56)] [(g6, [.bool false, .slice p15.a 3 p15.c, .slice none 0 0, .bool false, .slice p17.a 3 p17.c, .slice none 0 0])]) (fun g6 => KS w [([100, 111, 103], p17.a, p17.c), ([99, 97, 116], p15.a, p15.c), ([128], p10.a, p10.c), ([15], p7.a, p7.c), ([], p4.a, p4.c), ([100, 111, 103], p1.a, p1.c), (longB, some ⟨w.heap.size, 0, none⟩, 56)] [(g6, [.bool false, .slice p15.a 3 p15.c, .slice none 0 0, .bool false, .slice p17.a 3 p17.c, .slice none 0 0])]) (fun _ _ h => h.tailr) (fun W hW => ?_) (fun g6 K hK => ?_)
    · have hW2 : KS w [([100, 111, 103], p17.a, p17.c), ([99, 97, 116], p15.a, p15.c), ([128], p10.a, p10.c), ([15], p7.a, p7.c), ([], p4.a, p4.c), ([100, 111, 103], p1.a, p1.c), (longB, some ⟨w.heap.size, 0, none⟩, 56)] [] W := by first | exact hW | exact hW.1
      have hk := (hW2.below ((Below.refl _ _).alloc (Nat.le_refl _) (.cells ([.bool false, .slice p15.a 3 p15.c, .slice none 0 0, .bool false, .slice p17.a 3 p17.c, .slice none 0 0] : List Value).toArray TI))).row (RowAt.new W [.bool false, .slice p15.a 3 p15.c, .slice none 0 0, .bool false, .slice p17.a 3 p17.c, .slice none 0 0] TI)
      unfold effAt
      go_simp
      first | exact ⟨W.heap.size, rfl, hk⟩ | exact ⟨W.heap.size, rfl, hk, hk⟩
    go_simp
    refine hK _ ?_
    clear hK K
    refine relR_pure 19 _ (by intro _ h; first | exact h | exact h.2) (by kernel_rfl) rfl (by kernel_rfl) (by kernel_rfl) (by go_simp) ?_
    apply Exists.intro
    refine ⟨fun W hW => ?_, fun K hK => ?_⟩
    · unfold effAt
      go_simp
      exact ⟨rfl, rfl⟩
    go_simp
    refine hK _ ?_
    clear hK K
    refine relR_pure 20 _ (by intro _ h; first | exact h | exact h.2) (by kernel_rfl) rfl (by kernel_rfl) (by kernel_rfl) (by go_simp) ?_
    apply Exists.intro
    refine ⟨fun W hW => ?_, fun K hK => ?_⟩
    · unfold effAt
      go_simp
      exact ⟨rfl, rfl⟩
    go_simp
    refine hK _ ?_
    clear hK K
    refine relR_call 27 _ rfl (by kernel_rfl) (by go_simp) AC (fun p => .agg #[.bool false, .slice p.a 0 p.c, .slice none 0 0]) (fun p27 => KS w [([], p27.a, p27.c), ([100, 111, 103], p17.a, p17.c), ([99, 97, 116], p15.a, p15.c), ([128], p10.a, p10.c), ([15], p7.a, p7.c), ([], p4.a, p4.c), ([100, 111, 103], p1.a, p1.c), (longB, some ⟨w.heap.size, 0, none⟩, 56)] [(g6, [.bool false, .slice p15.a 3 p15.c, .slice none 0 0, .bool false, .slice p17.a 3 p17.c, .slice none 0 0])]) (fun p27 => KS w [([], p27.a, p27.c), ([100, 111, 103], p17.a, p17.c), ([99, 97, 116], p15.a, p15.c), ([128], p10.a, p10.c), ([15], p7.a, p7.c), ([], p4.a, p4.c), ([100, 111, 103], p1.a, p1.c), (longB, some ⟨w.heap.size, 0, none⟩, 56)] [(g6, [.bool false, .slice p15.a 3 p15.c, .slice none 0 0, .bool false, .slice p17.a 3 p17.c, .slice none 0 0])]) (fun _ _ h => h.tail) (fun W hW => ?_) (fun p27 K hK => ?_)
    · have hW2 : KS w [([100, 111, 103], p17.a, p17.c), ([99, 97, 116], p15.a, p15.c), ([128], p10.a, p10.c), ([15], p7.a, p7.c), ([], p4.a, p4.c), ([100, 111, 103], p1.a, p1.c), (longB, some ⟨w.heap.size, 0, none⟩, 56)] [(g6, [.bool false, .slice p15.a 3 p15.c, .slice none 0 0, .bool false, .slice p17.a 3 p17.c, .slice none 0 0])] W := by first | exact hW | exact hW.1
      unfold effAt
      go_simp
      change Calls _ _ _ _ _
      refine (number_C 0 [] (by kernel_rfl) W (show (_ : Nat) < _ by decide) 0 rfl _ (by decide)).mono ?_
      rintro e w' ⟨p, he, ht, hb⟩
      have hk := (hW2.below hb).text ht
      first | exact ⟨_, he, p, rfl, hk⟩ | exact ⟨_, he, p, rfl, hk, hk⟩
    go_simp
    refine hK _ ?_
    clear hK K
    refine relR_pure 28 _ (by intro _ h; first | exact h | exact h.2) (by kernel_rfl) rfl (by kernel_rfl) (by kernel_rfl) (by go_simp) ?_
    apply Exists.intro
    refine ⟨fun W hW => ?_, fun K hK => ?_⟩
    · unfold effAt
      go_simp
      exact ⟨rfl, rfl⟩
    go_simp
    refine hK _ ?_
    clear hK K
    refine relR_call 29 _ rfl (by kernel_rfl) (by go_simp) AC (fun p => .agg #[.bool false, .slice p.a 2 p.c, .slice none 0 0]) (fun p29 => KS w [([4, 0], p29.a, p29.c), ([], p27.a, p27.c), ([100, 111, 103], p17.a, p17.c), ([99, 97, 116], p15.a, p15.c), ([128], p10.a, p10.c), ([15], p7.a, p7.c), ([], p4.a, p4.c), ([100, 111, 103], p1.a, p1.c), (longB, some ⟨w.heap.size, 0, none⟩, 56)] [(g6, [.bool false, .slice p15.a 3 p15.c, .slice none 0 0, .bool false, .slice p17.a 3 p17.c, .slice none 0 0])]) (fun p29 => KS w [([4, 0], p29.a, p29.c), ([], p27.a, p27.c), ([100, 111, 103], p17.a, p17.c), ([99, 97, 116], p15.a, p15.c), ([128], p10.a, p10.c), ([15], p7.a, p7.c), ([], p4.a, p4.c), ([100, 111, 103], p1.a, p1.c), (longB, some ⟨w.heap.size, 0, none⟩, 56)] [(g6, [.bool false, .slice p15.a 3 p15.c, .slice none 0 0, .bool false, .slice p17.a 3 p17.c, .slice none 0 0])]) (fun _ _ h => h.tail) (fun W hW => ?_) (fun p29 K hK => ?_)
    · have hW2 : KS w [([], p27.a, p27.c), ([100, 111, 103], p17.a, p17.c), ([99, 97, 116], p15.a, p15.c), ([128], p10.a, p10.c), ([15], p7.a, p7.c), ([], p4.a, p4.c), ([100, 111, 103], p1.a, p1.c), (longB, some ⟨w.heap.size, 0, none⟩, 56)] [(g6, [.bool false, .slice p15.a 3 p15.c, .slice none 0 0, .bool false, .slice p17.a 3 p17.c, .slice none 0 0])] W := by first | exact hW | exact hW.1
      unfold effAt
      go_simp
      change Calls _ _ _ _ _
      refine (number_C 1024 [4, 0] (by kernel_rfl) W (show (_ : Nat) < _ by decide) 2 rfl _ (by decide)).mono ?_
      rintro e w' ⟨p, he, ht, hb⟩
      have hk := (hW2.below hb).text ht
      first | exact ⟨_, he, p, rfl, hk⟩ | exact ⟨_, he, p, rfl, hk, hk⟩
    go_simp
    refine hK _ ?_
    clear hK K
    refine relR_pure 30 _ (by intro _ h; first | exact h | exact h.2) (by kernel_rfl) rfl (by kernel_rfl) (by kernel_rfl) (by go_simp) ?_
    apply Exists.intro
    refine ⟨fun W hW => ?_, fun K hK => ?_⟩
    · unfold effAt
      go_simp
      exact ⟨rfl, rfl⟩
    go_simp
    refine hK _ ?_
    clear hK K
    refine relR_call 31 _ rfl (by kernel_rfl) (by go_simp) Nat (fun g => .slice (some ⟨g, 0, none⟩) 9 9) (fun G => KS w [([4, 0], p29.a, p29.c), ([], p27.a, p27.c), ([100, 111, 103], p17.a, p17.c), ([99, 97, 116], p15.a, p15.c), ([128], p10.a, p10.c), ([15], p7.a, p7.c), ([], p4.a, p4.c), ([100, 111, 103], p1.a, p1.c), (longB, some ⟨w.heap.size, 0, none⟩, 56)] [(G, [.bool false, .slice p1.a 3 p1.c, .slice none 0 0, .string { data := #[131, 100, 111, 103] }, .bool false, .slice p4.a 0 p4.c, .slice none 0 0, .string { data := #[128] }, .bool false, .slice p7.a 1 p7.c, .slice none 0 0, .string { data := #[15] }, .bool false, .slice p10.a 1 p10.c, .slice none 0 0, .string { data := #[129, 128] }, .bool true, .slice none 0 0, .slice none 0 0, .string { data := #[192] }, .bool true, .slice none 0 0, .slice (some ⟨g6, 0, none⟩) 2 2, .string { data := #[200, 131, 99, 97, 116, 131, 100, 111, 103] }, .bool false, .slice (some ⟨w.heap.size, 0, none⟩) 56 56, .slice none 0 0, .string LB, .bool false, .slice p27.a 0 p27.c, .slice none 0 0, .string { data := #[128] }, .bool false, .slice p29.a 2 p29.c, .slice none 0 0, .string { data := #[130, 4, 0] }]), (g6, [.bool false, .slice p15.a 3 p15.c, .slice none 0 0, .bool false, .slice p17.a 3 p17.c, .slice none 0 0])]) (fun G => KS w [([4, 0], p29.a, p29.c), ([], p27.a, p27.c), ([100, 111, 103], p17.a, p17.c), ([99, 97, 116], p15.a, p15.c), ([128], p10.a, p10.c), ([15], p7.a, p7.c), ([], p4.a, p4.c), ([100, 111, 103], p1.a, p1.c), (longB, some ⟨w.heap.size, 0, none⟩, 56)] [(G, [.bool false, .slice p1.a 3 p1.c, .slice none 0 0, .string { data := #[131, 100, 111, 103] }, .bool false, .slice p4.a 0 p4.c, .slice none 0 0, .string { data := #[128] }, .bool false, .slice p7.a 1 p7.c, .slice none 0 0, .string { data := #[15] }, .bool false, .slice p10.a 1 p10.c, .slice none 0 0, .string { data := #[129, 128] }, .bool true, .slice none 0 0, .slice none 0 0, .string { data := #[192] }, .bool true, .slice none 0 0, .slice (some ⟨g6, 0, none⟩) 2 2, .string { data := #[200, 131, 99, 97, 116, 131, 100, 111, 103] }, .bool false, .slice (some ⟨w.heap.size, 0, none⟩) 56 56, .slice none 0 0, .string LB, .bool false, .slice p27.a 0 p27.c, .slice none 0 0, .string { data := #[128] }, .bool false, .slice p29.a 2 p29.c, .slice none 0 0, .string { data := #[130, 4, 0] }]), (g6, [.bool false, .slice p15.a 3 p15.c, .slice none 0 0, .bool false, .slice p17.a 3 p17.c, .slice none 0 0])]) (fun _ _ h => h.tailr) (fun W hW => ?_) (fun G K hK => ?_)
    · have hW2 : KS w [([4, 0], p29.a, p29.c), ([], p27.a, p27.c), ([100, 111, 103], p17.a, p17.c), ([99, 97, 116], p15.a, p15.c), ([128], p10.a, p10.c), ([15], p7.a, p7.c), ([], p4.a, p4.c), ([100, 111, 103], p1.a, p1.c), (longB, some ⟨w.heap.size, 0, none⟩, 56)] [(g6, [.bool false, .slice p15.a 3 p15.c, .slice none 0 0, .bool false, .slice p17.a 3 p17.c, .slice none 0 0])] W := by first | exact hW | exact hW.1
      have hk := (hW2.below ((Below.refl _ _).alloc (Nat.le_refl _) (.cells ([.bool false, .slice p1.a 3 p1.c, .slice none 0 0, .string { data := #[131, 100, 111, 103] }, .bool false, .slice p4.a 0 p4.c, .slice none 0 0, .string { data := #[128] }, .bool false, .slice p7.a 1 p7.c, .slice none 0 0, .string { data := #[15] }, .bool false, .slice p10.a 1 p10.c, .slice none 0 0, .string { data := #[129, 128] }, .bool true, .slice none 0 0, .slice none 0 0, .string { data := #[192] }, .bool true, .slice none 0 0, .slice (some ⟨g6, 0, none⟩) 2 2, .string { data := #[200, 131, 99, 97, 116, 131, 100, 111, 103] }, .bool false, .slice (some ⟨w.heap.size, 0, none⟩) 56 56, .slice none 0 0, .string LB, .bool false, .slice p27.a 0 p27.c, .slice none 0 0, .string { data := #[128] }, .bool false, .slice p29.a 2 p29.c, .slice none 0 0, .string { data := #[130, 4, 0] }] : List Value).toArray TCS))).row (RowAt.new W [.bool false, .slice p1.a 3 p1.c, .slice none 0 0, .string { data := #[131, 100, 111, 103] }, .bool false, .slice p4.a 0 p4.c, .slice none 0 0, .string { data := #[128] }, .bool false, .slice p7.a 1 p7.c, .slice none 0 0, .string { data := #[15] }, .bool false, .slice p10.a 1 p10.c, .slice none 0 0, .string { data := #[129, 128] }, .bool true, .slice none 0 0, .slice none 0 0, .string { data := #[192] }, .bool true, .slice none 0 0, .slice (some ⟨g6, 0, none⟩) 2 2, .string { data := #[200, 131, 99, 97, 116, 131, 100, 111, 103] }, .bool false, .slice (some ⟨w.heap.size, 0, none⟩) 56 56, .slice none 0 0, .string LB, .bool false, .slice p27.a 0 p27.c, .slice none 0 0, .string { data := #[128] }, .bool false, .slice p29.a 2 p29.c, .slice none 0 0, .string { data := #[130, 4, 0] }] TCS)
      unfold effAt
      go_simp
      first | exact ⟨W.heap.size, rfl, hk⟩ | exact ⟨W.heap.size, rfl, hk, hk⟩
    go_simp
    refine hK _ ?_
    clear hK K
    refine relR_pure 32 _ (by intro _ h; first | exact h | exact h.2) (by kernel_rfl) rfl (by kernel_rfl) (by kernel_rfl) (by go_simp) ?_
    apply Exists.intro
    refine ⟨fun W hW => ?_, fun K hK => ?_⟩
    · unfold effAt
      go_simp
      exact ⟨rfl, rfl⟩
    go_simp
    refine hK _ ?_
    clear hK K
    refine relR_end (by kernel_rfl) (fun W hW => ?_)
    have hk := hW.1
    have HK : Hid (KR w G W) := known_rows (g6 := g6) (gl := w.heap.size) HLB.out hk.b (hk.t ([100, 111, 103], p1.a, p1.c) (by simp)) (hk.t ([], p4.a, p4.c) (by simp)) (hk.t ([15], p7.a, p7.c) (by simp)) (hk.t ([128], p10.a, p10.c) (by simp)) (hk.t ([99, 97, 116], p15.a, p15.c) (by simp)) (hk.t ([100, 111, 103], p17.a, p17.c) (by simp)) (hk.t ([], p27.a, p27.c) (by simp)) (hk.t ([4, 0], p29.a, p29.c) (by simp)) (hk.r (g6, [.bool false, .slice p15.a 3 p15.c, .slice none 0 0, .bool false, .slice p17.a 3 p17.c, .slice none 0 0]) (by simp)) (hk.t (longB, some ⟨w.heap.size, 0, none⟩, 56) (by simp)) (hk.r (G, [.bool false, .slice p1.a 3 p1.c, .slice none 0 0, .string { data := #[131, 100, 111, 103] }, .bool false, .slice p4.a 0 p4.c, .slice none 0 0, .string { data := #[128] }, .bool false, .slice p7.a 1 p7.c, .slice none 0 0, .string { data := #[15] }, .bool false, .slice p10.a 1 p10.c, .slice none 0 0, .string { data := #[129, 128] }, .bool true, .slice none 0 0, .slice none 0 0, .string { data := #[192] }, .bool true, .slice none 0 0, .slice (some ⟨g6, 0, none⟩) 2 2, .string { data := #[200, 131, 99, 97, 116, 131, 100, 111, 103] }, .bool false, .slice (some ⟨w.heap.size, 0, none⟩) 56 56, .slice none 0 0, .string LB, .bool false, .slice p27.a 0 p27.c, .slice none 0 0, .string { data := #[128] }, .bool false, .slice p29.a 2 p29.c, .slice none 0 0, .string { data := #[130, 4, 0] }]) (by simp))
    clear hk hW
    have hGl := HK.out.lt
    go_wp2_with fail
    go_loopw [4, 5, 6, 45] (fun cc bb ee idx wr => ∃ j : Nat, j ≤ 9 ∧ idx = .int .i64 j ∧ Hid (KR w G wr)) (fun _ _ _ idx _ => 9 - (intOf idx).toNat)
    case atStart => exact ⟨0, by omega, rfl, HK.out.below (by (repeat' (first | (with_reducible exact Below.refl _ _) | (with_reducible refine Below.alloc ?_ ?_ _) | (with_reducible refine Below.drew ?_) | (with_reducible refine Below.setCell ?_ ?_ _) | (with_reducible refine Below.thn (by assumption) ?_ ?_) | (with_reducible refine below_drewN ?_ _) | go_size)))⟩
    case round =>
      obtain ⟨j, hj, rfl, HR⟩ := hrel
      have hwr := HR.out.lt
      by_cases hlt : j < 9
      · obtain ⟨x, want, u, v, z, c0, c1, c2, c3, hx, he, ha⟩ := HR.out.e j hlt
        obtain ⟨yl, ya, yn, yc, ya', yn', yc', rfl, rfl, rfl⟩ := hx.shape
        have HX := Lib.hid hx
        have HEn := Lib.hid he
        have HA := Lib.hid ha
        have nn := run_guardn_str want want
        have ne := run_neq_str want want
        have nd : decide (want ≠ want) = false := by simp
        clear hx he ha
        obtain ⟨WS, hWS⟩ : ∃ WS : ByteArray, WS = ⟨want.toArray⟩ := ⟨_, rfl⟩
        have hst : strB want = .string WS := by rw [hWS]; rfl
        rw [hst] at c3 nn ne
        have HST := Lib.hid hst
        clear hst hWS
        go_wp2_with (first
          | (go_at_call 11; (with_reducible refine (enc_known x want HEn.out HA.out _ _ _ _ (HX.out.below (by (repeat' (first | (with_reducible exact Below.refl _ _) | (with_reducible refine Below.alloc ?_ ?_ _) | (with_reducible refine Below.drew ?_) | (with_reducible refine Below.setCell ?_ ?_ _) | (with_reducible refine Below.thn (by assumption) ?_ ?_) | (with_reducible refine below_drewN ?_ _) | go_size))))).mono ?_); rintro e w2 ⟨ao, n, c, rfl, ho, hb2⟩; have cv := ho.str; rw [HST.out] at cv; have t3 : w2.cell? ⟨wr.heap.size, 3, none⟩ = some (.string WS) := (by rw [hb2.cell (p := ⟨wr.heap.size, 3, none⟩) (by simp)]; go_cell); have HR2 : Hid (KR w G w2) := (HR.out.below ((Below.refl _ _).alloc (Nat.le_refl _) _)).below hb2; clear ho hb2))
        go_roundw
        case rel => exact ⟨j + 1, by omega, by go_num, HR2⟩
        case measure => simp [intOf]; omega
      · have hj9 : 9 ≤ j := by omega
        have HW := Lib.hid HR.out.b
        obtain ⟨G2, hG2⟩ : ∃ G2, G2 = wr.heap.size := ⟨_, rfl⟩
        have HG2 := Lib.hid hG2
        clear hG2
        go_wp2_with fail
        rw [← HG2.out]
        go_loopw [8, 9, 10, 67] (fun ss pp ee idx wr => ∃ j : Nat, j ≤ 7 ∧ idx = .int .i64 j ∧ Hid (BR w G2 wr)) (fun _ _ _ idx _ => 7 - (intOf idx).toNat)
        case atStart =>
          rw [HG2.out]
          refine ⟨0, by omega, rfl, HW.out.alloc HW.out.size _, by simp, fun j hj => ?_⟩
          rcases (by omega : j = 0 ∨ j = 1 ∨ j = 2 ∨ j = 3 ∨ j = 4 ∨ j = 5 ∨ j = 6) with rfl | rfl | rfl | rfl | rfl | rfl | rfl
          all_goals exact (World.cell?_alloc_at _ _ _ _ rfl).trans rfl
        case round =>
          obtain ⟨j, hj, rfl, HZ⟩ := hrel
          have hwz := HZ.out.lt
          by_cases hlt : j < 7
          · have c0 := HZ.out.e j hlt
            obtain ⟨p, cc, hd⟩ := bad7_err j hlt
            have hl3 := bad7_len j
            obtain ⟨l, hl⟩ : ∃ l, l = bad7 j := ⟨_, rfl⟩
            rw [← hl] at c0 hd hl3
            have HDc := Lib.hid hd
            have hcv := cvt_run l wr
            have HBy := Lib.hid (cvt_bytes l wr)
            have HCp := Lib.hid (cvt_cap l wr (by omega))
            have HBl := Lib.hid (HZ.out.below (cvt_below l wr))
            clear hl hd hl3
            generalize grownCap wr l.length 0 TU = cp at hcv HCp
            generalize cvtW l wr = W2 at hcv HBy HBl
            go_wp2_with (first
              | (go_at_call 6; (with_reducible refine (dec_V _ _ l.length cp l rfl HCp.out.1 HCp.out.2 HBy.out).mono ?_); rintro e w3 he; rw [HDc.out] at he; obtain ⟨hb3, q, rfl, hfa, hq⟩ := he; have HZ3 := Lib.hid (HBl.out.below hb3); clear hfa hb3))
            go_roundw
            case rel => exact ⟨j + 1, by omega, by go_num, HZ3.out.below (by (repeat' (first | (with_reducible exact Below.refl _ _) | (with_reducible refine Below.alloc ?_ ?_ _) | (with_reducible refine Below.drew ?_) | (with_reducible refine Below.setCell ?_ ?_ _) | (with_reducible refine Below.thn (by assumption) ?_ ?_) | (with_reducible refine below_drewN ?_ _) | go_size)))⟩
            case measure => simp [intOf]; omega
          · go_wp2_with (first
              | (go_at_call 9; (with_reducible refine (fixed3_V _ (Lib.hid (HE.out.below HZ.out.b))).mono ?_); rintro e w3 ⟨rfl, hb3⟩; have HB3 := Lib.hid (HZ.out.b.trans (hb3.mono HZ.out.b.size)); clear hb3))
            go_returns
            exact ⟨rfl, HB3.out⟩
  · skip
    refine relOp_call 27 _ rfl (by go_simp) AC (fun p => .agg #[.bool false, .slice p.a 0 p.c, .slice none 0 0]) (fun p27 => KS w [([], p27.a, p27.c), ([100, 111, 103], p17.a, p17.c), ([99, 97, 116], p15.a, p15.c), ([128], p10.a, p10.c), ([15], p7.a, p7.c), ([], p4.a, p4.c), ([100, 111, 103], p1.a, p1.c), (longB, some ⟨w.heap.size, 0, none⟩, 56)] []) (fun p27 => KS w [([], p27.a, p27.c), ([100, 111, 103], p17.a, p17.c), ([99, 97, 116], p15.a, p15.c), ([128], p10.a, p10.c), ([15], p7.a, p7.c), ([], p4.a, p4.c), ([100, 111, 103], p1.a, p1.c), (longB, some ⟨w.heap.size, 0, none⟩, 56)] []) (fun _ _ h => h.tail) (fun W hW => ?_) (fun p27 K hK => ?_)
    · have hW2 : KS w [([100, 111, 103], p17.a, p17.c), ([99, 97, 116], p15.a, p15.c), ([128], p10.a, p10.c), ([15], p7.a, p7.c), ([], p4.a, p4.c), ([100, 111, 103], p1.a, p1.c), (longB, some ⟨w.heap.size, 0, none⟩, 56)] [] W := by first | exact hW | exact hW.1
      unfold effAt
      go_simp
      change Calls _ _ _ _ _
      refine (number_C 0 [] (by kernel_rfl) W (show (_ : Nat) < _ by decide) 0 rfl _ (by decide)).mono ?_
      rintro e w' ⟨p, he, ht, hb⟩
      have hk := (hW2.below hb).text ht
      first | exact ⟨_, he, p, rfl, hk⟩ | exact ⟨_, he, p, rfl, hk, hk⟩
    go_simp
    refine hK _ ?_
    clear hK K
    refine relR_pure 28 _ (by intro _ h; first | exact h | exact h.2) (by kernel_rfl) rfl (by kernel_rfl) (by kernel_rfl) (by go_simp) ?_
    apply Exists.intro
    refine ⟨fun W hW => ?_, fun K hK => ?_⟩
    · unfold effAt
      go_simp
      exact ⟨rfl, rfl⟩
    go_simp
    refine hK _ ?_
    clear hK K
    refine relR_pair 18 29 (by kernel_rfl) ?_ ?_
    · skip
      refine relOp_call 18 _ rfl (by go_simp) Nat (fun g => .slice (some ⟨g, 0, none⟩) 2 2) (fun g6 => KS w [([], p27.a, p27.c), ([100, 111, 103], p17.a, p17.c), ([99, 97, 116], p15.a, p15.c), ([128], p10.a, p10.c), ([15], p7.a, p7.c), ([], p4.a, p4.c), ([100, 111, 103], p1.a, p1.c), (longB, some ⟨w.heap.size, 0, none⟩, 56)] [(g6, [.bool false, .slice p15.a 3 p15.c, .slice none 0 0, .bool false, .slice p17.a 3 p17.c, .slice none 0 0])]) (fun g6 => KS w [([], p27.a, p27.c), ([100, 111, 103], p17.a, p17.c), ([99, 97, 116], p15.a, p15.c), ([128], p10.a, p10.c), ([15], p7.a, p7.c), ([], p4.a, p4.c), ([100, 111, 103], p1.a, p1.c), (longB, some ⟨w.heap.size, 0, none⟩, 56)] [(g6, [.bool false, .slice p15.a 3 p15.c, .slice none 0 0, .bool false, .slice p17.a 3 p17.c, .slice none 0 0])]) (fun _ _ h => h.tailr) (fun W hW => ?_) (fun g6 K hK => ?_)
      · have hW2 : KS w [([], p27.a, p27.c), ([100, 111, 103], p17.a, p17.c), ([99, 97, 116], p15.a, p15.c), ([128], p10.a, p10.c), ([15], p7.a, p7.c), ([], p4.a, p4.c), ([100, 111, 103], p1.a, p1.c), (longB, some ⟨w.heap.size, 0, none⟩, 56)] [] W := by first | exact hW | exact hW.1
        have hk := (hW2.below ((Below.refl _ _).alloc (Nat.le_refl _) (.cells ([.bool false, .slice p15.a 3 p15.c, .slice none 0 0, .bool false, .slice p17.a 3 p17.c, .slice none 0 0] : List Value).toArray TI))).row (RowAt.new W [.bool false, .slice p15.a 3 p15.c, .slice none 0 0, .bool false, .slice p17.a 3 p17.c, .slice none 0 0] TI)
        unfold effAt
        go_simp
        first | exact ⟨W.heap.size, rfl, hk⟩ | exact ⟨W.heap.size, rfl, hk, hk⟩
      go_simp
      refine hK _ ?_
      clear hK K
      refine relR_pure 19 _ (by intro _ h; first | exact h | exact h.2) (by kernel_rfl) rfl (by kernel_rfl) (by kernel_rfl) (by go_simp) ?_
      apply Exists.intro
      refine ⟨fun W hW => ?_, fun K hK => ?_⟩
      · unfold effAt
        go_simp
        exact ⟨rfl, rfl⟩
      go_simp
      refine hK _ ?_
      clear hK K
      refine relR_pure 20 _ (by intro _ h; first | exact h | exact h.2) (by kernel_rfl) rfl (by kernel_rfl) (by kernel_rfl) (by go_simp) ?_
      apply Exists.intro
      refine ⟨fun W hW => ?_, fun K hK => ?_⟩
      · unfold effAt
        go_simp
        exact ⟨rfl, rfl⟩
      go_simp
      refine hK _ ?_
      clear hK K
      refine relR_call 29 _ rfl (by kernel_rfl) (by go_simp) AC (fun p => .agg #[.bool false, .slice p.a 2 p.c, .slice none 0 0]) (fun p29 => KS w [([4, 0], p29.a, p29.c), ([], p27.a, p27.c), ([100, 111, 103], p17.a, p17.c), ([99, 97, 116], p15.a, p15.c), ([128], p10.a, p10.c), ([15], p7.a, p7.c), ([], p4.a, p4.c), ([100, 111, 103], p1.a, p1.c), (longB, some ⟨w.heap.size, 0, none⟩, 56)] [(g6, [.bool false, .slice p15.a 3 p15.c, .slice none 0 0, .bool false, .slice p17.a 3 p17.c, .slice none 0 0])]) (fun p29 => KS w [([4, 0], p29.a, p29.c), ([], p27.a, p27.c), ([100, 111, 103], p17.a, p17.c), ([99, 97, 116], p15.a, p15.c), ([128], p10.a, p10.c), ([15], p7.a, p7.c), ([], p4.a, p4.c), ([100, 111, 103], p1.a, p1.c), (longB, some ⟨w.heap.size, 0, none⟩, 56)] [(g6, [.bool false, .slice p15.a 3 p15.c, .slice none 0 0, .bool false, .slice p17.a 3 p17.c, .slice none 0 0])]) (fun _ _ h => h.tail) (fun W hW => ?_) (fun p29 K hK => ?_)
      · have hW2 : KS w [([], p27.a, p27.c), ([100, 111, 103], p17.a, p17.c), ([99, 97, 116], p15.a, p15.c), ([128], p10.a, p10.c), ([15], p7.a, p7.c), ([], p4.a, p4.c), ([100, 111, 103], p1.a, p1.c), (longB, some ⟨w.heap.size, 0, none⟩, 56)] [(g6, [.bool false, .slice p15.a 3 p15.c, .slice none 0 0, .bool false, .slice p17.a 3 p17.c, .slice none 0 0])] W := by first | exact hW | exact hW.1
        unfold effAt
        go_simp
        change Calls _ _ _ _ _
        refine (number_C 1024 [4, 0] (by kernel_rfl) W (show (_ : Nat) < _ by decide) 2 rfl _ (by decide)).mono ?_
        rintro e w' ⟨p, he, ht, hb⟩
        have hk := (hW2.below hb).text ht
        first | exact ⟨_, he, p, rfl, hk⟩ | exact ⟨_, he, p, rfl, hk, hk⟩
      go_simp
      refine hK _ ?_
      clear hK K
      refine relR_pure 30 _ (by intro _ h; first | exact h | exact h.2) (by kernel_rfl) rfl (by kernel_rfl) (by kernel_rfl) (by go_simp) ?_
      apply Exists.intro
      refine ⟨fun W hW => ?_, fun K hK => ?_⟩
      · unfold effAt
        go_simp
        exact ⟨rfl, rfl⟩
      go_simp
      refine hK _ ?_
      clear hK K
      refine relR_call 31 _ rfl (by kernel_rfl) (by go_simp) Nat (fun g => .slice (some ⟨g, 0, none⟩) 9 9) (fun G => KS w [([4, 0], p29.a, p29.c), ([], p27.a, p27.c), ([100, 111, 103], p17.a, p17.c), ([99, 97, 116], p15.a, p15.c), ([128], p10.a, p10.c), ([15], p7.a, p7.c), ([], p4.a, p4.c), ([100, 111, 103], p1.a, p1.c), (longB, some ⟨w.heap.size, 0, none⟩, 56)] [(G, [.bool false, .slice p1.a 3 p1.c, .slice none 0 0, .string { data := #[131, 100, 111, 103] }, .bool false, .slice p4.a 0 p4.c, .slice none 0 0, .string { data := #[128] }, .bool false, .slice p7.a 1 p7.c, .slice none 0 0, .string { data := #[15] }, .bool false, .slice p10.a 1 p10.c, .slice none 0 0, .string { data := #[129, 128] }, .bool true, .slice none 0 0, .slice none 0 0, .string { data := #[192] }, .bool true, .slice none 0 0, .slice (some ⟨g6, 0, none⟩) 2 2, .string { data := #[200, 131, 99, 97, 116, 131, 100, 111, 103] }, .bool false, .slice (some ⟨w.heap.size, 0, none⟩) 56 56, .slice none 0 0, .string LB, .bool false, .slice p27.a 0 p27.c, .slice none 0 0, .string { data := #[128] }, .bool false, .slice p29.a 2 p29.c, .slice none 0 0, .string { data := #[130, 4, 0] }]), (g6, [.bool false, .slice p15.a 3 p15.c, .slice none 0 0, .bool false, .slice p17.a 3 p17.c, .slice none 0 0])]) (fun G => KS w [([4, 0], p29.a, p29.c), ([], p27.a, p27.c), ([100, 111, 103], p17.a, p17.c), ([99, 97, 116], p15.a, p15.c), ([128], p10.a, p10.c), ([15], p7.a, p7.c), ([], p4.a, p4.c), ([100, 111, 103], p1.a, p1.c), (longB, some ⟨w.heap.size, 0, none⟩, 56)] [(G, [.bool false, .slice p1.a 3 p1.c, .slice none 0 0, .string { data := #[131, 100, 111, 103] }, .bool false, .slice p4.a 0 p4.c, .slice none 0 0, .string { data := #[128] }, .bool false, .slice p7.a 1 p7.c, .slice none 0 0, .string { data := #[15] }, .bool false, .slice p10.a 1 p10.c, .slice none 0 0, .string { data := #[129, 128] }, .bool true, .slice none 0 0, .slice none 0 0, .string { data := #[192] }, .bool true, .slice none 0 0, .slice (some ⟨g6, 0, none⟩) 2 2, .string { data := #[200, 131, 99, 97, 116, 131, 100, 111, 103] }, .bool false, .slice (some ⟨w.heap.size, 0, none⟩) 56 56, .slice none 0 0, .string LB, .bool false, .slice p27.a 0 p27.c, .slice none 0 0, .string { data := #[128] }, .bool false, .slice p29.a 2 p29.c, .slice none 0 0, .string { data := #[130, 4, 0] }]), (g6, [.bool false, .slice p15.a 3 p15.c, .slice none 0 0, .bool false, .slice p17.a 3 p17.c, .slice none 0 0])]) (fun _ _ h => h.tailr) (fun W hW => ?_) (fun G K hK => ?_)
      · have hW2 : KS w [([4, 0], p29.a, p29.c), ([], p27.a, p27.c), ([100, 111, 103], p17.a, p17.c), ([99, 97, 116], p15.a, p15.c), ([128], p10.a, p10.c), ([15], p7.a, p7.c), ([], p4.a, p4.c), ([100, 111, 103], p1.a, p1.c), (longB, some ⟨w.heap.size, 0, none⟩, 56)] [(g6, [.bool false, .slice p15.a 3 p15.c, .slice none 0 0, .bool false, .slice p17.a 3 p17.c, .slice none 0 0])] W := by first | exact hW | exact hW.1
        have hk := (hW2.below ((Below.refl _ _).alloc (Nat.le_refl _) (.cells ([.bool false, .slice p1.a 3 p1.c, .slice none 0 0, .string { data := #[131, 100, 111, 103] }, .bool false, .slice p4.a 0 p4.c, .slice none 0 0, .string { data := #[128] }, .bool false, .slice p7.a 1 p7.c, .slice none 0 0, .string { data := #[15] }, .bool false, .slice p10.a 1 p10.c, .slice none 0 0, .string { data := #[129, 128] }, .bool true, .slice none 0 0, .slice none 0 0, .string { data := #[192] }, .bool true, .slice none 0 0, .slice (some ⟨g6, 0, none⟩) 2 2, .string { data := #[200, 131, 99, 97, 116, 131, 100, 111, 103] }, .bool false, .slice (some ⟨w.heap.size, 0, none⟩) 56 56, .slice none 0 0, .string LB, .bool false, .slice p27.a 0 p27.c, .slice none 0 0, .string { data := #[128] }, .bool false, .slice p29.a 2 p29.c, .slice none 0 0, .string { data := #[130, 4, 0] }] : List Value).toArray TCS))).row (RowAt.new W [.bool false, .slice p1.a 3 p1.c, .slice none 0 0, .string { data := #[131, 100, 111, 103] }, .bool false, .slice p4.a 0 p4.c, .slice none 0 0, .string { data := #[128] }, .bool false, .slice p7.a 1 p7.c, .slice none 0 0, .string { data := #[15] }, .bool false, .slice p10.a 1 p10.c, .slice none 0 0, .string { data := #[129, 128] }, .bool true, .slice none 0 0, .slice none 0 0, .string { data := #[192] }, .bool true, .slice none 0 0, .slice (some ⟨g6, 0, none⟩) 2 2, .string { data := #[200, 131, 99, 97, 116, 131, 100, 111, 103] }, .bool false, .slice (some ⟨w.heap.size, 0, none⟩) 56 56, .slice none 0 0, .string LB, .bool false, .slice p27.a 0 p27.c, .slice none 0 0, .string { data := #[128] }, .bool false, .slice p29.a 2 p29.c, .slice none 0 0, .string { data := #[130, 4, 0] }] TCS)
        unfold effAt
        go_simp
        first | exact ⟨W.heap.size, rfl, hk⟩ | exact ⟨W.heap.size, rfl, hk, hk⟩
      go_simp
      refine hK _ ?_
      clear hK K
      refine relR_pure 32 _ (by intro _ h; first | exact h | exact h.2) (by kernel_rfl) rfl (by kernel_rfl) (by kernel_rfl) (by go_simp) ?_
      apply Exists.intro
      refine ⟨fun W hW => ?_, fun K hK => ?_⟩
      · unfold effAt
        go_simp
        exact ⟨rfl, rfl⟩
      go_simp
      refine hK _ ?_
      clear hK K
      refine relR_end (by kernel_rfl) (fun W hW => ?_)
      have hk := hW.1
      have HK : Hid (KR w G W) := known_rows (g6 := g6) (gl := w.heap.size) HLB.out hk.b (hk.t ([100, 111, 103], p1.a, p1.c) (by simp)) (hk.t ([], p4.a, p4.c) (by simp)) (hk.t ([15], p7.a, p7.c) (by simp)) (hk.t ([128], p10.a, p10.c) (by simp)) (hk.t ([99, 97, 116], p15.a, p15.c) (by simp)) (hk.t ([100, 111, 103], p17.a, p17.c) (by simp)) (hk.t ([], p27.a, p27.c) (by simp)) (hk.t ([4, 0], p29.a, p29.c) (by simp)) (hk.r (g6, [.bool false, .slice p15.a 3 p15.c, .slice none 0 0, .bool false, .slice p17.a 3 p17.c, .slice none 0 0]) (by simp)) (hk.t (longB, some ⟨w.heap.size, 0, none⟩, 56) (by simp)) (hk.r (G, [.bool false, .slice p1.a 3 p1.c, .slice none 0 0, .string { data := #[131, 100, 111, 103] }, .bool false, .slice p4.a 0 p4.c, .slice none 0 0, .string { data := #[128] }, .bool false, .slice p7.a 1 p7.c, .slice none 0 0, .string { data := #[15] }, .bool false, .slice p10.a 1 p10.c, .slice none 0 0, .string { data := #[129, 128] }, .bool true, .slice none 0 0, .slice none 0 0, .string { data := #[192] }, .bool true, .slice none 0 0, .slice (some ⟨g6, 0, none⟩) 2 2, .string { data := #[200, 131, 99, 97, 116, 131, 100, 111, 103] }, .bool false, .slice (some ⟨w.heap.size, 0, none⟩) 56 56, .slice none 0 0, .string LB, .bool false, .slice p27.a 0 p27.c, .slice none 0 0, .string { data := #[128] }, .bool false, .slice p29.a 2 p29.c, .slice none 0 0, .string { data := #[130, 4, 0] }]) (by simp))
      clear hk hW
      have hGl := HK.out.lt
      go_wp2_with fail
      go_loopw [4, 5, 6, 45] (fun cc bb ee idx wr => ∃ j : Nat, j ≤ 9 ∧ idx = .int .i64 j ∧ Hid (KR w G wr)) (fun _ _ _ idx _ => 9 - (intOf idx).toNat)
      case atStart => exact ⟨0, by omega, rfl, HK.out.below (by (repeat' (first | (with_reducible exact Below.refl _ _) | (with_reducible refine Below.alloc ?_ ?_ _) | (with_reducible refine Below.drew ?_) | (with_reducible refine Below.setCell ?_ ?_ _) | (with_reducible refine Below.thn (by assumption) ?_ ?_) | (with_reducible refine below_drewN ?_ _) | go_size)))⟩
      case round =>
        obtain ⟨j, hj, rfl, HR⟩ := hrel
        have hwr := HR.out.lt
        by_cases hlt : j < 9
        · obtain ⟨x, want, u, v, z, c0, c1, c2, c3, hx, he, ha⟩ := HR.out.e j hlt
          obtain ⟨yl, ya, yn, yc, ya', yn', yc', rfl, rfl, rfl⟩ := hx.shape
          have HX := Lib.hid hx
          have HEn := Lib.hid he
          have HA := Lib.hid ha
          have nn := run_guardn_str want want
          have ne := run_neq_str want want
          have nd : decide (want ≠ want) = false := by simp
          clear hx he ha
          obtain ⟨WS, hWS⟩ : ∃ WS : ByteArray, WS = ⟨want.toArray⟩ := ⟨_, rfl⟩
          have hst : strB want = .string WS := by rw [hWS]; rfl
          rw [hst] at c3 nn ne
          have HST := Lib.hid hst
          clear hst hWS
          go_wp2_with (first
            | (go_at_call 11; (with_reducible refine (enc_known x want HEn.out HA.out _ _ _ _ (HX.out.below (by (repeat' (first | (with_reducible exact Below.refl _ _) | (with_reducible refine Below.alloc ?_ ?_ _) | (with_reducible refine Below.drew ?_) | (with_reducible refine Below.setCell ?_ ?_ _) | (with_reducible refine Below.thn (by assumption) ?_ ?_) | (with_reducible refine below_drewN ?_ _) | go_size))))).mono ?_); rintro e w2 ⟨ao, n, c, rfl, ho, hb2⟩; have cv := ho.str; rw [HST.out] at cv; have t3 : w2.cell? ⟨wr.heap.size, 3, none⟩ = some (.string WS) := (by rw [hb2.cell (p := ⟨wr.heap.size, 3, none⟩) (by simp)]; go_cell); have HR2 : Hid (KR w G w2) := (HR.out.below ((Below.refl _ _).alloc (Nat.le_refl _) _)).below hb2; clear ho hb2))
          go_roundw
          case rel => exact ⟨j + 1, by omega, by go_num, HR2⟩
          case measure => simp [intOf]; omega
        · have hj9 : 9 ≤ j := by omega
          have HW := Lib.hid HR.out.b
          obtain ⟨G2, hG2⟩ : ∃ G2, G2 = wr.heap.size := ⟨_, rfl⟩
          have HG2 := Lib.hid hG2
          clear hG2
          go_wp2_with fail
          rw [← HG2.out]
          go_loopw [8, 9, 10, 67] (fun ss pp ee idx wr => ∃ j : Nat, j ≤ 7 ∧ idx = .int .i64 j ∧ Hid (BR w G2 wr)) (fun _ _ _ idx _ => 7 - (intOf idx).toNat)
          case atStart =>
            rw [HG2.out]
            refine ⟨0, by omega, rfl, HW.out.alloc HW.out.size _, by simp, fun j hj => ?_⟩
            rcases (by omega : j = 0 ∨ j = 1 ∨ j = 2 ∨ j = 3 ∨ j = 4 ∨ j = 5 ∨ j = 6) with rfl | rfl | rfl | rfl | rfl | rfl | rfl
            all_goals exact (World.cell?_alloc_at _ _ _ _ rfl).trans rfl
          case round =>
            obtain ⟨j, hj, rfl, HZ⟩ := hrel
            have hwz := HZ.out.lt
            by_cases hlt : j < 7
            · have c0 := HZ.out.e j hlt
              obtain ⟨p, cc, hd⟩ := bad7_err j hlt
              have hl3 := bad7_len j
              obtain ⟨l, hl⟩ : ∃ l, l = bad7 j := ⟨_, rfl⟩
              rw [← hl] at c0 hd hl3
              have HDc := Lib.hid hd
              have hcv := cvt_run l wr
              have HBy := Lib.hid (cvt_bytes l wr)
              have HCp := Lib.hid (cvt_cap l wr (by omega))
              have HBl := Lib.hid (HZ.out.below (cvt_below l wr))
              clear hl hd hl3
              generalize grownCap wr l.length 0 TU = cp at hcv HCp
              generalize cvtW l wr = W2 at hcv HBy HBl
              go_wp2_with (first
                | (go_at_call 6; (with_reducible refine (dec_V _ _ l.length cp l rfl HCp.out.1 HCp.out.2 HBy.out).mono ?_); rintro e w3 he; rw [HDc.out] at he; obtain ⟨hb3, q, rfl, hfa, hq⟩ := he; have HZ3 := Lib.hid (HBl.out.below hb3); clear hfa hb3))
              go_roundw
              case rel => exact ⟨j + 1, by omega, by go_num, HZ3.out.below (by (repeat' (first | (with_reducible exact Below.refl _ _) | (with_reducible refine Below.alloc ?_ ?_ _) | (with_reducible refine Below.drew ?_) | (with_reducible refine Below.setCell ?_ ?_ _) | (with_reducible refine Below.thn (by assumption) ?_ ?_) | (with_reducible refine below_drewN ?_ _) | go_size)))⟩
              case measure => simp [intOf]; omega
            · go_wp2_with (first
                | (go_at_call 9; (with_reducible refine (fixed3_V _ (Lib.hid (HE.out.below HZ.out.b))).mono ?_); rintro e w3 ⟨rfl, hb3⟩; have HB3 := Lib.hid (HZ.out.b.trans (hb3.mono HZ.out.b.size)); clear hb3))
              go_returns
              exact ⟨rfl, HB3.out⟩
    · skip
      refine relOp_call 29 _ rfl (by go_simp) AC (fun p => .agg #[.bool false, .slice p.a 2 p.c, .slice none 0 0]) (fun p29 => KS w [([4, 0], p29.a, p29.c), ([], p27.a, p27.c), ([100, 111, 103], p17.a, p17.c), ([99, 97, 116], p15.a, p15.c), ([128], p10.a, p10.c), ([15], p7.a, p7.c), ([], p4.a, p4.c), ([100, 111, 103], p1.a, p1.c), (longB, some ⟨w.heap.size, 0, none⟩, 56)] []) (fun p29 => KS w [([4, 0], p29.a, p29.c), ([], p27.a, p27.c), ([100, 111, 103], p17.a, p17.c), ([99, 97, 116], p15.a, p15.c), ([128], p10.a, p10.c), ([15], p7.a, p7.c), ([], p4.a, p4.c), ([100, 111, 103], p1.a, p1.c), (longB, some ⟨w.heap.size, 0, none⟩, 56)] []) (fun _ _ h => h.tail) (fun W hW => ?_) (fun p29 K hK => ?_)
      · have hW2 : KS w [([], p27.a, p27.c), ([100, 111, 103], p17.a, p17.c), ([99, 97, 116], p15.a, p15.c), ([128], p10.a, p10.c), ([15], p7.a, p7.c), ([], p4.a, p4.c), ([100, 111, 103], p1.a, p1.c), (longB, some ⟨w.heap.size, 0, none⟩, 56)] [] W := by first | exact hW | exact hW.1
        unfold effAt
        go_simp
        change Calls _ _ _ _ _
        refine (number_C 1024 [4, 0] (by kernel_rfl) W (show (_ : Nat) < _ by decide) 2 rfl _ (by decide)).mono ?_
        rintro e w' ⟨p, he, ht, hb⟩
        have hk := (hW2.below hb).text ht
        first | exact ⟨_, he, p, rfl, hk⟩ | exact ⟨_, he, p, rfl, hk, hk⟩
      go_simp
      refine hK _ ?_
      clear hK K
      refine relR_pure 30 _ (by intro _ h; first | exact h | exact h.2) (by kernel_rfl) rfl (by kernel_rfl) (by kernel_rfl) (by go_simp) ?_
      apply Exists.intro
      refine ⟨fun W hW => ?_, fun K hK => ?_⟩
      · unfold effAt
        go_simp
        exact ⟨rfl, rfl⟩
      go_simp
      refine hK _ ?_
      clear hK K
      refine relR_call 18 _ rfl (by kernel_rfl) (by go_simp) Nat (fun g => .slice (some ⟨g, 0, none⟩) 2 2) (fun g6 => KS w [([4, 0], p29.a, p29.c), ([], p27.a, p27.c), ([100, 111, 103], p17.a, p17.c), ([99, 97, 116], p15.a, p15.c), ([128], p10.a, p10.c), ([15], p7.a, p7.c), ([], p4.a, p4.c), ([100, 111, 103], p1.a, p1.c), (longB, some ⟨w.heap.size, 0, none⟩, 56)] [(g6, [.bool false, .slice p15.a 3 p15.c, .slice none 0 0, .bool false, .slice p17.a 3 p17.c, .slice none 0 0])]) (fun g6 => KS w [([4, 0], p29.a, p29.c), ([], p27.a, p27.c), ([100, 111, 103], p17.a, p17.c), ([99, 97, 116], p15.a, p15.c), ([128], p10.a, p10.c), ([15], p7.a, p7.c), ([], p4.a, p4.c), ([100, 111, 103], p1.a, p1.c), (longB, some ⟨w.heap.size, 0, none⟩, 56)] [(g6, [.bool false, .slice p15.a 3 p15.c, .slice none 0 0, .bool false, .slice p17.a 3 p17.c, .slice none 0 0])]) (fun _ _ h => h.tailr) (fun W hW => ?_) (fun g6 K hK => ?_)
      · have hW2 : KS w [([4, 0], p29.a, p29.c), ([], p27.a, p27.c), ([100, 111, 103], p17.a, p17.c), ([99, 97, 116], p15.a, p15.c), ([128], p10.a, p10.c), ([15], p7.a, p7.c), ([], p4.a, p4.c), ([100, 111, 103], p1.a, p1.c), (longB, some ⟨w.heap.size, 0, none⟩, 56)] [] W := by first | exact hW | exact hW.1
        have hk := (hW2.below ((Below.refl _ _).alloc (Nat.le_refl _) (.cells ([.bool false, .slice p15.a 3 p15.c, .slice none 0 0, .bool false, .slice p17.a 3 p17.c, .slice none 0 0] : List Value).toArray TI))).row (RowAt.new W [.bool false, .slice p15.a 3 p15.c, .slice none 0 0, .bool false, .slice p17.a 3 p17.c, .slice none 0 0] TI)
        unfold effAt
        go_simp
        first | exact ⟨W.heap.size, rfl, hk⟩ | exact ⟨W.heap.size, rfl, hk, hk⟩
      go_simp
      refine hK _ ?_
      clear hK K
      refine relR_pure 19 _ (by intro _ h; first | exact h | exact h.2) (by kernel_rfl) rfl (by kernel_rfl) (by kernel_rfl) (by go_simp) ?_
      apply Exists.intro
      refine ⟨fun W hW => ?_, fun K hK => ?_⟩
      · unfold effAt
        go_simp
        exact ⟨rfl, rfl⟩
      go_simp
      refine hK _ ?_
      clear hK K
      refine relR_pure 20 _ (by intro _ h; first | exact h | exact h.2) (by kernel_rfl) rfl (by kernel_rfl) (by kernel_rfl) (by go_simp) ?_
      apply Exists.intro
      refine ⟨fun W hW => ?_, fun K hK => ?_⟩
      · unfold effAt
        go_simp
        exact ⟨rfl, rfl⟩
      go_simp
      refine hK _ ?_
      clear hK K
      refine relR_call 31 _ rfl (by kernel_rfl) (by go_simp) Nat (fun g => .slice (some ⟨g, 0, none⟩) 9 9) (fun G => KS w [([4, 0], p29.a, p29.c), ([], p27.a, p27.c), ([100, 111, 103], p17.a, p17.c), ([99, 97, 116], p15.a, p15.c), ([128], p10.a, p10.c), ([15], p7.a, p7.c), ([], p4.a, p4.c), ([100, 111, 103], p1.a, p1.c), (longB, some ⟨w.heap.size, 0, none⟩, 56)] [(G, [.bool false, .slice p1.a 3 p1.c, .slice none 0 0, .string { data := #[131, 100, 111, 103] }, .bool false, .slice p4.a 0 p4.c, .slice none 0 0, .string { data := #[128] }, .bool false, .slice p7.a 1 p7.c, .slice none 0 0, .string { data := #[15] }, .bool false, .slice p10.a 1 p10.c, .slice none 0 0, .string { data := #[129, 128] }, .bool true, .slice none 0 0, .slice none 0 0, .string { data := #[192] }, .bool true, .slice none 0 0, .slice (some ⟨g6, 0, none⟩) 2 2, .string { data := #[200, 131, 99, 97, 116, 131, 100, 111, 103] }, .bool false, .slice (some ⟨w.heap.size, 0, none⟩) 56 56, .slice none 0 0, .string LB, .bool false, .slice p27.a 0 p27.c, .slice none 0 0, .string { data := #[128] }, .bool false, .slice p29.a 2 p29.c, .slice none 0 0, .string { data := #[130, 4, 0] }]), (g6, [.bool false, .slice p15.a 3 p15.c, .slice none 0 0, .bool false, .slice p17.a 3 p17.c, .slice none 0 0])]) (fun G => KS w [([4, 0], p29.a, p29.c), ([], p27.a, p27.c), ([100, 111, 103], p17.a, p17.c), ([99, 97, 116], p15.a, p15.c), ([128], p10.a, p10.c), ([15], p7.a, p7.c), ([], p4.a, p4.c), ([100, 111, 103], p1.a, p1.c), (longB, some ⟨w.heap.size, 0, none⟩, 56)] [(G, [.bool false, .slice p1.a 3 p1.c, .slice none 0 0, .string { data := #[131, 100, 111, 103] }, .bool false, .slice p4.a 0 p4.c, .slice none 0 0, .string { data := #[128] }, .bool false, .slice p7.a 1 p7.c, .slice none 0 0, .string { data := #[15] }, .bool false, .slice p10.a 1 p10.c, .slice none 0 0, .string { data := #[129, 128] }, .bool true, .slice none 0 0, .slice none 0 0, .string { data := #[192] }, .bool true, .slice none 0 0, .slice (some ⟨g6, 0, none⟩) 2 2, .string { data := #[200, 131, 99, 97, 116, 131, 100, 111, 103] }, .bool false, .slice (some ⟨w.heap.size, 0, none⟩) 56 56, .slice none 0 0, .string LB, .bool false, .slice p27.a 0 p27.c, .slice none 0 0, .string { data := #[128] }, .bool false, .slice p29.a 2 p29.c, .slice none 0 0, .string { data := #[130, 4, 0] }]), (g6, [.bool false, .slice p15.a 3 p15.c, .slice none 0 0, .bool false, .slice p17.a 3 p17.c, .slice none 0 0])]) (fun _ _ h => h.tailr) (fun W hW => ?_) (fun G K hK => ?_)
      · have hW2 : KS w [([4, 0], p29.a, p29.c), ([], p27.a, p27.c), ([100, 111, 103], p17.a, p17.c), ([99, 97, 116], p15.a, p15.c), ([128], p10.a, p10.c), ([15], p7.a, p7.c), ([], p4.a, p4.c), ([100, 111, 103], p1.a, p1.c), (longB, some ⟨w.heap.size, 0, none⟩, 56)] [(g6, [.bool false, .slice p15.a 3 p15.c, .slice none 0 0, .bool false, .slice p17.a 3 p17.c, .slice none 0 0])] W := by first | exact hW | exact hW.1
        have hk := (hW2.below ((Below.refl _ _).alloc (Nat.le_refl _) (.cells ([.bool false, .slice p1.a 3 p1.c, .slice none 0 0, .string { data := #[131, 100, 111, 103] }, .bool false, .slice p4.a 0 p4.c, .slice none 0 0, .string { data := #[128] }, .bool false, .slice p7.a 1 p7.c, .slice none 0 0, .string { data := #[15] }, .bool false, .slice p10.a 1 p10.c, .slice none 0 0, .string { data := #[129, 128] }, .bool true, .slice none 0 0, .slice none 0 0, .string { data := #[192] }, .bool true, .slice none 0 0, .slice (some ⟨g6, 0, none⟩) 2 2, .string { data := #[200, 131, 99, 97, 116, 131, 100, 111, 103] }, .bool false, .slice (some ⟨w.heap.size, 0, none⟩) 56 56, .slice none 0 0, .string LB, .bool false, .slice p27.a 0 p27.c, .slice none 0 0, .string { data := #[128] }, .bool false, .slice p29.a 2 p29.c, .slice none 0 0, .string { data := #[130, 4, 0] }] : List Value).toArray TCS))).row (RowAt.new W [.bool false, .slice p1.a 3 p1.c, .slice none 0 0, .string { data := #[131, 100, 111, 103] }, .bool false, .slice p4.a 0 p4.c, .slice none 0 0, .string { data := #[128] }, .bool false, .slice p7.a 1 p7.c, .slice none 0 0, .string { data := #[15] }, .bool false, .slice p10.a 1 p10.c, .slice none 0 0, .string { data := #[129, 128] }, .bool true, .slice none 0 0, .slice none 0 0, .string { data := #[192] }, .bool true, .slice none 0 0, .slice (some ⟨g6, 0, none⟩) 2 2, .string { data := #[200, 131, 99, 97, 116, 131, 100, 111, 103] }, .bool false, .slice (some ⟨w.heap.size, 0, none⟩) 56 56, .slice none 0 0, .string LB, .bool false, .slice p27.a 0 p27.c, .slice none 0 0, .string { data := #[128] }, .bool false, .slice p29.a 2 p29.c, .slice none 0 0, .string { data := #[130, 4, 0] }] TCS)
        unfold effAt
        go_simp
        first | exact ⟨W.heap.size, rfl, hk⟩ | exact ⟨W.heap.size, rfl, hk, hk⟩
      go_simp
      refine hK _ ?_
      clear hK K
      refine relR_pure 32 _ (by intro _ h; first | exact h | exact h.2) (by kernel_rfl) rfl (by kernel_rfl) (by kernel_rfl) (by go_simp) ?_
      apply Exists.intro
      refine ⟨fun W hW => ?_, fun K hK => ?_⟩
      · unfold effAt
        go_simp
        exact ⟨rfl, rfl⟩
      go_simp
      refine hK _ ?_
      clear hK K
      refine relR_end (by kernel_rfl) (fun W hW => ?_)
      have hk := hW.1
      have HK : Hid (KR w G W) := known_rows (g6 := g6) (gl := w.heap.size) HLB.out hk.b (hk.t ([100, 111, 103], p1.a, p1.c) (by simp)) (hk.t ([], p4.a, p4.c) (by simp)) (hk.t ([15], p7.a, p7.c) (by simp)) (hk.t ([128], p10.a, p10.c) (by simp)) (hk.t ([99, 97, 116], p15.a, p15.c) (by simp)) (hk.t ([100, 111, 103], p17.a, p17.c) (by simp)) (hk.t ([], p27.a, p27.c) (by simp)) (hk.t ([4, 0], p29.a, p29.c) (by simp)) (hk.r (g6, [.bool false, .slice p15.a 3 p15.c, .slice none 0 0, .bool false, .slice p17.a 3 p17.c, .slice none 0 0]) (by simp)) (hk.t (longB, some ⟨w.heap.size, 0, none⟩, 56) (by simp)) (hk.r (G, [.bool false, .slice p1.a 3 p1.c, .slice none 0 0, .string { data := #[131, 100, 111, 103] }, .bool false, .slice p4.a 0 p4.c, .slice none 0 0, .string { data := #[128] }, .bool false, .slice p7.a 1 p7.c, .slice none 0 0, .string { data := #[15] }, .bool false, .slice p10.a 1 p10.c, .slice none 0 0, .string { data := #[129, 128] }, .bool true, .slice none 0 0, .slice none 0 0, .string { data := #[192] }, .bool true, .slice none 0 0, .slice (some ⟨g6, 0, none⟩) 2 2, .string { data := #[200, 131, 99, 97, 116, 131, 100, 111, 103] }, .bool false, .slice (some ⟨w.heap.size, 0, none⟩) 56 56, .slice none 0 0, .string LB, .bool false, .slice p27.a 0 p27.c, .slice none 0 0, .string { data := #[128] }, .bool false, .slice p29.a 2 p29.c, .slice none 0 0, .string { data := #[130, 4, 0] }]) (by simp))
      clear hk hW
      have hGl := HK.out.lt
      go_wp2_with fail
      go_loopw [4, 5, 6, 45] (fun cc bb ee idx wr => ∃ j : Nat, j ≤ 9 ∧ idx = .int .i64 j ∧ Hid (KR w G wr)) (fun _ _ _ idx _ => 9 - (intOf idx).toNat)
      case atStart => exact ⟨0, by omega, rfl, HK.out.below (by (repeat' (first | (with_reducible exact Below.refl _ _) | (with_reducible refine Below.alloc ?_ ?_ _) | (with_reducible refine Below.drew ?_) | (with_reducible refine Below.setCell ?_ ?_ _) | (with_reducible refine Below.thn (by assumption) ?_ ?_) | (with_reducible refine below_drewN ?_ _) | go_size)))⟩
      case round =>
        obtain ⟨j, hj, rfl, HR⟩ := hrel
        have hwr := HR.out.lt
        by_cases hlt : j < 9
        · obtain ⟨x, want, u, v, z, c0, c1, c2, c3, hx, he, ha⟩ := HR.out.e j hlt
          obtain ⟨yl, ya, yn, yc, ya', yn', yc', rfl, rfl, rfl⟩ := hx.shape
          have HX := Lib.hid hx
          have HEn := Lib.hid he
          have HA := Lib.hid ha
          have nn := run_guardn_str want want
          have ne := run_neq_str want want
          have nd : decide (want ≠ want) = false := by simp
          clear hx he ha
          obtain ⟨WS, hWS⟩ : ∃ WS : ByteArray, WS = ⟨want.toArray⟩ := ⟨_, rfl⟩
          have hst : strB want = .string WS := by rw [hWS]; rfl
          rw [hst] at c3 nn ne
          have HST := Lib.hid hst
          clear hst hWS
          go_wp2_with (first
            | (go_at_call 11; (with_reducible refine (enc_known x want HEn.out HA.out _ _ _ _ (HX.out.below (by (repeat' (first | (with_reducible exact Below.refl _ _) | (with_reducible refine Below.alloc ?_ ?_ _) | (with_reducible refine Below.drew ?_) | (with_reducible refine Below.setCell ?_ ?_ _) | (with_reducible refine Below.thn (by assumption) ?_ ?_) | (with_reducible refine below_drewN ?_ _) | go_size))))).mono ?_); rintro e w2 ⟨ao, n, c, rfl, ho, hb2⟩; have cv := ho.str; rw [HST.out] at cv; have t3 : w2.cell? ⟨wr.heap.size, 3, none⟩ = some (.string WS) := (by rw [hb2.cell (p := ⟨wr.heap.size, 3, none⟩) (by simp)]; go_cell); have HR2 : Hid (KR w G w2) := (HR.out.below ((Below.refl _ _).alloc (Nat.le_refl _) _)).below hb2; clear ho hb2))
          go_roundw
          case rel => exact ⟨j + 1, by omega, by go_num, HR2⟩
          case measure => simp [intOf]; omega
        · have hj9 : 9 ≤ j := by omega
          have HW := Lib.hid HR.out.b
          obtain ⟨G2, hG2⟩ : ∃ G2, G2 = wr.heap.size := ⟨_, rfl⟩
          have HG2 := Lib.hid hG2
          clear hG2
          go_wp2_with fail
          rw [← HG2.out]
          go_loopw [8, 9, 10, 67] (fun ss pp ee idx wr => ∃ j : Nat, j ≤ 7 ∧ idx = .int .i64 j ∧ Hid (BR w G2 wr)) (fun _ _ _ idx _ => 7 - (intOf idx).toNat)
          case atStart =>
            rw [HG2.out]
            refine ⟨0, by omega, rfl, HW.out.alloc HW.out.size _, by simp, fun j hj => ?_⟩
            rcases (by omega : j = 0 ∨ j = 1 ∨ j = 2 ∨ j = 3 ∨ j = 4 ∨ j = 5 ∨ j = 6) with rfl | rfl | rfl | rfl | rfl | rfl | rfl
            all_goals exact (World.cell?_alloc_at _ _ _ _ rfl).trans rfl
          case round =>
            obtain ⟨j, hj, rfl, HZ⟩ := hrel
            have hwz := HZ.out.lt
            by_cases hlt : j < 7
            · have c0 := HZ.out.e j hlt
              obtain ⟨p, cc, hd⟩ := bad7_err j hlt
              have hl3 := bad7_len j
              obtain ⟨l, hl⟩ : ∃ l, l = bad7 j := ⟨_, rfl⟩
              rw [← hl] at c0 hd hl3
              have HDc := Lib.hid hd
              have hcv := cvt_run l wr
              have HBy := Lib.hid (cvt_bytes l wr)
              have HCp := Lib.hid (cvt_cap l wr (by omega))
              have HBl := Lib.hid (HZ.out.below (cvt_below l wr))
              clear hl hd hl3
              generalize grownCap wr l.length 0 TU = cp at hcv HCp
              generalize cvtW l wr = W2 at hcv HBy HBl
              go_wp2_with (first
                | (go_at_call 6; (with_reducible refine (dec_V _ _ l.length cp l rfl HCp.out.1 HCp.out.2 HBy.out).mono ?_); rintro e w3 he; rw [HDc.out] at he; obtain ⟨hb3, q, rfl, hfa, hq⟩ := he; have HZ3 := Lib.hid (HBl.out.below hb3); clear hfa hb3))
              go_roundw
              case rel => exact ⟨j + 1, by omega, by go_num, HZ3.out.below (by (repeat' (first | (with_reducible exact Below.refl _ _) | (with_reducible refine Below.alloc ?_ ?_ _) | (with_reducible refine Below.drew ?_) | (with_reducible refine Below.setCell ?_ ?_ _) | (with_reducible refine Below.thn (by assumption) ?_ ?_) | (with_reducible refine below_drewN ?_ _) | go_size)))⟩
              case measure => simp [intOf]; omega
            · go_wp2_with (first
                | (go_at_call 9; (with_reducible refine (fixed3_V _ (Lib.hid (HE.out.below HZ.out.b))).mono ?_); rintro e w3 ⟨rfl, hb3⟩; have HB3 := Lib.hid (HZ.out.b.trans (hb3.mono HZ.out.b.size)); clear hb3))
              go_returns
              exact ⟨rfl, HB3.out⟩
end Go.Proofs.YtcblbmjcfckgjaaDoor
