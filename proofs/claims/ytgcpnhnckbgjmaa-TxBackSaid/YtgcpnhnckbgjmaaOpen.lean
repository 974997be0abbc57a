/-
  Bytes and items as they come in.
-/
import Derived.Test.YtgcpnhnckbgjmaaIt
import Derived.Deep.Slices
import Derived.ChangeSame
import Derived.OpenShut
set_option linter.unusedVariables false
set_option linter.unusedSimpArgs false
namespace Go.Proofs.Ytgcpnhnckbgjmaa
open Go.RowKit Go.ChangeShapes Go.WideShapes Go.Deep

/-- The bytes of a row of numbers. -/
def rowB (zs : List Int) (len : Nat) : List UInt8 := (zs.take len).map fun z => UInt8.ofNat z.toNat
theorem row_all {w : World} {a : Option Addr} {len cap : Nat} {zs : List Int} (h : IsRow .u8 w a len cap zs) : (rowB zs len).length = len ∧ len ≤ cap ∧ cap ≤ maxLen ∧ (a = none → cap = 0) ∧ BytesF (fun _ => True) w a (rowB zs len) := by
  have hlz : len ≤ zs.length := by
    rcases h with ⟨_, rfl, _, rfl⟩ | ⟨x, _, h1, _, h3, _⟩
    · exact Nat.zero_le _
    · omega
  have hlen : (rowB zs len).length = len := by simp [rowB]; omega
  refine ⟨hlen, ?_, ?_, ?_, fun i hi => ?_⟩
  · rcases h with ⟨_, rfl, rfl, _⟩ | ⟨x, _, h1, _⟩
    · exact Nat.le_refl _
    · exact h1
  · rcases h with ⟨_, rfl, rfl, _⟩ | ⟨x, _, _, h1, _⟩
    · exact Nat.zero_le _
    · exact h1
  · intro e
    rcases h with ⟨_, _, h, _⟩ | ⟨x, h, _⟩
    · exact h
    · rw [h] at e; cases e
  · rw [hlen] at hi
    obtain ⟨b, off, e, hl, hc, hw⟩ := row_cell h i hi
    refine ⟨b, off, e, trivial, hl, ?_⟩
    rw [hc]
    have hz := u8_wf hw
    have e2 : (rowB zs len).getD i 0 = UInt8.ofNat (zs.getD i 0).toNat := by
      simp only [rowB]
      rw [List.getD_eq_getElem?_getD, List.getElem?_map, List.getElem?_take_of_lt hi, List.getD_eq_getElem?_getD, List.getElem?_eq_getElem (by omega)]; rfl
    rw [e2]
    obtain ⟨z, hzz⟩ : ∃ z, z = zs.getD i 0 := ⟨_, rfl⟩
    rw [← hzz] at hz ⊢
    have : (UInt8.ofNat z.toNat).toNat = z.toNat := by simp; omega
    rw [this]
    congr 2
    omega
theorem add_none (b off j : Nat) : (⟨b, off, none⟩ : Addr).add j = ⟨b, off + j, none⟩ := by unfold Addr.add; split <;> simp_all
set_option maxRecDepth 100000 in
theorem it_open {H : Type} {enc : TypeId × Value → H} {w : World} {held : Bool} (n : Nat) : ∀ (cs : List Value) (x : DataW H × List MemPlace), DataW.trod enc Try.prog w 0 (fun _ => true) held n TI cs = some x →
    ∃ it vl vb vi, cs = [vl, vb, vi] ∧ IsIt (fun _ => True) w n it vl vb vi := by
  induction n using Nat.strongRecOn with
  | _ n ih =>
    intro cs x h
    obtain ⟨xs, k, hk, _, hlen, hxl, hf⟩ := DataW.trod_struct Try.underlying49 h
    have hc3 : cs.length = 3 := hlen.trans (by kernel_rfl)
    have hx3 : xs.length = 3 := hxl.trans (by rfl)
    match cs, hc3, xs, hx3 with
    | [v0, v1, v2], _, [y0, y1, y2], _ =>
      have g0 := hf 0 _ rfl
      have g1 := hf 1 _ rfl
      have g2 := hf 2 _ rfl
      have cb : Try.prog.cellsOf 4 = 1 := by kernel_rfl
      have cu : Try.prog.cellsOf TI = 3 := by kernel_rfl
      have c22 : Try.prog.cellsOf 25 = 1 := by kernel_rfl
      have c23 : Try.prog.cellsOf 47 = 1 := by kernel_rfl
      simp [cb, c22, c23] at g0 g1 g2
      obtain ⟨l, e0, _⟩ := DataW.trod_bool Try.underlying4 g0
      have hb : ∃ a c bs, v1 = .slice a (List.length bs) c ∧ List.length bs ≤ c ∧ c ≤ maxLen ∧ (a = none → c = 0) ∧ BytesF (fun _ => True) w a bs := by
        rcases open_ints Try.underlying25 Try.underlying5 (by kernel_rfl) g1 with ⟨hcs, _⟩ | ⟨x, l, c, zs, hcs, _, hl, hm, hz, _, hcell, hwz⟩
        · simp at hcs
          exact ⟨none, 0, [], by rw [hcs]; rfl, Nat.le_refl _, Nat.zero_le _, fun _ => rfl, fun i hi => by simp at hi⟩
        · simp at hcs
          have hrow : IsRow .u8 w (some x) l c zs := .inr ⟨_, rfl, hl, hm, by simpa using hz, hcell, hwz⟩
          obtain ⟨r1, r2, r3, r4, r5⟩ := row_all hrow
          exact ⟨some x, c, rowB zs l, by rw [r1]; exact hcs, by rw [r1]; exact r2, r3, r4, r5⟩
      have hi : ∃ a c its, v2 = .slice a (List.length its) c ∧ List.length its ≤ c ∧ c ≤ maxLen ∧ ∀ i, i < List.length its → ∃ b off u v z, a = some ⟨b, off, none⟩ ∧ True ∧ b < w.heap.size ∧
          w.cell? ⟨b, off + i * 3, none⟩ = some u ∧ w.cell? ⟨b, off + i * 3 + 1, none⟩ = some v ∧ w.cell? ⟨b, off + i * 3 + 2, none⟩ = some z ∧ IsIt (fun _ => True) w k (its.getD i default) u v z := by
        rcases DataW.trod_slice Try.underlying47 g2 with ⟨h0, _⟩ | ⟨a, len, cap, elems, rest, m, hkm, hcs, _, hb, hl, hm, hle, hel, _⟩
        · simp at h0
          exact ⟨none, 0, [], by rw [h0]; rfl, Nat.le_refl _, Nat.zero_le _, fun i hi => by simp at hi⟩
        · simp at hcs
          obtain ⟨b, off, sp⟩ := a
          have hs : 0 < len → sp = none := by
            intro h0
            have hz := hel 0 h0
            rw [List.getElem?_eq_getElem (by omega), cu] at hz
            obtain ⟨cs', h1, h2⟩ := Option.bind_eq_some_iff.1 hz
            obtain ⟨it, u, v, z, rfl, hx⟩ := ih m (by omega) cs' _ h2
            obtain ⟨_, _, hcell⟩ := World.cells?_some h1
            have c0 := hcell 0 (by omega)
            have e0 : ∀ q : Addr, q.add 0 = q := fun q => by simp [Addr.add]
            rw [Nat.zero_mul, e0, e0] at c0
            exact World.cell?_spot c0
          have each : ∀ i, i < len → ∃ it : Rlp.It, ∃ u v z, sp = none ∧ b < w.heap.size ∧ w.cell? ⟨b, off + i * 3, none⟩ = some u ∧ w.cell? ⟨b, off + i * 3 + 1, none⟩ = some v ∧ w.cell? ⟨b, off + i * 3 + 2, none⟩ = some z ∧ IsIt (fun _ => True) w k it u v z := by
            intro i hi
            have hz := hel i hi
            rw [List.getElem?_eq_getElem (by omega), cu] at hz
            obtain ⟨cs', h1, h2⟩ := Option.bind_eq_some_iff.1 hz
            obtain ⟨it, u, v, z, rfl, hx⟩ := ih m (by omega) cs' _ h2
            obtain ⟨_, _, hcell⟩ := World.cells?_some h1
            have c0 := hcell 0 (by omega)
            have c1 := hcell 1 (by omega)
            have c2 := hcell 2 (by omega)
            have hs := hs (by omega)
            subst hs
            rw [add_none, add_none] at c0 c1 c2
            refine ⟨it, u, v, z, rfl, ?_, c0, c1, c2, hx.le (by omega)⟩
            rcases Nat.lt_or_ge b w.heap.size with h | h
            · exact h
            · simp [World.cell?, Array.getElem?_eq_none h] at c0
          obtain ⟨z, hz⟩ := choose_lt each
          refine ⟨some ⟨b, off, sp⟩, cap, (List.range len).map z, by simpa using hcs, by simpa using hl, hm, fun i hi => ?_⟩
          have hi : i < len := by simpa using hi
          obtain ⟨u, v, z', hs, hbl, c0, c1, c2, hx⟩ := hz i hi
          subst hs
          refine ⟨b, off, u, v, z', rfl, trivial, hbl, c0, c1, c2, ?_⟩
          have : ((List.range len).map z).getD i default = z i := by rw [List.getD_eq_getElem?_getD]; simp [hi]
          rw [this]; exact hx
      obtain ⟨a, c, bs, rfl, b1, b2, b3, b4⟩ := hb
      obtain ⟨a', c', its, rfl, i1, i2, i3⟩ := hi
      simp at e0
      subst e0
      subst hk
      exact ⟨.mk l bs its, _, _, _, rfl, rfl, ⟨a, c, rfl, b1, b2, b3, b4⟩, a', c', rfl, i1, i2, i3⟩
end Go.Proofs.Ytgcpnhnckbgjmaa
