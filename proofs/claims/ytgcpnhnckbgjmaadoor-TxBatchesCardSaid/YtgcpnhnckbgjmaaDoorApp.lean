/-
  append to a row of the call's own, up to somewhat more than 2^47 bytes.
-/
import Derived.Test.YtgcpnhnckbgjmaaDoorIt
import Derived.Maps.AppendAt
set_option linter.unusedVariables false
set_option linter.unusedSimpArgs false
namespace Go.Proofs.YtgcpnhnckbgjmaaDoor
open Go.RowKit
/-- A row grows by a quarter at most, and some. -/
theorem quarter {need old : Nat} (h : old < need) : Builtin.nextslicecap need old ≤ need + need / 4 + 256 := by
  unfold Builtin.nextslicecap
  by_cases h1 : need > 2 * old
  · rw [if_pos h1]; omega
  · rw [if_neg h1]
    by_cases h2 : old < 256
    · rw [if_pos h2]; omega
    · rw [if_neg h2, growBy_four]
      repeat' split
      all_goals omega
theorem fits_wide {need old bytes : Nat} (h : old < need) (hb : need * bytes ≤ 140737488420864) (hk : bytes ≤ 1000) : Builtin.nextslicecap need old * bytes ≤ 281474976710656 := by
  have h1 : Builtin.nextslicecap need old * bytes ≤ (need + need / 4 + 256) * bytes := Nat.mul_le_mul_right _ (quarter h)
  have h2 : 4 * (need / 4) * bytes ≤ need * bytes := Nat.mul_le_mul_right _ (by omega)
  rw [Nat.add_mul, Nat.add_mul] at h1
  rw [Nat.mul_assoc] at h2
  omega
theorem fresh_row (w : World) (base : Nat) (e : TypeId) (size need cap : Nat) (all : List Value) (zs : Array Value) (ha : all.length = need * size) (hz : zs.size = (cap - need) * size) (hc : need ≤ cap) (hm : cap ≤ maxLen) (hb : base ≤ w.heap.size) (row : Option Nat) :
    (w.drew.alloc (.cells (all.toArray ++ zs) e)).ownsRow base e size (.slice (some ⟨w.heap.size, 0, none⟩) need cap) need all ∧ w.grownBy (w.drew.alloc (.cells (all.toArray ++ zs) e)) row := by
  have hn : (w.drew.alloc (.cells (all.toArray ++ zs) e)).heap[w.heap.size]? = some (.cells (all.toArray ++ zs) e) := heap_alloc_new w.drew _
  refine ⟨⟨ha, .inr ⟨w.heap.size, cap, _, rfl, hb, hn, hc, hm, ?_, ?_⟩⟩, ⟨rfl, rfl, rfl, by simp, fun k hk _ => heap_alloc_old w.drew _ hk⟩⟩
  · rw [Array.size_append, hz, List.size_toArray, ha, ← Nat.add_mul, Nat.add_sub_cancel' hc]
  · rw [Array.toList_append, ← ha]
    exact List.take_left
/-- The law on append to a row of one's own, with a wider bound. -/
theorem run_append_wide {P : Program} (w : World) (base : Nat) (t ty e : TypeId) (i : TypeInfo) (z : Value) (size bytes : Nat) (ht : P.underlying t = some (.slice e)) (hi : P.info? e = some i) (hz : i.zero = some z)
    (hsize : i.size = size) (hby : i.bytes = bytes) (hzs : z.cells.size = size) (hsz : 0 < size) (hk : bytes ≤ 1000)
    (v : Value) (n : Nat) (xs : List Value) (hown : w.ownsRow base e size v n xs)
    (a : Addr) (m c : Nat) (news : List Value) (hl : news.length = m * size) (hnews : ∀ j u, news[j]? = some u → w.cell? (a.add j) = some u) (h1 : ∀ u ∈ news, u.oneCell' = true)
    (h63 : n + m ≤ maxLen) (hbytes : (n + m) * bytes ≤ 140737488420864) (hbase : base ≤ w.heap.size) :
    ∃ v' w', (Builtin.append_ #[t, t] ty #[v, .slice (some a) m c]).run P w = .ok v' w' ∧ w'.ownsRow base e size v' (n + m) (xs ++ news) ∧ w.grownBy w' v.ownBlock ∧
      (v'.ownBlock = v.ownBlock ∨ v'.ownBlock = some w.heap.size) := by
  by_cases hs : (n + m) * bytes ≤ 140737488355328
  · obtain ⟨v', w', g1, g2, g3, _, g5⟩ := run_append_own_at (P := P) w base t ty e i z size bytes ht hi hz hsize hby hzs hsz v n xs hown a m c news hl hnews h1 h63 hs hbase
    exact ⟨v', w', g1, g2, g3, g5⟩
  · subst hsize; subst hby
    have h64 : n + m ≤ 9223372036854775807 := by unfold maxLen at h63; omega
    have hall : (xs ++ news).length = (n + m) * i.size := by rw [List.length_append, hown.1, hl, Nat.add_mul]
    rcases hown.2 with ⟨rfl, rfl⟩ | ⟨g, cap, cur, rfl, hbg, hg, hnc, hcm, hcs, htake⟩
    · have hx : xs = [] := List.length_eq_zero_iff.1 (by rw [hown.1]; simp)
      subst hx
      have hm : 0 < m := by
        rcases Nat.eq_zero_or_pos m with rfl | h
        · simp at hs
        · exact h
      have hr := run_append_nil (P := P) w t ty e i z ht hi hz a m c news hl hnews hm (by omega) (by rw [Nat.zero_add] at hbytes; omega)
      have hf := fresh_row w base e i.size m (grownCap w m 0 e) news (Builtin.zeroCells z.cells (grownCap w m 0 e - m)) hl (by rw [size_zeroCells, hzs]) (grownCap_ge _ _ _ _) (grownCap_le_maxLen _ _ _ _ (by omega)) hbase none
      rw [List.nil_append, Nat.zero_add]
      exact ⟨_, _, hr, hf.1, hf.2, .inr rfl⟩
    · by_cases hroom : n + m ≤ cap
      · have hfit : n * i.size + news.length ≤ cur.size := by rw [hl, hcs, ← Nat.add_mul]; exact Nat.mul_le_mul_right _ hroom
        have hr := run_append_room (P := P) w t ty e i ht hi g n cap cur hg a m c news hl hnews h1 hroom hfit
        refine ⟨_, _, hr, ⟨hall, .inr ⟨g, cap, _, rfl, hbg, setRow_heap w g cur _ e _ hg, hroom, hcm, ?_, ?_⟩⟩, ⟨rfl, rfl, rfl, by simp, fun k _ hk => setRow_other w g k _ fun e => hk (by simp [Value.ownBlock, e])⟩, .inl rfl⟩
        · rw [List.size_toArray, List.length_append, List.length_append, List.length_take, List.length_drop, Array.length_toList]
          omega
        · rw [htake, ← hall]; exact List.take_left
      · have hc : ∀ j u, xs[j]? = some u → w.cell? ((⟨g, 0, none⟩ : Addr).add j) = some u := hown.cells (g := g) rfl
        have hr := run_append_grow (P := P) w t ty e i z ht hi hz ⟨g, 0, none⟩ n cap xs hown.1 hc a m c news hl hnews (by omega) (by omega) (fits_wide (by omega) hbytes hk)
        have hf := fresh_row w base e i.size (n + m) (grownCap w (n + m) cap e) (xs ++ news) (Builtin.zeroCells z.cells (grownCap w (n + m) cap e - (n + m))) hall (by rw [size_zeroCells, hzs]) (grownCap_ge _ _ _ _) (grownCap_le_maxLen _ _ _ _ h63) hbase (Value.ownBlock (.slice (some ⟨g, 0, none⟩) n cap))
        have e2 : (xs ++ news).toArray = xs.toArray ++ news.toArray := by simp
        rw [e2] at hf
        exact ⟨_, _, hr, hf.1, hf.2, .inr rfl⟩
end Go.Proofs.YtgcpnhnckbgjmaaDoor
