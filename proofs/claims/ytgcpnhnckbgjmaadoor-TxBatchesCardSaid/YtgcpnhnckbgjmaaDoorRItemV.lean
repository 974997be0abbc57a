/-
  mootref03.Reader.item by its contract.
-/
import Derived.Test.YtgcpnhnckbgjmaaDoorRItemO
import Derived.Test.YtgcpnhnckbgjmaaDoorRItemG
set_option linter.unusedVariables false
set_option linter.unusedSimpArgs false
namespace Go.Proofs.YtgcpnhnckbgjmaaDoor
open Go.RowKit
theorem ritem_V : ∀ f, f ≤ 16 → RItemAt f := by
  intro f
  induction f with
  | zero =>
    intro _ w r bb off n c b i s D hl hc hcm hn his hsn hR hb hD _
    exact ri_deep 0 w r bb off n c b i s D hl hc hcm hn his hsn hR hb (by omega)
  | succ f ih =>
    intro hf w r bb off n c b i s D hl hc hcm hn his hsn hR hb hD _
    have ih := ih (by omega)
    have hD0 : 0 ≤ D := by omega
    have hD1 : D ≤ 15 := by omega
    have hf15 : f ≤ 15 := by omega
    obtain ⟨y, hy⟩ : ∃ y, (b.getD i 0).toNat = y := ⟨_, rfl⟩
    have hyl := (b.getD i 0).toNat_lt
    rw [Rlp.dItem]
    by_cases h1 : y < 128
    · rw [head_lt b i s y hy h1]
      have e : (b.drop (i + 0)).take 1 = [b.getD i 0] := by
        have := Rlp.seg_one b i (by omega)
        unfold Rlp.seg at this
        rw [show i + 1 - i = 1 by omega] at this
        exact this
      simp only [Bool.false_eq_true, if_false]
      rw [e]
      exact ri_one (f + 1) w r bb off n c b i s D hl hc hcm hn his hsn hR hb hD0 hD1 y hy h1
    by_cases h2 : y < 192
    · obtain ⟨d, rfl⟩ : ∃ d, y = 128 + d := ⟨y - 128, by omega⟩
      by_cases h3 : d < 56
      · rw [head_s128 b i s d hy h3]
        by_cases h4 : s - i - 1 < d
        · rw [if_pos h4]
          exact ri_s128e (f + 1) w r bb off n c b i s D hl hc hcm hn his hsn hR hb hD0 hD1 d hy h3 h4
        · rw [if_neg h4]
          by_cases h5 : d = 1
          · by_cases h6 : (b.getD (i + 1) 0).toNat < 128
            · rw [if_pos ⟨h5, rfl, h6⟩]
              exact ri_s128f (f + 1) w r bb off n c b i s D hl hc hcm hn his hsn hR hb hD0 hD1 d hy h3 h4 h5 h6
            · rw [if_neg (fun e => h6 e.2.2)]
              exact ri_s128g (f + 1) w r bb off n c b i s D hl hc hcm hn his hsn hR hb hD0 hD1 d hy h3 h4 h5 h6
          · rw [if_neg (fun e => h5 e.1)]
            exact ri_s128o (f + 1) w r bb off n c b i s D hl hc hcm hn his hsn hR hb hD0 hD1 d hy h3 h4 h5
      · obtain ⟨k, rfl⟩ : ∃ k, d = k + 55 := ⟨d - 55, by omega⟩
        rw [head_l128 b i s k hy (by omega) (by omega)]
        by_cases h4 : s - i - 1 < k
        · rw [if_pos h4]
          exact ri_l128e (f + 1) w r bb off n c b i s D hl hc hcm hn his hsn hR hb hD0 hD1 k hy (by omega) (by omega) h4
        · rw [if_neg h4]
          have h := ri_l128o (f + 1) w r bb off n c b i s D hl hc hcm hn his hsn hR hb hD0 hD1 k hy (by omega) (by omega) h4
          unfold longR at h
          by_cases g1 : s - i - 1 - k < Rlp.num ((b.drop (i + 1)).take k)
          · rw [if_pos g1] at h ⊢; exact h
          · rw [if_neg g1] at h ⊢
            by_cases g2 : Rlp.num ((b.drop (i + 1)).take k) < 56 ∨ (b.getD (i + 1) 0).toNat = 0
            · rw [if_pos g2] at h ⊢; exact h
            · rw [if_neg g2] at h ⊢
              simp only [Bool.false_eq_true, if_false, ← Nat.add_assoc]
              exact h
    · obtain ⟨d, rfl⟩ : ∃ d, y = 192 + d := ⟨y - 192, by omega⟩
      by_cases h3 : d < 56
      · rw [head_s192 b i s d hy h3]
        by_cases h4 : s - i - 1 < d
        · rw [if_pos h4]
          exact ri_s192e (f + 1) w r bb off n c b i s D hl hc hcm hn his hsn hR hb hD0 hD1 d hy h3 h4
        · rw [if_neg h4, if_neg (fun e => by cases e.2.1)]
          simp only [if_true]
          have h := ri_s192o f w r bb off n c b i s D hl hc hcm hn his hsn hR hb hD hf15 ih d hy h3 h4
          unfold listEnd at h
          cases hd : Rlp.dList (Rlp.dItem b f) d (i + 1) (i + 1 + d) [] with
          | error e => rw [hd] at h; exact h
          | ok its => rw [hd] at h; exact h
      · obtain ⟨k, rfl⟩ : ∃ k, d = k + 55 := ⟨d - 55, by omega⟩
        rw [head_l192 b i s k hy (by omega) (by omega)]
        by_cases h4 : s - i - 1 < k
        · rw [if_pos h4]
          exact ri_l192e (f + 1) w r bb off n c b i s D hl hc hcm hn his hsn hR hb hD0 hD1 k hy (by omega) (by omega) h4
        · rw [if_neg h4]
          have h := ri_l192o f w r bb off n c b i s D hl hc hcm hn his hsn hR hb hD hf15 ih k hy (by omega) (by omega) h4
          unfold longR at h
          by_cases g1 : s - i - 1 - k < Rlp.num ((b.drop (i + 1)).take k)
          · rw [if_pos g1] at h ⊢; exact h
          · rw [if_neg g1] at h ⊢
            by_cases g2 : Rlp.num ((b.drop (i + 1)).take k) < 56 ∨ (b.getD (i + 1) 0).toNat = 0
            · rw [if_pos g2] at h ⊢; exact h
            · rw [if_neg g2] at h ⊢
              simp only [if_true, ← Nat.add_assoc]
              unfold listEnd at h
              cases hd : Rlp.dList (Rlp.dItem b f) (Rlp.num ((b.drop (i + 1)).take k)) (i + 1 + k) (i + 1 + k + Rlp.num ((b.drop (i + 1)).take k)) [] with
              | error e => rw [hd] at h; exact h
              | ok its => rw [hd] at h; exact h
end Go.Proofs.YtgcpnhnckbgjmaaDoor
