/-
  A list of bytes' items leads back to itself, plain.
-/
import Derived.Test.YtgcpnhnckbgjmaaDoorHd
import Derived.Test.YtgcpnhnckbgjmaaDoorNumPl
import Derived.Test.YtgcpnhnckbgjmaaDoorDecPl
set_option linter.unusedVariables false
set_option linter.unusedSimpArgs false
namespace Go.Proofs.YtgcpnhnckbgjmaaDoor
open Go.RowKit
theorem getD_mid (pre mid post : List UInt8) (i : Nat) (h : i < mid.length) : (pre ++ mid ++ post).getD (pre.length + i) 0 = mid.getD i 0 := by
  rw [List.getD_eq_getElem?_getD, List.append_assoc, List.getElem?_append_right (by omega), List.getElem?_append_left (by omega), List.getD_eq_getElem?_getD, show pre.length + i - pre.length = i by omega]
theorem ofNat_n (n : Nat) (h : n < 256) : (UInt8.ofNat n).toNat = n := by simp; omega
/-- A head put ahead of bytes is read as what it is. -/
theorem head_put (L : Bool) (pre body post : List UInt8) (stop : Nat) (hb : body.length ≤ 4096) (h1 : L = false → ∀ u, body = [u] → 128 ≤ u.toNat)
    (hs : pre.length + (Rlp.headed (if L then 192 else 128) body).length ≤ stop) :
    ∃ k, (Rlp.headed (if L then 192 else 128) body).length = k + body.length ∧ 0 < k ∧ Rlp.head (pre ++ Rlp.headed (if L then 192 else 128) body ++ post) pre.length stop = .ok (L, k, body.length) := by
  obtain ⟨sh, hsh⟩ : ∃ sh, sh = (if L then 192 else 128) := ⟨_, rfl⟩
  have hsh2 : (if L = true then 192 else 128) = sh := hsh.symm
  rw [hsh2] at hs ⊢
  have hsv : sh = 128 ∨ sh = 192 := by rw [hsh]; split <;> omega
  by_cases hlt : body.length < 56
  · have hh : Rlp.headed sh body = UInt8.ofNat (sh + body.length) :: body := by unfold Rlp.headed; rw [if_pos hlt]
    rw [hh] at hs ⊢
    have y := getD_mid pre (UInt8.ofNat (sh + body.length) :: body) post 0 (by simp)
    simp only [Nat.add_zero] at y
    have y2 : ((pre ++ (UInt8.ofNat (sh + body.length) :: body) ++ post).getD pre.length 0).toNat = sh + body.length := by
      rw [y]; exact ofNat_n _ (by omega)
    refine ⟨1, by simp; omega, by omega, ?_⟩
    simp at hs
    cases L with
    | true =>
      have e : sh = 192 := hsh
      subst e
      rw [head_s192 _ _ stop body.length y2 hlt, if_neg (by omega), if_neg (fun e => by cases e.2.1)]
    | false =>
      have e : sh = 128 := hsh
      subst e
      rw [head_s128 _ _ stop body.length y2 hlt, if_neg (by omega), if_neg]
      rintro ⟨e1, _, e3⟩
      match body, e1 with
      | [u], _ =>
        have h2 := h1 rfl u rfl
        have z := getD_mid pre (UInt8.ofNat (128 + [u].length) :: [u]) post 1 (by simp)
        rw [z] at e3
        simp at e3
        omega
  · obtain ⟨ks, hks⟩ : ∃ ks, ks = Rlp.big body.length := ⟨_, rfl⟩
    have hk8 : ks.length ≤ 8 := by rw [hks]; exact big_le _
    have hnum : Rlp.num ks = body.length := by rw [hks]; exact num_big _ (by omega)
    have hk0 : 0 < ks.length := by
      rcases Nat.eq_zero_or_pos ks.length with h | h
      · have := List.length_eq_zero_iff.1 h
        rw [this] at hnum
        simp [Rlp.num] at hnum
        omega
      · exact h
    have hz : (ks.getD 0 0).toNat ≠ 0 := by
      rw [hks]
      unfold Rlp.big
      refine lows_last 8 body.length (by have : (256 : Nat) ^ 8 = 18446744073709551616 := by decide
                                         omega) ?_
      intro e
      rw [hks] at hk0
      unfold Rlp.big at hk0
      rw [e] at hk0
      simp at hk0
    have hh : Rlp.headed sh body = UInt8.ofNat (sh + 55 + ks.length) :: (ks ++ body) := by unfold Rlp.headed; rw [if_neg hlt, hks]
    rw [hh] at hs ⊢
    have y := getD_mid pre (UInt8.ofNat (sh + 55 + ks.length) :: (ks ++ body)) post 0 (by simp)
    simp only [Nat.add_zero] at y
    have y2 : ((pre ++ (UInt8.ofNat (sh + 55 + ks.length) :: (ks ++ body)) ++ post).getD pre.length 0).toNat = sh + (ks.length + 55) := by
      rw [y]
      show (UInt8.ofNat (sh + 55 + ks.length)).toNat = _
      rw [ofNat_n _ (by omega)]; omega
    have hd : ((pre ++ (UInt8.ofNat (sh + 55 + ks.length) :: (ks ++ body)) ++ post).drop (pre.length + 1)).take ks.length = ks := by
      have e : pre ++ (UInt8.ofNat (sh + 55 + ks.length) :: (ks ++ body)) ++ post = (pre ++ [UInt8.ofNat (sh + 55 + ks.length)]) ++ (ks ++ (body ++ post)) := by simp
      rw [e, List.drop_left' (by simp), List.take_left' rfl]
    have z2 : ((pre ++ (UInt8.ofNat (sh + 55 + ks.length) :: (ks ++ body)) ++ post).getD (pre.length + 1) 0) = ks.getD 0 0 := by
      rw [getD_mid pre _ post 1 (by simp; omega)]
      rw [List.getD_eq_getElem?_getD, List.getElem?_cons_succ, List.getElem?_append_left hk0, List.getD_eq_getElem?_getD]
    refine ⟨1 + ks.length, by simp; omega, by omega, ?_⟩
    simp at hs
    cases L with
    | true =>
      have e : sh = 192 := hsh
      subst e
      rw [head_l192 _ _ stop ks.length y2 hk0 hk8, if_neg (by omega), hd, hnum, if_neg (by omega), z2, if_neg (by omega)]
    | false =>
      have e : sh = 128 := hsh
      subst e
      rw [head_l128 _ _ stop ks.length y2 hk0 hk8, if_neg (by omega), hd, hnum, if_neg (by omega), z2, if_neg (by omega)]
theorem drop_mid (pre mid post : List UInt8) (n : Nat) (hn : n = mid.length) : ((pre ++ mid ++ post).drop pre.length).take n = mid := by
  subst hn
  rw [List.append_assoc, List.drop_left' rfl, List.take_left' rfl]
/-- Bytes' item, read where it stands. -/
theorem leaf_read (f : Nat) (bs pre post : List UInt8) (stop : Nat) (hb : bs.length ≤ 4096) (hs : pre.length + (Rlp.form (.mk false bs [])).length ≤ stop) :
    Rlp.dItem (pre ++ Rlp.form (.mk false bs []) ++ post) (f + 1) pre.length stop = .ok (.mk false bs [], pre.length + (Rlp.form (.mk false bs [])).length) := by
  rw [Rlp.dItem]
  by_cases h1 : ∃ u, bs = [u] ∧ u < 128
  · obtain ⟨u, rfl, hu⟩ := h1
    have hf : Rlp.form (.mk false [u] []) = [u] := by rw [form_one, if_pos hu]
    rw [hf] at hs ⊢
    have y := getD_mid pre [u] post 0 (by simp)
    simp only [Nat.add_zero] at y
    have hu2 : u.toNat < 128 := by rw [UInt8.lt_iff_toNat_lt] at hu; exact hu
    rw [head_lt _ pre.length stop u.toNat (by rw [y]; rfl) hu2]
    simp only [Bool.false_eq_true, if_false, Nat.add_zero]
    rw [drop_mid pre [u] post 1 rfl]
    rfl
  · have hf : Rlp.form (.mk false bs []) = Rlp.headed 128 bs := by
      match bs, h1 with
      | [], _ => rw [form_bytes _ _ (by simp)]
      | [u], h1 => rw [form_one, if_neg (fun h => h1 ⟨u, rfl, h⟩)]
      | u :: v :: t, _ => rw [form_bytes _ _ (by simp)]
    rw [hf] at hs ⊢
    obtain ⟨k, hk, hk0, hh⟩ := head_put false pre bs post stop hb (fun _ u hu => by
      rcases Nat.lt_or_ge u.toNat 128 with h | h
      · exact absurd ⟨u, hu, by rw [UInt8.lt_iff_toNat_lt]; exact h⟩ h1
      · exact h) hs
    simp only [Bool.false_eq_true, if_false] at hh hk
    rw [hh]
    simp only [Bool.false_eq_true, if_false]
    have hd : ((pre ++ Rlp.headed 128 bs ++ post).drop (pre.length + k)).take bs.length = bs := by
      obtain ⟨hd, hhd⟩ : ∃ hd, Rlp.headed 128 bs = hd ++ bs := by
        unfold Rlp.headed
        split
        · exact ⟨[UInt8.ofNat (128 + bs.length)], rfl⟩
        · exact ⟨UInt8.ofNat (128 + 55 + (Rlp.big bs.length).length) :: Rlp.big bs.length, rfl⟩
      have hl : hd.length = k := by rw [hhd] at hk; simp at hk; omega
      rw [hhd, show pre ++ (hd ++ bs) ++ post = (pre ++ hd) ++ bs ++ post by simp, ← hl, show pre.length + hd.length = (pre ++ hd).length by simp]
      exact drop_mid _ _ _ _ rfl
    rw [hd]
    congr 2
    omega
theorem headed_pos (sh : Nat) (b : List UInt8) : 0 < (Rlp.headed sh b).length := by unfold Rlp.headed; split <;> simp
theorem form_pos (l : List UInt8) : 0 < (Rlp.form (.mk false l [])).length := by
  match l with
  | [] => rw [form_bytes _ _ (by simp)]; exact headed_pos _ _
  | [u] => rw [form_one]; split; exact Nat.one_pos; exact headed_pos _ _
  | u :: v :: t => rw [form_bytes _ _ (by simp)]; exact headed_pos _ _
theorem leaves_len (ls : List (List UInt8)) : ls.length ≤ (Rlp.formC (ls.map fun l => .mk false l [])).length := by
  induction ls with
  | nil => simp
  | cons l ls ih =>
    have hfc : Rlp.formC ((l :: ls).map fun l => .mk false l []) = Rlp.form (.mk false l []) ++ Rlp.formC (ls.map fun l => .mk false l []) := by simp [Rlp.formC]
    have := form_pos l
    rw [hfc]; simp; omega
/-- A row of bytes' items, read one behind the other. -/
theorem leaves_read (f : Nat) (ls : List (List UInt8)) (hl : ∀ l ∈ ls, l.length ≤ 4096) : ∀ (g : Nat) (pre post : List UInt8) (acc : List Rlp.It) (to : Nat), to = pre.length + (Rlp.formC (ls.map fun l => .mk false l [])).length → ls.length ≤ g →
    Rlp.dList (Rlp.dItem (pre ++ Rlp.formC (ls.map fun l => .mk false l []) ++ post) (f + 1)) g pre.length to acc = .ok (acc ++ ls.map fun l => .mk false l []) := by
  induction ls with
  | nil =>
    intro g pre post acc to ht _
    simp [Rlp.formC] at ht
    subst ht
    cases g with
    | zero => simp [Rlp.dList]
    | succ g => rw [Rlp.dList, if_neg (by omega)]; simp
  | cons l ls ih =>
    intro g pre post acc to ht hg
    obtain ⟨g, rfl⟩ : ∃ g', g = g' + 1 := ⟨g - 1, by simp at hg; omega⟩
    have hfc : Rlp.formC ((l :: ls).map fun l => .mk false l []) = Rlp.form (.mk false l []) ++ Rlp.formC (ls.map fun l => .mk false l []) := by simp [Rlp.formC]
    have hpos : 0 < (Rlp.form (.mk false l [])).length := form_pos l
    rw [hfc] at ht ⊢
    simp at ht
    rw [Rlp.dList, if_pos (by omega)]
    have hr := leaf_read f l pre (Rlp.formC (ls.map fun l => .mk false l []) ++ post) to (hl l (List.mem_cons_self ..)) (by omega)
    rw [← List.append_assoc] at hr
    rw [← List.append_assoc, hr]
    have hi := ih (fun x hx => hl x (List.mem_cons_of_mem _ hx)) g (pre ++ Rlp.form (.mk false l [])) post (acc ++ [.mk false l []]) to (by simp; omega) (by simp at hg; omega)
    simp only [List.length_append] at hi
    simp only
    rw [hi]
    simp
/-- A list of bytes' items leads back. -/
theorem list_back (ls : List (List UInt8)) (h : (Rlp.form (.mk true [] (ls.map fun l => .mk false l []))).length ≤ 4096) (hc : (Rlp.formC (ls.map fun l => .mk false l [])).length ≤ 4096) (hl : ∀ l ∈ ls, l.length ≤ 4096) : Rlp.decode (Rlp.form (.mk true [] (ls.map fun l => .mk false l []))) = .ok (.mk true [] (ls.map fun l => .mk false l [])) := by
  have hf : Rlp.form (.mk true [] (ls.map fun l => .mk false l [])) = Rlp.headed 192 (Rlp.formC (ls.map fun l => .mk false l [])) := by
    rw [form_list, Rlp.formL_cat _ _ (by simpa using hc)]; simp
  obtain ⟨b, hb⟩ : ∃ b, b = Rlp.formC (ls.map fun l => .mk false l []) := ⟨_, rfl⟩
  rw [← hb] at hf hc
  rw [hf] at h ⊢
  have hp := head_put true [] b [] (Rlp.headed 192 b).length hc (fun e => by cases e) (by simp)
  simp only [if_true, List.nil_append, List.append_nil, List.length_nil] at hp
  obtain ⟨k, hk, hk0, hh⟩ := hp
  unfold Rlp.decode
  rw [if_neg (by omega), if_neg (by omega), Rlp.dItem, hh]
  simp only [if_true]
  obtain ⟨hd, hhd⟩ : ∃ hd, Rlp.headed 192 b = hd ++ b := by
    unfold Rlp.headed
    split
    · exact ⟨[UInt8.ofNat (192 + b.length)], rfl⟩
    · exact ⟨UInt8.ofNat (192 + 55 + (Rlp.big b.length).length) :: Rlp.big b.length, rfl⟩
  have hdl : hd.length = k := by rw [hhd] at hk; simp at hk; omega
  have hr := leaves_read 14 ls hl b.length hd [] [] (0 + k + b.length) (by rw [hdl, hb]; omega) (by rw [hb]; exact leaves_len ls)
  rw [List.append_nil, ← hb, ← hhd, hdl] at hr
  rw [Nat.zero_add] at hr ⊢
  rw [hr]
  simp only [List.nil_append]
  rw [if_neg (by omega)]
end Go.Proofs.YtgcpnhnckbgjmaaDoor
