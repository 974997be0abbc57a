/-
  RLP, plain: an item's form, the item of bytes, and back.
-/
import Derived.Test.YtgcpnhnckbgjmaaDoorProg
namespace Go.Proofs.YtgcpnhnckbgjmaaDoor
namespace Rlp

inductive It where
  | mk (list : Bool) (bytes : List UInt8) (items : List It)
  deriving Inhabited

def It.list : It → Bool | .mk l _ _ => l
def It.bytes : It → List UInt8 | .mk _ b _ => b
def It.items : It → List It | .mk _ _ i => i

/-- A number's bytes, the lowest first. -/
def lows : Nat → Nat → List UInt8
  | 0, _ => []
  | g + 1, v => if v = 0 then [] else UInt8.ofNat v :: lows g (v / 256)
/-- A number's bytes (below 2^64). -/
def big (v : Nat) : List UInt8 := (lows 8 v).reverse
def headed (short : Nat) (b : List UInt8) : List UInt8 :=
  if b.length < 56 then UInt8.ofNat (short + b.length) :: b
  else UInt8.ofNat (short + 55 + (big b.length).length) :: (big b.length ++ b)

mutual
def nest : It → Nat → Nat
  | .mk _ _ _, 0 => 1
  | .mk _ _ its, n + 1 => nestL its n + 1
def nestL : List It → Nat → Nat
  | [], _ => 0
  | x :: xs, n => max (nest x n) (nestL xs n)
end
mutual
def right : It → Bool
  | .mk l b its => if l then b.isEmpty && rightL its else its.isEmpty
def rightL : List It → Bool
  | [] => true
  | x :: xs => right x && rightL xs
end
mutual
def form : It → List UInt8
  | .mk l b its => if l then headed 192 (formL its []) else match b with
    | [u] => if u < 128 then [u] else headed 128 b
    | _ => headed 128 b
/-- With the forms so far ahead; cut off behind 4096. -/
def formL : List It → List UInt8 → List UInt8
  | [], acc => acc
  | x :: xs, acc => if 4096 < (acc ++ form x).length then acc ++ form x else formL xs (acc ++ form x)
end
/-- What a list's forms are, uncut. -/
def formC (its : List It) : List UInt8 := (its.map form).flatten

/-- The number of bytes, the highest first. -/
def num (b : List UInt8) : Nat := b.foldl (fun n x => n * 256 + x.toNat) 0
/-- What an item's first bytes say. -/
def head (b : List UInt8) (at_ stop : Nat) : Except Nat (Bool × Nat × Nat) :=
  let first := (b.getD at_ 0).toNat
  let list := decide (192 ≤ first)
  let short := if 192 ≤ first then 192 else 128
  if first < 128 then .ok (false, 0, 1)
  else if first - short < 56 then
    if stop - at_ - 1 < first - short then .error 11
    else if first - short = 1 ∧ list = false ∧ (b.getD (at_ + 1) 0).toNat < 128 then .error 12
    else .ok (list, 1, first - short)
  else
    let k := first - short - 55
    if stop - at_ - 1 < k then .error 11
    else
      let n := num ((b.drop (at_ + 1)).take k)
      if stop - at_ - 1 - k < n then .error 11
      else if n < 56 ∨ (b.getD (at_ + 1) 0).toNat = 0 then .error 12
      else .ok (list, 1 + k, n)
/-- The items of a list, one behind the other. -/
def dList (step : Nat → Nat → Except (Nat × Nat) (It × Nat)) : Nat → Nat → Nat → List It → Except (Nat × Nat) (List It)
  | 0, _, _, acc => .ok acc
  | g + 1, from_, to, acc => if from_ < to then match step from_ to with
      | .error e => .error e
      | .ok (y, nx) => dList step g nx to (acc ++ [y])
    else .ok acc
/-- The item at a place (f: how deep it may still be). -/
def dItem (b : List UInt8) : Nat → Nat → Nat → Except (Nat × Nat) (It × Nat)
  | 0, at_, _ => .error (at_, 13)
  | f + 1, at_, stop => match head b at_ stop with
    | .error e => .error (at_, e)
    | .ok (l, skip, n) =>
      if l then match dList (dItem b f) n (at_ + skip) (at_ + skip + n) [] with
        | .error e => .error e
        | .ok its => .ok (.mk true [] its, at_ + skip + n)
      else .ok (.mk false ((b.drop (at_ + skip)).take n) [], at_ + skip + n)
def decode (b : List UInt8) : Except (Nat × Nat) It :=
  if 4096 < b.length then .error (0, 5)
  else if b.length = 0 then .error (0, 11)
  else match dItem b 16 0 b.length with
    | .error e => .error e
    | .ok (x, stop) => if stop < b.length then .error (stop, 11) else .ok x

/-! ### Numbers -/
def numR : List UInt8 → Nat
  | [] => 0
  | x :: xs => x.toNat + 256 * numR xs
theorem num_snoc (b : List UInt8) (x : UInt8) : num (b ++ [x]) = num b * 256 + x.toNat := by simp [num]
theorem num_numR (b : List UInt8) : num b.reverse = numR b := by
  induction b with
  | nil => rfl
  | cons x xs ih => rw [List.reverse_cons, num_snoc, ih, numR]; omega
theorem numR_pos (b : List UInt8) (u : UInt8) (hu : u.toNat ≠ 0) : 0 < numR (b ++ [u]) := by
  induction b with
  | nil => simp [numR]; omega
  | cons x xs ih => simp only [List.cons_append, numR]; omega
theorem lows_numR (b : List UInt8) (u : UInt8) (hu : u.toNat ≠ 0) (g : Nat) (hg : b.length + 1 ≤ g) : lows g (numR (b ++ [u])) = b ++ [u] := by
  induction b generalizing g with
  | nil =>
    obtain ⟨g, rfl⟩ : ∃ g', g = g' + 1 := ⟨g - 1, by omega⟩
    have hb := u.toNat_lt
    simp only [List.nil_append, numR, lows]
    rw [if_neg (by omega)]
    have e : (u.toNat + 256 * 0) / 256 = 0 := by omega
    rw [e]
    have e2 : UInt8.ofNat (u.toNat + 256 * 0) = u := by simp
    rw [e2]
    cases g <;> simp [lows]
  | cons x xs ih =>
    obtain ⟨g, rfl⟩ : ∃ g', g = g' + 1 := ⟨g - 1, by simp at hg; omega⟩
    have hp := numR_pos xs u hu
    have hx := x.toNat_lt
    simp only [List.cons_append, numR, lows]
    rw [if_neg (by omega)]
    have e : (x.toNat + 256 * numR (xs ++ [u])) / 256 = numR (xs ++ [u]) := by omega
    rw [e, ih g (by simp at hg; omega)]
    congr 1
    apply UInt8.toNat_inj.1
    simp
theorem big_num (b : List UInt8) (hl : b.length ≤ 8) (h0 : 0 < b.length) (hb : (b.getD 0 0).toNat ≠ 0) : big (num b) = b := by
  cases b with
  | nil => simp at h0
  | cons u us =>
    have e : num (u :: us) = numR (us.reverse ++ [u]) := by rw [← num_numR]; simp
    unfold big
    rw [e, lows_numR _ _ (by simpa using hb) _ (by simp at hl ⊢; omega)]
    simp
/-! ### Segments -/
def seg (b : List UInt8) (i j : Nat) : List UInt8 := (b.drop i).take (j - i)
theorem seg_len (b : List UInt8) (i j : Nat) (hj : j ≤ b.length) : (seg b i j).length = j - i := by simp [seg]; omega
theorem seg_app (b : List UInt8) (i j k : Nat) (h1 : i ≤ j) (h2 : j ≤ k) : seg b i j ++ seg b j k = seg b i k := by
  unfold seg
  have e : b.drop j = (b.drop i).drop (j - i) := by rw [List.drop_drop]; congr 1; omega
  rw [e, show k - i = (j - i) + (k - j) by omega, List.take_add]
theorem seg_one (b : List UInt8) (i : Nat) (h : i < b.length) : seg b i (i + 1) = [b.getD i 0] := by
  unfold seg
  rw [show i + 1 - i = 1 by omega, List.take_one, List.head?_drop, List.getD_eq_getElem?_getD, List.getElem?_eq_getElem h]; simp
/-! ### A list's forms, uncut -/
theorem formL_cat (its : List It) (acc : List UInt8) (h : (acc ++ formC its).length ≤ 4096) : formL its acc = acc ++ formC its := by
  induction its generalizing acc with
  | nil => simp [formL, formC]
  | cons x xs ih =>
    have e : formC (x :: xs) = form x ++ formC xs := by simp [formC]
    rw [e, ← List.append_assoc] at h ⊢
    rw [formL, if_neg (by simp at h ⊢; omega), ih _ h]
theorem formC_app (a b : List It) : formC (a ++ b) = formC a ++ formC b := by simp [formC]
theorem nestL_le (its : List It) (n f : Nat) (h : ∀ x ∈ its, nest x n ≤ f) : nestL its n ≤ f := by
  induction its with
  | nil => simp [nestL]
  | cons x xs ih =>
    rw [nestL]
    exact Nat.max_le.2 ⟨h x (List.mem_cons_self ..), ih fun y hy => h y (List.mem_cons_of_mem _ hy)⟩
theorem rightL_all (its : List It) (h : ∀ x ∈ its, right x = true) : rightL its = true := by
  induction its with
  | nil => rfl
  | cons x xs ih => rw [rightL, h x (List.mem_cons_self ..), ih fun y hy => h y (List.mem_cons_of_mem _ hy)]; rfl
/-- What a step of the way back is asked. -/
def Back (b : List UInt8) (f : Nat) (x : It) (i j : Nat) : Prop := i < j ∧ form x = seg b i j ∧ right x = true ∧ ∀ m, nest x m ≤ f
theorem dList_back (b : List UInt8) (f : Nat) (step : Nat → Nat → Except (Nat × Nat) (It × Nat)) (hs : ∀ i to x j, i < to → to ≤ b.length → step i to = .ok (x, j) → Back b f x i j ∧ j ≤ to)
    (g i to : Nat) (acc its : List It) (hg : to ≤ i + g) (hi : i ≤ to) (ht : to ≤ b.length) (h : dList step g i to acc = .ok its) :
    ∃ new, its = acc ++ new ∧ formC new = seg b i to ∧ (∀ x ∈ new, right x = true) ∧ ∀ x ∈ new, ∀ m, nest x m ≤ f := by
  induction g generalizing i acc with
  | zero =>
    have : i = to := by omega
    subst this
    simp [dList] at h
    exact ⟨[], by simp [h], by simp [formC, seg], by simp, by simp⟩
  | succ g ih =>
    rw [dList] at h
    by_cases hlt : i < to
    · rw [if_pos hlt] at h
      cases hst : step i to with
      | error e => rw [hst] at h; simp at h
      | ok p =>
        obtain ⟨y, nx⟩ := p
        rw [hst] at h
        simp only at h
        obtain ⟨⟨h1, h2, h3, h4⟩, h5⟩ := hs i to y nx hlt ht hst
        obtain ⟨new, e1, e2, e3, e4⟩ := ih nx (acc ++ [y]) (by omega) h5 h
        refine ⟨y :: new, by rw [e1]; simp, ?_, ?_, ?_⟩
        · rw [show formC (y :: new) = form y ++ formC new by simp [formC], h2, e2, seg_app _ _ _ _ (by omega) h5]
        · intro x hx
          rcases List.mem_cons.1 hx with rfl | hx
          · exact h3
          · exact e3 x hx
        · intro x hx
          rcases List.mem_cons.1 hx with rfl | hx
          · exact h4
          · exact e4 x hx
    · rw [if_neg hlt] at h
      have : i = to := by omega
      subst this
      simp at h
      exact ⟨[], by simp [h], by simp [formC, seg], by simp, by simp⟩
/-- What a head says, put back. -/
theorem head_back {b : List UInt8} {i stop : Nat} {l : Bool} {k n : Nat} (hi : i < stop) (hst : stop ≤ b.length) (h : head b i stop = .ok (l, k, n)) :
    i + k + n ≤ stop ∧ ((k = 0 ∧ l = false ∧ n = 1 ∧ (b.getD i 0).toNat < 128) ∨
      (0 < k ∧ ∀ body : List UInt8, body.length = n → headed (if l then 192 else 128) body = seg b i (i + k) ++ body) ∧ (l = false → n = 1 → 128 ≤ (b.getD (i + k) 0).toNat)) := by
  have hu := (b.getD i 0).toNat_lt
  obtain ⟨u, hue⟩ : ∃ u, u = b.getD i 0 := ⟨_, rfl⟩
  unfold head at h
  rw [← hue] at h hu ⊢
  simp only at h
  by_cases c1 : u.toNat < 128
  · rw [if_pos c1] at h
    injection h with h
    injection h with h1 h2
    injection h2 with h2 h3
    subst h1; subst h2; subst h3
    exact ⟨by omega, .inl ⟨rfl, rfl, rfl, c1⟩⟩
  · rw [if_neg c1] at h
    obtain ⟨sh, hsh⟩ : ∃ sh, sh = (if 192 ≤ u.toNat then 192 else 128) := ⟨_, rfl⟩
    rw [← hsh] at h
    have hs1 : sh ≤ u.toNat := by rw [hsh]; split <;> omega
    have hs2 : u.toNat - sh < 64 := by rw [hsh]; split <;> omega
    have hsl : sh = (if decide (192 ≤ u.toNat) = true then 192 else 128) := by rw [hsh]; simp
    by_cases c2 : u.toNat - sh < 56
    · rw [if_pos c2] at h
      by_cases c3 : stop - i - 1 < u.toNat - sh
      · rw [if_pos c3] at h; cases h
      · rw [if_neg c3] at h
        by_cases c4 : u.toNat - sh = 1 ∧ decide (192 ≤ u.toNat) = false ∧ (b.getD (i + 1) 0).toNat < 128
        · rw [if_pos c4] at h; cases h
        · rw [if_neg c4] at h
          injection h with h
          injection h with h1 h2
          injection h2 with h2 h3
          subst h1; subst h2
          refine ⟨by omega, .inr ⟨⟨by omega, ?_⟩, ?_⟩⟩
          · intro body hb
            unfold headed
            rw [if_pos (by omega), seg_one _ _ (by omega), hb, ← hsl, ← hue, ← h3, show sh + (u.toNat - sh) = u.toNat by omega]
            simp
          · intro hl hn
            rcases Nat.lt_or_ge (b.getD (i + 1) 0).toNat 128 with h | h
            · exact absurd ⟨by omega, hl, h⟩ c4
            · exact h
    · rw [if_neg c2] at h
      by_cases c3 : stop - i - 1 < u.toNat - sh - 55
      · rw [if_pos c3] at h; cases h
      · rw [if_neg c3] at h
        obtain ⟨ks, hks⟩ : ∃ ks, ks = (b.drop (i + 1)).take (u.toNat - sh - 55) := ⟨_, rfl⟩
        rw [← hks] at h
        have hkl : ks.length = u.toNat - sh - 55 := by rw [hks]; simp; omega
        by_cases c4 : stop - i - 1 - (u.toNat - sh - 55) < num ks
        · rw [if_pos c4] at h; cases h
        · rw [if_neg c4] at h
          by_cases c5 : num ks < 56 ∨ (b.getD (i + 1) 0).toNat = 0
          · rw [if_pos c5] at h; cases h
          · rw [if_neg c5] at h
            injection h with h
            injection h with h1 h2
            injection h2 with h2 h3
            subst h1; subst h2
            have hk0 : ks.getD 0 0 = b.getD (i + 1) 0 := by
              rw [hks, List.getD_eq_getElem?_getD, List.getElem?_take_of_lt (by omega), List.getElem?_drop, List.getD_eq_getElem?_getD]
            refine ⟨by omega, .inr ⟨⟨by omega, ?_⟩, fun _ hn => by omega⟩⟩
            intro body hb
            have hbig := big_num ks (by omega) (by omega) (by rw [hk0]; omega)
            unfold headed
            rw [if_neg (by omega), hb, ← h3, hbig, ← hsl, hkl, show sh + 55 + (u.toNat - sh - 55) = u.toNat by omega, show i + (1 + (u.toNat - sh - 55)) = i + 1 + (u.toNat - sh - 55) by omega, ← seg_app b i (i + 1) _ (by omega) (by omega), seg_one _ _ (by omega), ← hue]
            have es : seg b (i + 1) (i + 1 + (u.toNat - sh - 55)) = ks := by rw [hks]; unfold seg; rw [show i + 1 + (u.toNat - sh - 55) - (i + 1) = u.toNat - sh - 55 by omega]
            rw [es]; simp
theorem take_seg (b : List UInt8) (i n : Nat) : (b.drop i).take n = seg b i (i + n) := by unfold seg; rw [show i + n - i = n by omega]
theorem dItem_back (b : List UInt8) (hb : b.length ≤ 4096) (f : Nat) : ∀ i to x j, i < to → to ≤ b.length → dItem b f i to = .ok (x, j) → Back b f x i j ∧ j ≤ to := by
  induction f with
  | zero => intro i to x j _ _ h; simp [dItem] at h
  | succ f ih =>
    intro i to x j hi ht h
    rw [dItem] at h
    cases hh : head b i to with
    | error e => rw [hh] at h; simp at h
    | ok p =>
      obtain ⟨l, k, n⟩ := p
      rw [hh] at h
      simp only at h
      obtain ⟨h1, h2⟩ := head_back hi ht hh
      cases l with
      | false =>
        simp only [Bool.false_eq_true, if_false] at h
        injection h with h
        injection h with e1 e2
        subst e1; subst e2
        rw [take_seg]
        have hl : (seg b (i + k) (i + k + n)).length = n := by rw [seg_len _ _ _ (by omega)]; omega
        refine ⟨⟨?_, ?_, by simp [right], fun m => by cases m <;> simp [nest, nestL]⟩, h1⟩
        · rcases h2 with ⟨_, _, rfl, _⟩ | ⟨⟨_, _⟩, _⟩ <;> omega
        · rcases h2 with ⟨rfl, _, rfl, h3⟩ | ⟨⟨h3, h4⟩, h5⟩
          · have e : seg b (i + 0) (i + 0 + 1) = [b.getD i 0] := seg_one b i (by omega)
            rw [e]
            simp only [form]
            rw [if_neg (by decide)]
            rw [if_pos (by rw [UInt8.lt_iff_toNat_lt]; exact h3)]
            exact (seg_one b i (by omega)).symm
          · have hh4 := h4 _ hl
            rw [seg_app _ _ _ _ (by omega) (by omega)] at hh4
            rw [← hh4]
            have hnot : ∀ u, seg b (i + k) (i + k + n) = [u] → ¬ u < 128 := by
              intro u hu
              rw [hu] at hl
              have hn : n = 1 := by simpa using hl.symm
              have := h5 rfl hn
              subst hn
              rw [seg_one b (i + k) (by omega)] at hu
              injection hu with hu
              intro hlt
              rw [UInt8.lt_iff_toNat_lt, ← hu] at hlt
              have e128 : (128 : UInt8).toNat = 128 := rfl
              omega
            simp only [form]
            rw [if_neg (by decide)]
            split
            · rename_i u hu
              rw [if_neg (hnot u hu)]; rfl
            · rfl
      | true =>
        simp only [if_true] at h
        cases hd : dList (dItem b f) n (i + k) (i + k + n) [] with
        | error e => rw [hd] at h; simp at h
        | ok its =>
          rw [hd] at h
          simp only at h
          injection h with h
          injection h with e1 e2
          subst e1; subst e2
          obtain ⟨new, e1, e2, e3, e4⟩ := dList_back b f (dItem b f) ih n (i + k) (i + k + n) [] its (by omega) (by omega) (by omega) hd
          simp at e1
          subst e1
          rcases h2 with ⟨_, h2, _⟩ | ⟨⟨h3, h4⟩, _⟩
          · cases h2
          have hl : (formC its).length = n := by rw [e2, seg_len _ _ _ (by omega)]; omega
          have hh4 := h4 _ hl
          refine ⟨⟨by omega, ?_, ?_, ?_⟩, h1⟩
          · simp only [form]
            simp only [if_true]
            rw [formL_cat _ _ (by simp; omega)]
            simp only [if_true] at hh4
            rw [List.nil_append, hh4, e2, seg_app _ _ _ _ (by omega) (by omega)]
          · simp [right, rightL_all its e3]
          · intro m
            cases m with
            | zero => simp [nest]
            | succ m =>
              rw [nest]
              have := nestL_le its m f fun x hx => e4 x hx m
              omega
/-- What an item of bytes leads back to. -/
theorem decode_back (b : List UInt8) (x : It) (h : decode b = .ok x) : form x = b ∧ right x = true ∧ (∀ m, nest x m ≤ 16) ∧ b.length ≤ 4096 := by
  unfold decode at h
  by_cases c1 : 4096 < b.length
  · rw [if_pos c1] at h; cases h
  rw [if_neg c1] at h
  by_cases c2 : b.length = 0
  · rw [if_pos c2] at h; cases h
  rw [if_neg c2] at h
  cases hd : dItem b 16 0 b.length with
  | error e => rw [hd] at h; cases h
  | ok p =>
    obtain ⟨y, stop⟩ := p
    rw [hd] at h
    simp only at h
    by_cases c3 : stop < b.length
    · rw [if_pos c3] at h; cases h
    rw [if_neg c3] at h
    injection h with h
    subst h
    obtain ⟨⟨h1, h2, h3, h4⟩, h5⟩ := dItem_back b (by omega) 16 0 b.length y stop (by omega) (Nat.le_refl _) hd
    have : stop = b.length := by omega
    subst this
    exact ⟨by rw [h2]; simp [seg], h3, h4, by omega⟩
end Rlp
end Go.Proofs.YtgcpnhnckbgjmaaDoor
