/-
  math/bits.Div64 by its contract: the quotient and the rest of two words by one.
-/
import Derived.Test.YtmjlifbnndmjoaaDoorDivz
import Derived.Test.YtmjlifbnndmjoaaDoorWordVal
import Derived.Test.YtmjlifbnndmjoaaDoorShelf
import Derived.Test.YtmjlifbnndmjoaaDoorAid
import Derived.Outline
import Derived.WalkSmall
import Derived.Deep.QuietTactic
import Derived.BigQuiet
set_option linter.unusedVariables false
set_option linter.unusedSimpArgs false
namespace Go.Proofs.YtmjlifbnndmjoaaDoor
open Go.RowKit

theorem wrapN (x : Nat) : IntKind.u64.wrap (x : Int) = ((x % 18446744073709551616 : Nat) : Int) := by rw [IntKind.wrap_u64]; omega
theorem wrap_mulN (x y : Nat) : IntKind.u64.wrap ((x : Int) * (y : Int)) = ((x * y % 18446744073709551616 : Nat) : Int) := by rw [← Int.natCast_mul, wrapN]
theorem wrap_mulN' (x y : Nat) (h : x * y < 18446744073709551616) : IntKind.u64.wrap ((x : Int) * (y : Int)) = ((x * y : Nat) : Int) := by rw [wrap_mulN, Nat.mod_eq_of_lt h]
theorem wrap_powN (x s : Nat) : IntKind.u64.wrap ((x : Int) * 2 ^ s) = ((x * 2 ^ s % 18446744073709551616 : Nat) : Int) := by
  rw [← wrapN]; congr 1
theorem div_powN (x s : Nat) : (x : Int) / 2 ^ s = ((x / 2 ^ s : Nat) : Int) := by
  rw [Int.natCast_ediv, Int.natCast_pow]; rfl
theorem mask32 (x : Nat) (h : x < 18446744073709551616) : bits .and .u64 (x : Int) 4294967295 = ((x % 4294967296 : Nat) : Int) := by
  rw [show (4294967295 : Int) = ((4294967295 : Nat) : Int) from rfl, bits_and_u64_nat _ _ h (by decide)]
  congr 1; exact Nat.and_two_pow_sub_one_eq_mod x 32
theorem orN (x y : Nat) (hx : x < 18446744073709551616) (hy : y < 18446744073709551616) : bits .or .u64 (x : Int) (y : Int) = ((x ||| y : Nat) : Int) := bits_or_u64_nat _ _ hx hy
theorem bitLen_log (y : Nat) (h0 : 0 < y) (h : y < 18446744073709551616) : Lib.bitLen y = y.log2 + 1 := by
  have l1 : 2 ^ y.log2 ≤ y := Nat.log2_self_le (by omega)
  have l2 : y < 2 ^ (y.log2 + 1) := Nat.lt_log2_self
  rw [Lib.bitLen_shift _ y l1 h]
  have : y / 2 ^ y.log2 = 1 := by
    apply Nat.div_eq_of_lt_le
    · omega
    · rw [Nat.pow_succ] at l2; omega
  rw [this]; rfl
theorem lz_calls (y s : Nat) (h0 : 0 < y) (h : y < 18446744073709551616) (hs : 63 - y.log2 = s) (w : World) :
    Calls Tryd.prog 32 #[.int .u64 y] w fun e w' => e = .returned (.int .i64 s) ∧ w = w' :=
  (Tryd.bits_LeadingZeros64 y w (by omega) (by omega)).mono fun e w' ⟨he, hw⟩ => by
    have l3 : y.log2 < 64 := (Nat.log2_lt (by omega)).2 h
    have hb := bitLen_log y h0 h
    refine ⟨?_, hw.symm⟩
    rw [he, Int.toNat_natCast, hb, ← hs]
    congr 2; omega
set_option maxRecDepth 100000 in
theorem div64_small (lo y : Nat) (hy : 0 < y) (hy64 : y < 18446744073709551616) (hlo : lo < 18446744073709551616) (w : World) :
    Calls Tryd.prog 19 #[.int .u64 0, .int .u64 lo, .int .u64 y] w fun e w' => e = .returned (.tuple #[.int .u64 ((lo / y : Nat) : Int), .int .u64 ((lo % y : Nat) : Int)]) ∧ Below w.heap.size w w' := by
  have h0 : ((y : Int) == 0) = false := by simp; omega
  have hq : (lo : Int) / (y : Int) = ((lo / y : Nat) : Int) := (Int.natCast_ediv _ _).symm
  have hr : (lo : Int) % (y : Int) = ((lo % y : Nat) : Int) := (Int.natCast_emod _ _).symm
  have hq2 : lo / y ≤ lo := Nat.div_le_self _ _
  obtain ⟨q, hq0⟩ : ∃ q, q = lo / y := ⟨_, rfl⟩
  obtain ⟨r, hr0⟩ : ∃ r, r = lo % y := ⟨_, rfl⟩
  rw [← hq0] at hq hq2 ⊢
  rw [← hr0] at hr ⊢
  have hq3 : IntKind.u64.wrap (q : Int) = (q : Int) := by rw [wrapN, Nat.mod_eq_of_lt (by omega)]
  clear hq0 hr0 hq2 hy64 hlo
  go_enter Tryd.func19, Tryd.ntmps19
  go_wp2
  go_quiet (fail)
  go_wp2
  go_returns
  exact ⟨by rw [← hr]; rfl, by (repeat' (first | (with_reducible exact Below.refl _ _) | (with_reducible refine Below.alloc ?_ ?_ _) | (with_reducible refine Below.drew ?_) | (with_reducible refine Below.setCell ?_ ?_ _) | (with_reducible refine Below.thn (by assumption) ?_ ?_) | (with_reducible refine below_drewN ?_ _) | go_size))⟩

set_option maxRecDepth 100000 in
set_option maxHeartbeats 8000000 in
theorem div64_big (hi lo y : Nat) (hhi : 0 < hi) (hy : hi < y) (hy64 : y < 18446744073709551616) (hlo : lo < 18446744073709551616) (w : World) :
    Calls Tryd.prog 19 #[.int .u64 hi, .int .u64 lo, .int .u64 y] w fun e w' => e = .returned (.tuple #[.int .u64 (((hi * 18446744073709551616 + lo) / y : Nat) : Int), .int .u64 (((hi * 18446744073709551616 + lo) % y : Nat) : Int)]) ∧ w = w' := by
  obtain ⟨Y, y1, y0, u, L, d1, d0, hN⟩ := Dv.Nm.make hi lo y hy hy64 hlo
  obtain ⟨s, hs⟩ : ∃ s, 63 - y.log2 = s := ⟨_, rfl⟩
  rw [hs] at hN
  have HS := Lib.hid hs
  clear hs
  have hs63 := hN.s63
  have HN := Lib.hid hN
  have EY : IntKind.u64.wrap ((y : Int) * 2 ^ s) = (Y : Int) := by rw [wrap_powN, ← hN.Yeq, Nat.mod_eq_of_lt hN.Y64]
  have Ey1 : (Y : Int) / 4294967296 = (y1 : Int) := by have := hN.Ysp; have := hN.h3; omega
  have Ey0 : bits .and .u64 (Y : Int) 4294967295 = (y0 : Int) := by rw [mask32 _ hN.Y64]; have := hN.Ysp; have := hN.h3; omega
  obtain ⟨H, hH⟩ : ∃ H, H = hi * 2 ^ s := ⟨_, rfl⟩
  obtain ⟨l, hl⟩ : ∃ l, l = lo / 2 ^ (64 - s) := ⟨_, rfl⟩
  have hu : u = H + l := by rw [hN.ueq, hH, hl]
  have hll : l < 2 ^ s := by rw [hl]; exact Dv.low_lt lo s (by omega) hlo
  have hult : u < 18446744073709551616 := by have := hN.ult; have := hN.Y64; omega
  have Eh : IntKind.u64.wrap ((hi : Int) * 2 ^ s) = (H : Int) := by rw [wrap_powN, ← hH, Nat.mod_eq_of_lt (by omega)]
  have El : (lo : Int) / 2 ^ (64 - s) = (l : Int) := by rw [div_powN, hl]
  have Eu : bits .or .u64 (H : Int) (l : Int) = (u : Int) := by rw [orN _ _ (by omega) (by omega), hH, Dv.or_add _ _ _ hll, hu, hH]
  have EL : IntKind.u64.wrap ((lo : Int) * 2 ^ s) = (L : Int) := by rw [wrap_powN, hN.Leq]
  have hL64 : L < 18446744073709551616 := by rw [hN.Leq]; exact Nat.mod_lt _ (by decide)
  have Ed1 : (L : Int) / 4294967296 = (d1 : Int) := by have := hN.d1eq; omega
  have Ed0 : bits .and .u64 (L : Int) 4294967295 = (d0 : Int) := by rw [mask32 _ hL64]; have := hN.d0eq; omega
  have y1a := hN.h1
  have y1b := hN.h2
  have y0b := hN.h3
  have d1b : d1 < 4294967296 := by have := hN.d1eq; omega
  have d0b : d0 < 4294967296 := by have := hN.d0eq; omega
  have HNo : Hid (Dv.Norm y1 y0 u d1) := ⟨y1a, y1b, y0b, by have := hN.ult; have := hN.Ysp; omega, d1b⟩
  have n0 : ((y : Int) == 0) = false := by simp; omega
  have n1 : ((hi : Int) == 0) = false := by simp; omega
  have HH := Lib.hid hH
  have HU := Lib.hid hu
  clear hN hH hl hu hll
  obtain ⟨q0, hq0⟩ : ∃ q0, q0 = u / y1 := ⟨_, rfl⟩
  obtain ⟨m0, hm0⟩ : ∃ m0, m0 = q0 * y1 := ⟨_, rfl⟩
  obtain ⟨r0, hr0⟩ : ∃ r0, r0 = u % y1 := ⟨_, rfl⟩
  have hmr : m0 + r0 = u := by rw [hm0, hr0, hq0, Nat.mul_comm]; exact Nat.div_add_mod _ _
  have HI0Q1 : Hid (Dv.Inv y1 y0 u d1 q0 r0) := by rw [hq0, hr0]; exact Dv.start HNo.out
  have Eq : IntKind.u64.wrap ((u : Int) / (y1 : Int)) = (q0 : Int) := by
    rw [← Int.natCast_ediv, ← hq0, wrapN, Nat.mod_eq_of_lt (by rw [hq0]; exact Nat.lt_of_le_of_lt (Nat.div_le_self _ _) hult)]
  have Em : IntKind.u64.wrap ((q0 : Int) * (y1 : Int)) = (m0 : Int) := by rw [wrap_mulN, ← hm0, Nat.mod_eq_of_lt (by omega)]
  have Er' : IntKind.u64.wrap ((u : Int) - (m0 : Int)) = (r0 : Int) := by rw [show (u : Int) - (m0 : Int) = (r0 : Int) by omega, wrapN, Nat.mod_eq_of_lt (by omega)]
  clear hq0 hm0 hr0 hmr
  obtain ⟨Q1, hQ1⟩ : ∃ Q1, Q1 = Dv.Q y1 y0 u d1 := ⟨_, rfl⟩
  have Q1b : Q1 < 4294967296 := by rw [hQ1]; exact Dv.q_lt HNo.out
  obtain ⟨v, hv⟩ : ∃ v, v = (u * 4294967296 + d1) % Y := ⟨_, rfl⟩
  have YY : Dv.Y y1 y0 = Y := by rw [HN.out.Ysp]; rfl
  have hleft := Dv.left HNo.out
  have hboth := Dv.both HNo.out d0b
  rw [YY, ← hQ1] at hleft
  rw [YY, ← hQ1, ← hv] at hboth
  rw [← hv] at hleft
  have HN2 : Hid (Dv.Norm y1 y0 v d0) := hboth.1
  obtain ⟨T1, hT1⟩ : ∃ T1, T1 = Q1 * Y := ⟨_, rfl⟩
  rw [← hT1] at hleft
  have hY64 := HN.out.Y64
  obtain ⟨A1, hA1⟩ : ∃ A1, A1 = u * 4294967296 % 18446744073709551616 := ⟨_, rfl⟩
  obtain ⟨A3, hA3⟩ : ∃ A3, A3 = Q1 * Y % 18446744073709551616 := ⟨_, rfl⟩
  have A1b : A1 ≤ 18446744069414584320 := by omega
  have a1 : IntKind.u64.wrap ((u : Int) * 4294967296) = (A1 : Int) := by rw [IntKind.wrap_u64]; omega
  have a3 : IntKind.u64.wrap ((Q1 : Int) * (Y : Int)) = (A3 : Int) := by rw [wrap_mulN, hA3]
  rw [← hT1] at hA3
  obtain ⟨A2, hA2⟩ : ∃ A2, A2 = A1 + d1 := ⟨_, rfl⟩
  have a2 : IntKind.u64.wrap ((A1 : Int) + (d1 : Int)) = (A2 : Int) := by rw [IntKind.wrap_u64]; omega
  have a4 : IntKind.u64.wrap ((A2 : Int) - (A3 : Int)) = (v : Int) := by rw [IntKind.wrap_u64]; omega
  clear hA1 hA3 hA2 hleft A1b
  have hv64 : v < 18446744073709551616 := by have : v < Y := by rw [hv]; exact Nat.mod_lt _ (by omega)
                                             omega
  have HQ1 : Hid (Q1 = Dv.Q y1 y0 u d1) := hQ1
  obtain ⟨q0', hq0⟩ : ∃ q0', q0' = v / y1 := ⟨_, rfl⟩
  obtain ⟨m0', hm0⟩ : ∃ m0', m0' = q0' * y1 := ⟨_, rfl⟩
  obtain ⟨r0', hr0⟩ : ∃ r0', r0' = v % y1 := ⟨_, rfl⟩
  have hmr : m0' + r0' = v := by rw [hm0, hr0, hq0, Nat.mul_comm]; exact Nat.div_add_mod _ _
  have HI0Q0 : Hid (Dv.Inv y1 y0 v d0 q0' r0') := by rw [hq0, hr0]; exact Dv.start HN2.out
  have Fq : IntKind.u64.wrap ((v : Int) / (y1 : Int)) = (q0' : Int) := by
    rw [← Int.natCast_ediv, ← hq0, wrapN, Nat.mod_eq_of_lt (by rw [hq0]; exact Nat.lt_of_le_of_lt (Nat.div_le_self _ _) hv64)]
  have Fm : IntKind.u64.wrap ((q0' : Int) * (y1 : Int)) = (m0' : Int) := by rw [wrap_mulN, ← hm0, Nat.mod_eq_of_lt (by omega)]
  have Fr' : IntKind.u64.wrap ((v : Int) - (m0' : Int)) = (r0' : Int) := by rw [show (v : Int) - (m0' : Int) = (r0' : Int) by omega, wrapN, Nat.mod_eq_of_lt (by omega)]
  clear hq0 hm0 hr0 hmr
  obtain ⟨Q0, hQ0⟩ : ∃ Q0, Q0 = Dv.Q y1 y0 v d0 := ⟨_, rfl⟩
  have Q0b : Q0 < 4294967296 := by rw [hQ0]; exact Dv.q_lt HN2.out
  have hleft2 := Dv.left HN2.out
  rw [YY, ← hQ0] at hleft2
  rw [← hQ0] at hboth
  obtain ⟨R2, hR2⟩ : ∃ R2, R2 = (v * 4294967296 + d0) % Y := ⟨_, rfl⟩
  rw [← hR2] at hleft2 hboth
  obtain ⟨T2, hT2⟩ : ∃ T2, T2 = Q0 * Y := ⟨_, rfl⟩
  rw [← hT2] at hleft2
  obtain ⟨B1, hB1⟩ : ∃ B1, B1 = v * 4294967296 % 18446744073709551616 := ⟨_, rfl⟩
  obtain ⟨B3, hB3⟩ : ∃ B3, B3 = Q0 * Y % 18446744073709551616 := ⟨_, rfl⟩
  have B1b : B1 ≤ 18446744069414584320 := by omega
  have b1 : IntKind.u64.wrap ((v : Int) * 4294967296) = (B1 : Int) := by rw [IntKind.wrap_u64]; omega
  have b3 : IntKind.u64.wrap ((Q0 : Int) * (Y : Int)) = (B3 : Int) := by rw [wrap_mulN, hB3]
  rw [← hT2] at hB3
  obtain ⟨B2, hB2⟩ : ∃ B2, B2 = B1 + d0 := ⟨_, rfl⟩
  have b2 : IntKind.u64.wrap ((B1 : Int) + (d0 : Int)) = (B2 : Int) := by rw [IntKind.wrap_u64]; omega
  have b4 : IntKind.u64.wrap ((B2 : Int) - (B3 : Int)) = (R2 : Int) := by rw [IntKind.wrap_u64]; omega
  have hfin := Dv.final (hi * 18446744073709551616 + lo) y s
  have hb2 := hboth.2
  rw [HN.out.N, HN.out.Yeq] at hb2
  have b5 : (R2 : Int) / 2 ^ s = (((hi * 18446744073709551616 + lo) % y : Nat) : Int) := by rw [div_powN, hb2.2, hfin.2]
  have f1 : (Q1 : Int) * 4294967296 + (Q0 : Int) = (((hi * 18446744073709551616 + lo) / y : Nat) : Int) := by
    have := hb2.1; rw [hfin.1] at this; rw [← this]; omega
  generalize (hi * 18446744073709551616 + lo) / y = qq at f1 ⊢
  generalize (hi * 18446744073709551616 + lo) % y = rr at b5 ⊢
  have f2 : IntKind.u64.wrap (qq : Int) = (qq : Int) := by rw [wrapN, Nat.mod_eq_of_lt (by omega)]
  have HQ0 : Hid (Q0 = Dv.Q y1 y0 v d0) := hQ0
  clear hB1 hB3 hB2 hleft2 hboth hb2 hfin hR2 hT1 hT2 hQ0 hQ1 hv YY B1b hY64 hv64 hL64 hult
  have HY := Lib.hid hy64
  clear hy64 hlo
  go_enter Tryd.func19, Tryd.ntmps19
  go_wp2_with (go_at_call 32; (with_reducible refine (lz_calls y s (by omega) HY.out HS.out _).mono ?_); rintro e w' ⟨rfl, rfl⟩)
  go_loop [15, 16] (fun q r => ∃ (qi ri : Int) (Q R : Nat), q = .int .u64 qi ∧ r = .int .u64 ri ∧ Hid (qi = (Q : Int)) ∧ Hid (ri = (R : Int)) ∧ Hid (Dv.Inv y1 y0 u d1 Q R)) (fun q r => (intOf q).toNat)
  case atStart => exact ⟨_, _, _, _, rfl, rfl, rfl, rfl, HI0Q1.out⟩
  case round =>
    obtain ⟨qi, ri, Q, R, rfl, rfl, hqi, hri, HI⟩ := hrel
    have qa : 0 ≤ qi := by rw [hqi.out]; omega
    have qb : qi ≤ 4294967297 := by rw [hqi.out]; have := HI.out.q1; omega
    have ra : 0 ≤ ri := by rw [hri.out]; omega
    have rb : ri ≤ 4294967295 := by rw [hri.out]; have := HI.out.r1; omega
    by_cases cA : 4294967296 ≤ qi
    · have st := Dv.step HNo.out HI.out (.inl (by have := hqi.out; omega))
      have HST := Lib.hid st
      have w1 : 1 ≤ qi := by have := st.1; have := hqi.out; omega
      clear st
      by_cases cB : 4294967296 ≤ ri + (y1 : Int)
      · have hPQ : Q - 1 = Q1 := by rw [HQ1.out]; exact Dv.broke HNo.out HST.out.2.2.1 HST.out.2.2.2 HST.out.2.1 (by have := hri.out; omega)
        have eP : qi - 1 = (Q1 : Int) := by have := hqi.out; omega
        clear hPQ
        go_wp2
        clear hqi hri HI qa qb ra rb cA
        go_loop [16, 18] (fun r q => ∃ (qi ri : Int) (Q R : Nat), q = .int .u64 qi ∧ r = .int .u64 ri ∧ Hid (qi = (Q : Int)) ∧ Hid (ri = (R : Int)) ∧ Hid (Dv.Inv y1 y0 v d0 Q R)) (fun r q => (intOf q).toNat)
        case atStart => exact ⟨_, _, _, _, rfl, rfl, rfl, rfl, HI0Q0.out⟩
        case round =>
          obtain ⟨qi, ri, Q, R, rfl, rfl, hqi, hri, HI⟩ := hrel
          have qa : 0 ≤ qi := by rw [hqi.out]; omega
          have qb : qi ≤ 4294967297 := by rw [hqi.out]; have := HI.out.q1; omega
          have ra : 0 ≤ ri := by rw [hri.out]; omega
          have rb : ri ≤ 4294967295 := by rw [hri.out]; have := HI.out.r1; omega
          by_cases cA : 4294967296 ≤ qi
          · have st := Dv.step HN2.out HI.out (.inl (by have := hqi.out; omega))
            have HST := Lib.hid st
            have w1 : 1 ≤ qi := by have := st.1; have := hqi.out; omega
            clear st
            by_cases cB : 4294967296 ≤ ri + (y1 : Int)
            · have hPQ : Q - 1 = Q0 := by rw [HQ0.out]; exact Dv.broke HN2.out HST.out.2.2.1 HST.out.2.2.2 HST.out.2.1 (by have := hri.out; omega)
              have eP : qi - 1 = (Q0 : Int) := by have := hqi.out; omega
              clear hPQ
              go_wp2
              go_returns
              exact ⟨rfl, rfl⟩
            · have HI2 : Hid (Dv.Inv y1 y0 v d0 (Q - 1) (R + y1)) := ⟨HST.out.2.2.1, HST.out.2.2.2, by have := HST.out.2.1; omega, by have := hri.out; omega⟩
              go_wp2
              go_round
              case rel => exact ⟨qi - 1, ri + (y1 : Int), Q - 1, R + y1, rfl, rfl, by show _ = _; have := hqi.out; omega, by show _ = _; have := hri.out; omega, HI2.out⟩
              case measure => simp [intOf]; omega
          · have q2 : Q * y0 < 18446744073709551616 := by
              have := Nat.mul_le_mul (show Q ≤ 4294967295 by have := hqi.out; omega) (show y0 ≤ 4294967295 by omega)
              omega
            obtain ⟨mi, hm⟩ : ∃ mi : Int, mi = ((Q * y0 : Nat) : Int) := ⟨_, rfl⟩
            have EP : IntKind.u64.wrap (qi * (y0 : Int)) = mi := by rw [hqi.out, wrap_mulN' _ _ q2, hm]
            have HM := Lib.hid hm
            clear hm q2
            by_cases cC : 4294967296 * ri + (d0 : Int) < mi
            · have st := Dv.step HN2.out HI.out (.inr (by have := HM.out; have := hri.out; omega))
              have HST := Lib.hid st
              have w1 : 1 ≤ qi := by have := st.1; have := hqi.out; omega
              clear st
              by_cases cB : 4294967296 ≤ ri + (y1 : Int)
              · have hPQ : Q - 1 = Q0 := by rw [HQ0.out]; exact Dv.broke HN2.out HST.out.2.2.1 HST.out.2.2.2 HST.out.2.1 (by have := hri.out; omega)
                have eP : qi - 1 = (Q0 : Int) := by have := hqi.out; omega
                clear hPQ
                go_wp2
                go_returns
                exact ⟨rfl, rfl⟩
              · have HI2 : Hid (Dv.Inv y1 y0 v d0 (Q - 1) (R + y1)) := ⟨HST.out.2.2.1, HST.out.2.2.2, by have := HST.out.2.1; omega, by have := hri.out; omega⟩
                go_wp2
                go_round
                case rel => exact ⟨qi - 1, ri + (y1 : Int), Q - 1, R + y1, rfl, rfl, by show _ = _; have := hqi.out; omega, by show _ = _; have := hri.out; omega, HI2.out⟩
                case measure => simp [intOf]; omega
            · have hQ0 : Q = Q0 := by rw [HQ0.out]; exact Dv.out HN2.out HI.out (by have := HM.out; have := hri.out; omega)
              have hqq : qi = (Q0 : Int) := by rw [hqi.out, hQ0]
              clear hQ0
              subst hqq
              go_wp2
              go_returns
              exact ⟨rfl, rfl⟩
      · have HI2 : Hid (Dv.Inv y1 y0 u d1 (Q - 1) (R + y1)) := ⟨HST.out.2.2.1, HST.out.2.2.2, by have := HST.out.2.1; omega, by have := hri.out; omega⟩
        go_wp2
        go_round
        case rel => exact ⟨qi - 1, ri + (y1 : Int), Q - 1, R + y1, rfl, rfl, by show _ = _; have := hqi.out; omega, by show _ = _; have := hri.out; omega, HI2.out⟩
        case measure => simp [intOf]; omega
    · have q2 : Q * y0 < 18446744073709551616 := by
        have := Nat.mul_le_mul (show Q ≤ 4294967295 by have := hqi.out; omega) (show y0 ≤ 4294967295 by omega)
        omega
      obtain ⟨mi, hm⟩ : ∃ mi : Int, mi = ((Q * y0 : Nat) : Int) := ⟨_, rfl⟩
      have EP : IntKind.u64.wrap (qi * (y0 : Int)) = mi := by rw [hqi.out, wrap_mulN' _ _ q2, hm]
      have HM := Lib.hid hm
      clear hm q2
      by_cases cC : 4294967296 * ri + (d1 : Int) < mi
      · have st := Dv.step HNo.out HI.out (.inr (by have := HM.out; have := hri.out; omega))
        have HST := Lib.hid st
        have w1 : 1 ≤ qi := by have := st.1; have := hqi.out; omega
        clear st
        by_cases cB : 4294967296 ≤ ri + (y1 : Int)
        · have hPQ : Q - 1 = Q1 := by rw [HQ1.out]; exact Dv.broke HNo.out HST.out.2.2.1 HST.out.2.2.2 HST.out.2.1 (by have := hri.out; omega)
          have eP : qi - 1 = (Q1 : Int) := by have := hqi.out; omega
          clear hPQ
          go_wp2
          clear hqi hri HI qa qb ra rb cA
          go_loop [16, 18] (fun r q => ∃ (qi ri : Int) (Q R : Nat), q = .int .u64 qi ∧ r = .int .u64 ri ∧ Hid (qi = (Q : Int)) ∧ Hid (ri = (R : Int)) ∧ Hid (Dv.Inv y1 y0 v d0 Q R)) (fun r q => (intOf q).toNat)
          case atStart => exact ⟨_, _, _, _, rfl, rfl, rfl, rfl, HI0Q0.out⟩
          case round =>
            obtain ⟨qi, ri, Q, R, rfl, rfl, hqi, hri, HI⟩ := hrel
            have qa : 0 ≤ qi := by rw [hqi.out]; omega
            have qb : qi ≤ 4294967297 := by rw [hqi.out]; have := HI.out.q1; omega
            have ra : 0 ≤ ri := by rw [hri.out]; omega
            have rb : ri ≤ 4294967295 := by rw [hri.out]; have := HI.out.r1; omega
            by_cases cA : 4294967296 ≤ qi
            · have st := Dv.step HN2.out HI.out (.inl (by have := hqi.out; omega))
              have HST := Lib.hid st
              have w1 : 1 ≤ qi := by have := st.1; have := hqi.out; omega
              clear st
              by_cases cB : 4294967296 ≤ ri + (y1 : Int)
              · have hPQ : Q - 1 = Q0 := by rw [HQ0.out]; exact Dv.broke HN2.out HST.out.2.2.1 HST.out.2.2.2 HST.out.2.1 (by have := hri.out; omega)
                have eP : qi - 1 = (Q0 : Int) := by have := hqi.out; omega
                clear hPQ
                go_wp2
                go_returns
                exact ⟨rfl, rfl⟩
              · have HI2 : Hid (Dv.Inv y1 y0 v d0 (Q - 1) (R + y1)) := ⟨HST.out.2.2.1, HST.out.2.2.2, by have := HST.out.2.1; omega, by have := hri.out; omega⟩
                go_wp2
                go_round
                case rel => exact ⟨qi - 1, ri + (y1 : Int), Q - 1, R + y1, rfl, rfl, by show _ = _; have := hqi.out; omega, by show _ = _; have := hri.out; omega, HI2.out⟩
                case measure => simp [intOf]; omega
            · have q2 : Q * y0 < 18446744073709551616 := by
                have := Nat.mul_le_mul (show Q ≤ 4294967295 by have := hqi.out; omega) (show y0 ≤ 4294967295 by omega)
                omega
              obtain ⟨mi, hm⟩ : ∃ mi : Int, mi = ((Q * y0 : Nat) : Int) := ⟨_, rfl⟩
              have EP : IntKind.u64.wrap (qi * (y0 : Int)) = mi := by rw [hqi.out, wrap_mulN' _ _ q2, hm]
              have HM := Lib.hid hm
              clear hm q2
              by_cases cC : 4294967296 * ri + (d0 : Int) < mi
              · have st := Dv.step HN2.out HI.out (.inr (by have := HM.out; have := hri.out; omega))
                have HST := Lib.hid st
                have w1 : 1 ≤ qi := by have := st.1; have := hqi.out; omega
                clear st
                by_cases cB : 4294967296 ≤ ri + (y1 : Int)
                · have hPQ : Q - 1 = Q0 := by rw [HQ0.out]; exact Dv.broke HN2.out HST.out.2.2.1 HST.out.2.2.2 HST.out.2.1 (by have := hri.out; omega)
                  have eP : qi - 1 = (Q0 : Int) := by have := hqi.out; omega
                  clear hPQ
                  go_wp2
                  go_returns
                  exact ⟨rfl, rfl⟩
                · have HI2 : Hid (Dv.Inv y1 y0 v d0 (Q - 1) (R + y1)) := ⟨HST.out.2.2.1, HST.out.2.2.2, by have := HST.out.2.1; omega, by have := hri.out; omega⟩
                  go_wp2
                  go_round
                  case rel => exact ⟨qi - 1, ri + (y1 : Int), Q - 1, R + y1, rfl, rfl, by show _ = _; have := hqi.out; omega, by show _ = _; have := hri.out; omega, HI2.out⟩
                  case measure => simp [intOf]; omega
              · have hQ0 : Q = Q0 := by rw [HQ0.out]; exact Dv.out HN2.out HI.out (by have := HM.out; have := hri.out; omega)
                have hqq : qi = (Q0 : Int) := by rw [hqi.out, hQ0]
                clear hQ0
                subst hqq
                go_wp2
                go_returns
                exact ⟨rfl, rfl⟩
        · have HI2 : Hid (Dv.Inv y1 y0 u d1 (Q - 1) (R + y1)) := ⟨HST.out.2.2.1, HST.out.2.2.2, by have := HST.out.2.1; omega, by have := hri.out; omega⟩
          go_wp2
          go_round
          case rel => exact ⟨qi - 1, ri + (y1 : Int), Q - 1, R + y1, rfl, rfl, by show _ = _; have := hqi.out; omega, by show _ = _; have := hri.out; omega, HI2.out⟩
          case measure => simp [intOf]; omega
      · have hQ1 : Q = Q1 := by rw [HQ1.out]; exact Dv.out HNo.out HI.out (by have := HM.out; have := hri.out; omega)
        have hqq : qi = (Q1 : Int) := by rw [hqi.out, hQ1]
        clear hQ1
        subst hqq
        go_wp2
        clear hqi hri HI qa qb ra rb cA
        go_loop [16, 18] (fun r q => ∃ (qi ri : Int) (Q R : Nat), q = .int .u64 qi ∧ r = .int .u64 ri ∧ Hid (qi = (Q : Int)) ∧ Hid (ri = (R : Int)) ∧ Hid (Dv.Inv y1 y0 v d0 Q R)) (fun r q => (intOf q).toNat)
        case atStart => exact ⟨_, _, _, _, rfl, rfl, rfl, rfl, HI0Q0.out⟩
        case round =>
          obtain ⟨qi, ri, Q, R, rfl, rfl, hqi, hri, HI⟩ := hrel
          have qa : 0 ≤ qi := by rw [hqi.out]; omega
          have qb : qi ≤ 4294967297 := by rw [hqi.out]; have := HI.out.q1; omega
          have ra : 0 ≤ ri := by rw [hri.out]; omega
          have rb : ri ≤ 4294967295 := by rw [hri.out]; have := HI.out.r1; omega
          by_cases cA : 4294967296 ≤ qi
          · have st := Dv.step HN2.out HI.out (.inl (by have := hqi.out; omega))
            have HST := Lib.hid st
            have w1 : 1 ≤ qi := by have := st.1; have := hqi.out; omega
            clear st
            by_cases cB : 4294967296 ≤ ri + (y1 : Int)
            · have hPQ : Q - 1 = Q0 := by rw [HQ0.out]; exact Dv.broke HN2.out HST.out.2.2.1 HST.out.2.2.2 HST.out.2.1 (by have := hri.out; omega)
              have eP : qi - 1 = (Q0 : Int) := by have := hqi.out; omega
              clear hPQ
              go_wp2
              go_returns
              exact ⟨rfl, rfl⟩
            · have HI2 : Hid (Dv.Inv y1 y0 v d0 (Q - 1) (R + y1)) := ⟨HST.out.2.2.1, HST.out.2.2.2, by have := HST.out.2.1; omega, by have := hri.out; omega⟩
              go_wp2
              go_round
              case rel => exact ⟨qi - 1, ri + (y1 : Int), Q - 1, R + y1, rfl, rfl, by show _ = _; have := hqi.out; omega, by show _ = _; have := hri.out; omega, HI2.out⟩
              case measure => simp [intOf]; omega
          · have q2 : Q * y0 < 18446744073709551616 := by
              have := Nat.mul_le_mul (show Q ≤ 4294967295 by have := hqi.out; omega) (show y0 ≤ 4294967295 by omega)
              omega
            obtain ⟨mi, hm⟩ : ∃ mi : Int, mi = ((Q * y0 : Nat) : Int) := ⟨_, rfl⟩
            have EP : IntKind.u64.wrap (qi * (y0 : Int)) = mi := by rw [hqi.out, wrap_mulN' _ _ q2, hm]
            have HM := Lib.hid hm
            clear hm q2
            by_cases cC : 4294967296 * ri + (d0 : Int) < mi
            · have st := Dv.step HN2.out HI.out (.inr (by have := HM.out; have := hri.out; omega))
              have HST := Lib.hid st
              have w1 : 1 ≤ qi := by have := st.1; have := hqi.out; omega
              clear st
              by_cases cB : 4294967296 ≤ ri + (y1 : Int)
              · have hPQ : Q - 1 = Q0 := by rw [HQ0.out]; exact Dv.broke HN2.out HST.out.2.2.1 HST.out.2.2.2 HST.out.2.1 (by have := hri.out; omega)
                have eP : qi - 1 = (Q0 : Int) := by have := hqi.out; omega
                clear hPQ
                go_wp2
                go_returns
                exact ⟨rfl, rfl⟩
              · have HI2 : Hid (Dv.Inv y1 y0 v d0 (Q - 1) (R + y1)) := ⟨HST.out.2.2.1, HST.out.2.2.2, by have := HST.out.2.1; omega, by have := hri.out; omega⟩
                go_wp2
                go_round
                case rel => exact ⟨qi - 1, ri + (y1 : Int), Q - 1, R + y1, rfl, rfl, by show _ = _; have := hqi.out; omega, by show _ = _; have := hri.out; omega, HI2.out⟩
                case measure => simp [intOf]; omega
            · have hQ0 : Q = Q0 := by rw [HQ0.out]; exact Dv.out HN2.out HI.out (by have := HM.out; have := hri.out; omega)
              have hqq : qi = (Q0 : Int) := by rw [hqi.out, hQ0]
              clear hQ0
              subst hqq
              go_wp2
              go_returns
              exact ⟨rfl, rfl⟩

end Go.Proofs.YtmjlifbnndmjoaaDoor
