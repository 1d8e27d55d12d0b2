/- Contracts of num.lcm, num.power, num.choices, and of bits.Div64 at a divisor below 2^32. Contract of num.choices. Contracts of num.Monad and num.Dyad at every verb's number. -/
import Derived.Test.YtdedbfbkakofgaaAtomFreshM19
import Derived.Test.YtdedbfbkakofgaaAtomFreshM20
import Derived.Test.YtdedbfbkakofgaaAtomFreshM2
namespace Go.Proofs.Ytdedbfbkakofgaa
open Go.RowKit
set_option linter.unusedVariables false
set_option linter.unusedSimpArgs false

def SomeRem (w : World) (q : Nat) (e : Ending) (w' : World) : Prop := ∃ r : Int, Ret w (.tuple #[.int .u64 (q : Int), .int .u64 r]) e w'
set_option maxHeartbeats 800000 in
theorem div64_any (h l y : Nat) (w : World) (hy : h < y) (hl : l ≤ 18446744073709551615) (hb : y ≤ 4294967295) :
    Calls Try.prog 132 #[.int .u64 h, .int .u64 l, .int .u64 y] w (SomeRem w (quo128 h l y)) := by
  have h2 : ((y : Int) == 0) = false := by simp; omega
  have h3 : ¬ (y : Int) ≤ h := by omega
  have h4 : (1 : Int) ≤ y := by omega
  have h5 : ¬ (y : Int) = 0 := by omega
  by_cases h0 : h = 0
  · subst h0
    rw [quo128_zero]
    have hle : l / y ≤ l := Nat.div_le_self _ _
    have hq : IntKind.u64.wrap ((l : Int) / (y : Int)) = ((l / y : Nat) : Int) := by rw [← Int.natCast_ediv]; exact wrap_u64_nat _ (by omega)
    go_enter Try.func132, Try.ntmps132
    go_wp2
    go_quiet (fail)
    go_wp2
    go_ret2
    exact ⟨(l : Int) % y, Ret.mk _ rfl⟩
  · obtain ⟨L1, L2, L3⟩ := bitLen_bd (show 1 ≤ y by omega) hb
    obtain ⟨L, HL⟩ : ∃ L, Hid (Lib.bitLen y = L) := ⟨_, rfl⟩
    rw [HL.out] at L1 L2 L3
    obtain ⟨D⟩ := d64 (h := h) (l := l) hy (by omega) L1 L2 L3
    obtain ⟨Y, Z, H, G, U, T, T1, T0, q1, M, r, V, q0, eY, eZ, eA, eH, eR, eU, eT, eT1, eT0, eq1, eM, er, eV, eq0, ⟨bZ, bZ'⟩, bY, bU, bT, bT1, bT0, bq1, bM, br, bV, bq0, fin⟩ := D
    have HF := Lib.hid fin
    clear fin L3
    have h1 : ((h : Int) == 0) = false := by simpa using h0
    go_enter Try.func132, Try.ntmps132
    go_wp2_with (go_at_call 138; refine (Try.bits_LeadingZeros64 _ _ (by omega) (by omega)).mono ?_; rintro e w' ⟨rfl, rfl⟩; rw [Int.toNat_natCast, HL.out])
    have HV := Lib.hid eV
    have HZ := Lib.hid bZ'
    have Heq0 := Lib.hid eq0
    have HB := Lib.hid bV
    clear eY eZ eA eH eR eU eT eT1 eT0 eq1 eM er eV hb hl hy bY bT bM bV bZ' h4 h5 h2 h3 h1 h0
    have c1 : decide ((4294967296 : Int) ≤ q1) = false := by simp; omega
    obtain ⟨R1, HR1⟩ : ∃ R1 : Nat, Hid (R1 = 4294967296 * r) := ⟨_, rfl⟩
    have b1 : R1 ≤ 18446744069414584320 := by have := HR1.out; omega
    have c2 : IntKind.u64.wrap (4294967296 * (r : Int)) = (R1 : Int) := by rw [HR1.out, IntKind.wrap_u64]; omega
    have eV' := HV.out
    obtain ⟨M2, r3, eM2, er3, b3⟩ : ∃ M2 r3 : Nat, IntKind.u64.wrap ((q0 : Int) * (Z : Int)) = (M2 : Int) ∧ (V : Int) - (M2 : Int) = (r3 : Int) ∧ r3 ≤ 4294967294 := d64_rest bZ HZ.out Heq0.out HB.out
    obtain ⟨R3, HR3⟩ : ∃ R3 : Nat, Hid (R3 = 4294967296 * r3) := ⟨_, rfl⟩
    have b4 : R3 ≤ 18446744069414584320 := by have := HR3.out; omega
    have c4 : IntKind.u64.wrap (4294967296 * (r3 : Int)) = (R3 : Int) := by rw [HR3.out, IntKind.wrap_u64]; omega
    have b5 : M2 ≤ V := by omega
    clear br b3
    have bV' := HB.out
    obtain ⟨A, HA⟩ : ∃ A : Nat, Hid (A = 4294967296 * q1) := ⟨_, rfl⟩
    have b6 : A ≤ 18446744069414584320 := by have := HA.out; omega
    have c6 : IntKind.u64.wrap ((q1 : Int) * 4294967296) = (A : Int) := by rw [HA.out, IntKind.wrap_u64]; omega
    obtain ⟨B, c7⟩ := wrap_ex ((V : Int) * 4294967296)
    have c5 : decide ((4294967296 : Int) ≤ q0) = false := by simp; omega
    have c8 : decide ((R1 : Int) + T1 < 0) = false := by simp; omega
    have c9 : decide ((R3 : Int) + T0 < 0) = false := by simp; omega
    refine wp_loop_rounds 1 ?_
    rw [rounds_succ]
    go_wp2
    refine wp_loop_rounds 1 ?_
    rw [rounds_succ]
    go_wp2
    go_ret2
    refine ⟨_, Ret.mk0 (twi ⟨?_, rfl⟩)⟩
    rw [← HF.out, HA.out]
    omega

theorem ov_val {n : Int} (h : ¬ n ≤ 9223372036854775807) : (0 : Int) = val n ∧ (14 : Int) = err n := by
  have hf : fit n = false := fit_not (by omega)
  rw [val_not hf, err_not hf]; exact ⟨rfl, rfl⟩
set_option maxHeartbeats 800000 in
theorem lcm_any (a b : Nat) (w : World) (ha : a ≤ 9223372036854775808) (hb : b ≤ 9223372036854775808) :
    Calls Try.prog 119 #[.int .u64 a, .int .u64 b] w (Ret w (.tuple #[.int .i64 (val (Nat.lcm a b)), .int .i64 (err (Nat.lcm a b))])) := by
  by_cases a0 : a = 0
  · subst a0
    rw [Nat.lcm_zero_left, val_of (fit_of (by omega)), err_of (fit_of (by omega))]
    go_enter Try.func119, Try.ntmps119
    go_wp2
    go_ret2
    exact Ret.mk0 rfl
  have ha0 : ((a : Int) == 0) = false := by simpa using a0
  by_cases b0 : b = 0
  · subst b0
    rw [Nat.lcm_zero_right, val_of (fit_of (by omega)), err_of (fit_of (by omega))]
    go_enter Try.func119, Try.ntmps119
    go_wp2
    go_ret2
    exact Ret.mk0 rfl
  have hb0 : ((b : Int) == 0) = false := by simpa using b0
  have hg : 1 ≤ Nat.gcd a b := Nat.gcd_pos_of_pos_left _ (by omega)
  have hle : a / Nat.gcd a b ≤ a := Nat.div_le_self _ _
  have HL := Lib.hid (lcm_eq (b := b) a0)
  obtain ⟨g, HG⟩ : ∃ g, Hid (Nat.gcd a b = g) := ⟨_, rfl⟩
  rw [HG.out] at hg hle
  have hq : (a : Int) / (g : Int) = ((a / g : Nat) : Int) := by rw [Int.natCast_ediv]
  obtain ⟨k, HK⟩ : ∃ k, Hid (a / g = k) := ⟨_, rfl⟩
  rw [HK.out] at hle hq
  have HL' : Hid (k * b = Nat.lcm a b) := by show k * b = Nat.lcm a b; rw [← HK.out, ← HG.out]; exact HL.out
  clear HL
  by_cases hh : k * b < 18446744073709551616
  · have h1 : k * b / 18446744073709551616 = 0 := Nat.div_eq_of_lt hh
    have h2 : k * b % 18446744073709551616 = k * b := Nat.mod_eq_of_lt hh
    have H1 := Lib.hid h1
    have H2 := Lib.hid h2
    have H3 := Lib.hid hh
    clear h1 h2 hh
    go_enter Try.func119, Try.ntmps119
    go_wp2_with fail
    refine (gcd_any _ _ _ (by omega) (by omega)).mono ?_
    rintro e w' ⟨rfl, n1, rfl⟩
    rw [HG.out]
    go_wp2_with fail
    refine (Try.bits_Mul64 _ _ (by omega) (by omega) _).mono ?_
    rintro e w' ⟨rfl, rfl⟩
    rw [H1.out, H2.out]
    have hh := H3.out
    obtain ⟨N, HN⟩ : ∃ N, Hid (k * b = N) := ⟨_, rfl⟩
    rw [HN.out] at hh
    have HE : Hid (N = Nat.lcm a b) := by show N = Nat.lcm a b; rw [← HN.out]; exact HL'.out
    rw [HN.out, ← HE.out]
    go_wp2_with fail
    refine (plain_any _ _ (by omega) (by omega)).mono ?_
    rintro e w' ⟨rfl, n2, rfl⟩
    go_wp2
    go_ret2
    exact Ret.mk (n1 + n2) (by rw [← HE.out]; rfl)
  · have h0 : ¬ k * b / 18446744073709551616 = 0 := by
      intro h
      have := Nat.div_add_mod (k * b) 18446744073709551616
      have := Nat.mod_lt (k * b) (show 0 < 18446744073709551616 by omega)
      omega
    obtain ⟨u, HU⟩ : ∃ u, Hid (k * b / 18446744073709551616 = u) := ⟨_, rfl⟩
    rw [HU.out] at h0
    have h1 : ((u : Int) != 0) = true := by simpa using h0
    obtain ⟨v0, v14⟩ := ov_val (n := (Nat.lcm a b : Int)) (by have := HL'.out; omega)
    rw [← v0, ← v14]
    clear v0 v14 hh
    go_enter Try.func119, Try.ntmps119
    go_wp2_with fail
    refine (gcd_any _ _ _ (by omega) (by omega)).mono ?_
    rintro e w' ⟨rfl, n1, rfl⟩
    rw [HG.out]
    go_wp2_with fail
    refine (Try.bits_Mul64 _ _ (by omega) (by omega) _).mono ?_
    rintro e w' ⟨rfl, rfl⟩
    rw [HU.out]
    go_wp2
    go_ret2
    exact Ret.mk n1 rfl

set_option maxHeartbeats 800000 in
theorem power_any (x y : Int) (w : World) (hx : -9223372036854775808 ≤ x ∧ x ≤ 9223372036854775807) (hy : -9223372036854775808 ≤ y ∧ y ≤ 9223372036854775807) :
    Calls Try.prog 121 #[.int .i64 x, .int .i64 y] w (Ret w (.tuple #[.int .i64 (pwV x y), .int .i64 (pwE x y)])) := by
  by_cases h1 : x = 1
  · subst h1
    rw [(pw_one y).1, (pw_one y).2]
    go_enter Try.func121, Try.ntmps121
    go_wp2
    go_ret2
    exact Ret.mk0 rfl
  by_cases h2 : x = -1
  · subst h2
    rw [(pw_mone y).1, (pw_mone y).2]
    have hb := i64_and1 y
    go_enter Try.func121, Try.ntmps121
    go_wp2
    go_ret2
    exact Ret.mk0 rfl
  have g1 : (x == 1) = false := by simpa using h1
  have g2 : (x == -1) = false := by simpa using h2
  by_cases h3 : y < 0
  · rw [(pw_neg h1 h2 h3).1, (pw_neg h1 h2 h3).2]
    go_enter Try.func121, Try.ntmps121
    go_wp2
    go_ret2
    exact Ret.mk0 rfl
  rw [(pw_in h1 h2 (show 0 ≤ y by omega)).1, (pw_in h1 h2 (show 0 ≤ y by omega)).2]
  by_cases h4 : x = 0
  · subst h4
    obtain ⟨p1, p2⟩ := pow_zero_bit (y := y) (by omega)
    rw [← p1, p2]
    clear p1 p2
    go_enter Try.func121, Try.ntmps121
    go_wp2_with (go_at_call 120; refine (truth_any _ _).mono ?_; rintro e w' ⟨rfl, n1, rfl⟩)
    go_ret2
    exact Ret.mk _ rfl
  have g4 : (x == 0) = false := by simpa using h4
  by_cases h5 : 63 < y
  · have hf := pow_big (x := x) (b := y.toNat) (by omega) (by omega)
    rw [val_not hf, err_not hf]
    clear hf
    go_enter Try.func121, Try.ntmps121
    go_wp2
    go_ret2
    exact Ret.mk0 rfl
  have hbig : 2 ≤ x.natAbs := by omega
  obtain ⟨n, rfl⟩ := Int.eq_ofNat_of_zero_le (show 0 ≤ y by omega)
  rw [Int.toNat_natCast]
  have HB := Lib.hid hbig
  clear hbig
  go_enter Try.func121, Try.ntmps121
  go_wp2
  go_loopw [6, 7, 8] (fun P OK i wr => ∃ (k : Nat) (p : Int) (ok : Bool), k ≤ n ∧ i = .int .i64 k ∧ P = .int .i64 p ∧ OK = .bool ok ∧ Hid (p = val (x ^ k)) ∧ Hid (ok = fit (x ^ k)) ∧ ∃ q, wr = w.drewN q) (fun _ _ i _ => n - (intOf i).toNat)
  case atStart => exact ⟨0, 1, true, by omega, rfl, rfl, rfl, pow_start.1, pow_start.2, 0, rfl⟩
  case round =>
    obtain ⟨k, p, ok, hk, rfl, rfl, rfl, hp, hok, q, rfl⟩ := hrel
    obtain ⟨bp, bp'⟩ : -9223372036854775808 ≤ p ∧ p ≤ 9223372036854775807 := by rw [hp.out]; exact val_bd _
    by_cases hlt : k < n
    · have hlt' : (k : Int) < n := by omega
      cases ok
      · have he := pow_stop hk hp hok HB
        go_wp2_with fail
        rw [he.out.1, he.out.2]
        refine (fits_any _ _).mono ?_
        rintro e w' ⟨rfl, n1, rfl⟩
        go_wp2
        go_ret2
        exact Ret.mk (q + n1) rfl
      · have he := pow_go hp hok
        go_wp2_with fail
        refine (mul_any _ _ _ ⟨bp, bp'⟩ hx).mono ?_
        rintro e w' ⟨rfl, n1, rfl⟩
        go_wp2
        go_roundw
        case rel => exact ⟨k + 1, val (p * x), fit (p * x), by omega, by go_num, rfl, rfl, he.1, he.2, _, rfl⟩
        case measure => simp [intOf]; omega
    · have hkn : k = n := by omega
      subst hkn
      go_wp2_with fail
      rw [hp.out, hok.out]
      refine (fits_any _ _).mono ?_
      rintro e w' ⟨rfl, n1, rfl⟩
      go_wp2
      go_ret2
      exact Ret.mk (q + n1) rfl
end Go.Proofs.Ytdedbfbkakofgaa

namespace Go.Proofs.Ytdedbfbkakofgaa
open Go.RowKit
set_option linter.unusedVariables false
set_option linter.unusedSimpArgs false

theorem ch_over {m k i c n hi : Nat} (hik : i + 1 ≤ k) (hc : c = binom (m + i) i) (hn : n = m + (i + 1)) (hh : c * n / 18446744073709551616 = hi) (hge : i + 1 ≤ hi) :
    (0 : Int) = val (binom (m + k) k) ∧ (14 : Int) = err (binom (m + k) k) := by
  have h1 : (i + 1) * 18446744073709551616 ≤ c * n := by
    have := Nat.div_mul_le_self (c * n) 18446744073709551616
    rw [hh] at this
    exact Nat.le_trans (Nat.mul_le_mul_right _ hge) this
  have h2 : 18446744073709551616 ≤ binom (m + (i + 1)) (i + 1) := by
    rw [← binom_div m i, ← hc, ← hn, Nat.le_div_iff_mul_le (by omega), Nat.mul_comm]; exact h1
  have h3 := binom_mono (m := m) hik
  exact ov_val (by omega)
theorem ch_over2 {m k i c' : Nat} (hik : i + 1 ≤ k) (hc : c' = binom (m + (i + 1)) (i + 1)) (hge : ¬ c' ≤ 9223372036854775807) :
    (0 : Int) = val (binom (m + k) k) ∧ (14 : Int) = err (binom (m + k) k) := by
  have h3 := binom_mono (m := m) hik
  exact ov_val (by omega)
theorem ch_step {m i c n hi lo : Nat} (hc : c = binom (m + i) i) (hn : n = m + (i + 1)) (hh : c * n / 18446744073709551616 = hi) (hl : c * n % 18446744073709551616 = lo) :
    quo128 hi lo (i + 1) = binom (m + (i + 1)) (i + 1) := by
  have := Nat.div_add_mod (c * n) 18446744073709551616
  unfold quo128
  rw [show hi * 18446744073709551616 + lo = c * n by rw [← hh, ← hl, Nat.mul_comm]; exact this]
  rw [hc, hn, binom_div]

set_option maxHeartbeats 1600000 in
theorem choices_at (k m : Nat) (x y : Int) (w : World) (hkm : k ≤ m) (e1 : y - (k : Int) = (m : Int)) (hy : y ≤ 9223372036854775807) (hx : x = (k : Int) ∨ x = (m : Int)) :
    Calls Try.prog 122 #[.int .i64 x, .int .i64 y] w (Ret w (.tuple #[.int .i64 (val (binom (m + k) k)), .int .i64 (err (binom (m + k) k))])) := by
  have e2 : y - (m : Int) = (k : Int) := by omega
  have hy0 : 0 ≤ y := by omega
  have hmy : (m : Int) ≤ y := by omega
  have hky : (k : Int) ≤ y := by omega
  have hkm' : (k : Int) ≤ (m : Int) := by omega
  have hb : (0 : Int) ≤ (k : Int) := by omega
  have m1 : min (k : Int) (m : Int) = (k : Int) := by omega
  have m2 : min (m : Int) (k : Int) = (k : Int) := by omega
  have d0 : decide (y < 0) = false := by simp; omega
  have d1 : decide ((k : Int) < 0) = false := by simp
  have d2 : decide ((m : Int) < 0) = false := by simp
  have d3 : decide (y < (k : Int)) = false := by simp; omega
  have d4 : decide (y < (m : Int)) = false := by simp; omega
  rcases hx with rfl | rfl
  all_goals
    go_enter Try.func122, Try.ntmps122
    go_wp2
    clear m1 m2 d0 d1 d2 d3 d4 e2
    go_loopw [7, 8] (fun C I wr => ∃ i c : Nat, i ≤ k ∧ I = .int .i64 ((i : Int) + 1) ∧ C = .int .u64 c ∧ Hid (c = binom (m + i) i) ∧ c ≤ 9223372036854775807 ∧ ∃ q, wr = w.drewN q) (fun _ I _ => k + 1 - (intOf I).toNat)
    case atStart => exact ⟨0, 1, by omega, rfl, rfl, (binom_zero _).symm, by omega, 0, rfl⟩
    case round =>
      obtain ⟨i, c, hi, rfl, rfl, hc, hcb, q, rfl⟩ := hrel
      by_cases hlt : i < k
      · have i62 := binom_small (m := m) (i := i) (by omega) (by rw [← hc.out]; exact hcb)
        obtain ⟨n, hn, HN⟩ : ∃ n : Nat, (m : Int) + ((i : Int) + 1) = (n : Int) ∧ Hid (n = m + (i + 1)) := ⟨m + (i + 1), by omega, rfl⟩
        have hnb : n ≤ 9223372036854775807 := by have := HN.out; omega
        obtain ⟨hh, Hh⟩ : ∃ hh, Hid (c * n / 18446744073709551616 = hh) := ⟨_, rfl⟩
        obtain ⟨ll, Hl⟩ : ∃ ll, Hid (c * n % 18446744073709551616 = ll) := ⟨_, rfl⟩
        have hlb : ll ≤ 18446744073709551615 := by
          have := Hl.out
          have := Nat.mod_lt (c * n) (show 0 < 18446744073709551616 by omega)
          omega
        have hlt' : (i : Int) + 1 ≤ k := by omega
        by_cases hge : i + 1 ≤ hh
        · have HF := Lib.hid (ch_over (k := k) (by omega) hc.out HN.out Hh.out hge)
          have hge' : (i : Int) + 1 ≤ hh := by omega
          go_wp2_with fail
          refine (Try.bits_Mul64 _ _ (by omega) (by omega) _).mono ?_
          rintro e w' ⟨rfl, rfl⟩
          rw [Hh.out, Hl.out]
          go_wp2
          go_ret2
          exact Ret.mk _ (twi HF.out)
        · have hge' : (hh : Int) < (i : Int) + 1 := by omega
          obtain ⟨c', Hc'⟩ : ∃ c', Hid (quo128 hh ll (i + 1) = c') := ⟨_, rfl⟩
          have Hb : Hid (c' = binom (m + (i + 1)) (i + 1)) := by
            show c' = binom (m + (i + 1)) (i + 1)
            rw [← Hc'.out]; exact ch_step hc.out HN.out Hh.out Hl.out
          go_wp2_with fail
          refine (Try.bits_Mul64 _ _ (by omega) (by omega) _).mono ?_
          rintro e w' ⟨rfl, rfl⟩
          rw [Hh.out, Hl.out]
          go_wp2_with fail
          rw [show (i : Int) + 1 = ((i + 1 : Nat) : Int) from rfl]
          refine (div64_any hh ll (i + 1) _ (by omega) (by omega) (by omega)).mono ?_
          rintro e w' ⟨r, rfl, n1, rfl⟩
          rw [Hc'.out]
          by_cases hbig : c' ≤ 9223372036854775807
          · have hbig' : (c' : Int) ≤ 9223372036854775807 := by omega
            go_wp2
            exact ⟨⟨i + 1, c', by omega, rfl, rfl, Hb, hbig, _, rfl⟩, by simp [intOf]; omega⟩
          · have HF := Lib.hid (ch_over2 (k := k) (by omega) Hb.out hbig)
            have hbig' : (9223372036854775807 : Int) < (c' : Int) := by omega
            go_wp2
            go_ret2
            exact Ret.mk _ (twi HF.out)
      · have hik : i = k := by omega
        subst hik
        go_wp2_with fail
        refine (plain_any _ _ (by omega) (by omega)).mono ?_
        rintro e w' ⟨rfl, n1, rfl⟩
        go_wp2
        go_ret2
        exact Ret.mk (q + n1) (by rw [← hc.out]; rfl)

set_option maxHeartbeats 400000 in
theorem choices_any (x y : Int) (w : World) (hx : -9223372036854775808 ≤ x ∧ x ≤ 9223372036854775807) (hy : -9223372036854775808 ≤ y ∧ y ≤ 9223372036854775807) :
    Calls Try.prog 122 #[.int .i64 x, .int .i64 y] w (Ret w (.tuple #[.int .i64 (chV x y), .int .i64 (chE x y)])) := by
  by_cases h1 : y < 0
  · rw [(ch_neg h1).1, (ch_neg h1).2]
    go_enter Try.func122, Try.ntmps122
    go_wp2
    go_ret2
    exact Ret.mk0 rfl
  by_cases h2 : x < 0
  · rw [(ch_out h1 (.inl h2)).1, (ch_out h1 (.inl h2)).2]
    go_enter Try.func122, Try.ntmps122
    go_wp2
    go_ret2
    exact Ret.mk0 rfl
  by_cases h3 : y < x
  · rw [(ch_out h1 (.inr h3)).1, (ch_out h1 (.inr h3)).2]
    go_enter Try.func122, Try.ntmps122
    go_wp2
    go_ret2
    exact Ret.mk0 rfl
  rw [(ch_in (show 0 ≤ x by omega) (show x ≤ y by omega)).1, (ch_in (show 0 ≤ x by omega) (show x ≤ y by omega)).2]
  by_cases h4 : x ≤ y - x
  · have := choices_at x.toNat (y - x).toNat x y w (by omega) (by omega) hy.2 (.inl (by omega))
    rw [show (y - x).toNat + x.toNat = y.toNat by omega] at this
    exact this
  · have := choices_at (y - x).toNat x.toNat x y w (by omega) (by omega) hy.2 (.inr (by omega))
    rw [← binom_symm] at this
    rw [show x.toNat + (y - x).toNat = y.toNat by omega] at this
    exact this
end Go.Proofs.Ytdedbfbkakofgaa

namespace Go.Proofs.Ytdedbfbkakofgaa
open Go.RowKit
set_option linter.unusedVariables false
set_option linter.unusedSimpArgs false
set_option maxRecDepth 100000 in
set_option maxHeartbeats 400000 in
theorem mon_1 (y : Int) (w : World) (hy : -9223372036854775808 ≤ y ∧ y ≤ 9223372036854775807) : Calls Try.prog 79 #[.int .i64 1, .int .i64 y] w (Ret w (.tuple #[.int .i64 (moV 1 y), .int .i64 (moE 1 y)])) := by
  show Calls _ _ _ _ (Ret w (.tuple #[.int .i64 y, .int .i64 0]))
  go_enter Try.func79, Try.ntmps79
  go_wp2
  go_ret2
  exact Ret.mk0 rfl
set_option maxRecDepth 100000 in
set_option maxHeartbeats 400000 in
theorem mon_6 (y : Int) (w : World) (hy : -9223372036854775808 ≤ y ∧ y ≤ 9223372036854775807) : Calls Try.prog 79 #[.int .i64 6, .int .i64 y] w (Ret w (.tuple #[.int .i64 (moV 6 y), .int .i64 (moE 6 y)])) := by
  show Calls _ _ _ _ (Ret w (.tuple #[.int .i64 y, .int .i64 0]))
  go_enter Try.func79, Try.ntmps79
  go_wp2
  go_ret2
  exact Ret.mk0 rfl
set_option maxRecDepth 100000 in
set_option maxHeartbeats 400000 in
theorem mon_7 (y : Int) (w : World) (hy : -9223372036854775808 ≤ y ∧ y ≤ 9223372036854775807) : Calls Try.prog 79 #[.int .i64 7, .int .i64 y] w (Ret w (.tuple #[.int .i64 (moV 7 y), .int .i64 (moE 7 y)])) := by
  show Calls _ _ _ _ (Ret w (.tuple #[.int .i64 y, .int .i64 0]))
  go_enter Try.func79, Try.ntmps79
  go_wp2
  go_ret2
  exact Ret.mk0 rfl
set_option maxRecDepth 100000 in
set_option maxHeartbeats 400000 in
theorem mon_2 (y : Int) (w : World) (hy : -9223372036854775808 ≤ y ∧ y ≤ 9223372036854775807) : Calls Try.prog 79 #[.int .i64 2, .int .i64 y] w (Ret w (.tuple #[.int .i64 (moV 2 y), .int .i64 (moE 2 y)])) := by
  show Calls _ _ _ _ (Ret w (.tuple #[.int .i64 (val (-y)), .int .i64 (err (-y))]))
  go_enter Try.func79, Try.ntmps79
  go_wp2_with (first | (go_at_call 109; refine (sub_any _ _ _ (by omega) (by omega)).mono ?_; rintro e w' ⟨rfl, n1, rfl⟩) | (go_at_call 108; refine (fits_any _ _).mono ?_; rintro e w' ⟨rfl, n1, rfl⟩))
  go_ret2
  exact Ret.mk _ rfl
set_option maxRecDepth 100000 in
set_option maxHeartbeats 400000 in
theorem mon_3 (y : Int) (w : World) (hy : -9223372036854775808 ≤ y ∧ y ≤ 9223372036854775807) : Calls Try.prog 79 #[.int .i64 3, .int .i64 y] w (Ret w (.tuple #[.int .i64 (moV 3 y), .int .i64 (moE 3 y)])) := by
  show Calls _ _ _ _ (Ret w (.tuple #[.int .i64 (sgn y), .int .i64 0]))
  by_cases h : y < 0
  · rw [show sgn y = -1 by simp [sgn, h]]
    go_enter Try.func79, Try.ntmps79
    go_wp2
    go_ret2
    exact Ret.mk0 rfl
  by_cases h' : 0 < y
  · rw [show sgn y = 1 by simp [sgn, h, h']]
    go_enter Try.func79, Try.ntmps79
    go_wp2
    go_ret2
    exact Ret.mk0 rfl
  · rw [show sgn y = 0 by simp [sgn, h, h']]
    go_enter Try.func79, Try.ntmps79
    go_wp2
    go_ret2
    exact Ret.mk0 rfl
set_option maxRecDepth 100000 in
set_option maxHeartbeats 400000 in
theorem mon_5 (y : Int) (w : World) (hy : -9223372036854775808 ≤ y ∧ y ≤ 9223372036854775807) : Calls Try.prog 79 #[.int .i64 5, .int .i64 y] w (Ret w (.tuple #[.int .i64 (moV 5 y), .int .i64 (moE 5 y)])) := by
  show Calls _ _ _ _ (Ret w (.tuple #[.int .i64 (val y.natAbs), .int .i64 (err y.natAbs)]))
  go_enter Try.func79, Try.ntmps79
  go_wp2_with (first | (go_at_call 111; refine (whole_any _ _ (by omega)).mono ?_; rintro e w' ⟨rfl, n1, rfl⟩) | (go_at_call 110; refine (plain_any _ _ (by omega) (by omega)).mono ?_; rintro e w' ⟨rfl, n1, rfl⟩))
  go_ret2
  exact Ret.mk _ rfl
set_option maxRecDepth 100000 in
set_option maxHeartbeats 400000 in
theorem mon_12 (y : Int) (w : World) (hy : -9223372036854775808 ≤ y ∧ y ≤ 9223372036854775807) : Calls Try.prog 79 #[.int .i64 12, .int .i64 y] w (Ret w (.tuple #[.int .i64 (moV 12 y), .int .i64 (moE 12 y)])) := by
  show Calls _ _ _ _ (Ret w (.tuple #[.int .i64 (val (y - 1)), .int .i64 (err (y - 1))]))
  go_enter Try.func79, Try.ntmps79
  go_wp2_with (first | (go_at_call 109; refine (sub_any _ _ _ (by omega) (by omega)).mono ?_; rintro e w' ⟨rfl, n1, rfl⟩) | (go_at_call 108; refine (fits_any _ _).mono ?_; rintro e w' ⟨rfl, n1, rfl⟩))
  go_ret2
  exact Ret.mk _ rfl
set_option maxRecDepth 100000 in
set_option maxHeartbeats 400000 in
theorem mon_13 (y : Int) (w : World) (hy : -9223372036854775808 ≤ y ∧ y ≤ 9223372036854775807) : Calls Try.prog 79 #[.int .i64 13, .int .i64 y] w (Ret w (.tuple #[.int .i64 (moV 13 y), .int .i64 (moE 13 y)])) := by
  show Calls _ _ _ _ (Ret w (.tuple #[.int .i64 (val (y + 1)), .int .i64 (err (y + 1))]))
  go_enter Try.func79, Try.ntmps79
  go_wp2_with (first | (go_at_call 112; refine (add_any _ _ _ (by omega) (by omega)).mono ?_; rintro e w' ⟨rfl, n1, rfl⟩) | (go_at_call 108; refine (fits_any _ _).mono ?_; rintro e w' ⟨rfl, n1, rfl⟩))
  go_ret2
  exact Ret.mk _ rfl
set_option maxRecDepth 100000 in
set_option maxHeartbeats 400000 in
theorem mon_16 (y : Int) (w : World) (hy : -9223372036854775808 ≤ y ∧ y ≤ 9223372036854775807) : Calls Try.prog 79 #[.int .i64 16, .int .i64 y] w (Ret w (.tuple #[.int .i64 (moV 16 y), .int .i64 (moE 16 y)])) := by
  show Calls _ _ _ _ (Ret w (.tuple #[.int .i64 (val (y + y)), .int .i64 (err (y + y))]))
  go_enter Try.func79, Try.ntmps79
  go_wp2_with (first | (go_at_call 112; refine (add_any _ _ _ (by omega) (by omega)).mono ?_; rintro e w' ⟨rfl, n1, rfl⟩) | (go_at_call 108; refine (fits_any _ _).mono ?_; rintro e w' ⟨rfl, n1, rfl⟩))
  go_ret2
  exact Ret.mk _ rfl
set_option maxRecDepth 100000 in
set_option maxHeartbeats 400000 in
theorem mon_17 (y : Int) (w : World) (hy : -9223372036854775808 ≤ y ∧ y ≤ 9223372036854775807) : Calls Try.prog 79 #[.int .i64 17, .int .i64 y] w (Ret w (.tuple #[.int .i64 (moV 17 y), .int .i64 (moE 17 y)])) := by
  show Calls _ _ _ _ (Ret w (.tuple #[.int .i64 (val (y * y)), .int .i64 (err (y * y))]))
  go_enter Try.func79, Try.ntmps79
  go_wp2_with (first | (go_at_call 113; refine (mul_any _ _ _ (by omega) (by omega)).mono ?_; rintro e w' ⟨rfl, n1, rfl⟩) | (go_at_call 108; refine (fits_any _ _).mono ?_; rintro e w' ⟨rfl, n1, rfl⟩))
  go_ret2
  exact Ret.mk _ rfl
set_option maxRecDepth 100000 in
set_option maxHeartbeats 400000 in
theorem mon_18 (y : Int) (w : World) (hy : -9223372036854775808 ≤ y ∧ y ≤ 9223372036854775807) : Calls Try.prog 79 #[.int .i64 18, .int .i64 y] w (Ret w (.tuple #[.int .i64 (moV 18 y), .int .i64 (moE 18 y)])) := by
  show Calls _ _ _ _ (Ret w (.tuple #[.int .i64 (val (1 - y)), .int .i64 (err (1 - y))]))
  go_enter Try.func79, Try.ntmps79
  go_wp2_with (first | (go_at_call 109; refine (sub_any _ _ _ (by omega) (by omega)).mono ?_; rintro e w' ⟨rfl, n1, rfl⟩) | (go_at_call 108; refine (fits_any _ _).mono ?_; rintro e w' ⟨rfl, n1, rfl⟩))
  go_ret2
  exact Ret.mk _ rfl
set_option maxRecDepth 100000 in
set_option maxHeartbeats 400000 in
theorem mon_19 (y : Int) (w : World) (hy : -9223372036854775808 ≤ y ∧ y ≤ 9223372036854775807) : Calls Try.prog 79 #[.int .i64 19, .int .i64 y] w (Ret w (.tuple #[.int .i64 (moV 19 y), .int .i64 (moE 19 y)])) := by
  show Calls _ _ _ _ (Ret w (.tuple #[.int .i64 (halfV y), .int .i64 (halfE y)]))
  by_cases h : y % 2 = 0
  · obtain ⟨h1, h2, h3, h4, h5⟩ := half_even hy h
    have H2 := Lib.hid h2
    have hw := IntWalk.wrap64_in (y.tdiv 2) ⟨h4, h5⟩
    rw [← h3, ← h2]
    clear h2 h3 h h4 h5
    go_enter Try.func79, Try.ntmps79
    go_wp2
    go_ret2
    exact Ret.mk0 rfl
  · obtain ⟨h1, h2, h3⟩ := half_odd h
    rw [← h3, ← h2]
    clear h2 h3 h
    go_enter Try.func79, Try.ntmps79
    go_wp2
    go_ret2
    exact Ret.mk0 rfl
set_option maxRecDepth 100000 in
set_option maxHeartbeats 400000 in
theorem mon_21 (y : Int) (w : World) (hy : -9223372036854775808 ≤ y ∧ y ≤ 9223372036854775807) : Calls Try.prog 79 #[.int .i64 21, .int .i64 y] w (Ret w (.tuple #[.int .i64 (moV 21 y), .int .i64 (moE 21 y)])) := by
  show Calls _ _ _ _ (Ret w (.tuple #[.int .i64 (facV y), .int .i64 (facE y)]))
  go_enter Try.func79, Try.ntmps79
  go_wp2_with (first | (go_at_call 114; refine (factorial_any _ _).mono ?_; rintro e w' ⟨rfl, n1, rfl⟩))
  go_ret2
  exact Ret.mk _ rfl
set_option maxRecDepth 100000 in
set_option maxHeartbeats 400000 in
theorem mon_4 (y : Int) (w : World) (hy : -9223372036854775808 ≤ y ∧ y ≤ 9223372036854775807) : Calls Try.prog 79 #[.int .i64 4, .int .i64 y] w (Ret w (.tuple #[.int .i64 (moV 4 y), .int .i64 (moE 4 y)])) := by
  rw [(mo_row (by omega)).1, (mo_row (by omega)).2]
  have hr : rowB 4 = true := rowB_yes (by omega) (by omega)
  go_enter Try.func79, Try.ntmps79
  go_wp2_with (first | (go_at_call 115; refine (row_any _ _).mono ?_; rintro e w' ⟨rfl, n1, rfl⟩))
  go_ret2
  exact Ret.mk _ rfl
set_option maxRecDepth 100000 in
set_option maxHeartbeats 400000 in
theorem mon_8 (y : Int) (w : World) (hy : -9223372036854775808 ≤ y ∧ y ≤ 9223372036854775807) : Calls Try.prog 79 #[.int .i64 8, .int .i64 y] w (Ret w (.tuple #[.int .i64 (moV 8 y), .int .i64 (moE 8 y)])) := by
  rw [(mo_row (by omega)).1, (mo_row (by omega)).2]
  have hr : rowB 8 = true := rowB_yes (by omega) (by omega)
  go_enter Try.func79, Try.ntmps79
  go_wp2_with (first | (go_at_call 115; refine (row_any _ _).mono ?_; rintro e w' ⟨rfl, n1, rfl⟩))
  go_ret2
  exact Ret.mk _ rfl
set_option maxRecDepth 100000 in
set_option maxHeartbeats 400000 in
theorem mon_9 (y : Int) (w : World) (hy : -9223372036854775808 ≤ y ∧ y ≤ 9223372036854775807) : Calls Try.prog 79 #[.int .i64 9, .int .i64 y] w (Ret w (.tuple #[.int .i64 (moV 9 y), .int .i64 (moE 9 y)])) := by
  rw [(mo_row (by omega)).1, (mo_row (by omega)).2]
  have hr : rowB 9 = true := rowB_yes (by omega) (by omega)
  go_enter Try.func79, Try.ntmps79
  go_wp2_with (first | (go_at_call 115; refine (row_any _ _).mono ?_; rintro e w' ⟨rfl, n1, rfl⟩))
  go_ret2
  exact Ret.mk _ rfl
set_option maxRecDepth 100000 in
set_option maxHeartbeats 400000 in
theorem mon_10 (y : Int) (w : World) (hy : -9223372036854775808 ≤ y ∧ y ≤ 9223372036854775807) : Calls Try.prog 79 #[.int .i64 10, .int .i64 y] w (Ret w (.tuple #[.int .i64 (moV 10 y), .int .i64 (moE 10 y)])) := by
  rw [(mo_row (by omega)).1, (mo_row (by omega)).2]
  have hr : rowB 10 = true := rowB_yes (by omega) (by omega)
  go_enter Try.func79, Try.ntmps79
  go_wp2_with (first | (go_at_call 115; refine (row_any _ _).mono ?_; rintro e w' ⟨rfl, n1, rfl⟩))
  go_ret2
  exact Ret.mk _ rfl
set_option maxRecDepth 100000 in
set_option maxHeartbeats 400000 in
theorem mon_11 (y : Int) (w : World) (hy : -9223372036854775808 ≤ y ∧ y ≤ 9223372036854775807) : Calls Try.prog 79 #[.int .i64 11, .int .i64 y] w (Ret w (.tuple #[.int .i64 (moV 11 y), .int .i64 (moE 11 y)])) := by
  rw [(mo_row (by omega)).1, (mo_row (by omega)).2]
  have hr : rowB 11 = true := rowB_yes (by omega) (by omega)
  go_enter Try.func79, Try.ntmps79
  go_wp2_with (first | (go_at_call 115; refine (row_any _ _).mono ?_; rintro e w' ⟨rfl, n1, rfl⟩))
  go_ret2
  exact Ret.mk _ rfl
set_option maxRecDepth 100000 in
set_option maxHeartbeats 400000 in
theorem mon_14 (y : Int) (w : World) (hy : -9223372036854775808 ≤ y ∧ y ≤ 9223372036854775807) : Calls Try.prog 79 #[.int .i64 14, .int .i64 y] w (Ret w (.tuple #[.int .i64 (moV 14 y), .int .i64 (moE 14 y)])) := by
  rw [(mo_row (by omega)).1, (mo_row (by omega)).2]
  have hr : rowB 14 = true := rowB_yes (by omega) (by omega)
  go_enter Try.func79, Try.ntmps79
  go_wp2_with (first | (go_at_call 115; refine (row_any _ _).mono ?_; rintro e w' ⟨rfl, n1, rfl⟩))
  go_ret2
  exact Ret.mk _ rfl
set_option maxRecDepth 100000 in
set_option maxHeartbeats 400000 in
theorem mon_15 (y : Int) (w : World) (hy : -9223372036854775808 ≤ y ∧ y ≤ 9223372036854775807) : Calls Try.prog 79 #[.int .i64 15, .int .i64 y] w (Ret w (.tuple #[.int .i64 (moV 15 y), .int .i64 (moE 15 y)])) := by
  rw [(mo_row (by omega)).1, (mo_row (by omega)).2]
  have hr : rowB 15 = true := rowB_yes (by omega) (by omega)
  go_enter Try.func79, Try.ntmps79
  go_wp2_with (first | (go_at_call 115; refine (row_any _ _).mono ?_; rintro e w' ⟨rfl, n1, rfl⟩))
  go_ret2
  exact Ret.mk _ rfl
set_option maxRecDepth 100000 in
set_option maxHeartbeats 400000 in
theorem mon_20 (y : Int) (w : World) (hy : -9223372036854775808 ≤ y ∧ y ≤ 9223372036854775807) : Calls Try.prog 79 #[.int .i64 20, .int .i64 y] w (Ret w (.tuple #[.int .i64 (moV 20 y), .int .i64 (moE 20 y)])) := by
  rw [(mo_row (by omega)).1, (mo_row (by omega)).2]
  have hr : rowB 20 = true := rowB_yes (by omega) (by omega)
  go_enter Try.func79, Try.ntmps79
  go_wp2_with (first | (go_at_call 115; refine (row_any _ _).mono ?_; rintro e w' ⟨rfl, n1, rfl⟩))
  go_ret2
  exact Ret.mk _ rfl
set_option maxRecDepth 100000 in
set_option maxHeartbeats 800000 in
theorem mon_out (op y : Int) (w : World) (h : ¬ (1 ≤ op ∧ op ≤ 21)) : Calls Try.prog 79 #[.int .i64 op, .int .i64 y] w (Ret w (.tuple #[.int .i64 (moV op y), .int .i64 (moE op y)])) := by
  rw [(mo_out h).1, (mo_out h).2]
  have hr : rowB op = false := rowB_no h
  have hd : op ≤ 0 ∨ 22 ≤ op := by omega
  clear h
  rcases hd with h | h
  all_goals
    go_enter Try.func79, Try.ntmps79
    go_wp2_with (first | (go_at_call 115; refine (row_any _ _).mono ?_; rintro e w' ⟨rfl, n1, rfl⟩))
    go_ret2
    exact Ret.mk _ rfl
theorem monad_any (op y : Int) (w : World) (hy : -9223372036854775808 ≤ y ∧ y ≤ 9223372036854775807) : Calls Try.prog 79 #[.int .i64 op, .int .i64 y] w (Ret w (.tuple #[.int .i64 (moV op y), .int .i64 (moE op y)])) := by
  by_cases h : 1 ≤ op ∧ op ≤ 21
  · have : op = 1 ∨ op = 2 ∨ op = 3 ∨ op = 4 ∨ op = 5 ∨ op = 6 ∨ op = 7 ∨ op = 8 ∨ op = 9 ∨ op = 10 ∨ op = 11 ∨ op = 12 ∨ op = 13 ∨ op = 14 ∨ op = 15 ∨ op = 16 ∨ op = 17 ∨ op = 18 ∨ op = 19 ∨ op = 20 ∨ op = 21 := by omega
    rcases this with rfl | rfl | rfl | rfl | rfl | rfl | rfl | rfl | rfl | rfl | rfl | rfl | rfl | rfl | rfl | rfl | rfl | rfl | rfl | rfl | rfl
    · exact mon_1 y w hy
    · exact mon_2 y w hy
    · exact mon_3 y w hy
    · exact mon_4 y w hy
    · exact mon_5 y w hy
    · exact mon_6 y w hy
    · exact mon_7 y w hy
    · exact mon_8 y w hy
    · exact mon_9 y w hy
    · exact mon_10 y w hy
    · exact mon_11 y w hy
    · exact mon_12 y w hy
    · exact mon_13 y w hy
    · exact mon_14 y w hy
    · exact mon_15 y w hy
    · exact mon_16 y w hy
    · exact mon_17 y w hy
    · exact mon_18 y w hy
    · exact mon_19 y w hy
    · exact mon_20 y w hy
    · exact mon_21 y w hy
  · exact mon_out op y w h
set_option maxRecDepth 100000 in
set_option maxHeartbeats 400000 in
theorem dya_1 (x y : Int) (w : World) (hx : -9223372036854775808 ≤ x ∧ x ≤ 9223372036854775807) (hy : -9223372036854775808 ≤ y ∧ y ≤ 9223372036854775807) : Calls Try.prog 80 #[.int .i64 1, .int .i64 x, .int .i64 y] w (Ret w (.tuple #[.int .i64 (dyV 1 x y), .int .i64 (dyE 1 x y)])) := by
  show Calls _ _ _ _ (Ret w (.tuple #[.int .i64 (val (x + y)), .int .i64 (err (x + y))]))
  go_enter Try.func80, Try.ntmps80
  go_wp2_with (first | (go_at_call 112; refine (add_any _ _ _ (by omega) (by omega)).mono ?_; rintro e w' ⟨rfl, n1, rfl⟩) | (go_at_call 108; refine (fits_any _ _).mono ?_; rintro e w' ⟨rfl, n1, rfl⟩))
  go_ret2
  exact Ret.mk _ rfl
set_option maxRecDepth 100000 in
set_option maxHeartbeats 400000 in
theorem dya_2 (x y : Int) (w : World) (hx : -9223372036854775808 ≤ x ∧ x ≤ 9223372036854775807) (hy : -9223372036854775808 ≤ y ∧ y ≤ 9223372036854775807) : Calls Try.prog 80 #[.int .i64 2, .int .i64 x, .int .i64 y] w (Ret w (.tuple #[.int .i64 (dyV 2 x y), .int .i64 (dyE 2 x y)])) := by
  show Calls _ _ _ _ (Ret w (.tuple #[.int .i64 (val (x - y)), .int .i64 (err (x - y))]))
  go_enter Try.func80, Try.ntmps80
  go_wp2_with (first | (go_at_call 109; refine (sub_any _ _ _ (by omega) (by omega)).mono ?_; rintro e w' ⟨rfl, n1, rfl⟩) | (go_at_call 108; refine (fits_any _ _).mono ?_; rintro e w' ⟨rfl, n1, rfl⟩))
  go_ret2
  exact Ret.mk _ rfl
set_option maxRecDepth 100000 in
set_option maxHeartbeats 400000 in
theorem dya_3 (x y : Int) (w : World) (hx : -9223372036854775808 ≤ x ∧ x ≤ 9223372036854775807) (hy : -9223372036854775808 ≤ y ∧ y ≤ 9223372036854775807) : Calls Try.prog 80 #[.int .i64 3, .int .i64 x, .int .i64 y] w (Ret w (.tuple #[.int .i64 (dyV 3 x y), .int .i64 (dyE 3 x y)])) := by
  show Calls _ _ _ _ (Ret w (.tuple #[.int .i64 (val (x * y)), .int .i64 (err (x * y))]))
  go_enter Try.func80, Try.ntmps80
  go_wp2_with (first | (go_at_call 113; refine (mul_any _ _ _ (by omega) (by omega)).mono ?_; rintro e w' ⟨rfl, n1, rfl⟩) | (go_at_call 108; refine (fits_any _ _).mono ?_; rintro e w' ⟨rfl, n1, rfl⟩))
  go_ret2
  exact Ret.mk _ rfl
set_option maxRecDepth 100000 in
set_option maxHeartbeats 400000 in
theorem dya_4 (x y : Int) (w : World) (hx : -9223372036854775808 ≤ x ∧ x ≤ 9223372036854775807) (hy : -9223372036854775808 ≤ y ∧ y ≤ 9223372036854775807) : Calls Try.prog 80 #[.int .i64 4, .int .i64 x, .int .i64 y] w (Ret w (.tuple #[.int .i64 (dyV 4 x y), .int .i64 (dyE 4 x y)])) := by
  by_cases h : y = 0
  · subst h
    show Calls _ _ _ _ (Ret w (.tuple #[.int .i64 0, .int .i64 10]))
    go_enter Try.func80, Try.ntmps80
    go_wp2
    go_ret2
    exact Ret.mk0 rfl
  · have hv : dyV 4 x y = val (x.fdiv y) ∧ dyE 4 x y = err (x.fdiv y) := by simp [dyV, dyE, h]
    rw [hv.1, hv.2]
    clear hv
    have h' : (y == 0) = false := by simpa using h
    go_enter Try.func80, Try.ntmps80
    go_wp2_with (first | (go_at_call 116; refine (divide_any _ _ _ (by omega) (by omega) (by omega)).mono ?_; rintro e w' ⟨rfl, n1, rfl⟩) | (go_at_call 108; refine (fits_any _ _).mono ?_; rintro e w' ⟨rfl, n1, rfl⟩))
    go_ret2
    exact Ret.mk _ rfl
set_option maxRecDepth 100000 in
set_option maxHeartbeats 400000 in
theorem dya_5 (x y : Int) (w : World) (hx : -9223372036854775808 ≤ x ∧ x ≤ 9223372036854775807) (hy : -9223372036854775808 ≤ y ∧ y ≤ 9223372036854775807) : Calls Try.prog 80 #[.int .i64 5, .int .i64 x, .int .i64 y] w (Ret w (.tuple #[.int .i64 (dyV 5 x y), .int .i64 (dyE 5 x y)])) := by
  by_cases h : x = 0
  · subst h
    show Calls _ _ _ _ (Ret w (.tuple #[.int .i64 y, .int .i64 0]))
    go_enter Try.func80, Try.ntmps80
    go_wp2
    go_ret2
    exact Ret.mk0 rfl
  · have hv : dyV 5 x y = y.fmod x := by simp [dyV, h]
    rw [hv]
    show Calls _ _ _ _ (Ret w (.tuple #[.int .i64 (y.fmod x), .int .i64 0]))
    clear hv
    have h' : (x == 0) = false := by simpa using h
    go_enter Try.func80, Try.ntmps80
    go_wp2_with (first | (go_at_call 116; refine (divide_any _ _ _ (by omega) (by omega) (by omega)).mono ?_; rintro e w' ⟨rfl, n1, rfl⟩))
    go_ret2
    exact Ret.mk _ rfl
set_option maxRecDepth 100000 in
set_option maxHeartbeats 400000 in
theorem dya_6 (x y : Int) (w : World) (hx : -9223372036854775808 ≤ x ∧ x ≤ 9223372036854775807) (hy : -9223372036854775808 ≤ y ∧ y ≤ 9223372036854775807) : Calls Try.prog 80 #[.int .i64 6, .int .i64 x, .int .i64 y] w (Ret w (.tuple #[.int .i64 (dyV 6 x y), .int .i64 (dyE 6 x y)])) := by
  show Calls _ _ _ _ (Ret w (.tuple #[.int .i64 (min x y), .int .i64 (0)]))
  go_enter Try.func80, Try.ntmps80
  go_wp2
  go_ret2
  exact Ret.mk0 rfl
set_option maxRecDepth 100000 in
set_option maxHeartbeats 400000 in
theorem dya_7 (x y : Int) (w : World) (hx : -9223372036854775808 ≤ x ∧ x ≤ 9223372036854775807) (hy : -9223372036854775808 ≤ y ∧ y ≤ 9223372036854775807) : Calls Try.prog 80 #[.int .i64 7, .int .i64 x, .int .i64 y] w (Ret w (.tuple #[.int .i64 (dyV 7 x y), .int .i64 (dyE 7 x y)])) := by
  show Calls _ _ _ _ (Ret w (.tuple #[.int .i64 (max x y), .int .i64 (0)]))
  go_enter Try.func80, Try.ntmps80
  go_wp2
  go_ret2
  exact Ret.mk0 rfl
set_option maxRecDepth 100000 in
set_option maxHeartbeats 400000 in
theorem dya_8 (x y : Int) (w : World) (hx : -9223372036854775808 ≤ x ∧ x ≤ 9223372036854775807) (hy : -9223372036854775808 ≤ y ∧ y ≤ 9223372036854775807) : Calls Try.prog 80 #[.int .i64 8, .int .i64 x, .int .i64 y] w (Ret w (.tuple #[.int .i64 (dyV 8 x y), .int .i64 (dyE 8 x y)])) := by
  show Calls _ _ _ _ (Ret w (.tuple #[.int .i64 (bit (decide (x < y))), .int .i64 (0)]))
  go_enter Try.func80, Try.ntmps80
  go_wp2_with (first | (go_at_call 117; refine (compared_8 _ _ _).mono ?_; rintro e w' ⟨rfl, n1, rfl⟩))
  go_ret2
  exact Ret.mk _ rfl
set_option maxRecDepth 100000 in
set_option maxHeartbeats 400000 in
theorem dya_9 (x y : Int) (w : World) (hx : -9223372036854775808 ≤ x ∧ x ≤ 9223372036854775807) (hy : -9223372036854775808 ≤ y ∧ y ≤ 9223372036854775807) : Calls Try.prog 80 #[.int .i64 9, .int .i64 x, .int .i64 y] w (Ret w (.tuple #[.int .i64 (dyV 9 x y), .int .i64 (dyE 9 x y)])) := by
  show Calls _ _ _ _ (Ret w (.tuple #[.int .i64 (bit (decide (y < x))), .int .i64 (0)]))
  go_enter Try.func80, Try.ntmps80
  go_wp2_with (first | (go_at_call 117; refine (compared_9 _ _ _).mono ?_; rintro e w' ⟨rfl, n1, rfl⟩))
  go_ret2
  exact Ret.mk _ rfl
set_option maxRecDepth 100000 in
set_option maxHeartbeats 400000 in
theorem dya_10 (x y : Int) (w : World) (hx : -9223372036854775808 ≤ x ∧ x ≤ 9223372036854775807) (hy : -9223372036854775808 ≤ y ∧ y ≤ 9223372036854775807) : Calls Try.prog 80 #[.int .i64 10, .int .i64 x, .int .i64 y] w (Ret w (.tuple #[.int .i64 (dyV 10 x y), .int .i64 (dyE 10 x y)])) := by
  show Calls _ _ _ _ (Ret w (.tuple #[.int .i64 (bit (x == y)), .int .i64 (0)]))
  go_enter Try.func80, Try.ntmps80
  go_wp2_with (first | (go_at_call 117; refine (compared_10 _ _ _).mono ?_; rintro e w' ⟨rfl, n1, rfl⟩))
  go_ret2
  exact Ret.mk _ rfl
set_option maxRecDepth 100000 in
set_option maxHeartbeats 400000 in
theorem dya_11 (x y : Int) (w : World) (hx : -9223372036854775808 ≤ x ∧ x ≤ 9223372036854775807) (hy : -9223372036854775808 ≤ y ∧ y ≤ 9223372036854775807) : Calls Try.prog 80 #[.int .i64 11, .int .i64 x, .int .i64 y] w (Ret w (.tuple #[.int .i64 (dyV 11 x y), .int .i64 (dyE 11 x y)])) := by
  show Calls _ _ _ _ (Ret w (.tuple #[.int .i64 (bit (x != y)), .int .i64 (0)]))
  go_enter Try.func80, Try.ntmps80
  go_wp2_with (first | (go_at_call 117; refine (compared_11 _ _ _).mono ?_; rintro e w' ⟨rfl, n1, rfl⟩))
  go_ret2
  exact Ret.mk _ rfl
set_option maxRecDepth 100000 in
set_option maxHeartbeats 400000 in
theorem dya_12 (x y : Int) (w : World) (hx : -9223372036854775808 ≤ x ∧ x ≤ 9223372036854775807) (hy : -9223372036854775808 ≤ y ∧ y ≤ 9223372036854775807) : Calls Try.prog 80 #[.int .i64 12, .int .i64 x, .int .i64 y] w (Ret w (.tuple #[.int .i64 (dyV 12 x y), .int .i64 (dyE 12 x y)])) := by
  show Calls _ _ _ _ (Ret w (.tuple #[.int .i64 (bit (decide (x ≤ y))), .int .i64 (0)]))
  go_enter Try.func80, Try.ntmps80
  go_wp2_with (first | (go_at_call 117; refine (compared_12 _ _ _).mono ?_; rintro e w' ⟨rfl, n1, rfl⟩))
  go_ret2
  exact Ret.mk _ rfl
set_option maxRecDepth 100000 in
set_option maxHeartbeats 400000 in
theorem dya_13 (x y : Int) (w : World) (hx : -9223372036854775808 ≤ x ∧ x ≤ 9223372036854775807) (hy : -9223372036854775808 ≤ y ∧ y ≤ 9223372036854775807) : Calls Try.prog 80 #[.int .i64 13, .int .i64 x, .int .i64 y] w (Ret w (.tuple #[.int .i64 (dyV 13 x y), .int .i64 (dyE 13 x y)])) := by
  show Calls _ _ _ _ (Ret w (.tuple #[.int .i64 (bit (decide (y ≤ x))), .int .i64 (0)]))
  go_enter Try.func80, Try.ntmps80
  go_wp2_with (first | (go_at_call 117; refine (compared_13 _ _ _).mono ?_; rintro e w' ⟨rfl, n1, rfl⟩))
  go_ret2
  exact Ret.mk _ rfl
set_option maxRecDepth 100000 in
set_option maxHeartbeats 400000 in
theorem dya_14 (x y : Int) (w : World) (hx : -9223372036854775808 ≤ x ∧ x ≤ 9223372036854775807) (hy : -9223372036854775808 ≤ y ∧ y ≤ 9223372036854775807) : Calls Try.prog 80 #[.int .i64 14, .int .i64 x, .int .i64 y] w (Ret w (.tuple #[.int .i64 (dyV 14 x y), .int .i64 (dyE 14 x y)])) := by
  show Calls _ _ _ _ (Ret w (.tuple #[.int .i64 (val (Nat.gcd x.natAbs y.natAbs)), .int .i64 (err (Nat.gcd x.natAbs y.natAbs))]))
  have hb : Nat.gcd x.natAbs y.natAbs ≤ 9223372036854775808 := by
    by_cases h : x.natAbs = 0
    · rw [h, Nat.gcd_zero_left]; omega
    · exact Nat.le_trans (Nat.gcd_le_left _ (by omega)) (by omega)
  go_enter Try.func80, Try.ntmps80
  go_wp2_with (first | (go_at_call 111; refine (whole_any _ _ (by omega)).mono ?_; rintro e w' ⟨rfl, n1, rfl⟩) | (go_at_call 118; refine (gcd_any _ _ _ (by omega) (by omega)).mono ?_; rintro e w' ⟨rfl, n1, rfl⟩) | (go_at_call 110; refine (plain_any _ _ (by omega) (by omega)).mono ?_; rintro e w' ⟨rfl, n1, rfl⟩))
  go_ret2
  exact Ret.mk _ rfl
set_option maxRecDepth 100000 in
set_option maxHeartbeats 400000 in
theorem dya_15 (x y : Int) (w : World) (hx : -9223372036854775808 ≤ x ∧ x ≤ 9223372036854775807) (hy : -9223372036854775808 ≤ y ∧ y ≤ 9223372036854775807) : Calls Try.prog 80 #[.int .i64 15, .int .i64 x, .int .i64 y] w (Ret w (.tuple #[.int .i64 (dyV 15 x y), .int .i64 (dyE 15 x y)])) := by
  show Calls _ _ _ _ (Ret w (.tuple #[.int .i64 (val (Nat.lcm x.natAbs y.natAbs)), .int .i64 (err (Nat.lcm x.natAbs y.natAbs))]))
  go_enter Try.func80, Try.ntmps80
  go_wp2_with (first | (go_at_call 111; refine (whole_any _ _ (by omega)).mono ?_; rintro e w' ⟨rfl, n1, rfl⟩) | (go_at_call 119; refine (lcm_any _ _ _ (by omega) (by omega)).mono ?_; rintro e w' ⟨rfl, n1, rfl⟩))
  go_ret2
  exact Ret.mk _ rfl
set_option maxRecDepth 100000 in
set_option maxHeartbeats 400000 in
theorem dya_16 (x y : Int) (w : World) (hx : -9223372036854775808 ≤ x ∧ x ≤ 9223372036854775807) (hy : -9223372036854775808 ≤ y ∧ y ≤ 9223372036854775807) : Calls Try.prog 80 #[.int .i64 16, .int .i64 x, .int .i64 y] w (Ret w (.tuple #[.int .i64 (dyV 16 x y), .int .i64 (dyE 16 x y)])) := by
  by_cases h : (x = 0 ∨ x = 1) ∧ (y = 0 ∨ y = 1)
  · have hv : dyV 16 x y = bit (x + y == 0) ∧ dyE 16 x y = 0 := by simp [dyV, dyE, bits_yes h]
    rw [hv.1, hv.2]
    clear hv
    obtain ⟨rfl | rfl, rfl | rfl⟩ := h
    all_goals
      go_enter Try.func80, Try.ntmps80
      go_wp2_with (first | (go_at_call 120; refine (truth_any _ _).mono ?_; rintro e w' ⟨rfl, n1, rfl⟩))
      go_ret2
      exact Ret.mk _ rfl
  · have hv : dyV 16 x y = 0 ∧ dyE 16 x y = 10 := by simp [dyV, dyE, bits_no h]
    rw [hv.1, hv.2]
    clear hv
    by_cases h1 : x = 0 ∨ x = 1
    · have hb := u64_big hy (fun k => h ⟨h1, k⟩)
      have hs := u64_small h1
      have d1 : decide (1 < IntKind.u64.wrap x) = false := by simp; omega
      have d2 : decide (1 < IntKind.u64.wrap y) = true := by simp; omega
      clear h h1
      go_enter Try.func80, Try.ntmps80
      go_wp2
      go_ret2
      exact Ret.mk0 rfl
    · have hb := u64_big hx h1
      have d2 : decide (1 < IntKind.u64.wrap x) = true := by simp; omega
      clear h h1
      go_enter Try.func80, Try.ntmps80
      go_wp2
      go_ret2
      exact Ret.mk0 rfl
set_option maxRecDepth 100000 in
set_option maxHeartbeats 400000 in
theorem dya_17 (x y : Int) (w : World) (hx : -9223372036854775808 ≤ x ∧ x ≤ 9223372036854775807) (hy : -9223372036854775808 ≤ y ∧ y ≤ 9223372036854775807) : Calls Try.prog 80 #[.int .i64 17, .int .i64 x, .int .i64 y] w (Ret w (.tuple #[.int .i64 (dyV 17 x y), .int .i64 (dyE 17 x y)])) := by
  by_cases h : (x = 0 ∨ x = 1) ∧ (y = 0 ∨ y = 1)
  · have hv : dyV 17 x y = bit (decide (x + y < 2)) ∧ dyE 17 x y = 0 := by simp [dyV, dyE, bits_yes h]
    rw [hv.1, hv.2]
    clear hv
    obtain ⟨rfl | rfl, rfl | rfl⟩ := h
    all_goals
      go_enter Try.func80, Try.ntmps80
      go_wp2_with (first | (go_at_call 120; refine (truth_any _ _).mono ?_; rintro e w' ⟨rfl, n1, rfl⟩))
      go_ret2
      exact Ret.mk _ rfl
  · have hv : dyV 17 x y = 0 ∧ dyE 17 x y = 10 := by simp [dyV, dyE, bits_no h]
    rw [hv.1, hv.2]
    clear hv
    by_cases h1 : x = 0 ∨ x = 1
    · have hb := u64_big hy (fun k => h ⟨h1, k⟩)
      have hs := u64_small h1
      have d1 : decide (1 < IntKind.u64.wrap x) = false := by simp; omega
      have d2 : decide (1 < IntKind.u64.wrap y) = true := by simp; omega
      clear h h1
      go_enter Try.func80, Try.ntmps80
      go_wp2
      go_ret2
      exact Ret.mk0 rfl
    · have hb := u64_big hx h1
      have d2 : decide (1 < IntKind.u64.wrap x) = true := by simp; omega
      clear h h1
      go_enter Try.func80, Try.ntmps80
      go_wp2
      go_ret2
      exact Ret.mk0 rfl
set_option maxRecDepth 100000 in
set_option maxHeartbeats 400000 in
theorem dya_20 (x y : Int) (w : World) (hx : -9223372036854775808 ≤ x ∧ x ≤ 9223372036854775807) (hy : -9223372036854775808 ≤ y ∧ y ≤ 9223372036854775807) : Calls Try.prog 80 #[.int .i64 20, .int .i64 x, .int .i64 y] w (Ret w (.tuple #[.int .i64 (dyV 20 x y), .int .i64 (dyE 20 x y)])) := by
  show Calls _ _ _ _ (Ret w (.tuple #[.int .i64 (pwV x y), .int .i64 (pwE x y)]))
  go_enter Try.func80, Try.ntmps80
  go_wp2_with (first | (go_at_call 121; refine (power_any _ _ _ (by omega) (by omega)).mono ?_; rintro e w' ⟨rfl, n1, rfl⟩))
  go_ret2
  exact Ret.mk _ rfl
set_option maxRecDepth 100000 in
set_option maxHeartbeats 400000 in
theorem dya_21 (x y : Int) (w : World) (hx : -9223372036854775808 ≤ x ∧ x ≤ 9223372036854775807) (hy : -9223372036854775808 ≤ y ∧ y ≤ 9223372036854775807) : Calls Try.prog 80 #[.int .i64 21, .int .i64 x, .int .i64 y] w (Ret w (.tuple #[.int .i64 (dyV 21 x y), .int .i64 (dyE 21 x y)])) := by
  show Calls _ _ _ _ (Ret w (.tuple #[.int .i64 (chV x y), .int .i64 (chE x y)]))
  go_enter Try.func80, Try.ntmps80
  go_wp2_with (first | (go_at_call 122; refine (choices_any _ _ _ (by omega) (by omega)).mono ?_; rintro e w' ⟨rfl, n1, rfl⟩))
  go_ret2
  exact Ret.mk _ rfl
set_option maxRecDepth 100000 in
set_option maxHeartbeats 400000 in
theorem dya_18 (x y : Int) (w : World) (hx : -9223372036854775808 ≤ x ∧ x ≤ 9223372036854775807) (hy : -9223372036854775808 ≤ y ∧ y ≤ 9223372036854775807) : Calls Try.prog 80 #[.int .i64 18, .int .i64 x, .int .i64 y] w (Ret w (.tuple #[.int .i64 (dyV 18 x y), .int .i64 (dyE 18 x y)])) := by
  rw [(dy_row (by omega)).1, (dy_row (by omega)).2]
  have hr : rowB 18 = true := rowB_yes (by omega) (by omega)
  go_enter Try.func80, Try.ntmps80
  go_wp2_with (first | (go_at_call 115; refine (row_any _ _).mono ?_; rintro e w' ⟨rfl, n1, rfl⟩))
  go_ret2
  exact Ret.mk _ rfl
set_option maxRecDepth 100000 in
set_option maxHeartbeats 400000 in
theorem dya_19 (x y : Int) (w : World) (hx : -9223372036854775808 ≤ x ∧ x ≤ 9223372036854775807) (hy : -9223372036854775808 ≤ y ∧ y ≤ 9223372036854775807) : Calls Try.prog 80 #[.int .i64 19, .int .i64 x, .int .i64 y] w (Ret w (.tuple #[.int .i64 (dyV 19 x y), .int .i64 (dyE 19 x y)])) := by
  rw [(dy_row (by omega)).1, (dy_row (by omega)).2]
  have hr : rowB 19 = true := rowB_yes (by omega) (by omega)
  go_enter Try.func80, Try.ntmps80
  go_wp2_with (first | (go_at_call 115; refine (row_any _ _).mono ?_; rintro e w' ⟨rfl, n1, rfl⟩))
  go_ret2
  exact Ret.mk _ rfl
set_option maxRecDepth 100000 in
set_option maxHeartbeats 800000 in
theorem dya_out (op x y : Int) (w : World) (h : ¬ (1 ≤ op ∧ op ≤ 21)) : Calls Try.prog 80 #[.int .i64 op, .int .i64 x, .int .i64 y] w (Ret w (.tuple #[.int .i64 (dyV op x y), .int .i64 (dyE op x y)])) := by
  rw [(dy_out h).1, (dy_out h).2]
  have hr : rowB op = false := rowB_no h
  have hd : op ≤ 0 ∨ 22 ≤ op := by omega
  clear h
  rcases hd with h | h
  all_goals
    go_enter Try.func80, Try.ntmps80
    go_wp2_with (first | (go_at_call 115; refine (row_any _ _).mono ?_; rintro e w' ⟨rfl, n1, rfl⟩))
    go_ret2
    exact Ret.mk _ rfl
theorem dyad_any (op x y : Int) (w : World) (hx : -9223372036854775808 ≤ x ∧ x ≤ 9223372036854775807) (hy : -9223372036854775808 ≤ y ∧ y ≤ 9223372036854775807) : Calls Try.prog 80 #[.int .i64 op, .int .i64 x, .int .i64 y] w (Ret w (.tuple #[.int .i64 (dyV op x y), .int .i64 (dyE op x y)])) := by
  by_cases h : 1 ≤ op ∧ op ≤ 21
  · have : op = 1 ∨ op = 2 ∨ op = 3 ∨ op = 4 ∨ op = 5 ∨ op = 6 ∨ op = 7 ∨ op = 8 ∨ op = 9 ∨ op = 10 ∨ op = 11 ∨ op = 12 ∨ op = 13 ∨ op = 14 ∨ op = 15 ∨ op = 16 ∨ op = 17 ∨ op = 18 ∨ op = 19 ∨ op = 20 ∨ op = 21 := by omega
    rcases this with rfl | rfl | rfl | rfl | rfl | rfl | rfl | rfl | rfl | rfl | rfl | rfl | rfl | rfl | rfl | rfl | rfl | rfl | rfl | rfl | rfl
    · exact dya_1 x y w hx hy
    · exact dya_2 x y w hx hy
    · exact dya_3 x y w hx hy
    · exact dya_4 x y w hx hy
    · exact dya_5 x y w hx hy
    · exact dya_6 x y w hx hy
    · exact dya_7 x y w hx hy
    · exact dya_8 x y w hx hy
    · exact dya_9 x y w hx hy
    · exact dya_10 x y w hx hy
    · exact dya_11 x y w hx hy
    · exact dya_12 x y w hx hy
    · exact dya_13 x y w hx hy
    · exact dya_14 x y w hx hy
    · exact dya_15 x y w hx hy
    · exact dya_16 x y w hx hy
    · exact dya_17 x y w hx hy
    · exact dya_18 x y w hx hy
    · exact dya_19 x y w hx hy
    · exact dya_20 x y w hx hy
    · exact dya_21 x y w hx hy
  · exact dya_out op x y w h
end Go.Proofs.Ytdedbfbkakofgaa
