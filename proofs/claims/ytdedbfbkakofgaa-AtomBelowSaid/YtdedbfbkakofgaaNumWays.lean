/- Contracts of num.lcm, num.power, num.choices, and of bits.Div64 at a divisor below 2^32. -/
import Derived.Test.YtdedbfbkakofgaaNumDiv
import Derived.Test.YtdedbfbkakofgaaNumWaysPlain
import Derived.Test.YtdedbfbkakofgaaShelf
namespace Go.Proofs.Ytdedbfbkakofgaa
open Go.RowKit
set_option linter.unusedVariables false
set_option linter.unusedSimpArgs false

def SomeRem (w : World) (q : Nat) (e : Ending) (w' : World) : Prop := ∃ r : Int, Ret w (.tuple #[.int .u64 (q : Int), .int .u64 r]) e w'
set_option maxHeartbeats 800000 in
theorem div64_any (h l y : Nat) (w : World) (hy : h < y) (hl : l ≤ 18446744073709551615) (hb : y ≤ 4294967295) :
    Calls Try.prog 132 #[.int .u64 h, .int .u64 l, .int .u64 y] w (SomeRem w (quo128 h l y)) := by
  have h2 : ((y : Int) == 0) = false := by simp; omega
  have h3 : ¬ (y : Int) ≤ h := by omega
  have h4 : (1 : Int) ≤ y := by omega
  have h5 : ¬ (y : Int) = 0 := by omega
  by_cases h0 : h = 0
  · subst h0
    rw [quo128_zero]
    have hle : l / y ≤ l := Nat.div_le_self _ _
    have hq : IntKind.u64.wrap ((l : Int) / (y : Int)) = ((l / y : Nat) : Int) := by rw [← Int.natCast_ediv]; exact wrap_u64_nat _ (by omega)
    go_enter Try.func132, Try.ntmps132
    go_wp2
    go_quiet (fail)
    go_wp2
    go_ret2
    exact ⟨(l : Int) % y, Ret.mk _ rfl⟩
  · obtain ⟨L1, L2, L3⟩ := bitLen_bd (show 1 ≤ y by omega) hb
    obtain ⟨L, HL⟩ : ∃ L, Hid (Lib.bitLen y = L) := ⟨_, rfl⟩
    rw [HL.out] at L1 L2 L3
    obtain ⟨D⟩ := d64 (h := h) (l := l) hy (by omega) L1 L2 L3
    obtain ⟨Y, Z, H, G, U, T, T1, T0, q1, M, r, V, q0, eY, eZ, eA, eH, eR, eU, eT, eT1, eT0, eq1, eM, er, eV, eq0, ⟨bZ, bZ'⟩, bY, bU, bT, bT1, bT0, bq1, bM, br, bV, bq0, fin⟩ := D
    have HF := Lib.hid fin
    clear fin L3
    have h1 : ((h : Int) == 0) = false := by simpa using h0
    go_enter Try.func132, Try.ntmps132
    go_wp2_with (go_at_call 138; refine (Try.bits_LeadingZeros64 _ _ (by omega) (by omega)).mono ?_; rintro e w' ⟨rfl, rfl⟩; rw [Int.toNat_natCast, HL.out])
    have HV := Lib.hid eV
    have HZ := Lib.hid bZ'
    have Heq0 := Lib.hid eq0
    have HB := Lib.hid bV
    clear eY eZ eA eH eR eU eT eT1 eT0 eq1 eM er eV hb hl hy bY bT bM bV bZ' h4 h5 h2 h3 h1 h0
    have c1 : decide ((4294967296 : Int) ≤ q1) = false := by simp; omega
    obtain ⟨R1, HR1⟩ : ∃ R1 : Nat, Hid (R1 = 4294967296 * r) := ⟨_, rfl⟩
    have b1 : R1 ≤ 18446744069414584320 := by have := HR1.out; omega
    have c2 : IntKind.u64.wrap (4294967296 * (r : Int)) = (R1 : Int) := by rw [HR1.out, IntKind.wrap_u64]; omega
    have eV' := HV.out
    obtain ⟨M2, r3, eM2, er3, b3⟩ : ∃ M2 r3 : Nat, IntKind.u64.wrap ((q0 : Int) * (Z : Int)) = (M2 : Int) ∧ (V : Int) - (M2 : Int) = (r3 : Int) ∧ r3 ≤ 4294967294 := d64_rest bZ HZ.out Heq0.out HB.out
    obtain ⟨R3, HR3⟩ : ∃ R3 : Nat, Hid (R3 = 4294967296 * r3) := ⟨_, rfl⟩
    have b4 : R3 ≤ 18446744069414584320 := by have := HR3.out; omega
    have c4 : IntKind.u64.wrap (4294967296 * (r3 : Int)) = (R3 : Int) := by rw [HR3.out, IntKind.wrap_u64]; omega
    have b5 : M2 ≤ V := by omega
    clear br b3
    have bV' := HB.out
    obtain ⟨A, HA⟩ : ∃ A : Nat, Hid (A = 4294967296 * q1) := ⟨_, rfl⟩
    have b6 : A ≤ 18446744069414584320 := by have := HA.out; omega
    have c6 : IntKind.u64.wrap ((q1 : Int) * 4294967296) = (A : Int) := by rw [HA.out, IntKind.wrap_u64]; omega
    obtain ⟨B, c7⟩ := wrap_ex ((V : Int) * 4294967296)
    have c5 : decide ((4294967296 : Int) ≤ q0) = false := by simp; omega
    have c8 : decide ((R1 : Int) + T1 < 0) = false := by simp; omega
    have c9 : decide ((R3 : Int) + T0 < 0) = false := by simp; omega
    refine wp_loop_rounds 1 ?_
    rw [rounds_succ]
    go_wp2
    refine wp_loop_rounds 1 ?_
    rw [rounds_succ]
    go_wp2
    go_ret2
    refine ⟨_, Ret.mk0 (twi ⟨?_, rfl⟩)⟩
    rw [← HF.out, HA.out]
    omega

theorem ov_val {n : Int} (h : ¬ n ≤ 9223372036854775807) : (0 : Int) = val n ∧ (14 : Int) = err n := by
  have hf : fit n = false := fit_not (by omega)
  rw [val_not hf, err_not hf]; exact ⟨rfl, rfl⟩
set_option maxHeartbeats 800000 in
theorem lcm_any (a b : Nat) (w : World) (ha : a ≤ 9223372036854775808) (hb : b ≤ 9223372036854775808) :
    Calls Try.prog 119 #[.int .u64 a, .int .u64 b] w (Ret w (.tuple #[.int .i64 (val (Nat.lcm a b)), .int .i64 (err (Nat.lcm a b))])) := by
  by_cases a0 : a = 0
  · subst a0
    rw [Nat.lcm_zero_left, val_of (fit_of (by omega)), err_of (fit_of (by omega))]
    go_enter Try.func119, Try.ntmps119
    go_wp2
    go_ret2
    exact Ret.mk0 rfl
  have ha0 : ((a : Int) == 0) = false := by simpa using a0
  by_cases b0 : b = 0
  · subst b0
    rw [Nat.lcm_zero_right, val_of (fit_of (by omega)), err_of (fit_of (by omega))]
    go_enter Try.func119, Try.ntmps119
    go_wp2
    go_ret2
    exact Ret.mk0 rfl
  have hb0 : ((b : Int) == 0) = false := by simpa using b0
  have hg : 1 ≤ Nat.gcd a b := Nat.gcd_pos_of_pos_left _ (by omega)
  have hle : a / Nat.gcd a b ≤ a := Nat.div_le_self _ _
  have HL := Lib.hid (lcm_eq (b := b) a0)
  obtain ⟨g, HG⟩ : ∃ g, Hid (Nat.gcd a b = g) := ⟨_, rfl⟩
  rw [HG.out] at hg hle
  have hq : (a : Int) / (g : Int) = ((a / g : Nat) : Int) := by rw [Int.natCast_ediv]
  obtain ⟨k, HK⟩ : ∃ k, Hid (a / g = k) := ⟨_, rfl⟩
  rw [HK.out] at hle hq
  have HL' : Hid (k * b = Nat.lcm a b) := by show k * b = Nat.lcm a b; rw [← HK.out, ← HG.out]; exact HL.out
  clear HL
  by_cases hh : k * b < 18446744073709551616
  · have h1 : k * b / 18446744073709551616 = 0 := Nat.div_eq_of_lt hh
    have h2 : k * b % 18446744073709551616 = k * b := Nat.mod_eq_of_lt hh
    have H1 := Lib.hid h1
    have H2 := Lib.hid h2
    have H3 := Lib.hid hh
    clear h1 h2 hh
    go_enter Try.func119, Try.ntmps119
    go_wp2_with fail
    refine (gcd_any _ _ _ (by omega) (by omega)).mono ?_
    rintro e w' ⟨rfl, n1, rfl⟩
    rw [HG.out]
    go_wp2_with fail
    refine (Try.bits_Mul64 _ _ (by omega) (by omega) _).mono ?_
    rintro e w' ⟨rfl, rfl⟩
    rw [H1.out, H2.out]
    have hh := H3.out
    obtain ⟨N, HN⟩ : ∃ N, Hid (k * b = N) := ⟨_, rfl⟩
    rw [HN.out] at hh
    have HE : Hid (N = Nat.lcm a b) := by show N = Nat.lcm a b; rw [← HN.out]; exact HL'.out
    rw [HN.out, ← HE.out]
    go_wp2_with fail
    refine (plain_any _ _ (by omega) (by omega)).mono ?_
    rintro e w' ⟨rfl, n2, rfl⟩
    go_wp2
    go_ret2
    exact Ret.mk (n1 + n2) (by rw [← HE.out]; rfl)
  · have h0 : ¬ k * b / 18446744073709551616 = 0 := by
      intro h
      have := Nat.div_add_mod (k * b) 18446744073709551616
      have := Nat.mod_lt (k * b) (show 0 < 18446744073709551616 by omega)
      omega
    obtain ⟨u, HU⟩ : ∃ u, Hid (k * b / 18446744073709551616 = u) := ⟨_, rfl⟩
    rw [HU.out] at h0
    have h1 : ((u : Int) != 0) = true := by simpa using h0
    obtain ⟨v0, v14⟩ := ov_val (n := (Nat.lcm a b : Int)) (by have := HL'.out; omega)
    rw [← v0, ← v14]
    clear v0 v14 hh
    go_enter Try.func119, Try.ntmps119
    go_wp2_with fail
    refine (gcd_any _ _ _ (by omega) (by omega)).mono ?_
    rintro e w' ⟨rfl, n1, rfl⟩
    rw [HG.out]
    go_wp2_with fail
    refine (Try.bits_Mul64 _ _ (by omega) (by omega) _).mono ?_
    rintro e w' ⟨rfl, rfl⟩
    rw [HU.out]
    go_wp2
    go_ret2
    exact Ret.mk n1 rfl

set_option maxHeartbeats 800000 in
theorem power_any (x y : Int) (w : World) (hx : -9223372036854775808 ≤ x ∧ x ≤ 9223372036854775807) (hy : -9223372036854775808 ≤ y ∧ y ≤ 9223372036854775807) :
    Calls Try.prog 121 #[.int .i64 x, .int .i64 y] w (Ret w (.tuple #[.int .i64 (pwV x y), .int .i64 (pwE x y)])) := by
  by_cases h1 : x = 1
  · subst h1
    rw [(pw_one y).1, (pw_one y).2]
    go_enter Try.func121, Try.ntmps121
    go_wp2
    go_ret2
    exact Ret.mk0 rfl
  by_cases h2 : x = -1
  · subst h2
    rw [(pw_mone y).1, (pw_mone y).2]
    have hb := i64_and1 y
    go_enter Try.func121, Try.ntmps121
    go_wp2
    go_ret2
    exact Ret.mk0 rfl
  have g1 : (x == 1) = false := by simpa using h1
  have g2 : (x == -1) = false := by simpa using h2
  by_cases h3 : y < 0
  · rw [(pw_neg h1 h2 h3).1, (pw_neg h1 h2 h3).2]
    go_enter Try.func121, Try.ntmps121
    go_wp2
    go_ret2
    exact Ret.mk0 rfl
  rw [(pw_in h1 h2 (show 0 ≤ y by omega)).1, (pw_in h1 h2 (show 0 ≤ y by omega)).2]
  by_cases h4 : x = 0
  · subst h4
    obtain ⟨p1, p2⟩ := pow_zero_bit (y := y) (by omega)
    rw [← p1, p2]
    clear p1 p2
    go_enter Try.func121, Try.ntmps121
    go_wp2_with (go_at_call 120; refine (truth_any _ _).mono ?_; rintro e w' ⟨rfl, n1, rfl⟩)
    go_ret2
    exact Ret.mk _ rfl
  have g4 : (x == 0) = false := by simpa using h4
  by_cases h5 : 63 < y
  · have hf := pow_big (x := x) (b := y.toNat) (by omega) (by omega)
    rw [val_not hf, err_not hf]
    clear hf
    go_enter Try.func121, Try.ntmps121
    go_wp2
    go_ret2
    exact Ret.mk0 rfl
  have hbig : 2 ≤ x.natAbs := by omega
  obtain ⟨n, rfl⟩ := Int.eq_ofNat_of_zero_le (show 0 ≤ y by omega)
  rw [Int.toNat_natCast]
  have HB := Lib.hid hbig
  clear hbig
  go_enter Try.func121, Try.ntmps121
  go_wp2
  go_loopw [6, 7, 8] (fun P OK i wr => ∃ (k : Nat) (p : Int) (ok : Bool), k ≤ n ∧ i = .int .i64 k ∧ P = .int .i64 p ∧ OK = .bool ok ∧ Hid (p = val (x ^ k)) ∧ Hid (ok = fit (x ^ k)) ∧ ∃ q, wr = w.drewN q) (fun _ _ i _ => n - (intOf i).toNat)
  case atStart => exact ⟨0, 1, true, by omega, rfl, rfl, rfl, pow_start.1, pow_start.2, 0, rfl⟩
  case round =>
    obtain ⟨k, p, ok, hk, rfl, rfl, rfl, hp, hok, q, rfl⟩ := hrel
    obtain ⟨bp, bp'⟩ : -9223372036854775808 ≤ p ∧ p ≤ 9223372036854775807 := by rw [hp.out]; exact val_bd _
    by_cases hlt : k < n
    · have hlt' : (k : Int) < n := by omega
      cases ok
      · have he := pow_stop hk hp hok HB
        go_wp2_with fail
        rw [he.out.1, he.out.2]
        refine (fits_any _ _).mono ?_
        rintro e w' ⟨rfl, n1, rfl⟩
        go_wp2
        go_ret2
        exact Ret.mk (q + n1) rfl
      · have he := pow_go hp hok
        go_wp2_with fail
        refine (mul_any _ _ _ ⟨bp, bp'⟩ hx).mono ?_
        rintro e w' ⟨rfl, n1, rfl⟩
        go_wp2
        go_roundw
        case rel => exact ⟨k + 1, val (p * x), fit (p * x), by omega, by go_num, rfl, rfl, he.1, he.2, _, rfl⟩
        case measure => simp [intOf]; omega
    · have hkn : k = n := by omega
      subst hkn
      go_wp2_with fail
      rw [hp.out, hok.out]
      refine (fits_any _ _).mono ?_
      rintro e w' ⟨rfl, n1, rfl⟩
      go_wp2
      go_ret2
      exact Ret.mk (q + n1) rfl
end Go.Proofs.Ytdedbfbkakofgaa
