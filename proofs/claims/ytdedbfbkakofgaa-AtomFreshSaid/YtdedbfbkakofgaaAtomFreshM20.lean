/- Plain facts on quotients of 128 bits by small divisors, powers, binomial coefficients: no program in sight. What num.Monad and num.Dyad tell, by the verb's number: no program in sight. -/
import Derived.Test.YtdedbfbkakofgaaAtomFreshM18
import Derived.Lib.BitFns
import Derived.Laws.MathBits
namespace Go.Proofs.Ytdedbfbkakofgaa
open Go.RowKit
set_option linter.unusedVariables false
set_option linter.unusedSimpArgs false

theorem bitLenAux_bd : ∀ (f x : Nat), x < 2 ^ f → x < 2 ^ Lib.bitLenAux f x ∧ (x ≠ 0 → 2 ^ (Lib.bitLenAux f x - 1) ≤ x ∧ 1 ≤ Lib.bitLenAux f x) ∧ Lib.bitLenAux f x ≤ f
  | 0, x, h => by simp at h; subst h; simp [Lib.bitLenAux]
  | f + 1, x, h => by
    by_cases h0 : x = 0
    · subst h0; simp [Lib.bitLenAux]
    · have hx : x / 2 < 2 ^ f := by rw [Nat.pow_succ] at h; omega
      obtain ⟨i1, i2, i3⟩ := bitLenAux_bd f (x / 2) hx
      simp only [Lib.bitLenAux, if_neg h0]
      refine ⟨?_, fun _ => ⟨?_, by omega⟩, by omega⟩
      · rw [Nat.add_comm 1, Nat.pow_succ]; omega
      · rw [show 1 + Lib.bitLenAux f (x / 2) - 1 = Lib.bitLenAux f (x / 2) by omega]
        by_cases h1 : x / 2 = 0
        · rw [h1]
          have : Lib.bitLenAux f 0 = 0 := by cases f <;> simp [Lib.bitLenAux]
          rw [this]; simp; omega
        · obtain ⟨j1, j2⟩ := i2 h1
          have : 2 ^ Lib.bitLenAux f (x / 2) = 2 ^ (Lib.bitLenAux f (x / 2) - 1) * 2 := by rw [← Nat.pow_succ]; congr 1; omega
          omega
theorem bitLen_bd {y : Nat} (h0 : 1 ≤ y) (h : y ≤ 4294967295) : 1 ≤ Lib.bitLen y ∧ Lib.bitLen y ≤ 32 ∧ y < 2 ^ Lib.bitLen y := by
  obtain ⟨h1, h2, _⟩ := bitLenAux_bd 64 y (by omega)
  obtain ⟨h3, h4⟩ := h2 (by omega)
  refine ⟨h4, ?_, h1⟩
  show Lib.bitLenAux 64 y ≤ 32
  rcases Nat.lt_or_ge 32 (Lib.bitLenAux 64 y) with h5 | h5
  · have : 2 ^ 32 ≤ 2 ^ (Lib.bitLenAux 64 y - 1) := Nat.pow_le_pow_right (by omega) (by omega)
    omega
  · exact h5

theorem wrap_u64_nat (n : Nat) (h : n < 18446744073709551616) : IntKind.u64.wrap (n : Int) = n := by rw [IntKind.wrap_u64]; omega

/-- The quotient of 128 bits. -/
def quo128 (h l y : Nat) : Nat := (h * 18446744073709551616 + l) / y
theorem quo128_zero (l y : Nat) : quo128 0 l y = l / y := by unfold quo128; rw [Nat.zero_mul, Nat.zero_add]
structure D64 (h l y L : Nat) where
  (Y Z H G U T T1 T0 q1 M r V q0 : Nat)
  eY : IntKind.u64.wrap ((y : Int) * 2 ^ (64 - L)) = (Y : Int)
  eZ : (Y : Int) / 4294967296 = (Z : Int)
  eA : bits BinOp.and IntKind.u64 (Y : Int) 4294967295 = 0
  eH : IntKind.u64.wrap ((h : Int) * 2 ^ (64 - L)) = (H : Int)
  eR : (l : Int) / 2 ^ (64 - (64 - L)) = (G : Int)
  eU : bits BinOp.or IntKind.u64 (H : Int) (G : Int) = (U : Int)
  eT : IntKind.u64.wrap ((l : Int) * 2 ^ (64 - L)) = (T : Int)
  eT1 : (T : Int) / 4294967296 = (T1 : Int)
  eT0 : bits BinOp.and IntKind.u64 (T : Int) 4294967295 = (T0 : Int)
  eq1 : (U : Int) / (Z : Int) = (q1 : Int)
  eM : IntKind.u64.wrap ((q1 : Int) * (Z : Int)) = (M : Int)
  er : (U : Int) - (M : Int) = (r : Int)
  eV : IntKind.u64.wrap (IntKind.u64.wrap (IntKind.u64.wrap ((U : Int) * 4294967296) + (T1 : Int)) - IntKind.u64.wrap ((q1 : Int) * (Y : Int))) = (V : Int)
  eq0 : (V : Int) / (Z : Int) = (q0 : Int)
  bZ : 1 ≤ Z ∧ Z ≤ 4294967295
  bY : Y ≤ 18446744073709551615
  bU : U ≤ 18446744073709551615
  bT : T ≤ 18446744073709551615
  bT1 : T1 ≤ 4294967295
  bT0 : T0 ≤ 4294967295
  bq1 : q1 ≤ 4294967295
  bM : M ≤ U
  br : r ≤ 4294967294
  bV : V ≤ 18446744073709551615
  bq0 : q0 ≤ 4294967295
  fin : q1 * 4294967296 + q0 = quo128 h l y

theorem div_back (a : Nat) {b : Nat} (h : b < 4294967296) : (a * 4294967296 + b) / 4294967296 = a := by omega
theorem d64 {h l y L : Nat} (hy : h < y) (hl : l < 18446744073709551616) (L1 : 1 ≤ L) (L2 : L ≤ 32) (hL : y < 2 ^ L) : Nonempty (D64 h l y L) := by
  obtain ⟨e, rfl⟩ : ∃ e, L = 32 - e := ⟨32 - L, by omega⟩
  have he : e ≤ 31 := by omega
  have e1 : 64 - (32 - e) = 32 + e := by omega
  have e2 : 64 - (32 + e) = 32 - e := by omega
  obtain ⟨R, hR⟩ : ∃ R, R = 2 ^ (32 - e) := ⟨_, rfl⟩
  obtain ⟨p, hp⟩ : ∃ p, p = 2 ^ e := ⟨_, rfl⟩
  have hpR : p * R = 4294967296 := by rw [hp, hR, ← Nat.pow_add]; rw [show e + (32 - e) = 32 by omega]
  have hP : 2 ^ (32 + e) = 4294967296 * p := by rw [Nat.pow_add, hp]
  have hPi : (2 : Int) ^ (32 + e) = ((4294967296 * p : Nat) : Int) := by rw [← hP]; simp
  have hRi : (2 : Int) ^ (32 - e) = ((R : Nat) : Int) := by rw [hR]; simp
  have hp1 : 1 ≤ p := by rw [hp]; exact Nat.one_le_two_pow
  have hR1 : 1 ≤ R := by rw [hR]; exact Nat.one_le_two_pow
  rw [← hR] at hL
  -- Z = y p, Y = Z 2^32
  have hZ : y * p ≤ 4294967295 := by
    have : y * p < R * p := Nat.mul_lt_mul_of_pos_right hL (by omega)
    rw [Nat.mul_comm R p, hpR] at this; omega
  have hY : y * (4294967296 * p) = 4294967296 * (y * p) := by rw [← Nat.mul_assoc, Nat.mul_comm y, Nat.mul_assoc]
  have hH : h * (4294967296 * p) = 4294967296 * (h * p) := by rw [← Nat.mul_assoc, Nat.mul_comm h, Nat.mul_assoc]
  have hhp : h * p + p ≤ y * p := by
    have : (h + 1) * p ≤ y * p := Nat.mul_le_mul_right p hy
    rw [Nat.add_mul] at this; omega
  have hG : l / R < 4294967296 * p := by
    rw [Nat.div_lt_iff_lt_mul (by omega), Nat.mul_assoc, hpR]; omega
  have hyp1 : 1 ≤ y * p := Nat.mul_pos (by omega) (by omega)
  generalize hzz : y * p = Z at *
  generalize hhh : h * p = K at *
  generalize hgg : l / R = G at *
  -- l = G R + l0 ; T = (l p 2^32) mod 2^64 = l0 * (p 2^32)
  have hU : 4294967296 * K + G < 4294967296 * Z := by omega
  generalize hUU : 4294967296 * K + G = U at *
  have hq1 : U / Z ≤ 4294967295 := by
    have : U / Z < 4294967296 := by rw [Nat.div_lt_iff_lt_mul (by omega)]; omega
    omega
  have hdm := Nat.div_add_mod U Z
  have hml := Nat.mod_lt U (show 0 < Z by omega)
  have hqz : U / Z * Z ≤ U := Nat.div_mul_le_self U Z
  have hqz' : U / Z * Z + U % Z = U := by rw [Nat.mul_comm]; exact hdm
  generalize hmm : U / Z * Z = M at *
  generalize hrr : U % Z = r at *
  obtain ⟨T, hT⟩ : ∃ T, T = l * (4294967296 * p) % 18446744073709551616 := ⟨_, rfl⟩
  have hT' : T < 18446744073709551616 := by rw [hT]; exact Nat.mod_lt _ (by omega)
  have hV : r * 4294967296 + T / 4294967296 ≤ 18446744073709551615 := by omega
  have hq1Y : U / Z * (4294967296 * Z) = 4294967296 * M := by rw [← hmm, ← Nat.mul_assoc, Nat.mul_comm _ 4294967296, Nat.mul_assoc]
  have hq0 : (r * 4294967296 + T / 4294967296) / Z ≤ 4294967295 := by
    have : (r * 4294967296 + T / 4294967296) / Z < 4294967296 := by
      rw [Nat.div_lt_iff_lt_mul (by omega)]
      have : (r + 1) * 4294967296 ≤ Z * 4294967296 := Nat.mul_le_mul_right _ hml
      omega
    omega
  refine ⟨⟨4294967296 * Z, Z, 4294967296 * K, G, U, T, T / 4294967296, T % 4294967296, U / Z, M, r, r * 4294967296 + T / 4294967296,
    (r * 4294967296 + T / 4294967296) / Z, ?_, ?_, ?_, ?_, ?_, ?_, ?_, ?_, ?_, ?_, ?_, ?_, ?_, ?_, by omega, by omega, by omega, by omega, by omega, by omega, hq1, by omega, by omega, hV, hq0, ?_⟩⟩
  · rw [e1, hPi, ← Int.natCast_mul, hY, wrap_u64_nat _ (by omega)]
  · omega
  · rw [and_low32 _ (by omega) (by omega)]; omega
  · rw [e1, hPi, ← Int.natCast_mul, hH, wrap_u64_nat _ (by omega)]
  · rw [e1, e2, hRi, ← hgg]; simp
  · have hk := bits_join .u64 64 (by decide) (fun n h0 h1 => by rw [IntKind.wrap_u64]; omega) (32 + e) ((4294967296 * K : Nat) : Int) (G : Int) (by omega)
      (by rw [hPi, ← hH]; exact_mod_cast Nat.mul_mod_left h (4294967296 * p)) (by omega) (by omega) (by rw [hPi]; exact_mod_cast hG) (by omega)
    rw [hk]; omega
  · rw [e1, hPi, ← Int.natCast_mul, hT, IntKind.wrap_u64]; omega
  · omega
  · rw [and_low32 _ (by omega) (by omega)]; omega
  · exact_mod_cast rfl
  · rw [← Int.natCast_mul, hmm, wrap_u64_nat _ (by omega)]
  · omega
  · rw [← Int.natCast_mul, hq1Y]
    simp only [IntKind.wrap_u64]
    omega
  · exact_mod_cast rfl
  · -- the quotient: (h 2^64 + l) / y = ((h 2^64 + l) p 2^32) / (Z 2^32)
    unfold quo128
    have k1 : (h * 18446744073709551616 + l) / y = (h * 18446744073709551616 + l) * (4294967296 * p) / (y * (4294967296 * p)) := (Nat.mul_div_mul_right _ _ (by omega)).symm
    have k2 : (h * 18446744073709551616 + l) * (4294967296 * p) = U * 18446744073709551616 + T := by
      have hl1 := Nat.div_add_mod l R
      rw [hgg] at hl1
      have hl2 := Nat.mod_lt l (show 0 < R by omega)
      generalize l % R = l0 at *
      have k3 : l * (4294967296 * p) = G * 18446744073709551616 + l0 * (4294967296 * p) := by
        rw [← hl1, Nat.add_mul]
        congr 1
        rw [Nat.mul_comm R G, Nat.mul_assoc]
        congr 1
        rw [← Nat.mul_assoc, Nat.mul_comm R, Nat.mul_assoc, Nat.mul_comm R, hpR]
      have k4 : l0 * (4294967296 * p) < 18446744073709551616 := by
        have : l0 * (4294967296 * p) < R * (4294967296 * p) := Nat.mul_lt_mul_of_pos_right hl2 (by omega)
        have k5 : R * (4294967296 * p) = 18446744073709551616 := by rw [← Nat.mul_assoc, Nat.mul_comm R, Nat.mul_assoc, Nat.mul_comm R, hpR]
        omega
      have k6 : T = l0 * (4294967296 * p) := by rw [hT, k3]; omega
      rw [Nat.add_mul, k3, k6, ← hUU, Nat.mul_right_comm, hH]
      omega
    rw [k1, k2, hY]
    rw [show U * 18446744073709551616 + T = (U * 4294967296 + T / 4294967296) * 4294967296 + T % 4294967296 by omega]
    rw [← Nat.div_div_eq_div_mul, div_back _ (Nat.mod_lt _ (by omega))]
    rw [show U * 4294967296 + T / 4294967296 = (r * 4294967296 + T / 4294967296) + Z * (U / Z * 4294967296) by
      rw [← Nat.mul_assoc, Nat.mul_comm Z, hmm]; omega]
    rw [Nat.add_mul_div_left _ _ (by omega)]
    omega

theorem wrap_ex (n : Int) : ∃ B : Nat, IntKind.u64.wrap n = (B : Int) := Int.eq_ofNat_of_zero_le (by rw [IntKind.wrap_u64]; omega)
theorem d64_rest {V Z q0 : Nat} (h1 : 1 ≤ Z) (h2 : Z ≤ 4294967295) (h : (V : Int) / (Z : Int) = (q0 : Int)) (hV : V ≤ 18446744073709551615) :
    ∃ M2 r3 : Nat, IntKind.u64.wrap ((q0 : Int) * (Z : Int)) = (M2 : Int) ∧ (V : Int) - (M2 : Int) = (r3 : Int) ∧ r3 ≤ 4294967294 := by
  have h' : V / Z = q0 := by exact_mod_cast h
  have h3 := Nat.div_add_mod V Z
  have h4 := Nat.mod_lt V (show 0 < Z by omega)
  rw [h'] at h3
  refine ⟨q0 * Z, V % Z, ?_, ?_, by omega⟩
  · rw [← Int.natCast_mul]
    exact wrap_u64_nat _ (by rw [Nat.mul_comm]; omega)
  · rw [Nat.mul_comm q0]; omega

def binom : Nat → Nat → Nat
  | _, 0 => 1
  | 0, _ + 1 => 0
  | n + 1, k + 1 => binom n k + binom n (k + 1)
theorem binom_zero (n : Nat) : binom n 0 = 1 := by cases n <;> rfl
theorem binom_big : ∀ (n k : Nat), n < k → binom n k = 0
  | 0, k + 1, _ => rfl
  | n + 1, k + 1, h => by rw [binom, binom_big n k (by omega), binom_big n (k + 1) (by omega)]
theorem binom_self : ∀ n : Nat, binom n n = 1
  | 0 => rfl
  | n + 1 => by rw [binom, binom_self n, binom_big n (n + 1) (by omega)]
theorem binom_absorb : ∀ (n k : Nat), binom (n + 1) (k + 1) * (k + 1) = binom n k * (n + 1)
  | 0, 0 => rfl
  | 0, k + 1 => by simp [binom]
  | n + 1, 0 => by
    have h := binom_absorb n 0
    have e : binom (n + 2) (0 + 1) = binom (n + 1) 0 + binom (n + 1) (0 + 1) := rfl
    rw [binom_zero] at *
    show binom (n + 2) (0 + 1) * (0 + 1) = _
    omega
  | n + 1, k + 1 => by
    have h1 := binom_absorb n k
    have h2 := binom_absorb n (k + 1)
    have e : binom (n + 2) (k + 2) = binom (n + 1) (k + 1) + binom (n + 1) (k + 2) := rfl
    have e' : binom (n + 1) (k + 1) = binom n k + binom n (k + 1) := rfl
    rw [e, Nat.add_mul, h2, Nat.mul_succ (binom (n + 1) (k + 1)) (k + 1), h1, e']
    simp only [Nat.add_mul, Nat.mul_add]
    omega
theorem binom_symm : ∀ (a b : Nat), binom (a + b) a = binom (a + b) b
  | 0, b => by rw [Nat.zero_add, binom_zero, binom_self]
  | a + 1, 0 => by rw [Nat.add_zero, binom_zero, binom_self]
  | a + 1, b + 1 => by
    have e1 : a + 1 + (b + 1) = (a + b + 1) + 1 := by omega
    rw [e1]
    show binom (a + b + 1) a + binom (a + b + 1) (a + 1) = binom (a + b + 1) b + binom (a + b + 1) (b + 1)
    have h1 := binom_symm (a + 1) b
    have h2 := binom_symm a (b + 1)
    rw [show a + 1 + b = a + b + 1 by omega] at h1
    rw [show a + (b + 1) = a + b + 1 by omega] at h2
    omega
theorem binom_up (m i : Nat) : binom (m + i) i ≤ binom (m + (i + 1)) (i + 1) := by
  show binom (m + i) i ≤ binom (m + i) i + binom (m + i) (i + 1)
  omega
theorem binom_mono {m i j : Nat} (h : i ≤ j) : binom (m + i) i ≤ binom (m + j) j := by
  induction h with
  | refl => exact Nat.le_refl _
  | step _ ih => exact Nat.le_trans ih (binom_up _ _)
theorem binom_next (m i : Nat) : binom (m + (i + 1)) (i + 1) * (i + 1) = binom (m + i) i * (m + (i + 1)) := binom_absorb (m + i) i
theorem binom_two (m : Nat) : ∀ i, i ≤ m → 2 ^ i ≤ binom (m + i) i
  | 0, _ => by rw [binom_zero]; simp
  | i + 1, h => by
    have ih := binom_two m i (by omega)
    have e := binom_next m i
    have : 2 ^ i * 2 * (i + 1) ≤ binom (m + (i + 1)) (i + 1) * (i + 1) := by
      rw [e, Nat.mul_assoc]
      exact Nat.mul_le_mul ih (by omega)
    exact Nat.le_of_mul_le_mul_right this (by omega)
theorem binom_small {m i : Nat} (h : i ≤ m) (hb : binom (m + i) i ≤ 9223372036854775807) : i ≤ 62 := by
  have := binom_two m i h
  rcases Nat.lt_or_ge 62 i with h1 | h1
  · have : 2 ^ 63 ≤ 2 ^ i := Nat.pow_le_pow_right (by omega) (by omega)
    omega
  · exact h1
theorem binom_div (m i : Nat) : binom (m + i) i * (m + (i + 1)) / (i + 1) = binom (m + (i + 1)) (i + 1) := by
  rw [← binom_next]; exact Nat.mul_div_cancel _ (by omega)

/-- PFact of two numbers: the value and the error. -/
def chV (x y : Int) : Int := if y < 0 then 0 else if x < 0 ∨ y < x then 0 else val (binom y.toNat x.toNat)
def chE (x y : Int) : Int := if y < 0 then 10 else if x < 0 ∨ y < x then 0 else err (binom y.toNat x.toNat)
theorem ch_neg {x y : Int} (h : y < 0) : chV x y = 0 ∧ chE x y = 10 := by simp [chV, chE, h]
theorem ch_out {x y : Int} (h : ¬ y < 0) (h' : x < 0 ∨ y < x) : chV x y = 0 ∧ chE x y = 0 := by simp [chV, chE, h, h']
theorem ch_in {x y : Int} (h : 0 ≤ x) (h' : x ≤ y) : chV x y = val (binom y.toNat x.toNat) ∧ chE x y = err (binom y.toNat x.toNat) := by
  have h1 : ¬ y < 0 := by omega
  have h2 : ¬ (x < 0 ∨ y < x) := by omega
  simp [chV, chE, h1, h2]

theorem i64_and1 (n : Int) : bits .and .i64 n 1 = n % 2 := by
  have h1 : (BitVec.ofInt 64 1).toNat = 2 ^ 1 - 1 := by decide
  have key : (BitVec.ofInt 64 n &&& BitVec.ofInt 64 1).toNat = (n % ((2 ^ 64 : Nat) : Int)).toNat % 2 ^ 1 := by
    rw [BitVec.toNat_and, BitVec.toNat_ofInt, h1, Nat.and_two_pow_sub_one_eq_mod]
  show IntKind.i64.wrap ((BitVec.ofInt 64 n &&& BitVec.ofInt 64 1).toNat : Nat) = n % 2
  rw [key, IntKind.wrap_i64]
  omega

/-- PPow: the value and the error. -/
def pwV (x y : Int) : Int := if x = 1 then 1 else if x = -1 then 1 - 2 * (y % 2) else if y < 0 then 0 else val (x ^ y.toNat)
def pwE (x y : Int) : Int := if x = 1 then 0 else if x = -1 then 0 else if y < 0 then 10 else err (x ^ y.toNat)
theorem pw_one (y : Int) : pwV 1 y = 1 ∧ pwE 1 y = 0 := by simp [pwV, pwE]
theorem pw_mone (y : Int) : pwV (-1) y = 1 - 2 * (y % 2) ∧ pwE (-1) y = 0 := by simp [pwV, pwE]
theorem pw_neg {x y : Int} (h1 : ¬ x = 1) (h2 : ¬ x = -1) (h : y < 0) : pwV x y = 0 ∧ pwE x y = 10 := by simp [pwV, pwE, h1, h2, h]
theorem pw_in {x y : Int} (h1 : ¬ x = 1) (h2 : ¬ x = -1) (h : 0 ≤ y) : pwV x y = val (x ^ y.toNat) ∧ pwE x y = err (x ^ y.toNat) := by
  have h3 : ¬ y < 0 := by omega
  simp [pwV, pwE, h1, h2, h3]
theorem pow_abs {x : Int} (h : 2 ≤ x.natAbs) (a b : Nat) (hab : a < b) : 2 * (x ^ a).natAbs ≤ (x ^ b).natAbs := by
  obtain ⟨d, rfl⟩ : ∃ d, b = a + 1 + d := ⟨b - a - 1, by omega⟩
  rw [Int.natAbs_pow, Int.natAbs_pow, Nat.pow_add, Nat.pow_succ]
  have h1 : 1 ≤ x.natAbs ^ d := Nat.pow_pos (by omega)
  have h2 : x.natAbs ^ a * 2 ≤ x.natAbs ^ a * x.natAbs := Nat.mul_le_mul_left _ h
  have h3 : x.natAbs ^ a * x.natAbs * 1 ≤ x.natAbs ^ a * x.natAbs * x.natAbs ^ d := Nat.mul_le_mul_left _ h1
  omega
theorem pow_over {x : Int} (h : 2 ≤ x.natAbs) {a b : Nat} (hab : a ≤ b) (hf : fit (x ^ a) = false) : fit (x ^ b) = false := by
  by_cases e : a = b
  · rw [← e]; exact hf
  · have := pow_abs h a b (by omega)
    have hn : ¬ (-9223372036854775808 ≤ x ^ a ∧ x ^ a ≤ 9223372036854775807) := fun k => by rw [fit_of k] at hf; cases hf
    exact fit_not (by omega)
theorem pow_big {x : Int} (h : 2 ≤ x.natAbs) {b : Nat} (hb : 64 ≤ b) : fit (x ^ b) = false := by
  have h1 : 2 ^ 64 ≤ (x ^ b).natAbs := by
    rw [Int.natAbs_pow]
    exact Nat.le_trans (Nat.pow_le_pow_left h 64) (Nat.pow_le_pow_right (by omega) hb)
  exact fit_not (by omega)
theorem pow_zero_bit {y : Int} (h : 0 ≤ y) : bit (y == 0) = val (0 ^ y.toNat) ∧ err ((0 : Int) ^ y.toNat) = 0 := by
  by_cases e : y = 0
  · subst e; rw [val_of (fit_of (by simp)), err_of (fit_of (by simp))]; simp [bit]
  · have : y.toNat ≠ 0 := by omega
    obtain ⟨k, hk⟩ : ∃ k, y.toNat = k + 1 := ⟨y.toNat - 1, by omega⟩
    rw [hk, show (0 : Int) ^ (k + 1) = 0 by rw [Int.pow_succ]; omega]
    rw [val_of (fit_of (by omega)), err_of (fit_of (by omega))]; simp [bit, e]
theorem fit_one : fit 1 = true := fit_of (by omega)

theorem pow_start {x : Int} : Hid ((1 : Int) = val (x ^ 0)) ∧ Hid (true = fit (x ^ 0)) := by
  show (1 : Int) = val (x ^ 0) ∧ true = fit (x ^ 0)
  rw [Int.pow_zero, val_of fit_one, fit_one]; exact ⟨rfl, rfl⟩
theorem pow_go {x p : Int} {k : Nat} (hp : Hid (p = val (x ^ k))) (hok : Hid (true = fit (x ^ k))) : Hid (val (p * x) = val (x ^ (k + 1))) ∧ Hid (fit (p * x) = fit (x ^ (k + 1))) := by
  have h1 := hp.out
  rw [val_of hok.out.symm] at h1
  subst h1
  exact ⟨by rw [Int.pow_succ]; exact rfl, by rw [Int.pow_succ]; exact rfl⟩
theorem pow_stop {x p : Int} {k n : Nat} (hk : k ≤ n) (hp : Hid (p = val (x ^ k))) (hok : Hid (false = fit (x ^ k))) (hx : Hid (2 ≤ x.natAbs)) : Hid (p = val (x ^ n) ∧ false = fit (x ^ n)) := by
  have h1 := hp.out
  rw [val_not hok.out.symm] at h1
  have h2 := pow_over hx.out hk hok.out.symm
  show p = val (x ^ n) ∧ false = fit (x ^ n)
  rw [val_not h2, h2]; exact ⟨h1, rfl⟩
/-- The least common multiple as Go makes it. -/
theorem lcm_eq {a b : Nat} (ha : a ≠ 0) : a / Nat.gcd a b * b = Nat.lcm a b := by
  rw [Nat.lcm, Nat.div_mul_right_comm (Nat.gcd_dvd_left a b)]
end Go.Proofs.Ytdedbfbkakofgaa

namespace Go.Proofs.Ytdedbfbkakofgaa
open Go.RowKit
set_option linter.unusedVariables false
set_option linter.unusedSimpArgs false

def sgn (y : Int) : Int := if y < 0 then -1 else if 0 < y then 1 else 0
def halfV (y : Int) : Int := if y % 2 = 0 then y / 2 else 0
def halfE (y : Int) : Int := if y % 2 = 0 then 0 else 10
/-- The value and the error of a monad. -/
def moV (op y : Int) : Int :=
  if op = 1 ∨ op = 6 ∨ op = 7 then y else if op = 2 then val (-y) else if op = 3 then sgn y else if op = 5 then val y.natAbs
  else if op = 12 then val (y - 1) else if op = 13 then val (y + 1) else if op = 16 then val (y + y) else if op = 17 then val (y * y)
  else if op = 18 then val (1 - y) else if op = 19 then halfV y else if op = 21 then facV y else 0
def moE (op y : Int) : Int :=
  if op = 1 ∨ op = 6 ∨ op = 7 then 0 else if op = 2 then err (-y) else if op = 3 then 0 else if op = 5 then err y.natAbs
  else if op = 12 then err (y - 1) else if op = 13 then err (y + 1) else if op = 16 then err (y + y) else if op = 17 then err (y * y)
  else if op = 18 then err (1 - y) else if op = 19 then halfE y else if op = 21 then facE y else if 1 ≤ op ∧ op ≤ 21 then 16 else 1
def bitsOk (x y : Int) : Bool := decide ((x = 0 ∨ x = 1) ∧ (y = 0 ∨ y = 1))
/-- The value and the error of a dyad. -/
def dyV (op x y : Int) : Int :=
  if op = 1 then val (x + y) else if op = 2 then val (x - y) else if op = 3 then val (x * y) else if op = 4 then (if y = 0 then 0 else val (x.fdiv y))
  else if op = 5 then (if x = 0 then y else y.fmod x) else if op = 6 then min x y else if op = 7 then max x y
  else if op = 8 then bit (decide (x < y)) else if op = 9 then bit (decide (y < x)) else if op = 10 then bit (x == y) else if op = 11 then bit (x != y)
  else if op = 12 then bit (decide (x ≤ y)) else if op = 13 then bit (decide (y ≤ x)) else if op = 14 then val (Nat.gcd x.natAbs y.natAbs)
  else if op = 15 then val (Nat.lcm x.natAbs y.natAbs) else if op = 16 then (if bitsOk x y then bit (x + y == 0) else 0) else if op = 17 then (if bitsOk x y then bit (decide (x + y < 2)) else 0)
  else if op = 20 then pwV x y else if op = 21 then chV x y else 0
def dyE (op x y : Int) : Int :=
  if op = 1 then err (x + y) else if op = 2 then err (x - y) else if op = 3 then err (x * y) else if op = 4 then (if y = 0 then 10 else err (x.fdiv y))
  else if op = 5 then 0 else if op = 6 then 0 else if op = 7 then 0
  else if 8 ≤ op ∧ op ≤ 13 then 0 else if op = 14 then err (Nat.gcd x.natAbs y.natAbs)
  else if op = 15 then err (Nat.lcm x.natAbs y.natAbs) else if op = 16 ∨ op = 17 then (if bitsOk x y then 0 else 10)
  else if op = 20 then pwE x y else if op = 21 then chE x y else if 1 ≤ op ∧ op ≤ 21 then 16 else 1

theorem mo_row {op y : Int} (h : op = 4 ∨ op = 8 ∨ op = 9 ∨ op = 10 ∨ op = 11 ∨ op = 14 ∨ op = 15 ∨ op = 20) : moV op y = 0 ∧ moE op y = 16 := by
  rcases h with rfl | rfl | rfl | rfl | rfl | rfl | rfl | rfl <;> simp [moV, moE]
theorem mo_out {op y : Int} (h : ¬ (1 ≤ op ∧ op ≤ 21)) : moV op y = 0 ∧ moE op y = 1 := by
  constructor
  · unfold moV; repeat rw [if_neg (by omega)]
  · unfold moE; repeat rw [if_neg (by omega)]
theorem dy_row {op x y : Int} (h : op = 18 ∨ op = 19) : dyV op x y = 0 ∧ dyE op x y = 16 := by
  rcases h with rfl | rfl <;> simp [dyV, dyE]
theorem dy_out {op x y : Int} (h : ¬ (1 ≤ op ∧ op ≤ 21)) : dyV op x y = 0 ∧ dyE op x y = 1 := by
  constructor
  · unfold dyV; repeat rw [if_neg (by omega)]
  · unfold dyE; repeat rw [if_neg (by omega)]
theorem half_even {y : Int} (hy : -9223372036854775808 ≤ y ∧ y ≤ 9223372036854775807) (h : y % 2 = 0) : y.tmod 2 = 0 ∧ y.tdiv 2 = halfV y ∧ (0 : Int) = halfE y ∧ -9223372036854775808 ≤ y.tdiv 2 ∧ y.tdiv 2 ≤ 9223372036854775807 := by
  have h1 := Int.mul_tdiv_add_tmod y 2
  have h2 := tmod_near y 2 (by omega)
  simp only [halfV, halfE, if_pos h]
  exact ⟨by omega, by omega, trivial, by omega, by omega⟩
theorem half_odd {y : Int} (h : ¬ y % 2 = 0) : ¬ y.tmod 2 = 0 ∧ (0 : Int) = halfV y ∧ (10 : Int) = halfE y := by
  have h1 := Int.mul_tdiv_add_tmod y 2
  simp only [halfV, halfE, if_neg h]
  exact ⟨by omega, trivial, trivial⟩
theorem bits_yes {x y : Int} (h : (x = 0 ∨ x = 1) ∧ (y = 0 ∨ y = 1)) : bitsOk x y = true := by simp [bitsOk, h]
theorem bits_no {x y : Int} (h : ¬ ((x = 0 ∨ x = 1) ∧ (y = 0 ∨ y = 1))) : bitsOk x y = false := by
  cases e : bitsOk x y
  · rfl
  · simp only [bitsOk, decide_eq_true_eq] at e; exact absurd e h
theorem u64_big {x : Int} (hx : -9223372036854775808 ≤ x ∧ x ≤ 9223372036854775807) (h : ¬ (x = 0 ∨ x = 1)) : 1 < IntKind.u64.wrap x := by rw [IntKind.wrap_u64]; omega
theorem u64_small {x : Int} (h : x = 0 ∨ x = 1) : IntKind.u64.wrap x ≤ 1 := by rw [IntKind.wrap_u64]; omega
end Go.Proofs.Ytdedbfbkakofgaa
