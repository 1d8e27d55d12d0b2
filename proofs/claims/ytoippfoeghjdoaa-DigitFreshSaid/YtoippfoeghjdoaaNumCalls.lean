/- Plain facts on quotients of 128 bits by small divisors, powers, binomial coefficients: no program in sight. Contracts of num.lcm, num.power, num.choices, and of bits.Div64 at a divisor below 2^32. Contract of num.choices. What num.Monad and num.Dyad tell, by the verb's number: no program in sight. Contracts of num.Monad and num.Dyad at every verb's number. -/
import Derived.Test.YtoippfoeghjdoaaNumDiv
import Derived.Lib.BitFns
import Derived.Laws.MathBits
import Derived.Test.YtoippfoeghjdoaaShelf
namespace Go.Proofs.Ytoippfoeghjdoaa
open Go.RowKit
set_option linter.unusedVariables false
set_option linter.unusedSimpArgs false

theorem bitLenAux_bd : ∀ (f x : Nat), x < 2 ^ f → x < 2 ^ Lib.bitLenAux f x ∧ (x ≠ 0 → 2 ^ (Lib.bitLenAux f x - 1) ≤ x ∧ 1 ≤ Lib.bitLenAux f x) ∧ Lib.bitLenAux f x ≤ f
  | 0, x, h => by simp at h; subst h; simp [Lib.bitLenAux]
  | f + 1, x, h => by
    by_cases h0 : x = 0
    · subst h0; simp [Lib.bitLenAux]
    · have hx : x / 2 < 2 ^ f := by rw [Nat.pow_succ] at h; omega
      obtain ⟨i1, i2, i3⟩ := bitLenAux_bd f (x / 2) hx
      simp only [Lib.bitLenAux, if_neg h0]
      refine ⟨?_, fun _ => ⟨?_, by omega⟩, by omega⟩
      · rw [Nat.add_comm 1, Nat.pow_succ]; omega
      · rw [show 1 + Lib.bitLenAux f (x / 2) - 1 = Lib.bitLenAux f (x / 2) by omega]
        by_cases h1 : x / 2 = 0
        · rw [h1]
          have : Lib.bitLenAux f 0 = 0 := by cases f <;> simp [Lib.bitLenAux]
          rw [this]; simp; omega
        · obtain ⟨j1, j2⟩ := i2 h1
          have : 2 ^ Lib.bitLenAux f (x / 2) = 2 ^ (Lib.bitLenAux f (x / 2) - 1) * 2 := by rw [← Nat.pow_succ]; congr 1; omega
          omega
theorem bitLen_bd {y : Nat} (h0 : 1 ≤ y) (h : y ≤ 4294967295) : 1 ≤ Lib.bitLen y ∧ Lib.bitLen y ≤ 32 ∧ y < 2 ^ Lib.bitLen y := by
  obtain ⟨h1, h2, _⟩ := bitLenAux_bd 64 y (by omega)
  obtain ⟨h3, h4⟩ := h2 (by omega)
  refine ⟨h4, ?_, h1⟩
  show Lib.bitLenAux 64 y ≤ 32
  rcases Nat.lt_or_ge 32 (Lib.bitLenAux 64 y) with h5 | h5
  · have : 2 ^ 32 ≤ 2 ^ (Lib.bitLenAux 64 y - 1) := Nat.pow_le_pow_right (by omega) (by omega)
    omega
  · exact h5

theorem wrap_u64_nat (n : Nat) (h : n < 18446744073709551616) : IntKind.u64.wrap (n : Int) = n := by rw [IntKind.wrap_u64]; omega

/-- The quotient of 128 bits. -/
def quo128 (h l y : Nat) : Nat := (h * 18446744073709551616 + l) / y
theorem quo128_zero (l y : Nat) : quo128 0 l y = l / y := by unfold quo128; rw [Nat.zero_mul, Nat.zero_add]
structure D64 (h l y L : Nat) where
  (Y Z H G U T T1 T0 q1 M r V q0 : Nat)
  eY : IntKind.u64.wrap ((y : Int) * 2 ^ (64 - L)) = (Y : Int)
  eZ : (Y : Int) / 4294967296 = (Z : Int)
  eA : bits BinOp.and IntKind.u64 (Y : Int) 4294967295 = 0
  eH : IntKind.u64.wrap ((h : Int) * 2 ^ (64 - L)) = (H : Int)
  eR : (l : Int) / 2 ^ (64 - (64 - L)) = (G : Int)
  eU : bits BinOp.or IntKind.u64 (H : Int) (G : Int) = (U : Int)
  eT : IntKind.u64.wrap ((l : Int) * 2 ^ (64 - L)) = (T : Int)
  eT1 : (T : Int) / 4294967296 = (T1 : Int)
  eT0 : bits BinOp.and IntKind.u64 (T : Int) 4294967295 = (T0 : Int)
  eq1 : (U : Int) / (Z : Int) = (q1 : Int)
  eM : IntKind.u64.wrap ((q1 : Int) * (Z : Int)) = (M : Int)
  er : (U : Int) - (M : Int) = (r : Int)
  eV : IntKind.u64.wrap (IntKind.u64.wrap (IntKind.u64.wrap ((U : Int) * 4294967296) + (T1 : Int)) - IntKind.u64.wrap ((q1 : Int) * (Y : Int))) = (V : Int)
  eq0 : (V : Int) / (Z : Int) = (q0 : Int)
  bZ : 1 ≤ Z ∧ Z ≤ 4294967295
  bY : Y ≤ 18446744073709551615
  bU : U ≤ 18446744073709551615
  bT : T ≤ 18446744073709551615
  bT1 : T1 ≤ 4294967295
  bT0 : T0 ≤ 4294967295
  bq1 : q1 ≤ 4294967295
  bM : M ≤ U
  br : r ≤ 4294967294
  bV : V ≤ 18446744073709551615
  bq0 : q0 ≤ 4294967295
  fin : q1 * 4294967296 + q0 = quo128 h l y

theorem div_back (a : Nat) {b : Nat} (h : b < 4294967296) : (a * 4294967296 + b) / 4294967296 = a := by omega
theorem d64 {h l y L : Nat} (hy : h < y) (hl : l < 18446744073709551616) (L1 : 1 ≤ L) (L2 : L ≤ 32) (hL : y < 2 ^ L) : Nonempty (D64 h l y L) := by
  obtain ⟨e, rfl⟩ : ∃ e, L = 32 - e := ⟨32 - L, by omega⟩
  have he : e ≤ 31 := by omega
  have e1 : 64 - (32 - e) = 32 + e := by omega
  have e2 : 64 - (32 + e) = 32 - e := by omega
  obtain ⟨R, hR⟩ : ∃ R, R = 2 ^ (32 - e) := ⟨_, rfl⟩
  obtain ⟨p, hp⟩ : ∃ p, p = 2 ^ e := ⟨_, rfl⟩
  have hpR : p * R = 4294967296 := by rw [hp, hR, ← Nat.pow_add]; rw [show e + (32 - e) = 32 by omega]
  have hP : 2 ^ (32 + e) = 4294967296 * p := by rw [Nat.pow_add, hp]
  have hPi : (2 : Int) ^ (32 + e) = ((4294967296 * p : Nat) : Int) := by rw [← hP]; simp
  have hRi : (2 : Int) ^ (32 - e) = ((R : Nat) : Int) := by rw [hR]; simp
  have hp1 : 1 ≤ p := by rw [hp]; exact Nat.one_le_two_pow
  have hR1 : 1 ≤ R := by rw [hR]; exact Nat.one_le_two_pow
  rw [← hR] at hL
  -- Z = y p, Y = Z 2^32
  have hZ : y * p ≤ 4294967295 := by
    have : y * p < R * p := Nat.mul_lt_mul_of_pos_right hL (by omega)
    rw [Nat.mul_comm R p, hpR] at this; omega
  have hY : y * (4294967296 * p) = 4294967296 * (y * p) := by rw [← Nat.mul_assoc, Nat.mul_comm y, Nat.mul_assoc]
  have hH : h * (4294967296 * p) = 4294967296 * (h * p) := by rw [← Nat.mul_assoc, Nat.mul_comm h, Nat.mul_assoc]
  have hhp : h * p + p ≤ y * p := by
    have : (h + 1) * p ≤ y * p := Nat.mul_le_mul_right p hy
    rw [Nat.add_mul] at this; omega
  have hG : l / R < 4294967296 * p := by
    rw [Nat.div_lt_iff_lt_mul (by omega), Nat.mul_assoc, hpR]; omega
  have hyp1 : 1 ≤ y * p := Nat.mul_pos (by omega) (by omega)
  generalize hzz : y * p = Z at *
  generalize hhh : h * p = K at *
  generalize hgg : l / R = G at *
  -- l = G R + l0 ; T = (l p 2^32) mod 2^64 = l0 * (p 2^32)
  have hU : 4294967296 * K + G < 4294967296 * Z := by omega
  generalize hUU : 4294967296 * K + G = U at *
  have hq1 : U / Z ≤ 4294967295 := by
    have : U / Z < 4294967296 := by rw [Nat.div_lt_iff_lt_mul (by omega)]; omega
    omega
  have hdm := Nat.div_add_mod U Z
  have hml := Nat.mod_lt U (show 0 < Z by omega)
  have hqz : U / Z * Z ≤ U := Nat.div_mul_le_self U Z
  have hqz' : U / Z * Z + U % Z = U := by rw [Nat.mul_comm]; exact hdm
  generalize hmm : U / Z * Z = M at *
  generalize hrr : U % Z = r at *
  obtain ⟨T, hT⟩ : ∃ T, T = l * (4294967296 * p) % 18446744073709551616 := ⟨_, rfl⟩
  have hT' : T < 18446744073709551616 := by rw [hT]; exact Nat.mod_lt _ (by omega)
  have hV : r * 4294967296 + T / 4294967296 ≤ 18446744073709551615 := by omega
  have hq1Y : U / Z * (4294967296 * Z) = 4294967296 * M := by rw [← hmm, ← Nat.mul_assoc, Nat.mul_comm _ 4294967296, Nat.mul_assoc]
  have hq0 : (r * 4294967296 + T / 4294967296) / Z ≤ 4294967295 := by
    have : (r * 4294967296 + T / 4294967296) / Z < 4294967296 := by
      rw [Nat.div_lt_iff_lt_mul (by omega)]
      have : (r + 1) * 4294967296 ≤ Z * 4294967296 := Nat.mul_le_mul_right _ hml
      omega
    omega
  refine ⟨⟨4294967296 * Z, Z, 4294967296 * K, G, U, T, T / 4294967296, T % 4294967296, U / Z, M, r, r * 4294967296 + T / 4294967296,
    (r * 4294967296 + T / 4294967296) / Z, ?_, ?_, ?_, ?_, ?_, ?_, ?_, ?_, ?_, ?_, ?_, ?_, ?_, ?_, by omega, by omega, by omega, by omega, by omega, by omega, hq1, by omega, by omega, hV, hq0, ?_⟩⟩
  · rw [e1, hPi, ← Int.natCast_mul, hY, wrap_u64_nat _ (by omega)]
  · omega
  · rw [and_low32 _ (by omega) (by omega)]; omega
  · rw [e1, hPi, ← Int.natCast_mul, hH, wrap_u64_nat _ (by omega)]
  · rw [e1, e2, hRi, ← hgg]; simp
  · have hk := bits_join .u64 64 (by decide) (fun n h0 h1 => by rw [IntKind.wrap_u64]; omega) (32 + e) ((4294967296 * K : Nat) : Int) (G : Int) (by omega)
      (by rw [hPi, ← hH]; exact_mod_cast Nat.mul_mod_left h (4294967296 * p)) (by omega) (by omega) (by rw [hPi]; exact_mod_cast hG) (by omega)
    rw [hk]; omega
  · rw [e1, hPi, ← Int.natCast_mul, hT, IntKind.wrap_u64]; omega
  · omega
  · rw [and_low32 _ (by omega) (by omega)]; omega
  · exact_mod_cast rfl
  · rw [← Int.natCast_mul, hmm, wrap_u64_nat _ (by omega)]
  · omega
  · rw [← Int.natCast_mul, hq1Y]
    simp only [IntKind.wrap_u64]
    omega
  · exact_mod_cast rfl
  · -- the quotient: (h 2^64 + l) / y = ((h 2^64 + l) p 2^32) / (Z 2^32)
    unfold quo128
    have k1 : (h * 18446744073709551616 + l) / y = (h * 18446744073709551616 + l) * (4294967296 * p) / (y * (4294967296 * p)) := (Nat.mul_div_mul_right _ _ (by omega)).symm
    have k2 : (h * 18446744073709551616 + l) * (4294967296 * p) = U * 18446744073709551616 + T := by
      have hl1 := Nat.div_add_mod l R
      rw [hgg] at hl1
      have hl2 := Nat.mod_lt l (show 0 < R by omega)
      generalize l % R = l0 at *
      have k3 : l * (4294967296 * p) = G * 18446744073709551616 + l0 * (4294967296 * p) := by
        rw [← hl1, Nat.add_mul]
        congr 1
        rw [Nat.mul_comm R G, Nat.mul_assoc]
        congr 1
        rw [← Nat.mul_assoc, Nat.mul_comm R, Nat.mul_assoc, Nat.mul_comm R, hpR]
      have k4 : l0 * (4294967296 * p) < 18446744073709551616 := by
        have : l0 * (4294967296 * p) < R * (4294967296 * p) := Nat.mul_lt_mul_of_pos_right hl2 (by omega)
        have k5 : R * (4294967296 * p) = 18446744073709551616 := by rw [← Nat.mul_assoc, Nat.mul_comm R, Nat.mul_assoc, Nat.mul_comm R, hpR]
        omega
      have k6 : T = l0 * (4294967296 * p) := by rw [hT, k3]; omega
      rw [Nat.add_mul, k3, k6, ← hUU, Nat.mul_right_comm, hH]
      omega
    rw [k1, k2, hY]
    rw [show U * 18446744073709551616 + T = (U * 4294967296 + T / 4294967296) * 4294967296 + T % 4294967296 by omega]
    rw [← Nat.div_div_eq_div_mul, div_back _ (Nat.mod_lt _ (by omega))]
    rw [show U * 4294967296 + T / 4294967296 = (r * 4294967296 + T / 4294967296) + Z * (U / Z * 4294967296) by
      rw [← Nat.mul_assoc, Nat.mul_comm Z, hmm]; omega]
    rw [Nat.add_mul_div_left _ _ (by omega)]
    omega

theorem wrap_ex (n : Int) : ∃ B : Nat, IntKind.u64.wrap n = (B : Int) := Int.eq_ofNat_of_zero_le (by rw [IntKind.wrap_u64]; omega)
theorem d64_rest {V Z q0 : Nat} (h1 : 1 ≤ Z) (h2 : Z ≤ 4294967295) (h : (V : Int) / (Z : Int) = (q0 : Int)) (hV : V ≤ 18446744073709551615) :
    ∃ M2 r3 : Nat, IntKind.u64.wrap ((q0 : Int) * (Z : Int)) = (M2 : Int) ∧ (V : Int) - (M2 : Int) = (r3 : Int) ∧ r3 ≤ 4294967294 := by
  have h' : V / Z = q0 := by exact_mod_cast h
  have h3 := Nat.div_add_mod V Z
  have h4 := Nat.mod_lt V (show 0 < Z by omega)
  rw [h'] at h3
  refine ⟨q0 * Z, V % Z, ?_, ?_, by omega⟩
  · rw [← Int.natCast_mul]
    exact wrap_u64_nat _ (by rw [Nat.mul_comm]; omega)
  · rw [Nat.mul_comm q0]; omega

def binom : Nat → Nat → Nat
  | _, 0 => 1
  | 0, _ + 1 => 0
  | n + 1, k + 1 => binom n k + binom n (k + 1)
theorem binom_zero (n : Nat) : binom n 0 = 1 := by cases n <;> rfl
theorem binom_big : ∀ (n k : Nat), n < k → binom n k = 0
  | 0, k + 1, _ => rfl
  | n + 1, k + 1, h => by rw [binom, binom_big n k (by omega), binom_big n (k + 1) (by omega)]
theorem binom_self : ∀ n : Nat, binom n n = 1
  | 0 => rfl
  | n + 1 => by rw [binom, binom_self n, binom_big n (n + 1) (by omega)]
theorem binom_absorb : ∀ (n k : Nat), binom (n + 1) (k + 1) * (k + 1) = binom n k * (n + 1)
  | 0, 0 => rfl
  | 0, k + 1 => by simp [binom]
  | n + 1, 0 => by
    have h := binom_absorb n 0
    have e : binom (n + 2) (0 + 1) = binom (n + 1) 0 + binom (n + 1) (0 + 1) := rfl
    rw [binom_zero] at *
    show binom (n + 2) (0 + 1) * (0 + 1) = _
    omega
  | n + 1, k + 1 => by
    have h1 := binom_absorb n k
    have h2 := binom_absorb n (k + 1)
    have e : binom (n + 2) (k + 2) = binom (n + 1) (k + 1) + binom (n + 1) (k + 2) := rfl
    have e' : binom (n + 1) (k + 1) = binom n k + binom n (k + 1) := rfl
    rw [e, Nat.add_mul, h2, Nat.mul_succ (binom (n + 1) (k + 1)) (k + 1), h1, e']
    simp only [Nat.add_mul, Nat.mul_add]
    omega
theorem binom_symm : ∀ (a b : Nat), binom (a + b) a = binom (a + b) b
  | 0, b => by rw [Nat.zero_add, binom_zero, binom_self]
  | a + 1, 0 => by rw [Nat.add_zero, binom_zero, binom_self]
  | a + 1, b + 1 => by
    have e1 : a + 1 + (b + 1) = (a + b + 1) + 1 := by omega
    rw [e1]
    show binom (a + b + 1) a + binom (a + b + 1) (a + 1) = binom (a + b + 1) b + binom (a + b + 1) (b + 1)
    have h1 := binom_symm (a + 1) b
    have h2 := binom_symm a (b + 1)
    rw [show a + 1 + b = a + b + 1 by omega] at h1
    rw [show a + (b + 1) = a + b + 1 by omega] at h2
    omega
theorem binom_up (m i : Nat) : binom (m + i) i ≤ binom (m + (i + 1)) (i + 1) := by
  show binom (m + i) i ≤ binom (m + i) i + binom (m + i) (i + 1)
  omega
theorem binom_mono {m i j : Nat} (h : i ≤ j) : binom (m + i) i ≤ binom (m + j) j := by
  induction h with
  | refl => exact Nat.le_refl _
  | step _ ih => exact Nat.le_trans ih (binom_up _ _)
theorem binom_next (m i : Nat) : binom (m + (i + 1)) (i + 1) * (i + 1) = binom (m + i) i * (m + (i + 1)) := binom_absorb (m + i) i
theorem binom_two (m : Nat) : ∀ i, i ≤ m → 2 ^ i ≤ binom (m + i) i
  | 0, _ => by rw [binom_zero]; simp
  | i + 1, h => by
    have ih := binom_two m i (by omega)
    have e := binom_next m i
    have : 2 ^ i * 2 * (i + 1) ≤ binom (m + (i + 1)) (i + 1) * (i + 1) := by
      rw [e, Nat.mul_assoc]
      exact Nat.mul_le_mul ih (by omega)
    exact Nat.le_of_mul_le_mul_right this (by omega)
theorem binom_small {m i : Nat} (h : i ≤ m) (hb : binom (m + i) i ≤ 9223372036854775807) : i ≤ 62 := by
  have := binom_two m i h
  rcases Nat.lt_or_ge 62 i with h1 | h1
  · have : 2 ^ 63 ≤ 2 ^ i := Nat.pow_le_pow_right (by omega) (by omega)
    omega
  · exact h1
theorem binom_div (m i : Nat) : binom (m + i) i * (m + (i + 1)) / (i + 1) = binom (m + (i + 1)) (i + 1) := by
  rw [← binom_next]; exact Nat.mul_div_cancel _ (by omega)

/-- PFact of two numbers: the value and the error. -/
def chV (x y : Int) : Int := if y < 0 then 0 else if x < 0 ∨ y < x then 0 else val (binom y.toNat x.toNat)
def chE (x y : Int) : Int := if y < 0 then 10 else if x < 0 ∨ y < x then 0 else err (binom y.toNat x.toNat)
theorem ch_neg {x y : Int} (h : y < 0) : chV x y = 0 ∧ chE x y = 10 := by simp [chV, chE, h]
theorem ch_out {x y : Int} (h : ¬ y < 0) (h' : x < 0 ∨ y < x) : chV x y = 0 ∧ chE x y = 0 := by simp [chV, chE, h, h']
theorem ch_in {x y : Int} (h : 0 ≤ x) (h' : x ≤ y) : chV x y = val (binom y.toNat x.toNat) ∧ chE x y = err (binom y.toNat x.toNat) := by
  have h1 : ¬ y < 0 := by omega
  have h2 : ¬ (x < 0 ∨ y < x) := by omega
  simp [chV, chE, h1, h2]

theorem i64_and1 (n : Int) : bits .and .i64 n 1 = n % 2 := by
  have h1 : (BitVec.ofInt 64 1).toNat = 2 ^ 1 - 1 := by decide
  have key : (BitVec.ofInt 64 n &&& BitVec.ofInt 64 1).toNat = (n % ((2 ^ 64 : Nat) : Int)).toNat % 2 ^ 1 := by
    rw [BitVec.toNat_and, BitVec.toNat_ofInt, h1, Nat.and_two_pow_sub_one_eq_mod]
  show IntKind.i64.wrap ((BitVec.ofInt 64 n &&& BitVec.ofInt 64 1).toNat : Nat) = n % 2
  rw [key, IntKind.wrap_i64]
  omega

/-- PPow: the value and the error. -/
def pwV (x y : Int) : Int := if x = 1 then 1 else if x = -1 then 1 - 2 * (y % 2) else if y < 0 then 0 else val (x ^ y.toNat)
def pwE (x y : Int) : Int := if x = 1 then 0 else if x = -1 then 0 else if y < 0 then 10 else err (x ^ y.toNat)
theorem pw_one (y : Int) : pwV 1 y = 1 ∧ pwE 1 y = 0 := by simp [pwV, pwE]
theorem pw_mone (y : Int) : pwV (-1) y = 1 - 2 * (y % 2) ∧ pwE (-1) y = 0 := by simp [pwV, pwE]
theorem pw_neg {x y : Int} (h1 : ¬ x = 1) (h2 : ¬ x = -1) (h : y < 0) : pwV x y = 0 ∧ pwE x y = 10 := by simp [pwV, pwE, h1, h2, h]
theorem pw_in {x y : Int} (h1 : ¬ x = 1) (h2 : ¬ x = -1) (h : 0 ≤ y) : pwV x y = val (x ^ y.toNat) ∧ pwE x y = err (x ^ y.toNat) := by
  have h3 : ¬ y < 0 := by omega
  simp [pwV, pwE, h1, h2, h3]
theorem pow_abs {x : Int} (h : 2 ≤ x.natAbs) (a b : Nat) (hab : a < b) : 2 * (x ^ a).natAbs ≤ (x ^ b).natAbs := by
  obtain ⟨d, rfl⟩ : ∃ d, b = a + 1 + d := ⟨b - a - 1, by omega⟩
  rw [Int.natAbs_pow, Int.natAbs_pow, Nat.pow_add, Nat.pow_succ]
  have h1 : 1 ≤ x.natAbs ^ d := Nat.pow_pos (by omega)
  have h2 : x.natAbs ^ a * 2 ≤ x.natAbs ^ a * x.natAbs := Nat.mul_le_mul_left _ h
  have h3 : x.natAbs ^ a * x.natAbs * 1 ≤ x.natAbs ^ a * x.natAbs * x.natAbs ^ d := Nat.mul_le_mul_left _ h1
  omega
theorem pow_over {x : Int} (h : 2 ≤ x.natAbs) {a b : Nat} (hab : a ≤ b) (hf : fit (x ^ a) = false) : fit (x ^ b) = false := by
  by_cases e : a = b
  · rw [← e]; exact hf
  · have := pow_abs h a b (by omega)
    have hn : ¬ (-9223372036854775808 ≤ x ^ a ∧ x ^ a ≤ 9223372036854775807) := fun k => by rw [fit_of k] at hf; cases hf
    exact fit_not (by omega)
theorem pow_big {x : Int} (h : 2 ≤ x.natAbs) {b : Nat} (hb : 64 ≤ b) : fit (x ^ b) = false := by
  have h1 : 2 ^ 64 ≤ (x ^ b).natAbs := by
    rw [Int.natAbs_pow]
    exact Nat.le_trans (Nat.pow_le_pow_left h 64) (Nat.pow_le_pow_right (by omega) hb)
  exact fit_not (by omega)
theorem pow_zero_bit {y : Int} (h : 0 ≤ y) : bit (y == 0) = val (0 ^ y.toNat) ∧ err ((0 : Int) ^ y.toNat) = 0 := by
  by_cases e : y = 0
  · subst e; rw [val_of (fit_of (by simp)), err_of (fit_of (by simp))]; simp [bit]
  · have : y.toNat ≠ 0 := by omega
    obtain ⟨k, hk⟩ : ∃ k, y.toNat = k + 1 := ⟨y.toNat - 1, by omega⟩
    rw [hk, show (0 : Int) ^ (k + 1) = 0 by rw [Int.pow_succ]; omega]
    rw [val_of (fit_of (by omega)), err_of (fit_of (by omega))]; simp [bit, e]
theorem fit_one : fit 1 = true := fit_of (by omega)

theorem pow_start {x : Int} : Hid ((1 : Int) = val (x ^ 0)) ∧ Hid (true = fit (x ^ 0)) := by
  show (1 : Int) = val (x ^ 0) ∧ true = fit (x ^ 0)
  rw [Int.pow_zero, val_of fit_one, fit_one]; exact ⟨rfl, rfl⟩
theorem pow_go {x p : Int} {k : Nat} (hp : Hid (p = val (x ^ k))) (hok : Hid (true = fit (x ^ k))) : Hid (val (p * x) = val (x ^ (k + 1))) ∧ Hid (fit (p * x) = fit (x ^ (k + 1))) := by
  have h1 := hp.out
  rw [val_of hok.out.symm] at h1
  subst h1
  exact ⟨by rw [Int.pow_succ]; exact rfl, by rw [Int.pow_succ]; exact rfl⟩
theorem pow_stop {x p : Int} {k n : Nat} (hk : k ≤ n) (hp : Hid (p = val (x ^ k))) (hok : Hid (false = fit (x ^ k))) (hx : Hid (2 ≤ x.natAbs)) : Hid (p = val (x ^ n) ∧ false = fit (x ^ n)) := by
  have h1 := hp.out
  rw [val_not hok.out.symm] at h1
  have h2 := pow_over hx.out hk hok.out.symm
  show p = val (x ^ n) ∧ false = fit (x ^ n)
  rw [val_not h2, h2]; exact ⟨h1, rfl⟩
/-- The least common multiple as Go makes it. -/
theorem lcm_eq {a b : Nat} (ha : a ≠ 0) : a / Nat.gcd a b * b = Nat.lcm a b := by
  rw [Nat.lcm, Nat.div_mul_right_comm (Nat.gcd_dvd_left a b)]
end Go.Proofs.Ytoippfoeghjdoaa
namespace Go.Proofs.Ytoippfoeghjdoaa
open Go.RowKit
set_option linter.unusedVariables false
set_option linter.unusedSimpArgs false

def SomeRem (w : World) (q : Nat) (e : Ending) (w' : World) : Prop := ∃ r : Int, Ret w (.tuple #[.int .u64 (q : Int), .int .u64 r]) e w'
set_option maxHeartbeats 800000 in
theorem div64_any (h l y : Nat) (w : World) (hy : h < y) (hl : l ≤ 18446744073709551615) (hb : y ≤ 4294967295) :
    Calls Try.prog 113 #[.int .u64 h, .int .u64 l, .int .u64 y] w (SomeRem w (quo128 h l y)) := by
  have h2 : ((y : Int) == 0) = false := by simp; omega
  have h3 : ¬ (y : Int) ≤ h := by omega
  have h4 : (1 : Int) ≤ y := by omega
  have h5 : ¬ (y : Int) = 0 := by omega
  by_cases h0 : h = 0
  · subst h0
    rw [quo128_zero]
    have hle : l / y ≤ l := Nat.div_le_self _ _
    have hq : IntKind.u64.wrap ((l : Int) / (y : Int)) = ((l / y : Nat) : Int) := by rw [← Int.natCast_ediv]; exact wrap_u64_nat _ (by omega)
    go_enter Try.func113, Try.ntmps113
    go_wp2
    go_quiet (fail)
    go_wp2
    go_ret2
    exact ⟨(l : Int) % y, Ret.mk _ rfl⟩
  · obtain ⟨L1, L2, L3⟩ := bitLen_bd (show 1 ≤ y by omega) hb
    obtain ⟨L, HL⟩ : ∃ L, Hid (Lib.bitLen y = L) := ⟨_, rfl⟩
    rw [HL.out] at L1 L2 L3
    obtain ⟨D⟩ := d64 (h := h) (l := l) hy (by omega) L1 L2 L3
    obtain ⟨Y, Z, H, G, U, T, T1, T0, q1, M, r, V, q0, eY, eZ, eA, eH, eR, eU, eT, eT1, eT0, eq1, eM, er, eV, eq0, ⟨bZ, bZ'⟩, bY, bU, bT, bT1, bT0, bq1, bM, br, bV, bq0, fin⟩ := D
    have HF := Lib.hid fin
    clear fin L3
    have h1 : ((h : Int) == 0) = false := by simpa using h0
    go_enter Try.func113, Try.ntmps113
    go_wp2_with (go_at_call 114; refine (Try.bits_LeadingZeros64 _ _ (by omega) (by omega)).mono ?_; rintro e w' ⟨rfl, rfl⟩; rw [Int.toNat_natCast, HL.out])
    have HV := Lib.hid eV
    have HZ := Lib.hid bZ'
    have Heq0 := Lib.hid eq0
    have HB := Lib.hid bV
    clear eY eZ eA eH eR eU eT eT1 eT0 eq1 eM er eV hb hl hy bY bT bM bV bZ' h4 h5 h2 h3 h1 h0
    have c1 : decide ((4294967296 : Int) ≤ q1) = false := by simp; omega
    obtain ⟨R1, HR1⟩ : ∃ R1 : Nat, Hid (R1 = 4294967296 * r) := ⟨_, rfl⟩
    have b1 : R1 ≤ 18446744069414584320 := by have := HR1.out; omega
    have c2 : IntKind.u64.wrap (4294967296 * (r : Int)) = (R1 : Int) := by rw [HR1.out, IntKind.wrap_u64]; omega
    have eV' := HV.out
    obtain ⟨M2, r3, eM2, er3, b3⟩ : ∃ M2 r3 : Nat, IntKind.u64.wrap ((q0 : Int) * (Z : Int)) = (M2 : Int) ∧ (V : Int) - (M2 : Int) = (r3 : Int) ∧ r3 ≤ 4294967294 := d64_rest bZ HZ.out Heq0.out HB.out
    obtain ⟨R3, HR3⟩ : ∃ R3 : Nat, Hid (R3 = 4294967296 * r3) := ⟨_, rfl⟩
    have b4 : R3 ≤ 18446744069414584320 := by have := HR3.out; omega
    have c4 : IntKind.u64.wrap (4294967296 * (r3 : Int)) = (R3 : Int) := by rw [HR3.out, IntKind.wrap_u64]; omega
    have b5 : M2 ≤ V := by omega
    clear br b3
    have bV' := HB.out
    obtain ⟨A, HA⟩ : ∃ A : Nat, Hid (A = 4294967296 * q1) := ⟨_, rfl⟩
    have b6 : A ≤ 18446744069414584320 := by have := HA.out; omega
    have c6 : IntKind.u64.wrap ((q1 : Int) * 4294967296) = (A : Int) := by rw [HA.out, IntKind.wrap_u64]; omega
    obtain ⟨B, c7⟩ := wrap_ex ((V : Int) * 4294967296)
    have c5 : decide ((4294967296 : Int) ≤ q0) = false := by simp; omega
    have c8 : decide ((R1 : Int) + T1 < 0) = false := by simp; omega
    have c9 : decide ((R3 : Int) + T0 < 0) = false := by simp; omega
    refine wp_loop_rounds 1 ?_
    rw [rounds_succ]
    go_wp2
    refine wp_loop_rounds 1 ?_
    rw [rounds_succ]
    go_wp2
    go_ret2
    refine ⟨_, Ret.mk0 (twi ⟨?_, rfl⟩)⟩
    rw [← HF.out, HA.out]
    omega

theorem ov_val {n : Int} (h : ¬ n ≤ 9223372036854775807) : (0 : Int) = val n ∧ (14 : Int) = err n := by
  have hf : fit n = false := fit_not (by omega)
  rw [val_not hf, err_not hf]; exact ⟨rfl, rfl⟩
set_option maxHeartbeats 800000 in
theorem lcm_any (a b : Nat) (w : World) (ha : a ≤ 9223372036854775808) (hb : b ≤ 9223372036854775808) :
    Calls Try.prog 105 #[.int .u64 a, .int .u64 b] w (Ret w (.tuple #[.int .i64 (val (Nat.lcm a b)), .int .i64 (err (Nat.lcm a b))])) := by
  by_cases a0 : a = 0
  · subst a0
    rw [Nat.lcm_zero_left, val_of (fit_of (by omega)), err_of (fit_of (by omega))]
    go_enter Try.func105, Try.ntmps105
    go_wp2
    go_ret2
    exact Ret.mk0 rfl
  have ha0 : ((a : Int) == 0) = false := by simpa using a0
  by_cases b0 : b = 0
  · subst b0
    rw [Nat.lcm_zero_right, val_of (fit_of (by omega)), err_of (fit_of (by omega))]
    go_enter Try.func105, Try.ntmps105
    go_wp2
    go_ret2
    exact Ret.mk0 rfl
  have hb0 : ((b : Int) == 0) = false := by simpa using b0
  have hg : 1 ≤ Nat.gcd a b := Nat.gcd_pos_of_pos_left _ (by omega)
  have hle : a / Nat.gcd a b ≤ a := Nat.div_le_self _ _
  have HL := Lib.hid (lcm_eq (b := b) a0)
  obtain ⟨g, HG⟩ : ∃ g, Hid (Nat.gcd a b = g) := ⟨_, rfl⟩
  rw [HG.out] at hg hle
  have hq : (a : Int) / (g : Int) = ((a / g : Nat) : Int) := by rw [Int.natCast_ediv]
  obtain ⟨k, HK⟩ : ∃ k, Hid (a / g = k) := ⟨_, rfl⟩
  rw [HK.out] at hle hq
  have HL' : Hid (k * b = Nat.lcm a b) := by show k * b = Nat.lcm a b; rw [← HK.out, ← HG.out]; exact HL.out
  clear HL
  by_cases hh : k * b < 18446744073709551616
  · have h1 : k * b / 18446744073709551616 = 0 := Nat.div_eq_of_lt hh
    have h2 : k * b % 18446744073709551616 = k * b := Nat.mod_eq_of_lt hh
    have H1 := Lib.hid h1
    have H2 := Lib.hid h2
    have H3 := Lib.hid hh
    clear h1 h2 hh
    go_enter Try.func105, Try.ntmps105
    go_wp2_with fail
    refine (gcd_any _ _ _ (by omega) (by omega)).mono ?_
    rintro e w' ⟨rfl, n1, rfl⟩
    rw [HG.out]
    go_wp2_with fail
    refine (Try.bits_Mul64 _ _ (by omega) (by omega) _).mono ?_
    rintro e w' ⟨rfl, rfl⟩
    rw [H1.out, H2.out]
    have hh := H3.out
    obtain ⟨N, HN⟩ : ∃ N, Hid (k * b = N) := ⟨_, rfl⟩
    rw [HN.out] at hh
    have HE : Hid (N = Nat.lcm a b) := by show N = Nat.lcm a b; rw [← HN.out]; exact HL'.out
    rw [HN.out, ← HE.out]
    go_wp2_with fail
    refine (plain_any _ _ (by omega) (by omega)).mono ?_
    rintro e w' ⟨rfl, n2, rfl⟩
    go_wp2
    go_ret2
    exact Ret.mk (n1 + n2) (by rw [← HE.out]; rfl)
  · have h0 : ¬ k * b / 18446744073709551616 = 0 := by
      intro h
      have := Nat.div_add_mod (k * b) 18446744073709551616
      have := Nat.mod_lt (k * b) (show 0 < 18446744073709551616 by omega)
      omega
    obtain ⟨u, HU⟩ : ∃ u, Hid (k * b / 18446744073709551616 = u) := ⟨_, rfl⟩
    rw [HU.out] at h0
    have h1 : ((u : Int) != 0) = true := by simpa using h0
    obtain ⟨v0, v14⟩ := ov_val (n := (Nat.lcm a b : Int)) (by have := HL'.out; omega)
    rw [← v0, ← v14]
    clear v0 v14 hh
    go_enter Try.func105, Try.ntmps105
    go_wp2_with fail
    refine (gcd_any _ _ _ (by omega) (by omega)).mono ?_
    rintro e w' ⟨rfl, n1, rfl⟩
    rw [HG.out]
    go_wp2_with fail
    refine (Try.bits_Mul64 _ _ (by omega) (by omega) _).mono ?_
    rintro e w' ⟨rfl, rfl⟩
    rw [HU.out]
    go_wp2
    go_ret2
    exact Ret.mk n1 rfl

set_option maxHeartbeats 800000 in
theorem power_any (x y : Int) (w : World) (hx : -9223372036854775808 ≤ x ∧ x ≤ 9223372036854775807) (hy : -9223372036854775808 ≤ y ∧ y ≤ 9223372036854775807) :
    Calls Try.prog 107 #[.int .i64 x, .int .i64 y] w (Ret w (.tuple #[.int .i64 (pwV x y), .int .i64 (pwE x y)])) := by
  by_cases h1 : x = 1
  · subst h1
    rw [(pw_one y).1, (pw_one y).2]
    go_enter Try.func107, Try.ntmps107
    go_wp2
    go_ret2
    exact Ret.mk0 rfl
  by_cases h2 : x = -1
  · subst h2
    rw [(pw_mone y).1, (pw_mone y).2]
    have hb := i64_and1 y
    go_enter Try.func107, Try.ntmps107
    go_wp2
    go_ret2
    exact Ret.mk0 rfl
  have g1 : (x == 1) = false := by simpa using h1
  have g2 : (x == -1) = false := by simpa using h2
  by_cases h3 : y < 0
  · rw [(pw_neg h1 h2 h3).1, (pw_neg h1 h2 h3).2]
    go_enter Try.func107, Try.ntmps107
    go_wp2
    go_ret2
    exact Ret.mk0 rfl
  rw [(pw_in h1 h2 (show 0 ≤ y by omega)).1, (pw_in h1 h2 (show 0 ≤ y by omega)).2]
  by_cases h4 : x = 0
  · subst h4
    obtain ⟨p1, p2⟩ := pow_zero_bit (y := y) (by omega)
    rw [← p1, p2]
    clear p1 p2
    go_enter Try.func107, Try.ntmps107
    go_wp2_with (go_at_call 106; refine (truth_any _ _).mono ?_; rintro e w' ⟨rfl, n1, rfl⟩)
    go_ret2
    exact Ret.mk _ rfl
  have g4 : (x == 0) = false := by simpa using h4
  by_cases h5 : 63 < y
  · have hf := pow_big (x := x) (b := y.toNat) (by omega) (by omega)
    rw [val_not hf, err_not hf]
    clear hf
    go_enter Try.func107, Try.ntmps107
    go_wp2
    go_ret2
    exact Ret.mk0 rfl
  have hbig : 2 ≤ x.natAbs := by omega
  obtain ⟨n, rfl⟩ := Int.eq_ofNat_of_zero_le (show 0 ≤ y by omega)
  rw [Int.toNat_natCast]
  have HB := Lib.hid hbig
  clear hbig
  go_enter Try.func107, Try.ntmps107
  go_wp2
  go_loopw [6, 7, 8] (fun P OK i wr => ∃ (k : Nat) (p : Int) (ok : Bool), k ≤ n ∧ i = .int .i64 k ∧ P = .int .i64 p ∧ OK = .bool ok ∧ Hid (p = val (x ^ k)) ∧ Hid (ok = fit (x ^ k)) ∧ ∃ q, wr = w.drewN q) (fun _ _ i _ => n - (intOf i).toNat)
  case atStart => exact ⟨0, 1, true, by omega, rfl, rfl, rfl, pow_start.1, pow_start.2, 0, rfl⟩
  case round =>
    obtain ⟨k, p, ok, hk, rfl, rfl, rfl, hp, hok, q, rfl⟩ := hrel
    obtain ⟨bp, bp'⟩ : -9223372036854775808 ≤ p ∧ p ≤ 9223372036854775807 := by rw [hp.out]; exact val_bd _
    by_cases hlt : k < n
    · have hlt' : (k : Int) < n := by omega
      cases ok
      · have he := pow_stop hk hp hok HB
        go_wp2_with fail
        rw [he.out.1, he.out.2]
        refine (fits_any _ _).mono ?_
        rintro e w' ⟨rfl, n1, rfl⟩
        go_wp2
        go_ret2
        exact Ret.mk (q + n1) rfl
      · have he := pow_go hp hok
        go_wp2_with fail
        refine (mul_any _ _ _ ⟨bp, bp'⟩ hx).mono ?_
        rintro e w' ⟨rfl, n1, rfl⟩
        go_wp2
        go_roundw
        case rel => exact ⟨k + 1, val (p * x), fit (p * x), by omega, by go_num, rfl, rfl, he.1, he.2, _, rfl⟩
        case measure => simp [intOf]; omega
    · have hkn : k = n := by omega
      subst hkn
      go_wp2_with fail
      rw [hp.out, hok.out]
      refine (fits_any _ _).mono ?_
      rintro e w' ⟨rfl, n1, rfl⟩
      go_wp2
      go_ret2
      exact Ret.mk (q + n1) rfl
end Go.Proofs.Ytoippfoeghjdoaa
namespace Go.Proofs.Ytoippfoeghjdoaa
open Go.RowKit
set_option linter.unusedVariables false
set_option linter.unusedSimpArgs false

theorem ch_over {m k i c n hi : Nat} (hik : i + 1 ≤ k) (hc : c = binom (m + i) i) (hn : n = m + (i + 1)) (hh : c * n / 18446744073709551616 = hi) (hge : i + 1 ≤ hi) :
    (0 : Int) = val (binom (m + k) k) ∧ (14 : Int) = err (binom (m + k) k) := by
  have h1 : (i + 1) * 18446744073709551616 ≤ c * n := by
    have := Nat.div_mul_le_self (c * n) 18446744073709551616
    rw [hh] at this
    exact Nat.le_trans (Nat.mul_le_mul_right _ hge) this
  have h2 : 18446744073709551616 ≤ binom (m + (i + 1)) (i + 1) := by
    rw [← binom_div m i, ← hc, ← hn, Nat.le_div_iff_mul_le (by omega), Nat.mul_comm]; exact h1
  have h3 := binom_mono (m := m) hik
  exact ov_val (by omega)
theorem ch_over2 {m k i c' : Nat} (hik : i + 1 ≤ k) (hc : c' = binom (m + (i + 1)) (i + 1)) (hge : ¬ c' ≤ 9223372036854775807) :
    (0 : Int) = val (binom (m + k) k) ∧ (14 : Int) = err (binom (m + k) k) := by
  have h3 := binom_mono (m := m) hik
  exact ov_val (by omega)
theorem ch_step {m i c n hi lo : Nat} (hc : c = binom (m + i) i) (hn : n = m + (i + 1)) (hh : c * n / 18446744073709551616 = hi) (hl : c * n % 18446744073709551616 = lo) :
    quo128 hi lo (i + 1) = binom (m + (i + 1)) (i + 1) := by
  have := Nat.div_add_mod (c * n) 18446744073709551616
  unfold quo128
  rw [show hi * 18446744073709551616 + lo = c * n by rw [← hh, ← hl, Nat.mul_comm]; exact this]
  rw [hc, hn, binom_div]

set_option maxHeartbeats 1600000 in
theorem choices_at (k m : Nat) (x y : Int) (w : World) (hkm : k ≤ m) (e1 : y - (k : Int) = (m : Int)) (hy : y ≤ 9223372036854775807) (hx : x = (k : Int) ∨ x = (m : Int)) :
    Calls Try.prog 108 #[.int .i64 x, .int .i64 y] w (Ret w (.tuple #[.int .i64 (val (binom (m + k) k)), .int .i64 (err (binom (m + k) k))])) := by
  have e2 : y - (m : Int) = (k : Int) := by omega
  have hy0 : 0 ≤ y := by omega
  have hmy : (m : Int) ≤ y := by omega
  have hky : (k : Int) ≤ y := by omega
  have hkm' : (k : Int) ≤ (m : Int) := by omega
  have hb : (0 : Int) ≤ (k : Int) := by omega
  have m1 : min (k : Int) (m : Int) = (k : Int) := by omega
  have m2 : min (m : Int) (k : Int) = (k : Int) := by omega
  have d0 : decide (y < 0) = false := by simp; omega
  have d1 : decide ((k : Int) < 0) = false := by simp
  have d2 : decide ((m : Int) < 0) = false := by simp
  have d3 : decide (y < (k : Int)) = false := by simp; omega
  have d4 : decide (y < (m : Int)) = false := by simp; omega
  rcases hx with rfl | rfl
  all_goals
    go_enter Try.func108, Try.ntmps108
    go_wp2
    clear m1 m2 d0 d1 d2 d3 d4 e2
    go_loopw [7, 8] (fun C I wr => ∃ i c : Nat, i ≤ k ∧ I = .int .i64 ((i : Int) + 1) ∧ C = .int .u64 c ∧ Hid (c = binom (m + i) i) ∧ c ≤ 9223372036854775807 ∧ ∃ q, wr = w.drewN q) (fun _ I _ => k + 1 - (intOf I).toNat)
    case atStart => exact ⟨0, 1, by omega, rfl, rfl, (binom_zero _).symm, by omega, 0, rfl⟩
    case round =>
      obtain ⟨i, c, hi, rfl, rfl, hc, hcb, q, rfl⟩ := hrel
      by_cases hlt : i < k
      · have i62 := binom_small (m := m) (i := i) (by omega) (by rw [← hc.out]; exact hcb)
        obtain ⟨n, hn, HN⟩ : ∃ n : Nat, (m : Int) + ((i : Int) + 1) = (n : Int) ∧ Hid (n = m + (i + 1)) := ⟨m + (i + 1), by omega, rfl⟩
        have hnb : n ≤ 9223372036854775807 := by have := HN.out; omega
        obtain ⟨hh, Hh⟩ : ∃ hh, Hid (c * n / 18446744073709551616 = hh) := ⟨_, rfl⟩
        obtain ⟨ll, Hl⟩ : ∃ ll, Hid (c * n % 18446744073709551616 = ll) := ⟨_, rfl⟩
        have hlb : ll ≤ 18446744073709551615 := by
          have := Hl.out
          have := Nat.mod_lt (c * n) (show 0 < 18446744073709551616 by omega)
          omega
        have hlt' : (i : Int) + 1 ≤ k := by omega
        by_cases hge : i + 1 ≤ hh
        · have HF := Lib.hid (ch_over (k := k) (by omega) hc.out HN.out Hh.out hge)
          have hge' : (i : Int) + 1 ≤ hh := by omega
          go_wp2_with fail
          refine (Try.bits_Mul64 _ _ (by omega) (by omega) _).mono ?_
          rintro e w' ⟨rfl, rfl⟩
          rw [Hh.out, Hl.out]
          go_wp2
          go_ret2
          exact Ret.mk _ (twi HF.out)
        · have hge' : (hh : Int) < (i : Int) + 1 := by omega
          obtain ⟨c', Hc'⟩ : ∃ c', Hid (quo128 hh ll (i + 1) = c') := ⟨_, rfl⟩
          have Hb : Hid (c' = binom (m + (i + 1)) (i + 1)) := by
            show c' = binom (m + (i + 1)) (i + 1)
            rw [← Hc'.out]; exact ch_step hc.out HN.out Hh.out Hl.out
          go_wp2_with fail
          refine (Try.bits_Mul64 _ _ (by omega) (by omega) _).mono ?_
          rintro e w' ⟨rfl, rfl⟩
          rw [Hh.out, Hl.out]
          go_wp2_with fail
          rw [show (i : Int) + 1 = ((i + 1 : Nat) : Int) from rfl]
          refine (div64_any hh ll (i + 1) _ (by omega) (by omega) (by omega)).mono ?_
          rintro e w' ⟨r, rfl, n1, rfl⟩
          rw [Hc'.out]
          by_cases hbig : c' ≤ 9223372036854775807
          · have hbig' : (c' : Int) ≤ 9223372036854775807 := by omega
            go_wp2
            exact ⟨⟨i + 1, c', by omega, rfl, rfl, Hb, hbig, _, rfl⟩, by simp [intOf]; omega⟩
          · have HF := Lib.hid (ch_over2 (k := k) (by omega) Hb.out hbig)
            have hbig' : (9223372036854775807 : Int) < (c' : Int) := by omega
            go_wp2
            go_ret2
            exact Ret.mk _ (twi HF.out)
      · have hik : i = k := by omega
        subst hik
        go_wp2_with fail
        refine (plain_any _ _ (by omega) (by omega)).mono ?_
        rintro e w' ⟨rfl, n1, rfl⟩
        go_wp2
        go_ret2
        exact Ret.mk (q + n1) (by rw [← hc.out]; rfl)

set_option maxHeartbeats 400000 in
theorem choices_any (x y : Int) (w : World) (hx : -9223372036854775808 ≤ x ∧ x ≤ 9223372036854775807) (hy : -9223372036854775808 ≤ y ∧ y ≤ 9223372036854775807) :
    Calls Try.prog 108 #[.int .i64 x, .int .i64 y] w (Ret w (.tuple #[.int .i64 (chV x y), .int .i64 (chE x y)])) := by
  by_cases h1 : y < 0
  · rw [(ch_neg h1).1, (ch_neg h1).2]
    go_enter Try.func108, Try.ntmps108
    go_wp2
    go_ret2
    exact Ret.mk0 rfl
  by_cases h2 : x < 0
  · rw [(ch_out h1 (.inl h2)).1, (ch_out h1 (.inl h2)).2]
    go_enter Try.func108, Try.ntmps108
    go_wp2
    go_ret2
    exact Ret.mk0 rfl
  by_cases h3 : y < x
  · rw [(ch_out h1 (.inr h3)).1, (ch_out h1 (.inr h3)).2]
    go_enter Try.func108, Try.ntmps108
    go_wp2
    go_ret2
    exact Ret.mk0 rfl
  rw [(ch_in (show 0 ≤ x by omega) (show x ≤ y by omega)).1, (ch_in (show 0 ≤ x by omega) (show x ≤ y by omega)).2]
  by_cases h4 : x ≤ y - x
  · have := choices_at x.toNat (y - x).toNat x y w (by omega) (by omega) hy.2 (.inl (by omega))
    rw [show (y - x).toNat + x.toNat = y.toNat by omega] at this
    exact this
  · have := choices_at (y - x).toNat x.toNat x y w (by omega) (by omega) hy.2 (.inr (by omega))
    rw [← binom_symm] at this
    rw [show x.toNat + (y - x).toNat = y.toNat by omega] at this
    exact this
end Go.Proofs.Ytoippfoeghjdoaa
namespace Go.Proofs.Ytoippfoeghjdoaa
open Go.RowKit
set_option linter.unusedVariables false
set_option linter.unusedSimpArgs false

def sgn (y : Int) : Int := if y < 0 then -1 else if 0 < y then 1 else 0
def halfV (y : Int) : Int := if y % 2 = 0 then y / 2 else 0
def halfE (y : Int) : Int := if y % 2 = 0 then 0 else 10
/-- The value and the error of a monad. -/
def moV (op y : Int) : Int :=
  if op = 1 ∨ op = 6 ∨ op = 7 then y else if op = 2 then val (-y) else if op = 3 then sgn y else if op = 5 then val y.natAbs
  else if op = 12 then val (y - 1) else if op = 13 then val (y + 1) else if op = 16 then val (y + y) else if op = 17 then val (y * y)
  else if op = 18 then val (1 - y) else if op = 19 then halfV y else if op = 21 then facV y else 0
def moE (op y : Int) : Int :=
  if op = 1 ∨ op = 6 ∨ op = 7 then 0 else if op = 2 then err (-y) else if op = 3 then 0 else if op = 5 then err y.natAbs
  else if op = 12 then err (y - 1) else if op = 13 then err (y + 1) else if op = 16 then err (y + y) else if op = 17 then err (y * y)
  else if op = 18 then err (1 - y) else if op = 19 then halfE y else if op = 21 then facE y else if 1 ≤ op ∧ op ≤ 21 then 16 else 1
def bitsOk (x y : Int) : Bool := decide ((x = 0 ∨ x = 1) ∧ (y = 0 ∨ y = 1))
/-- The value and the error of a dyad. -/
def dyV (op x y : Int) : Int :=
  if op = 1 then val (x + y) else if op = 2 then val (x - y) else if op = 3 then val (x * y) else if op = 4 then (if y = 0 then 0 else val (x.fdiv y))
  else if op = 5 then (if x = 0 then y else y.fmod x) else if op = 6 then min x y else if op = 7 then max x y
  else if op = 8 then bit (decide (x < y)) else if op = 9 then bit (decide (y < x)) else if op = 10 then bit (x == y) else if op = 11 then bit (x != y)
  else if op = 12 then bit (decide (x ≤ y)) else if op = 13 then bit (decide (y ≤ x)) else if op = 14 then val (Nat.gcd x.natAbs y.natAbs)
  else if op = 15 then val (Nat.lcm x.natAbs y.natAbs) else if op = 16 then (if bitsOk x y then bit (x + y == 0) else 0) else if op = 17 then (if bitsOk x y then bit (decide (x + y < 2)) else 0)
  else if op = 20 then pwV x y else if op = 21 then chV x y else 0
def dyE (op x y : Int) : Int :=
  if op = 1 then err (x + y) else if op = 2 then err (x - y) else if op = 3 then err (x * y) else if op = 4 then (if y = 0 then 10 else err (x.fdiv y))
  else if op = 5 then 0 else if op = 6 then 0 else if op = 7 then 0
  else if 8 ≤ op ∧ op ≤ 13 then 0 else if op = 14 then err (Nat.gcd x.natAbs y.natAbs)
  else if op = 15 then err (Nat.lcm x.natAbs y.natAbs) else if op = 16 ∨ op = 17 then (if bitsOk x y then 0 else 10)
  else if op = 20 then pwE x y else if op = 21 then chE x y else if 1 ≤ op ∧ op ≤ 21 then 16 else 1

theorem mo_row {op y : Int} (h : op = 4 ∨ op = 8 ∨ op = 9 ∨ op = 10 ∨ op = 11 ∨ op = 14 ∨ op = 15 ∨ op = 20) : moV op y = 0 ∧ moE op y = 16 := by
  rcases h with rfl | rfl | rfl | rfl | rfl | rfl | rfl | rfl <;> simp [moV, moE]
theorem mo_out {op y : Int} (h : ¬ (1 ≤ op ∧ op ≤ 21)) : moV op y = 0 ∧ moE op y = 1 := by
  constructor
  · unfold moV; repeat rw [if_neg (by omega)]
  · unfold moE; repeat rw [if_neg (by omega)]
theorem dy_row {op x y : Int} (h : op = 18 ∨ op = 19) : dyV op x y = 0 ∧ dyE op x y = 16 := by
  rcases h with rfl | rfl <;> simp [dyV, dyE]
theorem dy_out {op x y : Int} (h : ¬ (1 ≤ op ∧ op ≤ 21)) : dyV op x y = 0 ∧ dyE op x y = 1 := by
  constructor
  · unfold dyV; repeat rw [if_neg (by omega)]
  · unfold dyE; repeat rw [if_neg (by omega)]
theorem half_even {y : Int} (hy : -9223372036854775808 ≤ y ∧ y ≤ 9223372036854775807) (h : y % 2 = 0) : y.tmod 2 = 0 ∧ y.tdiv 2 = halfV y ∧ (0 : Int) = halfE y ∧ -9223372036854775808 ≤ y.tdiv 2 ∧ y.tdiv 2 ≤ 9223372036854775807 := by
  have h1 := Int.mul_tdiv_add_tmod y 2
  have h2 := tmod_near y 2 (by omega)
  simp only [halfV, halfE, if_pos h]
  exact ⟨by omega, by omega, trivial, by omega, by omega⟩
theorem half_odd {y : Int} (h : ¬ y % 2 = 0) : ¬ y.tmod 2 = 0 ∧ (0 : Int) = halfV y ∧ (10 : Int) = halfE y := by
  have h1 := Int.mul_tdiv_add_tmod y 2
  simp only [halfV, halfE, if_neg h]
  exact ⟨by omega, trivial, trivial⟩
theorem bits_yes {x y : Int} (h : (x = 0 ∨ x = 1) ∧ (y = 0 ∨ y = 1)) : bitsOk x y = true := by simp [bitsOk, h]
theorem bits_no {x y : Int} (h : ¬ ((x = 0 ∨ x = 1) ∧ (y = 0 ∨ y = 1))) : bitsOk x y = false := by
  cases e : bitsOk x y
  · rfl
  · simp only [bitsOk, decide_eq_true_eq] at e; exact absurd e h
theorem u64_big {x : Int} (hx : -9223372036854775808 ≤ x ∧ x ≤ 9223372036854775807) (h : ¬ (x = 0 ∨ x = 1)) : 1 < IntKind.u64.wrap x := by rw [IntKind.wrap_u64]; omega
theorem u64_small {x : Int} (h : x = 0 ∨ x = 1) : IntKind.u64.wrap x ≤ 1 := by rw [IntKind.wrap_u64]; omega
end Go.Proofs.Ytoippfoeghjdoaa
namespace Go.Proofs.Ytoippfoeghjdoaa
open Go.RowKit
set_option linter.unusedVariables false
set_option linter.unusedSimpArgs false
set_option maxRecDepth 100000 in
set_option maxHeartbeats 400000 in
theorem dya_1 (x y : Int) (w : World) (hx : -9223372036854775808 ≤ x ∧ x ≤ 9223372036854775807) (hy : -9223372036854775808 ≤ y ∧ y ≤ 9223372036854775807) : Calls Try.prog 79 #[.int .i64 1, .int .i64 x, .int .i64 y] w (Ret w (.tuple #[.int .i64 (dyV 1 x y), .int .i64 (dyE 1 x y)])) := by
  show Calls _ _ _ _ (Ret w (.tuple #[.int .i64 (val (x + y)), .int .i64 (err (x + y))]))
  go_enter Try.func79, Try.ntmps79
  go_wp2_with (first | (go_at_call 70; refine (add_any _ _ _ (by omega) (by omega)).mono ?_; rintro e w' ⟨rfl, n1, rfl⟩) | (go_at_call 98; refine (fits_any _ _).mono ?_; rintro e w' ⟨rfl, n1, rfl⟩))
  go_ret2
  exact Ret.mk _ rfl
set_option maxRecDepth 100000 in
set_option maxHeartbeats 400000 in
theorem dya_2 (x y : Int) (w : World) (hx : -9223372036854775808 ≤ x ∧ x ≤ 9223372036854775807) (hy : -9223372036854775808 ≤ y ∧ y ≤ 9223372036854775807) : Calls Try.prog 79 #[.int .i64 2, .int .i64 x, .int .i64 y] w (Ret w (.tuple #[.int .i64 (dyV 2 x y), .int .i64 (dyE 2 x y)])) := by
  show Calls _ _ _ _ (Ret w (.tuple #[.int .i64 (val (x - y)), .int .i64 (err (x - y))]))
  go_enter Try.func79, Try.ntmps79
  go_wp2_with (first | (go_at_call 99; refine (sub_any _ _ _ (by omega) (by omega)).mono ?_; rintro e w' ⟨rfl, n1, rfl⟩) | (go_at_call 98; refine (fits_any _ _).mono ?_; rintro e w' ⟨rfl, n1, rfl⟩))
  go_ret2
  exact Ret.mk _ rfl
set_option maxRecDepth 100000 in
set_option maxHeartbeats 400000 in
theorem dya_3 (x y : Int) (w : World) (hx : -9223372036854775808 ≤ x ∧ x ≤ 9223372036854775807) (hy : -9223372036854775808 ≤ y ∧ y ≤ 9223372036854775807) : Calls Try.prog 79 #[.int .i64 3, .int .i64 x, .int .i64 y] w (Ret w (.tuple #[.int .i64 (dyV 3 x y), .int .i64 (dyE 3 x y)])) := by
  show Calls _ _ _ _ (Ret w (.tuple #[.int .i64 (val (x * y)), .int .i64 (err (x * y))]))
  go_enter Try.func79, Try.ntmps79
  go_wp2_with (first | (go_at_call 69; refine (mul_any _ _ _ (by omega) (by omega)).mono ?_; rintro e w' ⟨rfl, n1, rfl⟩) | (go_at_call 98; refine (fits_any _ _).mono ?_; rintro e w' ⟨rfl, n1, rfl⟩))
  go_ret2
  exact Ret.mk _ rfl
set_option maxRecDepth 100000 in
set_option maxHeartbeats 400000 in
theorem dya_4 (x y : Int) (w : World) (hx : -9223372036854775808 ≤ x ∧ x ≤ 9223372036854775807) (hy : -9223372036854775808 ≤ y ∧ y ≤ 9223372036854775807) : Calls Try.prog 79 #[.int .i64 4, .int .i64 x, .int .i64 y] w (Ret w (.tuple #[.int .i64 (dyV 4 x y), .int .i64 (dyE 4 x y)])) := by
  by_cases h : y = 0
  · subst h
    show Calls _ _ _ _ (Ret w (.tuple #[.int .i64 0, .int .i64 10]))
    go_enter Try.func79, Try.ntmps79
    go_wp2
    go_ret2
    exact Ret.mk0 rfl
  · have hv : dyV 4 x y = val (x.fdiv y) ∧ dyE 4 x y = err (x.fdiv y) := by simp [dyV, dyE, h]
    rw [hv.1, hv.2]
    clear hv
    have h' : (y == 0) = false := by simpa using h
    go_enter Try.func79, Try.ntmps79
    go_wp2_with (first | (go_at_call 100; refine (divide_any _ _ _ (by omega) (by omega) (by omega)).mono ?_; rintro e w' ⟨rfl, n1, rfl⟩) | (go_at_call 98; refine (fits_any _ _).mono ?_; rintro e w' ⟨rfl, n1, rfl⟩))
    go_ret2
    exact Ret.mk _ rfl
set_option maxRecDepth 100000 in
set_option maxHeartbeats 400000 in
theorem dya_5 (x y : Int) (w : World) (hx : -9223372036854775808 ≤ x ∧ x ≤ 9223372036854775807) (hy : -9223372036854775808 ≤ y ∧ y ≤ 9223372036854775807) : Calls Try.prog 79 #[.int .i64 5, .int .i64 x, .int .i64 y] w (Ret w (.tuple #[.int .i64 (dyV 5 x y), .int .i64 (dyE 5 x y)])) := by
  by_cases h : x = 0
  · subst h
    show Calls _ _ _ _ (Ret w (.tuple #[.int .i64 y, .int .i64 0]))
    go_enter Try.func79, Try.ntmps79
    go_wp2
    go_ret2
    exact Ret.mk0 rfl
  · have hv : dyV 5 x y = y.fmod x := by simp [dyV, h]
    rw [hv]
    show Calls _ _ _ _ (Ret w (.tuple #[.int .i64 (y.fmod x), .int .i64 0]))
    clear hv
    have h' : (x == 0) = false := by simpa using h
    go_enter Try.func79, Try.ntmps79
    go_wp2_with (first | (go_at_call 100; refine (divide_any _ _ _ (by omega) (by omega) (by omega)).mono ?_; rintro e w' ⟨rfl, n1, rfl⟩))
    go_ret2
    exact Ret.mk _ rfl
set_option maxRecDepth 100000 in
set_option maxHeartbeats 400000 in
theorem dya_6 (x y : Int) (w : World) (hx : -9223372036854775808 ≤ x ∧ x ≤ 9223372036854775807) (hy : -9223372036854775808 ≤ y ∧ y ≤ 9223372036854775807) : Calls Try.prog 79 #[.int .i64 6, .int .i64 x, .int .i64 y] w (Ret w (.tuple #[.int .i64 (dyV 6 x y), .int .i64 (dyE 6 x y)])) := by
  show Calls _ _ _ _ (Ret w (.tuple #[.int .i64 (min x y), .int .i64 (0)]))
  go_enter Try.func79, Try.ntmps79
  go_wp2
  go_ret2
  exact Ret.mk0 rfl
set_option maxRecDepth 100000 in
set_option maxHeartbeats 400000 in
theorem dya_7 (x y : Int) (w : World) (hx : -9223372036854775808 ≤ x ∧ x ≤ 9223372036854775807) (hy : -9223372036854775808 ≤ y ∧ y ≤ 9223372036854775807) : Calls Try.prog 79 #[.int .i64 7, .int .i64 x, .int .i64 y] w (Ret w (.tuple #[.int .i64 (dyV 7 x y), .int .i64 (dyE 7 x y)])) := by
  show Calls _ _ _ _ (Ret w (.tuple #[.int .i64 (max x y), .int .i64 (0)]))
  go_enter Try.func79, Try.ntmps79
  go_wp2
  go_ret2
  exact Ret.mk0 rfl
set_option maxRecDepth 100000 in
set_option maxHeartbeats 400000 in
theorem dya_8 (x y : Int) (w : World) (hx : -9223372036854775808 ≤ x ∧ x ≤ 9223372036854775807) (hy : -9223372036854775808 ≤ y ∧ y ≤ 9223372036854775807) : Calls Try.prog 79 #[.int .i64 8, .int .i64 x, .int .i64 y] w (Ret w (.tuple #[.int .i64 (dyV 8 x y), .int .i64 (dyE 8 x y)])) := by
  show Calls _ _ _ _ (Ret w (.tuple #[.int .i64 (bit (decide (x < y))), .int .i64 (0)]))
  go_enter Try.func79, Try.ntmps79
  go_wp2_with (first | (go_at_call 101; refine (compared_8 _ _ _).mono ?_; rintro e w' ⟨rfl, n1, rfl⟩))
  go_ret2
  exact Ret.mk _ rfl
set_option maxRecDepth 100000 in
set_option maxHeartbeats 400000 in
theorem dya_9 (x y : Int) (w : World) (hx : -9223372036854775808 ≤ x ∧ x ≤ 9223372036854775807) (hy : -9223372036854775808 ≤ y ∧ y ≤ 9223372036854775807) : Calls Try.prog 79 #[.int .i64 9, .int .i64 x, .int .i64 y] w (Ret w (.tuple #[.int .i64 (dyV 9 x y), .int .i64 (dyE 9 x y)])) := by
  show Calls _ _ _ _ (Ret w (.tuple #[.int .i64 (bit (decide (y < x))), .int .i64 (0)]))
  go_enter Try.func79, Try.ntmps79
  go_wp2_with (first | (go_at_call 101; refine (compared_9 _ _ _).mono ?_; rintro e w' ⟨rfl, n1, rfl⟩))
  go_ret2
  exact Ret.mk _ rfl
set_option maxRecDepth 100000 in
set_option maxHeartbeats 400000 in
theorem dya_10 (x y : Int) (w : World) (hx : -9223372036854775808 ≤ x ∧ x ≤ 9223372036854775807) (hy : -9223372036854775808 ≤ y ∧ y ≤ 9223372036854775807) : Calls Try.prog 79 #[.int .i64 10, .int .i64 x, .int .i64 y] w (Ret w (.tuple #[.int .i64 (dyV 10 x y), .int .i64 (dyE 10 x y)])) := by
  show Calls _ _ _ _ (Ret w (.tuple #[.int .i64 (bit (x == y)), .int .i64 (0)]))
  go_enter Try.func79, Try.ntmps79
  go_wp2_with (first | (go_at_call 101; refine (compared_10 _ _ _).mono ?_; rintro e w' ⟨rfl, n1, rfl⟩))
  go_ret2
  exact Ret.mk _ rfl
set_option maxRecDepth 100000 in
set_option maxHeartbeats 400000 in
theorem dya_11 (x y : Int) (w : World) (hx : -9223372036854775808 ≤ x ∧ x ≤ 9223372036854775807) (hy : -9223372036854775808 ≤ y ∧ y ≤ 9223372036854775807) : Calls Try.prog 79 #[.int .i64 11, .int .i64 x, .int .i64 y] w (Ret w (.tuple #[.int .i64 (dyV 11 x y), .int .i64 (dyE 11 x y)])) := by
  show Calls _ _ _ _ (Ret w (.tuple #[.int .i64 (bit (x != y)), .int .i64 (0)]))
  go_enter Try.func79, Try.ntmps79
  go_wp2_with (first | (go_at_call 101; refine (compared_11 _ _ _).mono ?_; rintro e w' ⟨rfl, n1, rfl⟩))
  go_ret2
  exact Ret.mk _ rfl
set_option maxRecDepth 100000 in
set_option maxHeartbeats 400000 in
theorem dya_12 (x y : Int) (w : World) (hx : -9223372036854775808 ≤ x ∧ x ≤ 9223372036854775807) (hy : -9223372036854775808 ≤ y ∧ y ≤ 9223372036854775807) : Calls Try.prog 79 #[.int .i64 12, .int .i64 x, .int .i64 y] w (Ret w (.tuple #[.int .i64 (dyV 12 x y), .int .i64 (dyE 12 x y)])) := by
  show Calls _ _ _ _ (Ret w (.tuple #[.int .i64 (bit (decide (x ≤ y))), .int .i64 (0)]))
  go_enter Try.func79, Try.ntmps79
  go_wp2_with (first | (go_at_call 101; refine (compared_12 _ _ _).mono ?_; rintro e w' ⟨rfl, n1, rfl⟩))
  go_ret2
  exact Ret.mk _ rfl
set_option maxRecDepth 100000 in
set_option maxHeartbeats 400000 in
theorem dya_13 (x y : Int) (w : World) (hx : -9223372036854775808 ≤ x ∧ x ≤ 9223372036854775807) (hy : -9223372036854775808 ≤ y ∧ y ≤ 9223372036854775807) : Calls Try.prog 79 #[.int .i64 13, .int .i64 x, .int .i64 y] w (Ret w (.tuple #[.int .i64 (dyV 13 x y), .int .i64 (dyE 13 x y)])) := by
  show Calls _ _ _ _ (Ret w (.tuple #[.int .i64 (bit (decide (y ≤ x))), .int .i64 (0)]))
  go_enter Try.func79, Try.ntmps79
  go_wp2_with (first | (go_at_call 101; refine (compared_13 _ _ _).mono ?_; rintro e w' ⟨rfl, n1, rfl⟩))
  go_ret2
  exact Ret.mk _ rfl
set_option maxRecDepth 100000 in
set_option maxHeartbeats 400000 in
theorem dya_14 (x y : Int) (w : World) (hx : -9223372036854775808 ≤ x ∧ x ≤ 9223372036854775807) (hy : -9223372036854775808 ≤ y ∧ y ≤ 9223372036854775807) : Calls Try.prog 79 #[.int .i64 14, .int .i64 x, .int .i64 y] w (Ret w (.tuple #[.int .i64 (dyV 14 x y), .int .i64 (dyE 14 x y)])) := by
  show Calls _ _ _ _ (Ret w (.tuple #[.int .i64 (val (Nat.gcd x.natAbs y.natAbs)), .int .i64 (err (Nat.gcd x.natAbs y.natAbs))]))
  have hb : Nat.gcd x.natAbs y.natAbs ≤ 9223372036854775808 := by
    by_cases h : x.natAbs = 0
    · rw [h, Nat.gcd_zero_left]; omega
    · exact Nat.le_trans (Nat.gcd_le_left _ (by omega)) (by omega)
  go_enter Try.func79, Try.ntmps79
  go_wp2_with (first | (go_at_call 104; refine (whole_any _ _ (by omega)).mono ?_; rintro e w' ⟨rfl, n1, rfl⟩) | (go_at_call 103; refine (gcd_any _ _ _ (by omega) (by omega)).mono ?_; rintro e w' ⟨rfl, n1, rfl⟩) | (go_at_call 102; refine (plain_any _ _ (by omega) (by omega)).mono ?_; rintro e w' ⟨rfl, n1, rfl⟩))
  go_ret2
  exact Ret.mk _ rfl
set_option maxRecDepth 100000 in
set_option maxHeartbeats 400000 in
theorem dya_15 (x y : Int) (w : World) (hx : -9223372036854775808 ≤ x ∧ x ≤ 9223372036854775807) (hy : -9223372036854775808 ≤ y ∧ y ≤ 9223372036854775807) : Calls Try.prog 79 #[.int .i64 15, .int .i64 x, .int .i64 y] w (Ret w (.tuple #[.int .i64 (dyV 15 x y), .int .i64 (dyE 15 x y)])) := by
  show Calls _ _ _ _ (Ret w (.tuple #[.int .i64 (val (Nat.lcm x.natAbs y.natAbs)), .int .i64 (err (Nat.lcm x.natAbs y.natAbs))]))
  go_enter Try.func79, Try.ntmps79
  go_wp2_with (first | (go_at_call 104; refine (whole_any _ _ (by omega)).mono ?_; rintro e w' ⟨rfl, n1, rfl⟩) | (go_at_call 105; refine (lcm_any _ _ _ (by omega) (by omega)).mono ?_; rintro e w' ⟨rfl, n1, rfl⟩))
  go_ret2
  exact Ret.mk _ rfl
set_option maxRecDepth 100000 in
set_option maxHeartbeats 400000 in
theorem dya_16 (x y : Int) (w : World) (hx : -9223372036854775808 ≤ x ∧ x ≤ 9223372036854775807) (hy : -9223372036854775808 ≤ y ∧ y ≤ 9223372036854775807) : Calls Try.prog 79 #[.int .i64 16, .int .i64 x, .int .i64 y] w (Ret w (.tuple #[.int .i64 (dyV 16 x y), .int .i64 (dyE 16 x y)])) := by
  by_cases h : (x = 0 ∨ x = 1) ∧ (y = 0 ∨ y = 1)
  · have hv : dyV 16 x y = bit (x + y == 0) ∧ dyE 16 x y = 0 := by simp [dyV, dyE, bits_yes h]
    rw [hv.1, hv.2]
    clear hv
    obtain ⟨rfl | rfl, rfl | rfl⟩ := h
    all_goals
      go_enter Try.func79, Try.ntmps79
      go_wp2_with (first | (go_at_call 106; refine (truth_any _ _).mono ?_; rintro e w' ⟨rfl, n1, rfl⟩))
      go_ret2
      exact Ret.mk _ rfl
  · have hv : dyV 16 x y = 0 ∧ dyE 16 x y = 10 := by simp [dyV, dyE, bits_no h]
    rw [hv.1, hv.2]
    clear hv
    by_cases h1 : x = 0 ∨ x = 1
    · have hb := u64_big hy (fun k => h ⟨h1, k⟩)
      have hs := u64_small h1
      have d1 : decide (1 < IntKind.u64.wrap x) = false := by simp; omega
      have d2 : decide (1 < IntKind.u64.wrap y) = true := by simp; omega
      clear h h1
      go_enter Try.func79, Try.ntmps79
      go_wp2
      go_ret2
      exact Ret.mk0 rfl
    · have hb := u64_big hx h1
      have d2 : decide (1 < IntKind.u64.wrap x) = true := by simp; omega
      clear h h1
      go_enter Try.func79, Try.ntmps79
      go_wp2
      go_ret2
      exact Ret.mk0 rfl
set_option maxRecDepth 100000 in
set_option maxHeartbeats 400000 in
theorem dya_17 (x y : Int) (w : World) (hx : -9223372036854775808 ≤ x ∧ x ≤ 9223372036854775807) (hy : -9223372036854775808 ≤ y ∧ y ≤ 9223372036854775807) : Calls Try.prog 79 #[.int .i64 17, .int .i64 x, .int .i64 y] w (Ret w (.tuple #[.int .i64 (dyV 17 x y), .int .i64 (dyE 17 x y)])) := by
  by_cases h : (x = 0 ∨ x = 1) ∧ (y = 0 ∨ y = 1)
  · have hv : dyV 17 x y = bit (decide (x + y < 2)) ∧ dyE 17 x y = 0 := by simp [dyV, dyE, bits_yes h]
    rw [hv.1, hv.2]
    clear hv
    obtain ⟨rfl | rfl, rfl | rfl⟩ := h
    all_goals
      go_enter Try.func79, Try.ntmps79
      go_wp2_with (first | (go_at_call 106; refine (truth_any _ _).mono ?_; rintro e w' ⟨rfl, n1, rfl⟩))
      go_ret2
      exact Ret.mk _ rfl
  · have hv : dyV 17 x y = 0 ∧ dyE 17 x y = 10 := by simp [dyV, dyE, bits_no h]
    rw [hv.1, hv.2]
    clear hv
    by_cases h1 : x = 0 ∨ x = 1
    · have hb := u64_big hy (fun k => h ⟨h1, k⟩)
      have hs := u64_small h1
      have d1 : decide (1 < IntKind.u64.wrap x) = false := by simp; omega
      have d2 : decide (1 < IntKind.u64.wrap y) = true := by simp; omega
      clear h h1
      go_enter Try.func79, Try.ntmps79
      go_wp2
      go_ret2
      exact Ret.mk0 rfl
    · have hb := u64_big hx h1
      have d2 : decide (1 < IntKind.u64.wrap x) = true := by simp; omega
      clear h h1
      go_enter Try.func79, Try.ntmps79
      go_wp2
      go_ret2
      exact Ret.mk0 rfl
set_option maxRecDepth 100000 in
set_option maxHeartbeats 400000 in
theorem dya_20 (x y : Int) (w : World) (hx : -9223372036854775808 ≤ x ∧ x ≤ 9223372036854775807) (hy : -9223372036854775808 ≤ y ∧ y ≤ 9223372036854775807) : Calls Try.prog 79 #[.int .i64 20, .int .i64 x, .int .i64 y] w (Ret w (.tuple #[.int .i64 (dyV 20 x y), .int .i64 (dyE 20 x y)])) := by
  show Calls _ _ _ _ (Ret w (.tuple #[.int .i64 (pwV x y), .int .i64 (pwE x y)]))
  go_enter Try.func79, Try.ntmps79
  go_wp2_with (first | (go_at_call 107; refine (power_any _ _ _ (by omega) (by omega)).mono ?_; rintro e w' ⟨rfl, n1, rfl⟩))
  go_ret2
  exact Ret.mk _ rfl
set_option maxRecDepth 100000 in
set_option maxHeartbeats 400000 in
theorem dya_21 (x y : Int) (w : World) (hx : -9223372036854775808 ≤ x ∧ x ≤ 9223372036854775807) (hy : -9223372036854775808 ≤ y ∧ y ≤ 9223372036854775807) : Calls Try.prog 79 #[.int .i64 21, .int .i64 x, .int .i64 y] w (Ret w (.tuple #[.int .i64 (dyV 21 x y), .int .i64 (dyE 21 x y)])) := by
  show Calls _ _ _ _ (Ret w (.tuple #[.int .i64 (chV x y), .int .i64 (chE x y)]))
  go_enter Try.func79, Try.ntmps79
  go_wp2_with (first | (go_at_call 108; refine (choices_any _ _ _ (by omega) (by omega)).mono ?_; rintro e w' ⟨rfl, n1, rfl⟩))
  go_ret2
  exact Ret.mk _ rfl
set_option maxRecDepth 100000 in
set_option maxHeartbeats 400000 in
theorem dya_18 (x y : Int) (w : World) (hx : -9223372036854775808 ≤ x ∧ x ≤ 9223372036854775807) (hy : -9223372036854775808 ≤ y ∧ y ≤ 9223372036854775807) : Calls Try.prog 79 #[.int .i64 18, .int .i64 x, .int .i64 y] w (Ret w (.tuple #[.int .i64 (dyV 18 x y), .int .i64 (dyE 18 x y)])) := by
  rw [(dy_row (by omega)).1, (dy_row (by omega)).2]
  have hr : rowB 18 = true := rowB_yes (by omega) (by omega)
  go_enter Try.func79, Try.ntmps79
  go_wp2_with (first | (go_at_call 109; refine (row_any _ _).mono ?_; rintro e w' ⟨rfl, n1, rfl⟩))
  go_ret2
  exact Ret.mk _ rfl
set_option maxRecDepth 100000 in
set_option maxHeartbeats 400000 in
theorem dya_19 (x y : Int) (w : World) (hx : -9223372036854775808 ≤ x ∧ x ≤ 9223372036854775807) (hy : -9223372036854775808 ≤ y ∧ y ≤ 9223372036854775807) : Calls Try.prog 79 #[.int .i64 19, .int .i64 x, .int .i64 y] w (Ret w (.tuple #[.int .i64 (dyV 19 x y), .int .i64 (dyE 19 x y)])) := by
  rw [(dy_row (by omega)).1, (dy_row (by omega)).2]
  have hr : rowB 19 = true := rowB_yes (by omega) (by omega)
  go_enter Try.func79, Try.ntmps79
  go_wp2_with (first | (go_at_call 109; refine (row_any _ _).mono ?_; rintro e w' ⟨rfl, n1, rfl⟩))
  go_ret2
  exact Ret.mk _ rfl
set_option maxRecDepth 100000 in
set_option maxHeartbeats 800000 in
theorem dya_out (op x y : Int) (w : World) (h : ¬ (1 ≤ op ∧ op ≤ 21)) : Calls Try.prog 79 #[.int .i64 op, .int .i64 x, .int .i64 y] w (Ret w (.tuple #[.int .i64 (dyV op x y), .int .i64 (dyE op x y)])) := by
  rw [(dy_out h).1, (dy_out h).2]
  have hr : rowB op = false := rowB_no h
  have hd : op ≤ 0 ∨ 22 ≤ op := by omega
  clear h
  rcases hd with h | h
  all_goals
    go_enter Try.func79, Try.ntmps79
    go_wp2_with (first | (go_at_call 109; refine (row_any _ _).mono ?_; rintro e w' ⟨rfl, n1, rfl⟩))
    go_ret2
    exact Ret.mk _ rfl
theorem dyad_any (op x y : Int) (w : World) (hx : -9223372036854775808 ≤ x ∧ x ≤ 9223372036854775807) (hy : -9223372036854775808 ≤ y ∧ y ≤ 9223372036854775807) : Calls Try.prog 79 #[.int .i64 op, .int .i64 x, .int .i64 y] w (Ret w (.tuple #[.int .i64 (dyV op x y), .int .i64 (dyE op x y)])) := by
  by_cases h : 1 ≤ op ∧ op ≤ 21
  · have : op = 1 ∨ op = 2 ∨ op = 3 ∨ op = 4 ∨ op = 5 ∨ op = 6 ∨ op = 7 ∨ op = 8 ∨ op = 9 ∨ op = 10 ∨ op = 11 ∨ op = 12 ∨ op = 13 ∨ op = 14 ∨ op = 15 ∨ op = 16 ∨ op = 17 ∨ op = 18 ∨ op = 19 ∨ op = 20 ∨ op = 21 := by omega
    rcases this with rfl | rfl | rfl | rfl | rfl | rfl | rfl | rfl | rfl | rfl | rfl | rfl | rfl | rfl | rfl | rfl | rfl | rfl | rfl | rfl | rfl
    · exact dya_1 x y w hx hy
    · exact dya_2 x y w hx hy
    · exact dya_3 x y w hx hy
    · exact dya_4 x y w hx hy
    · exact dya_5 x y w hx hy
    · exact dya_6 x y w hx hy
    · exact dya_7 x y w hx hy
    · exact dya_8 x y w hx hy
    · exact dya_9 x y w hx hy
    · exact dya_10 x y w hx hy
    · exact dya_11 x y w hx hy
    · exact dya_12 x y w hx hy
    · exact dya_13 x y w hx hy
    · exact dya_14 x y w hx hy
    · exact dya_15 x y w hx hy
    · exact dya_16 x y w hx hy
    · exact dya_17 x y w hx hy
    · exact dya_18 x y w hx hy
    · exact dya_19 x y w hx hy
    · exact dya_20 x y w hx hy
    · exact dya_21 x y w hx hy
  · exact dya_out op x y w h
end Go.Proofs.Ytoippfoeghjdoaa
