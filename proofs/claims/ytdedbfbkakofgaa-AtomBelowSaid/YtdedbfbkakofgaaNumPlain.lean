/- Plain facts on checked arithmetic of 64 and 32 bits: no program in sight. -/
import Derived.WalkKit
namespace Go.Proofs.Ytdedbfbkakofgaa
open Go.RowKit
set_option linter.unusedVariables false
set_option linter.unusedSimpArgs false

/-- 64 bits hold the number. -/
def fit (n : Int) : Bool := decide (-9223372036854775808 ≤ n ∧ n ≤ 9223372036854775807)
def val (n : Int) : Int := if fit n then n else 0
def err (n : Int) : Int := if fit n then 0 else 14
/-- 32 bits hold the number. -/
def fit3 (n : Int) : Bool := decide (-2147483648 ≤ n ∧ n ≤ 2147483647)
def val3 (n : Int) : Int := if fit3 n then n else 0

theorem fit_iff (n : Int) : fit n = true ↔ -9223372036854775808 ≤ n ∧ n ≤ 9223372036854775807 := by simp [fit]
theorem fit_of {n : Int} (h : -9223372036854775808 ≤ n ∧ n ≤ 9223372036854775807) : fit n = true := (fit_iff n).2 h
theorem fit_not {n : Int} (h : ¬ (-9223372036854775808 ≤ n ∧ n ≤ 9223372036854775807)) : fit n = false := by
  cases e : fit n
  · rfl
  · exact absurd ((fit_iff n).1 e) h
theorem val_of {n : Int} (h : fit n = true) : val n = n := by simp [val, h]
theorem val_not {n : Int} (h : fit n = false) : val n = 0 := by simp [val, h]
theorem err_of {n : Int} (h : fit n = true) : err n = 0 := by simp [err, h]
theorem err_not {n : Int} (h : fit n = false) : err n = 14 := by simp [err, h]
theorem val_bd (n : Int) : -9223372036854775808 ≤ val n ∧ val n ≤ 9223372036854775807 := by
  cases e : fit n
  · rw [val_not e]; omega
  · rw [val_of e]; exact (fit_iff n).1 e

theorem fit3_iff (n : Int) : fit3 n = true ↔ -2147483648 ≤ n ∧ n ≤ 2147483647 := by simp [fit3]
theorem fit3_of {n : Int} (h : -2147483648 ≤ n ∧ n ≤ 2147483647) : fit3 n = true := (fit3_iff n).2 h
theorem fit3_not {n : Int} (h : ¬ (-2147483648 ≤ n ∧ n ≤ 2147483647)) : fit3 n = false := by
  cases e : fit3 n
  · rfl
  · exact absurd ((fit3_iff n).1 e) h
theorem val3_of {n : Int} (h : fit3 n = true) : val3 n = n := by simp [val3, h]
theorem val3_not {n : Int} (h : fit3 n = false) : val3 n = 0 := by simp [val3, h]

/-- What a checked function hands back, by its two ways. -/
theorem chk_yes {n m : Int} (h : -9223372036854775808 ≤ n ∧ n ≤ 9223372036854775807) (e : m = n) : (m = val n ∧ true = fit n) := by
  rw [val_of (fit_of h), fit_of h]; exact ⟨e, rfl⟩
theorem chk_no {n : Int} (h : ¬ (-9223372036854775808 ≤ n ∧ n ≤ 9223372036854775807)) : ((0 : Int) = val n ∧ false = fit n) := by
  rw [val_not (fit_not h), fit_not h]; exact ⟨rfl, rfl⟩
theorem chk3_yes {n m : Int} (h : -2147483648 ≤ n ∧ n ≤ 2147483647) (e : m = n) : (m = val3 n ∧ true = fit3 n) := by
  rw [val3_of (fit3_of h), fit3_of h]; exact ⟨e, rfl⟩
theorem chk3_no {n : Int} (h : ¬ (-2147483648 ≤ n ∧ n ≤ 2147483647)) : ((0 : Int) = val3 n ∧ false = fit3 n) := by
  rw [val3_not (fit3_not h), fit3_not h]; exact ⟨rfl, rfl⟩

theorem pick_eq {p q : Prop} [Decidable p] [Decidable q] (h : (!decide p == decide q) = false) : (p ↔ q) := by
  by_cases hp : p <;> by_cases hq : q <;> simp_all
theorem pick_ne {p q : Prop} [Decidable p] [Decidable q] (h : (!decide p == decide q) = true) : ¬ (p ↔ q) := by
  by_cases hp : p <;> by_cases hq : q <;> simp_all

theorem add_yes {a b : Int} (ha : -9223372036854775808 ≤ a ∧ a ≤ 9223372036854775807) (hb : -9223372036854775808 ≤ b ∧ b ≤ 9223372036854775807)
    (h : (!decide (a < wrap64 (a + b)) == decide (0 < b)) = false) : wrap64 (a + b) = val (a + b) ∧ true = fit (a + b) := by
  have h := pick_eq h
  unfold wrap64 at *
  exact chk_yes (by omega) (by omega)
theorem add_no {a b : Int} (ha : -9223372036854775808 ≤ a ∧ a ≤ 9223372036854775807) (hb : -9223372036854775808 ≤ b ∧ b ≤ 9223372036854775807)
    (h : (!decide (a < wrap64 (a + b)) == decide (0 < b)) = true) : (0 : Int) = val (a + b) ∧ false = fit (a + b) := by
  have h := pick_ne h
  unfold wrap64 at h
  exact chk_no (by omega)
theorem sub_yes {a b : Int} (ha : -9223372036854775808 ≤ a ∧ a ≤ 9223372036854775807) (hb : -9223372036854775808 ≤ b ∧ b ≤ 9223372036854775807)
    (h : (!decide (wrap64 (a - b) < a) == decide (0 < b)) = false) : wrap64 (a - b) = val (a - b) ∧ true = fit (a - b) := by
  have h := pick_eq h
  unfold wrap64 at *
  exact chk_yes (by omega) (by omega)
theorem sub_no {a b : Int} (ha : -9223372036854775808 ≤ a ∧ a ≤ 9223372036854775807) (hb : -9223372036854775808 ≤ b ∧ b ≤ 9223372036854775807)
    (h : (!decide (wrap64 (a - b) < a) == decide (0 < b)) = true) : (0 : Int) = val (a - b) ∧ false = fit (a - b) := by
  have h := pick_ne h
  unfold wrap64 at h
  exact chk_no (by omega)

theorem tdiv_near (c b : Int) (hb : b ≠ 0) : (b * c.tdiv b - c < b ∨ b * c.tdiv b - c < -b) ∧ (c - b * c.tdiv b < b ∨ c - b * c.tdiv b < -b) := by
  have h := Int.mul_tdiv_add_tmod c b
  have h1 : (c.tmod b).natAbs < b.natAbs := by
    rw [Int.natAbs_tmod]
    exact Nat.mod_lt _ (by omega)
  omega

/-- The test of a product, 64 bits, where neither factor is 0 or -1. -/
theorem mul_test {a b : Int} (ha : -9223372036854775808 ≤ a ∧ a ≤ 9223372036854775807) (hb : -9223372036854775808 ≤ b ∧ b ≤ 9223372036854775807) (h0 : b ≠ 0) (h1 : b ≠ -1) :
    wrap64 ((wrap64 (a * b)).tdiv b) = a ↔ (-9223372036854775808 ≤ a * b ∧ a * b ≤ 9223372036854775807) := by
  have hw : ∃ k : Int, wrap64 (a * b) = a * b - 18446744073709551616 * k ∧ -9223372036854775808 ≤ wrap64 (a * b) ∧ wrap64 (a * b) ≤ 9223372036854775807 :=
    ⟨(a * b + 9223372036854775808) / 18446744073709551616, by unfold wrap64; omega, by unfold wrap64; omega, by unfold wrap64; omega⟩
  obtain ⟨k, hk, hl, hu⟩ := hw
  generalize hc : wrap64 (a * b) = c at *
  have hn := tdiv_near c b h0
  have habs : (c.tdiv b).natAbs ≤ c.natAbs := by rw [Int.natAbs_tdiv]; exact Nat.div_le_self _ _
  have hq : -9223372036854775808 ≤ c.tdiv b ∧ c.tdiv b ≤ 9223372036854775807 := by
    by_cases e : c.tdiv b = 9223372036854775808
    · exfalso
      by_cases b1 : b = 1
      · subst b1; rw [Int.tdiv_one] at e; omega
      · have h2 : 2 ≤ b.natAbs := by omega
        have h3 : (c.tdiv b).natAbs = c.natAbs / b.natAbs := Int.natAbs_tdiv c b
        have h4 : c.natAbs / b.natAbs ≤ c.natAbs / 2 := Nat.div_le_div_left h2 (by omega)
        omega
    · omega
  have hqq : wrap64 (c.tdiv b) = c.tdiv b := by unfold wrap64; omega
  rw [hqq]
  constructor
  · intro he
    rw [he] at hn
    have : b * a = a * b := Int.mul_comm b a
    rw [this] at hn
    generalize a * b = m at *
    omega
  · intro hr
    have hk0 : c = a * b := by
      generalize a * b = m at *
      omega
    rw [hk0]
    exact Int.mul_tdiv_cancel a h0

theorem neg_wrap_eq {b : Int} (hb : -9223372036854775808 ≤ b ∧ b ≤ 9223372036854775807) (h0 : b ≠ 0) : wrap64 (-b) = b ↔ b = -9223372036854775808 := by
  unfold wrap64; omega
theorem add_yes3 {a b : Int} (ha : -2147483648 ≤ a ∧ a ≤ 2147483647) (hb : -2147483648 ≤ b ∧ b ≤ 2147483647)
    (h : (!decide (a < wrap32 (a + b)) == decide (0 < b)) = false) : wrap32 (a + b) = val3 (a + b) ∧ true = fit3 (a + b) := by
  have h := pick_eq h
  unfold wrap32 at *
  exact chk3_yes (by omega) (by omega)
theorem add_no3 {a b : Int} (ha : -2147483648 ≤ a ∧ a ≤ 2147483647) (hb : -2147483648 ≤ b ∧ b ≤ 2147483647)
    (h : (!decide (a < wrap32 (a + b)) == decide (0 < b)) = true) : (0 : Int) = val3 (a + b) ∧ false = fit3 (a + b) := by
  have h := pick_ne h
  unfold wrap32 at h
  exact chk3_no (by omega)
theorem sub_yes3 {a b : Int} (ha : -2147483648 ≤ a ∧ a ≤ 2147483647) (hb : -2147483648 ≤ b ∧ b ≤ 2147483647)
    (h : (!decide (wrap32 (a - b) < a) == decide (0 < b)) = false) : wrap32 (a - b) = val3 (a - b) ∧ true = fit3 (a - b) := by
  have h := pick_eq h
  unfold wrap32 at *
  exact chk3_yes (by omega) (by omega)
theorem sub_no3 {a b : Int} (ha : -2147483648 ≤ a ∧ a ≤ 2147483647) (hb : -2147483648 ≤ b ∧ b ≤ 2147483647)
    (h : (!decide (wrap32 (a - b) < a) == decide (0 < b)) = true) : (0 : Int) = val3 (a - b) ∧ false = fit3 (a - b) := by
  have h := pick_ne h
  unfold wrap32 at h
  exact chk3_no (by omega)

/-- The test of a product, 64 bits, where neither factor is 0 or -1. -/
theorem mul_test3 {a b : Int} (ha : -2147483648 ≤ a ∧ a ≤ 2147483647) (hb : -2147483648 ≤ b ∧ b ≤ 2147483647) (h0 : b ≠ 0) (h1 : b ≠ -1) :
    wrap32 ((wrap32 (a * b)).tdiv b) = a ↔ (-2147483648 ≤ a * b ∧ a * b ≤ 2147483647) := by
  have hw : ∃ k : Int, wrap32 (a * b) = a * b - 4294967296 * k ∧ -2147483648 ≤ wrap32 (a * b) ∧ wrap32 (a * b) ≤ 2147483647 :=
    ⟨(a * b + 2147483648) / 4294967296, by unfold wrap32; omega, by unfold wrap32; omega, by unfold wrap32; omega⟩
  obtain ⟨k, hk, hl, hu⟩ := hw
  generalize hc : wrap32 (a * b) = c at *
  have hn := tdiv_near c b h0
  have habs : (c.tdiv b).natAbs ≤ c.natAbs := by rw [Int.natAbs_tdiv]; exact Nat.div_le_self _ _
  have hq : -2147483648 ≤ c.tdiv b ∧ c.tdiv b ≤ 2147483647 := by
    by_cases e : c.tdiv b = 2147483648
    · exfalso
      by_cases b1 : b = 1
      · subst b1; rw [Int.tdiv_one] at e; omega
      · have h2 : 2 ≤ b.natAbs := by omega
        have h3 : (c.tdiv b).natAbs = c.natAbs / b.natAbs := Int.natAbs_tdiv c b
        have h4 : c.natAbs / b.natAbs ≤ c.natAbs / 2 := Nat.div_le_div_left h2 (by omega)
        omega
    · omega
  have hqq : wrap32 (c.tdiv b) = c.tdiv b := by unfold wrap32; omega
  rw [hqq]
  constructor
  · intro he
    rw [he] at hn
    have : b * a = a * b := Int.mul_comm b a
    rw [this] at hn
    generalize a * b = m at *
    omega
  · intro hr
    have hk0 : c = a * b := by
      generalize a * b = m at *
      omega
    rw [hk0]
    exact Int.mul_tdiv_cancel a h0

theorem neg_wrap_eq3 {b : Int} (hb : -2147483648 ≤ b ∧ b ≤ 2147483647) (h0 : b ≠ 0) : wrap32 (-b) = b ↔ b = -2147483648 := by
  unfold wrap32; omega
theorem mul_yes {a b : Int} (hm : wrap64 ((wrap64 (a * b)).tdiv b) = a ↔ (-9223372036854775808 ≤ a * b ∧ a * b ≤ 9223372036854775807)) (h : (wrap64 ((wrap64 (a * b)).tdiv b) != a) = false) :
    wrap64 (a * b) = val (a * b) ∧ true = fit (a * b) := by
  have h := hm.1 (by simpa using h)
  exact chk_yes h (by unfold wrap64; omega)
theorem mul_no {a b : Int} (hm : wrap64 ((wrap64 (a * b)).tdiv b) = a ↔ (-9223372036854775808 ≤ a * b ∧ a * b ≤ 9223372036854775807)) (h : (wrap64 ((wrap64 (a * b)).tdiv b) != a) = true) :
    (0 : Int) = val (a * b) ∧ false = fit (a * b) := by
  have h : ¬ wrap64 ((wrap64 (a * b)).tdiv b) = a := by simpa using h
  exact chk_no (fun k => h (hm.2 k))
theorem mul_yes3 {a b : Int} (hm : wrap32 ((wrap32 (a * b)).tdiv b) = a ↔ (-2147483648 ≤ a * b ∧ a * b ≤ 2147483647)) (h : (wrap32 ((wrap32 (a * b)).tdiv b) != a) = false) :
    wrap32 (a * b) = val3 (a * b) ∧ true = fit3 (a * b) := by
  have h := hm.1 (by simpa using h)
  exact chk3_yes h (by unfold wrap32; omega)
theorem mul_no3 {a b : Int} (hm : wrap32 ((wrap32 (a * b)).tdiv b) = a ↔ (-2147483648 ≤ a * b ∧ a * b ≤ 2147483647)) (h : (wrap32 ((wrap32 (a * b)).tdiv b) != a) = true) :
    (0 : Int) = val3 (a * b) ∧ false = fit3 (a * b) := by
  have h : ¬ wrap32 ((wrap32 (a * b)).tdiv b) = a := by simpa using h
  exact chk3_no (fun k => h (hm.2 k))
end Go.Proofs.Ytdedbfbkakofgaa
