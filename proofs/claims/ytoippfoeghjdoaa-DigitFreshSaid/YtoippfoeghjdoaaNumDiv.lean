/- Plain facts on checked arithmetic of 64 and 32 bits: no program in sight. Contracts of num.Add, num.Sub, num.Mul at int64 and int32, and of num.fits. Plain facts on quotients rounded down, sizes, gcd, factorials: no program in sight. Contracts of num.divide, whole, plain, truth, row, compared, factorial, gcd. -/
import Derived.WalkKit
import Derived.Test.YtoippfoeghjdoaaMem
import Derived.Deep.QuietTactic
import Derived.BigQuiet
namespace Go.Proofs.Ytoippfoeghjdoaa
open Go.RowKit
set_option linter.unusedVariables false
set_option linter.unusedSimpArgs false

/-- 64 bits hold the number. -/
def fit (n : Int) : Bool := decide (-9223372036854775808 ≤ n ∧ n ≤ 9223372036854775807)
def val (n : Int) : Int := if fit n then n else 0
def err (n : Int) : Int := if fit n then 0 else 14
/-- 32 bits hold the number. -/
def fit3 (n : Int) : Bool := decide (-2147483648 ≤ n ∧ n ≤ 2147483647)
def val3 (n : Int) : Int := if fit3 n then n else 0

theorem fit_iff (n : Int) : fit n = true ↔ -9223372036854775808 ≤ n ∧ n ≤ 9223372036854775807 := by simp [fit]
theorem fit_of {n : Int} (h : -9223372036854775808 ≤ n ∧ n ≤ 9223372036854775807) : fit n = true := (fit_iff n).2 h
theorem fit_not {n : Int} (h : ¬ (-9223372036854775808 ≤ n ∧ n ≤ 9223372036854775807)) : fit n = false := by
  cases e : fit n
  · rfl
  · exact absurd ((fit_iff n).1 e) h
theorem val_of {n : Int} (h : fit n = true) : val n = n := by simp [val, h]
theorem val_not {n : Int} (h : fit n = false) : val n = 0 := by simp [val, h]
theorem err_of {n : Int} (h : fit n = true) : err n = 0 := by simp [err, h]
theorem err_not {n : Int} (h : fit n = false) : err n = 14 := by simp [err, h]
theorem val_bd (n : Int) : -9223372036854775808 ≤ val n ∧ val n ≤ 9223372036854775807 := by
  cases e : fit n
  · rw [val_not e]; omega
  · rw [val_of e]; exact (fit_iff n).1 e

theorem fit3_iff (n : Int) : fit3 n = true ↔ -2147483648 ≤ n ∧ n ≤ 2147483647 := by simp [fit3]
theorem fit3_of {n : Int} (h : -2147483648 ≤ n ∧ n ≤ 2147483647) : fit3 n = true := (fit3_iff n).2 h
theorem fit3_not {n : Int} (h : ¬ (-2147483648 ≤ n ∧ n ≤ 2147483647)) : fit3 n = false := by
  cases e : fit3 n
  · rfl
  · exact absurd ((fit3_iff n).1 e) h
theorem val3_of {n : Int} (h : fit3 n = true) : val3 n = n := by simp [val3, h]
theorem val3_not {n : Int} (h : fit3 n = false) : val3 n = 0 := by simp [val3, h]

/-- What a checked function hands back, by its two ways. -/
theorem chk_yes {n m : Int} (h : -9223372036854775808 ≤ n ∧ n ≤ 9223372036854775807) (e : m = n) : (m = val n ∧ true = fit n) := by
  rw [val_of (fit_of h), fit_of h]; exact ⟨e, rfl⟩
theorem chk_no {n : Int} (h : ¬ (-9223372036854775808 ≤ n ∧ n ≤ 9223372036854775807)) : ((0 : Int) = val n ∧ false = fit n) := by
  rw [val_not (fit_not h), fit_not h]; exact ⟨rfl, rfl⟩
theorem chk3_yes {n m : Int} (h : -2147483648 ≤ n ∧ n ≤ 2147483647) (e : m = n) : (m = val3 n ∧ true = fit3 n) := by
  rw [val3_of (fit3_of h), fit3_of h]; exact ⟨e, rfl⟩
theorem chk3_no {n : Int} (h : ¬ (-2147483648 ≤ n ∧ n ≤ 2147483647)) : ((0 : Int) = val3 n ∧ false = fit3 n) := by
  rw [val3_not (fit3_not h), fit3_not h]; exact ⟨rfl, rfl⟩

theorem pick_eq {p q : Prop} [Decidable p] [Decidable q] (h : (!decide p == decide q) = false) : (p ↔ q) := by
  by_cases hp : p <;> by_cases hq : q <;> simp_all
theorem pick_ne {p q : Prop} [Decidable p] [Decidable q] (h : (!decide p == decide q) = true) : ¬ (p ↔ q) := by
  by_cases hp : p <;> by_cases hq : q <;> simp_all

theorem add_yes {a b : Int} (ha : -9223372036854775808 ≤ a ∧ a ≤ 9223372036854775807) (hb : -9223372036854775808 ≤ b ∧ b ≤ 9223372036854775807)
    (h : (!decide (a < wrap64 (a + b)) == decide (0 < b)) = false) : wrap64 (a + b) = val (a + b) ∧ true = fit (a + b) := by
  have h := pick_eq h
  unfold wrap64 at *
  exact chk_yes (by omega) (by omega)
theorem add_no {a b : Int} (ha : -9223372036854775808 ≤ a ∧ a ≤ 9223372036854775807) (hb : -9223372036854775808 ≤ b ∧ b ≤ 9223372036854775807)
    (h : (!decide (a < wrap64 (a + b)) == decide (0 < b)) = true) : (0 : Int) = val (a + b) ∧ false = fit (a + b) := by
  have h := pick_ne h
  unfold wrap64 at h
  exact chk_no (by omega)
theorem sub_yes {a b : Int} (ha : -9223372036854775808 ≤ a ∧ a ≤ 9223372036854775807) (hb : -9223372036854775808 ≤ b ∧ b ≤ 9223372036854775807)
    (h : (!decide (wrap64 (a - b) < a) == decide (0 < b)) = false) : wrap64 (a - b) = val (a - b) ∧ true = fit (a - b) := by
  have h := pick_eq h
  unfold wrap64 at *
  exact chk_yes (by omega) (by omega)
theorem sub_no {a b : Int} (ha : -9223372036854775808 ≤ a ∧ a ≤ 9223372036854775807) (hb : -9223372036854775808 ≤ b ∧ b ≤ 9223372036854775807)
    (h : (!decide (wrap64 (a - b) < a) == decide (0 < b)) = true) : (0 : Int) = val (a - b) ∧ false = fit (a - b) := by
  have h := pick_ne h
  unfold wrap64 at h
  exact chk_no (by omega)

theorem tdiv_near (c b : Int) (hb : b ≠ 0) : (b * c.tdiv b - c < b ∨ b * c.tdiv b - c < -b) ∧ (c - b * c.tdiv b < b ∨ c - b * c.tdiv b < -b) := by
  have h := Int.mul_tdiv_add_tmod c b
  have h1 : (c.tmod b).natAbs < b.natAbs := by
    rw [Int.natAbs_tmod]
    exact Nat.mod_lt _ (by omega)
  omega

/-- The test of a product, 64 bits, where neither factor is 0 or -1. -/
theorem mul_test {a b : Int} (ha : -9223372036854775808 ≤ a ∧ a ≤ 9223372036854775807) (hb : -9223372036854775808 ≤ b ∧ b ≤ 9223372036854775807) (h0 : b ≠ 0) (h1 : b ≠ -1) :
    wrap64 ((wrap64 (a * b)).tdiv b) = a ↔ (-9223372036854775808 ≤ a * b ∧ a * b ≤ 9223372036854775807) := by
  have hw : ∃ k : Int, wrap64 (a * b) = a * b - 18446744073709551616 * k ∧ -9223372036854775808 ≤ wrap64 (a * b) ∧ wrap64 (a * b) ≤ 9223372036854775807 :=
    ⟨(a * b + 9223372036854775808) / 18446744073709551616, by unfold wrap64; omega, by unfold wrap64; omega, by unfold wrap64; omega⟩
  obtain ⟨k, hk, hl, hu⟩ := hw
  generalize hc : wrap64 (a * b) = c at *
  have hn := tdiv_near c b h0
  have habs : (c.tdiv b).natAbs ≤ c.natAbs := by rw [Int.natAbs_tdiv]; exact Nat.div_le_self _ _
  have hq : -9223372036854775808 ≤ c.tdiv b ∧ c.tdiv b ≤ 9223372036854775807 := by
    by_cases e : c.tdiv b = 9223372036854775808
    · exfalso
      by_cases b1 : b = 1
      · subst b1; rw [Int.tdiv_one] at e; omega
      · have h2 : 2 ≤ b.natAbs := by omega
        have h3 : (c.tdiv b).natAbs = c.natAbs / b.natAbs := Int.natAbs_tdiv c b
        have h4 : c.natAbs / b.natAbs ≤ c.natAbs / 2 := Nat.div_le_div_left h2 (by omega)
        omega
    · omega
  have hqq : wrap64 (c.tdiv b) = c.tdiv b := by unfold wrap64; omega
  rw [hqq]
  constructor
  · intro he
    rw [he] at hn
    have : b * a = a * b := Int.mul_comm b a
    rw [this] at hn
    generalize a * b = m at *
    omega
  · intro hr
    have hk0 : c = a * b := by
      generalize a * b = m at *
      omega
    rw [hk0]
    exact Int.mul_tdiv_cancel a h0

theorem neg_wrap_eq {b : Int} (hb : -9223372036854775808 ≤ b ∧ b ≤ 9223372036854775807) (h0 : b ≠ 0) : wrap64 (-b) = b ↔ b = -9223372036854775808 := by
  unfold wrap64; omega
theorem add_yes3 {a b : Int} (ha : -2147483648 ≤ a ∧ a ≤ 2147483647) (hb : -2147483648 ≤ b ∧ b ≤ 2147483647)
    (h : (!decide (a < wrap32 (a + b)) == decide (0 < b)) = false) : wrap32 (a + b) = val3 (a + b) ∧ true = fit3 (a + b) := by
  have h := pick_eq h
  unfold wrap32 at *
  exact chk3_yes (by omega) (by omega)
theorem add_no3 {a b : Int} (ha : -2147483648 ≤ a ∧ a ≤ 2147483647) (hb : -2147483648 ≤ b ∧ b ≤ 2147483647)
    (h : (!decide (a < wrap32 (a + b)) == decide (0 < b)) = true) : (0 : Int) = val3 (a + b) ∧ false = fit3 (a + b) := by
  have h := pick_ne h
  unfold wrap32 at h
  exact chk3_no (by omega)
theorem sub_yes3 {a b : Int} (ha : -2147483648 ≤ a ∧ a ≤ 2147483647) (hb : -2147483648 ≤ b ∧ b ≤ 2147483647)
    (h : (!decide (wrap32 (a - b) < a) == decide (0 < b)) = false) : wrap32 (a - b) = val3 (a - b) ∧ true = fit3 (a - b) := by
  have h := pick_eq h
  unfold wrap32 at *
  exact chk3_yes (by omega) (by omega)
theorem sub_no3 {a b : Int} (ha : -2147483648 ≤ a ∧ a ≤ 2147483647) (hb : -2147483648 ≤ b ∧ b ≤ 2147483647)
    (h : (!decide (wrap32 (a - b) < a) == decide (0 < b)) = true) : (0 : Int) = val3 (a - b) ∧ false = fit3 (a - b) := by
  have h := pick_ne h
  unfold wrap32 at h
  exact chk3_no (by omega)

/-- The test of a product, 64 bits, where neither factor is 0 or -1. -/
theorem mul_test3 {a b : Int} (ha : -2147483648 ≤ a ∧ a ≤ 2147483647) (hb : -2147483648 ≤ b ∧ b ≤ 2147483647) (h0 : b ≠ 0) (h1 : b ≠ -1) :
    wrap32 ((wrap32 (a * b)).tdiv b) = a ↔ (-2147483648 ≤ a * b ∧ a * b ≤ 2147483647) := by
  have hw : ∃ k : Int, wrap32 (a * b) = a * b - 4294967296 * k ∧ -2147483648 ≤ wrap32 (a * b) ∧ wrap32 (a * b) ≤ 2147483647 :=
    ⟨(a * b + 2147483648) / 4294967296, by unfold wrap32; omega, by unfold wrap32; omega, by unfold wrap32; omega⟩
  obtain ⟨k, hk, hl, hu⟩ := hw
  generalize hc : wrap32 (a * b) = c at *
  have hn := tdiv_near c b h0
  have habs : (c.tdiv b).natAbs ≤ c.natAbs := by rw [Int.natAbs_tdiv]; exact Nat.div_le_self _ _
  have hq : -2147483648 ≤ c.tdiv b ∧ c.tdiv b ≤ 2147483647 := by
    by_cases e : c.tdiv b = 2147483648
    · exfalso
      by_cases b1 : b = 1
      · subst b1; rw [Int.tdiv_one] at e; omega
      · have h2 : 2 ≤ b.natAbs := by omega
        have h3 : (c.tdiv b).natAbs = c.natAbs / b.natAbs := Int.natAbs_tdiv c b
        have h4 : c.natAbs / b.natAbs ≤ c.natAbs / 2 := Nat.div_le_div_left h2 (by omega)
        omega
    · omega
  have hqq : wrap32 (c.tdiv b) = c.tdiv b := by unfold wrap32; omega
  rw [hqq]
  constructor
  · intro he
    rw [he] at hn
    have : b * a = a * b := Int.mul_comm b a
    rw [this] at hn
    generalize a * b = m at *
    omega
  · intro hr
    have hk0 : c = a * b := by
      generalize a * b = m at *
      omega
    rw [hk0]
    exact Int.mul_tdiv_cancel a h0

theorem neg_wrap_eq3 {b : Int} (hb : -2147483648 ≤ b ∧ b ≤ 2147483647) (h0 : b ≠ 0) : wrap32 (-b) = b ↔ b = -2147483648 := by
  unfold wrap32; omega
theorem mul_yes {a b : Int} (hm : wrap64 ((wrap64 (a * b)).tdiv b) = a ↔ (-9223372036854775808 ≤ a * b ∧ a * b ≤ 9223372036854775807)) (h : (wrap64 ((wrap64 (a * b)).tdiv b) != a) = false) :
    wrap64 (a * b) = val (a * b) ∧ true = fit (a * b) := by
  have h := hm.1 (by simpa using h)
  exact chk_yes h (by unfold wrap64; omega)
theorem mul_no {a b : Int} (hm : wrap64 ((wrap64 (a * b)).tdiv b) = a ↔ (-9223372036854775808 ≤ a * b ∧ a * b ≤ 9223372036854775807)) (h : (wrap64 ((wrap64 (a * b)).tdiv b) != a) = true) :
    (0 : Int) = val (a * b) ∧ false = fit (a * b) := by
  have h : ¬ wrap64 ((wrap64 (a * b)).tdiv b) = a := by simpa using h
  exact chk_no (fun k => h (hm.2 k))
theorem mul_yes3 {a b : Int} (hm : wrap32 ((wrap32 (a * b)).tdiv b) = a ↔ (-2147483648 ≤ a * b ∧ a * b ≤ 2147483647)) (h : (wrap32 ((wrap32 (a * b)).tdiv b) != a) = false) :
    wrap32 (a * b) = val3 (a * b) ∧ true = fit3 (a * b) := by
  have h := hm.1 (by simpa using h)
  exact chk3_yes h (by unfold wrap32; omega)
theorem mul_no3 {a b : Int} (hm : wrap32 ((wrap32 (a * b)).tdiv b) = a ↔ (-2147483648 ≤ a * b ∧ a * b ≤ 2147483647)) (h : (wrap32 ((wrap32 (a * b)).tdiv b) != a) = true) :
    (0 : Int) = val3 (a * b) ∧ false = fit3 (a * b) := by
  have h : ¬ wrap32 ((wrap32 (a * b)).tdiv b) = a := by simpa using h
  exact chk3_no (fun k => h (hm.2 k))
end Go.Proofs.Ytoippfoeghjdoaa
namespace Go.Proofs.Ytoippfoeghjdoaa
open Go.RowKit
set_option linter.unusedVariables false
set_option linter.unusedSimpArgs false

theorem two {k : IntKind} {a b : Int} {c d : Bool} (h : a = b ∧ c = d) : Value.tuple #[.int k a, .bool c] = Value.tuple #[.int k b, .bool d] := by rw [h.1, h.2]
theorem twi {k l : IntKind} {a b c d : Int} (h : a = b ∧ c = d) : Value.tuple #[.int k a, .int l c] = Value.tuple #[.int k b, .int l d] := by rw [h.1, h.2]

set_option maxHeartbeats 400000 in
theorem add_any (a b : Int) (w : World) (ha : -9223372036854775808 ≤ a ∧ a ≤ 9223372036854775807) (hb : -9223372036854775808 ≤ b ∧ b ≤ 9223372036854775807) :
    Calls Try.prog 70 #[.int .i64 a, .int .i64 b] w (Ret w (.tuple #[.int .i64 (val (a + b)), .bool (fit (a + b))])) := by
  have HA := Lib.hid ha
  have HB := Lib.hid hb
  clear ha hb
  go_enter Try.func70, Try.ntmps70
  go_wp2
  · go_ret2
    exact Ret.mk0 (two (add_no HA.out HB.out ‹_›))
  · go_ret2
    exact Ret.mk0 (two (add_yes HA.out HB.out ‹_›))
set_option maxHeartbeats 400000 in
theorem sub_any (a b : Int) (w : World) (ha : -9223372036854775808 ≤ a ∧ a ≤ 9223372036854775807) (hb : -9223372036854775808 ≤ b ∧ b ≤ 9223372036854775807) :
    Calls Try.prog 99 #[.int .i64 a, .int .i64 b] w (Ret w (.tuple #[.int .i64 (val (a - b)), .bool (fit (a - b))])) := by
  have HA := Lib.hid ha
  have HB := Lib.hid hb
  clear ha hb
  go_enter Try.func99, Try.ntmps99
  go_wp2
  · go_ret2
    exact Ret.mk0 (two (sub_no HA.out HB.out ‹_›))
  · go_ret2
    exact Ret.mk0 (two (sub_yes HA.out HB.out ‹_›))
set_option maxHeartbeats 400000 in
theorem fits_any (a : Int) (w : World) :
    Calls Try.prog 98 #[.int .i64 (val a), .bool (fit a)] w (Ret w (.tuple #[.int .i64 (val a), .int .i64 (err a)])) := by
  cases h : fit a
  · rw [val_not h, err_not h]
    clear h
    go_enter Try.func98, Try.ntmps98
    go_wp2
    go_ret2
    exact Ret.mk0 rfl
  · rw [val_of h, err_of h]
    clear h
    go_enter Try.func98, Try.ntmps98
    go_wp2
    go_ret2
    exact Ret.mk0 rfl
set_option maxHeartbeats 800000 in
theorem mul_any (a b : Int) (w : World) (ha : -9223372036854775808 ≤ a ∧ a ≤ 9223372036854775807) (hb : -9223372036854775808 ≤ b ∧ b ≤ 9223372036854775807) :
    Calls Try.prog 69 #[.int .i64 a, .int .i64 b] w (Ret w (.tuple #[.int .i64 (val (a * b)), .bool (fit (a * b))])) := by
  by_cases a0 : a = 0
  · subst a0
    rw [Int.zero_mul, val_of (fit_of (by omega)), fit_of (by omega)]
    go_enter Try.func69, Try.ntmps69
    go_wp2
    go_ret2
    exact Ret.mk0 rfl
  by_cases b0 : b = 0
  · subst b0
    rw [Int.mul_zero, val_of (fit_of (by omega)), fit_of (by omega)]
    have ha0 : (a == 0) = false := by simpa using a0
    go_enter Try.func69, Try.ntmps69
    go_wp2
    go_ret2
    exact Ret.mk0 rfl
  have ha0 : (a == 0) = false := by simpa using a0
  have hb0 : (b == 0) = false := by simpa using b0
  by_cases b1 : b = -1
  · subst b1
    have hab : a * -1 = - a := by omega
    rw [hab]
    by_cases am : a = -9223372036854775808
    · subst am
      have k : (0 : Int) = val (- -9223372036854775808) ∧ false = fit (- -9223372036854775808) := chk_no (by omega)
      rw [← k.1, ← k.2]
      clear k hab
      go_enter Try.func69, Try.ntmps69
      go_wp2
      · go_ret2
        exact Ret.mk0 rfl
      all_goals exact absurd (show wrap64 9223372036854775808 = -9223372036854775808 by unfold wrap64; omega) ‹¬ wrap64 9223372036854775808 = -9223372036854775808›
    · have k : (- a) = val (- a) ∧ true = fit (- a) := chk_yes (by omega) rfl
      rw [← k.1, ← k.2]
      clear k hab
      by_cases a1 : a = -1
      · subst a1
        go_enter Try.func69, Try.ntmps69
        go_wp2
        go_ret2
        exact Ret.mk0 rfl
      · go_enter Try.func69, Try.ntmps69
        go_wp2
        go_ret2
        exact Ret.mk0 rfl
  have ha' := Lib.hid ha
  have hb' := Lib.hid hb
  by_cases a1 : a = -1
  · subst a1
    rw [show -1 * b = - b by omega]
    by_cases bm : b = -9223372036854775808
    · subst bm
      have k : (0 : Int) = val (- -9223372036854775808) ∧ false = fit (- -9223372036854775808) := chk_no (by omega)
      rw [← k.1, ← k.2]
      clear k
      go_enter Try.func69, Try.ntmps69
      go_wp2
      · go_ret2
        exact Ret.mk0 rfl
      all_goals exact absurd (show wrap64 9223372036854775808 = -9223372036854775808 by unfold wrap64; omega) ‹¬ wrap64 9223372036854775808 = -9223372036854775808›
    · have k : (- b) = val (- b) ∧ true = fit (- b) := chk_yes (by omega) rfl
      rw [← k.1, ← k.2]
      clear k
      go_enter Try.func69, Try.ntmps69
      go_wp2
      go_ret2
      exact Ret.mk0 rfl
  have hm := Lib.hid (mul_test ha hb b0 b1)
  clear ha hb
  go_enter Try.func69, Try.ntmps69
  go_wp2
  · go_ret2
    exact Ret.mk0 (two (mul_no hm.out ‹_›))
  · go_ret2
    exact Ret.mk0 (two (mul_yes hm.out ‹_›))
end Go.Proofs.Ytoippfoeghjdoaa
namespace Go.Proofs.Ytoippfoeghjdoaa
open Go.RowKit
set_option linter.unusedVariables false
set_option linter.unusedSimpArgs false

theorem tdiv_in {a b : Int} (ha : -9223372036854775808 ≤ a ∧ a ≤ 9223372036854775807) (h1 : ¬ b = -1) (h0 : ¬ b = 0) :
    -9223372036854775808 ≤ a.tdiv b ∧ a.tdiv b ≤ 9223372036854775807 := by
  have h3 : (a.tdiv b).natAbs = a.natAbs / b.natAbs := Int.natAbs_tdiv a b
  by_cases b1 : b = 1
  · subst b1; rw [Int.tdiv_one]; exact ha
  · have h2 : 2 ≤ b.natAbs := by omega
    have h4 : a.natAbs / b.natAbs ≤ a.natAbs / 2 := Nat.div_le_div_left h2 (by omega)
    omega
theorem tmod_near (a b : Int) (h0 : ¬ b = 0) : (a.tmod b < b ∨ a.tmod b < -b) ∧ (- a.tmod b < b ∨ - a.tmod b < -b) ∧ (0 ≤ a → 0 ≤ a.tmod b) ∧ (a ≤ 0 → a.tmod b ≤ 0) := by
  have h1 : (a.tmod b).natAbs < b.natAbs := by rw [Int.natAbs_tmod]; exact Nat.mod_lt _ (by omega)
  refine ⟨by omega, by omega, fun h => Int.tmod_nonneg b h, fun h => ?_⟩
  have := Int.tmod_nonneg b (show 0 ≤ -a by omega)
  rw [Int.neg_tmod] at this
  omega
theorem fdiv_of {a b q r : Int} (h0 : ¬ b = 0) (h : r + b * q = a) (hp : 0 < b → 0 ≤ r ∧ r < b) (hn : b < 0 → b < r ∧ r ≤ 0) : a.fdiv b = q ∧ a.fmod b = r := by
  by_cases hb : 0 < b
  · exact (Int.fdiv_fmod_unique hb).2 ⟨h, hp hb⟩
  · exact (Int.fdiv_fmod_unique' (by omega)).2 ⟨h, hn (by omega)⟩
theorem fmod_spec (a b : Int) (h0 : ¬ b = 0) : a.fmod b + b * a.fdiv b = a ∧ (0 < b → 0 ≤ a.fmod b ∧ a.fmod b < b) ∧ (b < 0 → b < a.fmod b ∧ a.fmod b ≤ 0) := by
  refine ⟨Int.fmod_add_mul_fdiv a b, fun hb => ?_, fun hb => ?_⟩
  · exact ((Int.fdiv_fmod_unique hb).1 ⟨rfl, rfl⟩).2
  · exact ((Int.fdiv_fmod_unique' hb).1 ⟨rfl, rfl⟩).2
theorem fdiv_m1 (a : Int) : a.fdiv (-1) = 0 - a ∧ a.fmod (-1) = 0 := fdiv_of (by omega) (by omega) (by omega) (by omega)

theorem div_same {a b q r : Int} (ha : -9223372036854775808 ≤ a ∧ a ≤ 9223372036854775807) (h0 : ¬ b = 0) (h1 : ¬ b = -1)
    (e1 : a.fdiv b = q) (e2 : a.fmod b = r) (hq : q = a.tdiv b ∨ q = a.tdiv b - 1 ∧ ¬ a.tmod b = 0) :
    fit (a.fdiv b) = true := by
  have h := tdiv_in ha h1 h0
  have hm := tmod_near a b h0
  have e := Int.mul_tdiv_add_tmod a b
  refine fit_of ?_
  rw [e1]
  rcases hq with h | h
  · omega
  · rcases h with ⟨h, hr⟩
    by_cases hl : a.tdiv b = -9223372036854775808
    · exfalso
      have h3 : (a.tdiv b).natAbs = a.natAbs / b.natAbs := Int.natAbs_tdiv a b
      by_cases b1 : b = 1
      · subst b1; rw [Int.tmod_one] at hr; exact hr rfl
      · have h2 : 2 ≤ b.natAbs := by omega
        have h4 : a.natAbs / b.natAbs ≤ a.natAbs / 2 := Nat.div_le_div_left h2 (by omega)
        omega
    · omega
theorem div_zero {a b : Int} (ha : -9223372036854775808 ≤ a ∧ a ≤ 9223372036854775807) (h0 : ¬ b = 0) (h1 : ¬ b = -1) (h : a.tmod b = 0) :
    wrap64 (a.tdiv b) = val (a.fdiv b) ∧ 0 = a.fmod b ∧ true = fit (a.fdiv b) := by
  have e := Int.mul_tdiv_add_tmod a b
  rw [h] at e
  obtain ⟨e1, e2⟩ := fdiv_of (a := a) (q := a.tdiv b) (r := 0) h0 (by omega) (by omega) (by omega)
  have hf := div_same ha h0 h1 e1 e2 (.inl rfl)
  have h' := tdiv_in ha h1 h0
  rw [val_of hf, hf, e1, e2]
  exact ⟨by unfold wrap64; omega, rfl, rfl⟩
theorem div_down {a b : Int} (ha : -9223372036854775808 ≤ a ∧ a ≤ 9223372036854775807) (h0 : ¬ b = 0) (h1 : ¬ b = -1) (hb : -9223372036854775808 ≤ b ∧ b ≤ 9223372036854775807)
    (h : (a.tmod b != 0) = true ∧ (!decide (a.tmod b < 0) == decide (b < 0)) = true) :
    wrap64 (wrap64 (a.tdiv b) - 1) = val (a.fdiv b) ∧ wrap64 (a.tmod b + b) = a.fmod b ∧ true = fit (a.fdiv b) := by
  have hr : ¬ a.tmod b = 0 := by simpa using h.1
  have hs := pick_ne h.2
  have e := Int.mul_tdiv_add_tmod a b
  have hm := tmod_near a b h0
  have em : b * (a.tdiv b - 1) = b * a.tdiv b - b := by rw [Int.mul_sub, Int.mul_one]
  obtain ⟨e1, e2⟩ := fdiv_of (a := a) (q := a.tdiv b - 1) (r := a.tmod b + b) h0 (by omega) (by omega) (by omega)
  have hf := div_same ha h0 h1 e1 e2 (.inr ⟨rfl, hr⟩)
  have h' := tdiv_in ha h1 h0
  have hf' := (fit_iff _).1 hf
  rw [e1] at hf'
  rw [val_of hf, hf, e1, e2]
  exact ⟨by unfold wrap64; omega, by unfold wrap64; omega, rfl⟩
theorem div_stay {a b : Int} (ha : -9223372036854775808 ≤ a ∧ a ≤ 9223372036854775807) (h0 : ¬ b = 0) (h1 : ¬ b = -1)
    (h : (a.tmod b != 0) = false ∨ (!decide (a.tmod b < 0) == decide (b < 0)) = false) :
    wrap64 (a.tdiv b) = val (a.fdiv b) ∧ a.tmod b = a.fmod b ∧ true = fit (a.fdiv b) := by
  have hs : a.tmod b = 0 ∨ (a.tmod b < 0 ↔ b < 0) := h.imp (fun h => by simpa using h) pick_eq
  have e := Int.mul_tdiv_add_tmod a b
  have hm := tmod_near a b h0
  obtain ⟨e1, e2⟩ := fdiv_of (a := a) (q := a.tdiv b) (r := a.tmod b) h0 (by omega) (by omega) (by omega)
  have hf := div_same ha h0 h1 e1 e2 (.inl rfl)
  have h' := tdiv_in ha h1 h0
  rw [val_of hf, hf, e1, e2]
  exact ⟨by unfold wrap64; omega, rfl, rfl⟩

theorem whole_neg {a : Int} (ha : -9223372036854775808 ≤ a ∧ a ≤ 9223372036854775807) (h : a < 0) : IntKind.u64.wrap (-IntKind.u64.wrap a) = (a.natAbs : Int) := by
  rw [IntKind.wrap_u64, IntKind.wrap_u64]; omega
theorem whole_pos {a : Int} (ha : -9223372036854775808 ≤ a ∧ a ≤ 9223372036854775807) (h : 0 ≤ a) : IntKind.u64.wrap a = (a.natAbs : Int) := by
  rw [IntKind.wrap_u64]; omega

def rowB (a : Int) : Bool := decide (1 ≤ a ∧ a ≤ 21)
theorem rowB_yes {a : Int} (h : 1 ≤ a) (h' : a ≤ 21) : rowB a = true := by simp [rowB, h, h']
theorem rowB_no {a : Int} (h : ¬ (1 ≤ a ∧ a ≤ 21)) : rowB a = false := by simp [rowB]; omega

def bit (b : Bool) : Int := if b then 1 else 0

def fac : Nat → Nat
  | 0 => 1
  | n + 1 => (n + 1) * fac n
theorem fac_pos (n : Nat) : 1 ≤ fac n := by
  induction n with
  | zero => simp [fac]
  | succ n ih => exact Nat.le_trans ih (Nat.le_mul_of_pos_left _ (by omega))
theorem fac_mono {a b : Nat} (h : a ≤ b) : fac a ≤ fac b := by
  induction h with
  | refl => exact Nat.le_refl _
  | step h ih => exact Nat.le_trans ih (Nat.le_mul_of_pos_left _ (by omega))
theorem fac_le {n : Nat} (h : n ≤ 20) : fac n ≤ 2432902008176640000 := Nat.le_trans (fac_mono h) (by decide)
theorem fac_big {n : Nat} (h : 21 ≤ n) : 9223372036854775807 < fac n := Nat.lt_of_lt_of_le (by decide) (fac_mono h)
/-- PFact of one number: its value and its error. -/
def facV (y : Int) : Int := if y < 0 then 0 else val (fac y.toNat)
def facE (y : Int) : Int := if y < 0 then 10 else err (fac y.toNat)
theorem facV_neg {y : Int} (h : y < 0) : facV y = 0 ∧ facE y = 10 := by simp [facV, facE, h]
theorem facV_big {y : Int} (h : 20 < y) : facV y = 0 ∧ facE y = 14 := by
  have hb := fac_big (n := y.toNat) (by omega)
  have hf : fit (fac y.toNat : Int) = false := fit_not (by omega)
  simp only [facV, facE, if_neg (show ¬ y < 0 by omega)]
  exact ⟨val_not hf, err_not hf⟩
theorem facV_in {y : Int} (h : 0 ≤ y) (h' : y ≤ 20) : facV y = fac y.toNat ∧ facE y = 0 := by
  have hb := fac_le (n := y.toNat) (by omega)
  have hf : fit (fac y.toNat : Int) = true := fit_of (by omega)
  simp only [facV, facE, if_neg (show ¬ y < 0 by omega)]
  exact ⟨val_of hf, err_of hf⟩
theorem fac_step (k : Nat) (h : 2 ≤ k) : (fac (k - 1) : Int) * k = fac k := by
  obtain ⟨j, rfl⟩ : ∃ j, k = j + 1 := ⟨k - 1, by omega⟩
  simp only [Nat.add_sub_cancel, fac]
  rw [Int.mul_comm]; simp

/-- The loop of the factorial: what p holds at the head of round k. -/
theorem fac_two : (1 : Int) = fac (2 - 1) := by decide
theorem fac_end {n k : Nat} (h2 : 2 ≤ k) (h : k ≤ n + 1 ∨ k = 2) (hn : n < k) : (fac (k - 1) : Int) = fac n := by
  by_cases e : k = n + 1
  · rw [e]; rfl
  · have : k = 2 := by omega
    subst this
    have : n = 0 ∨ n = 1 := by omega
    rcases this with rfl | rfl <;> rfl
theorem gcd_step (a b : Nat) : Nat.gcd b (a % b) = Nat.gcd a b := by
  rw [Nat.gcd_comm a b, Nat.gcd_rec b a, Nat.gcd_comm]
end Go.Proofs.Ytoippfoeghjdoaa
namespace Go.Proofs.Ytoippfoeghjdoaa
open Go.RowKit
set_option linter.unusedVariables false
set_option linter.unusedSimpArgs false
theorem thr {k l : IntKind} {a b c d : Int} {e f : Bool} (h : a = b ∧ c = d ∧ e = f) : Value.tuple #[.int k a, .int l c, .bool e] = Value.tuple #[.int k b, .int l d, .bool f] := by rw [h.1, h.2.1, h.2.2]
theorem one_ {k : IntKind} {a b : Int} (h : a = b) : Value.int k a = Value.int k b := by rw [h]

set_option maxHeartbeats 400000 in
theorem divide_any (a b : Int) (w : World) (ha : -9223372036854775808 ≤ a ∧ a ≤ 9223372036854775807) (hb : -9223372036854775808 ≤ b ∧ b ≤ 9223372036854775807) (h0 : ¬ b = 0) :
    Calls Try.prog 100 #[.int .i64 a, .int .i64 b] w (Ret w (.tuple #[.int .i64 (val (a.fdiv b)), .int .i64 (a.fmod b), .bool (fit (a.fdiv b))])) := by
  by_cases h1 : b = -1
  · subst h1
    rw [(fdiv_m1 a).1, (fdiv_m1 a).2]
    go_enter Try.func100, Try.ntmps100
    go_wp2_with (go_at_call 99; refine (sub_any _ _ _ (by omega) (by omega)).mono ?_; rintro e w' ⟨rfl, n1, rfl⟩)
    go_ret3
    exact Ret.mk _ (by simp [Array.getD])
  · have HA := Lib.hid ha
    have HB := Lib.hid hb
    go_enter Try.func100, Try.ntmps100
    go_wp2
    go_quiet (fail)
    go_wp2
    · go_ret3
      exact Ret.mk _ (thr (div_zero HA.out h0 h1 ‹_›))
    · go_ret3
      exact Ret.mk _ (thr (div_down HA.out h0 h1 HB.out ‹_›))
    · go_ret3
      exact Ret.mk _ (thr (div_stay HA.out h0 h1 ‹_›))
set_option maxHeartbeats 400000 in
theorem whole_any (a : Int) (w : World) (ha : -9223372036854775808 ≤ a ∧ a ≤ 9223372036854775807) :
    Calls Try.prog 104 #[.int .i64 a] w (Ret w (.int .u64 (a.natAbs : Int))) := by
  by_cases h : a < 0
  · have HW := Lib.hid (whole_neg ha h)
    clear ha
    go_enter Try.func104, Try.ntmps104
    go_wp2
    go_ret
    exact Ret.mk0 (one_ HW.out)
  · have HW := Lib.hid (whole_pos ha (by omega))
    clear ha
    go_enter Try.func104, Try.ntmps104
    go_wp2
    go_ret
    exact Ret.mk0 (one_ HW.out)
set_option maxHeartbeats 400000 in
theorem plain_any (a : Int) (w : World) (h0 : 0 ≤ a) (h1 : a ≤ 18446744073709551615) :
    Calls Try.prog 102 #[.int .u64 a] w (Ret w (.tuple #[.int .i64 (val a), .int .i64 (err a)])) := by
  by_cases h : a ≤ 9223372036854775807
  · have k := chk_yes (n := a) (m := a) (by omega) rfl
    rw [← k.1, err_of k.2.symm]
    clear k
    go_enter Try.func102, Try.ntmps102
    go_wp2
    go_ret2
    exact Ret.mk0 rfl
  · have k := chk_no (n := a) (by omega)
    rw [← k.1, err_not k.2.symm]
    clear k
    go_enter Try.func102, Try.ntmps102
    go_wp2
    go_ret2
    exact Ret.mk0 rfl
set_option maxHeartbeats 400000 in
theorem truth_any (b : Bool) (w : World) :
    Calls Try.prog 106 #[.bool b] w (Ret w (.tuple #[.int .i64 (bit b), .int .i64 0])) := by
  cases b <;> (go_enter Try.func106, Try.ntmps106; go_wp2; go_ret2; exact Ret.mk0 rfl)
set_option maxHeartbeats 400000 in
theorem row_any (a : Int) (w : World) :
    Calls Try.prog 109 #[.int .i64 a] w (Ret w (.bool (rowB a))) := by
  by_cases h : 1 ≤ a <;> by_cases h' : a ≤ 21
  · rw [rowB_yes h h']
    go_enter Try.func109, Try.ntmps109; go_wp2; go_ret; exact Ret.mk0 rfl
  · rw [rowB_no (by omega)]
    go_enter Try.func109, Try.ntmps109; go_wp2; go_ret; exact Ret.mk0 rfl
  · rw [rowB_no (by omega)]
    go_enter Try.func109, Try.ntmps109; go_wp2; go_ret; exact Ret.mk0 rfl
  · rw [rowB_no (by omega)]
    go_enter Try.func109, Try.ntmps109; go_wp2; go_ret; exact Ret.mk0 rfl
set_option maxHeartbeats 400000 in
theorem compared_8 (x y : Int) (w : World) : Calls Try.prog 101 #[.int .i64 8, .int .i64 x, .int .i64 y] w (Ret w (.tuple #[.int .i64 (bit (decide (x < y))), .int .i64 0])) := by
  go_enter Try.func101, Try.ntmps101
  go_wp2_with (go_at_call 106; refine (truth_any _ _).mono ?_; rintro e w' ⟨rfl, n1, rfl⟩)
  go_ret2
  exact Ret.mk _ rfl
set_option maxHeartbeats 400000 in
theorem compared_9 (x y : Int) (w : World) : Calls Try.prog 101 #[.int .i64 9, .int .i64 x, .int .i64 y] w (Ret w (.tuple #[.int .i64 (bit (decide (y < x))), .int .i64 0])) := by
  go_enter Try.func101, Try.ntmps101
  go_wp2_with (go_at_call 106; refine (truth_any _ _).mono ?_; rintro e w' ⟨rfl, n1, rfl⟩)
  go_ret2
  exact Ret.mk _ rfl
set_option maxHeartbeats 400000 in
theorem compared_10 (x y : Int) (w : World) : Calls Try.prog 101 #[.int .i64 10, .int .i64 x, .int .i64 y] w (Ret w (.tuple #[.int .i64 (bit (x == y)), .int .i64 0])) := by
  go_enter Try.func101, Try.ntmps101
  go_wp2_with (go_at_call 106; refine (truth_any _ _).mono ?_; rintro e w' ⟨rfl, n1, rfl⟩)
  go_ret2
  exact Ret.mk _ rfl
set_option maxHeartbeats 400000 in
theorem compared_11 (x y : Int) (w : World) : Calls Try.prog 101 #[.int .i64 11, .int .i64 x, .int .i64 y] w (Ret w (.tuple #[.int .i64 (bit (x != y)), .int .i64 0])) := by
  go_enter Try.func101, Try.ntmps101
  go_wp2_with (go_at_call 106; refine (truth_any _ _).mono ?_; rintro e w' ⟨rfl, n1, rfl⟩)
  go_ret2
  exact Ret.mk _ rfl
set_option maxHeartbeats 400000 in
theorem compared_12 (x y : Int) (w : World) : Calls Try.prog 101 #[.int .i64 12, .int .i64 x, .int .i64 y] w (Ret w (.tuple #[.int .i64 (bit (decide (x ≤ y))), .int .i64 0])) := by
  go_enter Try.func101, Try.ntmps101
  go_wp2_with (go_at_call 106; refine (truth_any _ _).mono ?_; rintro e w' ⟨rfl, n1, rfl⟩)
  go_ret2
  exact Ret.mk _ rfl
set_option maxHeartbeats 400000 in
theorem compared_13 (x y : Int) (w : World) : Calls Try.prog 101 #[.int .i64 13, .int .i64 x, .int .i64 y] w (Ret w (.tuple #[.int .i64 (bit (decide (y ≤ x))), .int .i64 0])) := by
  go_enter Try.func101, Try.ntmps101
  go_wp2_with (go_at_call 106; refine (truth_any _ _).mono ?_; rintro e w' ⟨rfl, n1, rfl⟩)
  go_ret2
  exact Ret.mk _ rfl
set_option maxHeartbeats 400000 in
theorem gcd_any (a b : Nat) (w : World) (ha : a ≤ 18446744073709551615) (hb : b ≤ 18446744073709551615) :
    Calls Try.prog 103 #[.int .u64 a, .int .u64 b] w (Ret w (.int .u64 (Nat.gcd a b : Int))) := by
  go_enter Try.func103, Try.ntmps103
  go_wp2
  go_loopw [0, 1] (fun p q wr => ∃ x y : Nat, x ≤ 18446744073709551615 ∧ y ≤ 18446744073709551615 ∧ p = .int .u64 x ∧ q = .int .u64 y ∧ Hid (Nat.gcd x y = Nat.gcd a b) ∧ ∃ n, wr = w.drewN n) (fun _ q _ => (intOf q).toNat)
  case atStart => exact ⟨a, b, ha, hb, rfl, rfl, rfl, 0, rfl⟩
  case round =>
    obtain ⟨x, y, hx, hy, rfl, rfl, hg, n, rfl⟩ := hrel
    by_cases h : y = 0
    · subst h
      go_wp2
      go_ret
      exact Ret.mk _ (one_ (by have := hg.out; rw [Nat.gcd_zero_right] at this; rw [← this]))
    · have hl := Nat.mod_lt x (show 0 < y by omega)
      have hs := Lib.hid (gcd_step x y)
      have h1 : (1 : Int) ≤ (y : Int) := by omega
      have h2 : ¬ (y : Int) = 0 := by omega
      go_wp2
      go_quiet (fail)
      go_wp2
      go_roundw
      case rel => exact ⟨y, x % y, hy, by omega, rfl, by go_num, hs.out.trans hg.out, n + nq, World.drewN_drewN _ _ _⟩
      case measure => simp [intOf]; omega
end Go.Proofs.Ytoippfoeghjdoaa
