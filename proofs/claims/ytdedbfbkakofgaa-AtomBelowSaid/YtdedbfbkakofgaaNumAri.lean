/- Contracts of num.Add, num.Sub, num.Mul at int64 and int32, and of num.fits. -/
import Derived.Test.YtdedbfbkakofgaaMem
import Derived.Test.YtdedbfbkakofgaaNumPlain
namespace Go.Proofs.Ytdedbfbkakofgaa
open Go.RowKit
set_option linter.unusedVariables false
set_option linter.unusedSimpArgs false

theorem two {k : IntKind} {a b : Int} {c d : Bool} (h : a = b ∧ c = d) : Value.tuple #[.int k a, .bool c] = Value.tuple #[.int k b, .bool d] := by rw [h.1, h.2]
theorem twi {k l : IntKind} {a b c d : Int} (h : a = b ∧ c = d) : Value.tuple #[.int k a, .int l c] = Value.tuple #[.int k b, .int l d] := by rw [h.1, h.2]

set_option maxHeartbeats 400000 in
theorem add_any (a b : Int) (w : World) (ha : -9223372036854775808 ≤ a ∧ a ≤ 9223372036854775807) (hb : -9223372036854775808 ≤ b ∧ b ≤ 9223372036854775807) :
    Calls Try.prog 112 #[.int .i64 a, .int .i64 b] w (Ret w (.tuple #[.int .i64 (val (a + b)), .bool (fit (a + b))])) := by
  have HA := Lib.hid ha
  have HB := Lib.hid hb
  clear ha hb
  go_enter Try.func112, Try.ntmps112
  go_wp2
  · go_ret2
    exact Ret.mk0 (two (add_no HA.out HB.out ‹_›))
  · go_ret2
    exact Ret.mk0 (two (add_yes HA.out HB.out ‹_›))
set_option maxHeartbeats 400000 in
theorem sub_any (a b : Int) (w : World) (ha : -9223372036854775808 ≤ a ∧ a ≤ 9223372036854775807) (hb : -9223372036854775808 ≤ b ∧ b ≤ 9223372036854775807) :
    Calls Try.prog 109 #[.int .i64 a, .int .i64 b] w (Ret w (.tuple #[.int .i64 (val (a - b)), .bool (fit (a - b))])) := by
  have HA := Lib.hid ha
  have HB := Lib.hid hb
  clear ha hb
  go_enter Try.func109, Try.ntmps109
  go_wp2
  · go_ret2
    exact Ret.mk0 (two (sub_no HA.out HB.out ‹_›))
  · go_ret2
    exact Ret.mk0 (two (sub_yes HA.out HB.out ‹_›))
set_option maxHeartbeats 400000 in
theorem fits_any (a : Int) (w : World) :
    Calls Try.prog 108 #[.int .i64 (val a), .bool (fit a)] w (Ret w (.tuple #[.int .i64 (val a), .int .i64 (err a)])) := by
  cases h : fit a
  · rw [val_not h, err_not h]
    clear h
    go_enter Try.func108, Try.ntmps108
    go_wp2
    go_ret2
    exact Ret.mk0 rfl
  · rw [val_of h, err_of h]
    clear h
    go_enter Try.func108, Try.ntmps108
    go_wp2
    go_ret2
    exact Ret.mk0 rfl
set_option maxHeartbeats 800000 in
theorem mul_any (a b : Int) (w : World) (ha : -9223372036854775808 ≤ a ∧ a ≤ 9223372036854775807) (hb : -9223372036854775808 ≤ b ∧ b ≤ 9223372036854775807) :
    Calls Try.prog 113 #[.int .i64 a, .int .i64 b] w (Ret w (.tuple #[.int .i64 (val (a * b)), .bool (fit (a * b))])) := by
  by_cases a0 : a = 0
  · subst a0
    rw [Int.zero_mul, val_of (fit_of (by omega)), fit_of (by omega)]
    go_enter Try.func113, Try.ntmps113
    go_wp2
    go_ret2
    exact Ret.mk0 rfl
  by_cases b0 : b = 0
  · subst b0
    rw [Int.mul_zero, val_of (fit_of (by omega)), fit_of (by omega)]
    have ha0 : (a == 0) = false := by simpa using a0
    go_enter Try.func113, Try.ntmps113
    go_wp2
    go_ret2
    exact Ret.mk0 rfl
  have ha0 : (a == 0) = false := by simpa using a0
  have hb0 : (b == 0) = false := by simpa using b0
  by_cases b1 : b = -1
  · subst b1
    have hab : a * -1 = - a := by omega
    rw [hab]
    by_cases am : a = -9223372036854775808
    · subst am
      have k : (0 : Int) = val (- -9223372036854775808) ∧ false = fit (- -9223372036854775808) := chk_no (by omega)
      rw [← k.1, ← k.2]
      clear k hab
      go_enter Try.func113, Try.ntmps113
      go_wp2
      · go_ret2
        exact Ret.mk0 rfl
      all_goals exact absurd (show wrap64 9223372036854775808 = -9223372036854775808 by unfold wrap64; omega) ‹¬ wrap64 9223372036854775808 = -9223372036854775808›
    · have k : (- a) = val (- a) ∧ true = fit (- a) := chk_yes (by omega) rfl
      rw [← k.1, ← k.2]
      clear k hab
      by_cases a1 : a = -1
      · subst a1
        go_enter Try.func113, Try.ntmps113
        go_wp2
        go_ret2
        exact Ret.mk0 rfl
      · go_enter Try.func113, Try.ntmps113
        go_wp2
        go_ret2
        exact Ret.mk0 rfl
  have ha' := Lib.hid ha
  have hb' := Lib.hid hb
  by_cases a1 : a = -1
  · subst a1
    rw [show -1 * b = - b by omega]
    by_cases bm : b = -9223372036854775808
    · subst bm
      have k : (0 : Int) = val (- -9223372036854775808) ∧ false = fit (- -9223372036854775808) := chk_no (by omega)
      rw [← k.1, ← k.2]
      clear k
      go_enter Try.func113, Try.ntmps113
      go_wp2
      · go_ret2
        exact Ret.mk0 rfl
      all_goals exact absurd (show wrap64 9223372036854775808 = -9223372036854775808 by unfold wrap64; omega) ‹¬ wrap64 9223372036854775808 = -9223372036854775808›
    · have k : (- b) = val (- b) ∧ true = fit (- b) := chk_yes (by omega) rfl
      rw [← k.1, ← k.2]
      clear k
      go_enter Try.func113, Try.ntmps113
      go_wp2
      go_ret2
      exact Ret.mk0 rfl
  have hm := Lib.hid (mul_test ha hb b0 b1)
  clear ha hb
  go_enter Try.func113, Try.ntmps113
  go_wp2
  · go_ret2
    exact Ret.mk0 (two (mul_no hm.out ‹_›))
  · go_ret2
    exact Ret.mk0 (two (mul_yes hm.out ‹_›))
end Go.Proofs.Ytdedbfbkakofgaa
