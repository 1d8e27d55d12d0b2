/- Contracts of num.Add, num.Sub, num.Mul at int32. -/
import Derived.Test.YtkgakpofophhjaaRows
import Derived.WalkKit
import Derived.WalkSpells
import Derived.WalkLawsBesides
import Derived.Lib.Hide
import Derived.Test.YtkgakpofophhjaaNumAri
namespace Go.Proofs.Ytkgakpofophhjaa
open Go.RowKit
set_option linter.unusedVariables false
set_option linter.unusedSimpArgs false

set_option maxHeartbeats 400000 in
theorem add_any3 (a b : Int) (w : World) (ha : -2147483648 ≤ a ∧ a ≤ 2147483647) (hb : -2147483648 ≤ b ∧ b ≤ 2147483647) :
    Calls Try.prog 13 #[.int .i32 a, .int .i32 b] w (Ret w (.tuple #[.int .i32 (val3 (a + b)), .bool (fit3 (a + b))])) := by
  have HA := Lib.hid ha
  have HB := Lib.hid hb
  clear ha hb
  go_enter Try.func13, Try.ntmps13
  go_wp2
  · go_ret2
    exact Ret.mk0 (two (add_no3 HA.out HB.out ‹_›))
  · go_ret2
    exact Ret.mk0 (two (add_yes3 HA.out HB.out ‹_›))
set_option maxHeartbeats 400000 in
theorem sub_any3 (a b : Int) (w : World) (ha : -2147483648 ≤ a ∧ a ≤ 2147483647) (hb : -2147483648 ≤ b ∧ b ≤ 2147483647) :
    Calls Try.prog 14 #[.int .i32 a, .int .i32 b] w (Ret w (.tuple #[.int .i32 (val3 (a - b)), .bool (fit3 (a - b))])) := by
  have HA := Lib.hid ha
  have HB := Lib.hid hb
  clear ha hb
  go_enter Try.func14, Try.ntmps14
  go_wp2
  · go_ret2
    exact Ret.mk0 (two (sub_no3 HA.out HB.out ‹_›))
  · go_ret2
    exact Ret.mk0 (two (sub_yes3 HA.out HB.out ‹_›))
set_option maxHeartbeats 800000 in
theorem mul_any3 (a b : Int) (w : World) (ha : -2147483648 ≤ a ∧ a ≤ 2147483647) (hb : -2147483648 ≤ b ∧ b ≤ 2147483647) :
    Calls Try.prog 15 #[.int .i32 a, .int .i32 b] w (Ret w (.tuple #[.int .i32 (val3 (a * b)), .bool (fit3 (a * b))])) := by
  by_cases a0 : a = 0
  · subst a0
    rw [Int.zero_mul, val3_of (fit3_of (by omega)), fit3_of (by omega)]
    go_enter Try.func15, Try.ntmps15
    go_wp2
    go_ret2
    exact Ret.mk0 rfl
  by_cases b0 : b = 0
  · subst b0
    rw [Int.mul_zero, val3_of (fit3_of (by omega)), fit3_of (by omega)]
    have ha0 : (a == 0) = false := by simpa using a0
    go_enter Try.func15, Try.ntmps15
    go_wp2
    go_ret2
    exact Ret.mk0 rfl
  have ha0 : (a == 0) = false := by simpa using a0
  have hb0 : (b == 0) = false := by simpa using b0
  by_cases b1 : b = -1
  · subst b1
    have hab : a * -1 = - a := by omega
    rw [hab]
    by_cases am : a = -2147483648
    · subst am
      have k : (0 : Int) = val3 (- -2147483648) ∧ false = fit3 (- -2147483648) := chk3_no (by omega)
      rw [← k.1, ← k.2]
      clear k hab
      go_enter Try.func15, Try.ntmps15
      go_wp2
      · go_ret2
        exact Ret.mk0 rfl
      all_goals exact absurd (show wrap32 2147483648 = -2147483648 by unfold wrap32; omega) ‹¬ wrap32 2147483648 = -2147483648›
    · have k : (- a) = val3 (- a) ∧ true = fit3 (- a) := chk3_yes (by omega) rfl
      rw [← k.1, ← k.2]
      clear k hab
      by_cases a1 : a = -1
      · subst a1
        go_enter Try.func15, Try.ntmps15
        go_wp2
        go_ret2
        exact Ret.mk0 rfl
      · go_enter Try.func15, Try.ntmps15
        go_wp2
        go_ret2
        exact Ret.mk0 rfl
  have ha' := Lib.hid ha
  have hb' := Lib.hid hb
  by_cases a1 : a = -1
  · subst a1
    rw [show -1 * b = - b by omega]
    by_cases bm : b = -2147483648
    · subst bm
      have k : (0 : Int) = val3 (- -2147483648) ∧ false = fit3 (- -2147483648) := chk3_no (by omega)
      rw [← k.1, ← k.2]
      clear k
      go_enter Try.func15, Try.ntmps15
      go_wp2
      · go_ret2
        exact Ret.mk0 rfl
      all_goals exact absurd (show wrap32 2147483648 = -2147483648 by unfold wrap32; omega) ‹¬ wrap32 2147483648 = -2147483648›
    · have k : (- b) = val3 (- b) ∧ true = fit3 (- b) := chk3_yes (by omega) rfl
      rw [← k.1, ← k.2]
      clear k
      go_enter Try.func15, Try.ntmps15
      go_wp2
      go_ret2
      exact Ret.mk0 rfl
  have hm := Lib.hid (mul_test3 ha hb b0 b1)
  clear ha hb
  go_enter Try.func15, Try.ntmps15
  go_wp2
  · go_ret2
    exact Ret.mk0 (two (mul_no3 hm.out ‹_›))
  · go_ret2
    exact Ret.mk0 (two (mul_yes3 hm.out ‹_›))
end Go.Proofs.Ytkgakpofophhjaa
