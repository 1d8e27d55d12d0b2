/- Contracts of num.Add, num.Sub, num.Mul at int64 and int32, and of num.fits. Contracts of num.divide, whole, plain, truth, row, compared, factorial, gcd. -/
import Derived.Test.YtdedbfbkakofgaaAtomFreshM0
import Derived.Test.YtdedbfbkakofgaaAtomFreshM18
import Derived.Deep.QuietTactic
import Derived.BigQuiet
namespace Go.Proofs.Ytdedbfbkakofgaa
open Go.RowKit
set_option linter.unusedVariables false
set_option linter.unusedSimpArgs false

theorem two {k : IntKind} {a b : Int} {c d : Bool} (h : a = b ∧ c = d) : Value.tuple #[.int k a, .bool c] = Value.tuple #[.int k b, .bool d] := by rw [h.1, h.2]
theorem twi {k l : IntKind} {a b c d : Int} (h : a = b ∧ c = d) : Value.tuple #[.int k a, .int l c] = Value.tuple #[.int k b, .int l d] := by rw [h.1, h.2]

set_option maxHeartbeats 400000 in
theorem add_any (a b : Int) (w : World) (ha : -9223372036854775808 ≤ a ∧ a ≤ 9223372036854775807) (hb : -9223372036854775808 ≤ b ∧ b ≤ 9223372036854775807) :
    Calls Try.prog 112 #[.int .i64 a, .int .i64 b] w (Ret w (.tuple #[.int .i64 (val (a + b)), .bool (fit (a + b))])) := by
  have HA := Lib.hid ha
  have HB := Lib.hid hb
  clear ha hb
  go_enter Try.func112, Try.ntmps112
  go_wp2
  · go_ret2
    exact Ret.mk0 (two (add_no HA.out HB.out ‹_›))
  · go_ret2
    exact Ret.mk0 (two (add_yes HA.out HB.out ‹_›))
set_option maxHeartbeats 400000 in
theorem sub_any (a b : Int) (w : World) (ha : -9223372036854775808 ≤ a ∧ a ≤ 9223372036854775807) (hb : -9223372036854775808 ≤ b ∧ b ≤ 9223372036854775807) :
    Calls Try.prog 109 #[.int .i64 a, .int .i64 b] w (Ret w (.tuple #[.int .i64 (val (a - b)), .bool (fit (a - b))])) := by
  have HA := Lib.hid ha
  have HB := Lib.hid hb
  clear ha hb
  go_enter Try.func109, Try.ntmps109
  go_wp2
  · go_ret2
    exact Ret.mk0 (two (sub_no HA.out HB.out ‹_›))
  · go_ret2
    exact Ret.mk0 (two (sub_yes HA.out HB.out ‹_›))
set_option maxHeartbeats 400000 in
theorem fits_any (a : Int) (w : World) :
    Calls Try.prog 108 #[.int .i64 (val a), .bool (fit a)] w (Ret w (.tuple #[.int .i64 (val a), .int .i64 (err a)])) := by
  cases h : fit a
  · rw [val_not h, err_not h]
    clear h
    go_enter Try.func108, Try.ntmps108
    go_wp2
    go_ret2
    exact Ret.mk0 rfl
  · rw [val_of h, err_of h]
    clear h
    go_enter Try.func108, Try.ntmps108
    go_wp2
    go_ret2
    exact Ret.mk0 rfl
set_option maxHeartbeats 800000 in
theorem mul_any (a b : Int) (w : World) (ha : -9223372036854775808 ≤ a ∧ a ≤ 9223372036854775807) (hb : -9223372036854775808 ≤ b ∧ b ≤ 9223372036854775807) :
    Calls Try.prog 113 #[.int .i64 a, .int .i64 b] w (Ret w (.tuple #[.int .i64 (val (a * b)), .bool (fit (a * b))])) := by
  by_cases a0 : a = 0
  · subst a0
    rw [Int.zero_mul, val_of (fit_of (by omega)), fit_of (by omega)]
    go_enter Try.func113, Try.ntmps113
    go_wp2
    go_ret2
    exact Ret.mk0 rfl
  by_cases b0 : b = 0
  · subst b0
    rw [Int.mul_zero, val_of (fit_of (by omega)), fit_of (by omega)]
    have ha0 : (a == 0) = false := by simpa using a0
    go_enter Try.func113, Try.ntmps113
    go_wp2
    go_ret2
    exact Ret.mk0 rfl
  have ha0 : (a == 0) = false := by simpa using a0
  have hb0 : (b == 0) = false := by simpa using b0
  by_cases b1 : b = -1
  · subst b1
    have hab : a * -1 = - a := by omega
    rw [hab]
    by_cases am : a = -9223372036854775808
    · subst am
      have k : (0 : Int) = val (- -9223372036854775808) ∧ false = fit (- -9223372036854775808) := chk_no (by omega)
      rw [← k.1, ← k.2]
      clear k hab
      go_enter Try.func113, Try.ntmps113
      go_wp2
      · go_ret2
        exact Ret.mk0 rfl
      all_goals exact absurd (show wrap64 9223372036854775808 = -9223372036854775808 by unfold wrap64; omega) ‹¬ wrap64 9223372036854775808 = -9223372036854775808›
    · have k : (- a) = val (- a) ∧ true = fit (- a) := chk_yes (by omega) rfl
      rw [← k.1, ← k.2]
      clear k hab
      by_cases a1 : a = -1
      · subst a1
        go_enter Try.func113, Try.ntmps113
        go_wp2
        go_ret2
        exact Ret.mk0 rfl
      · go_enter Try.func113, Try.ntmps113
        go_wp2
        go_ret2
        exact Ret.mk0 rfl
  have ha' := Lib.hid ha
  have hb' := Lib.hid hb
  by_cases a1 : a = -1
  · subst a1
    rw [show -1 * b = - b by omega]
    by_cases bm : b = -9223372036854775808
    · subst bm
      have k : (0 : Int) = val (- -9223372036854775808) ∧ false = fit (- -9223372036854775808) := chk_no (by omega)
      rw [← k.1, ← k.2]
      clear k
      go_enter Try.func113, Try.ntmps113
      go_wp2
      · go_ret2
        exact Ret.mk0 rfl
      all_goals exact absurd (show wrap64 9223372036854775808 = -9223372036854775808 by unfold wrap64; omega) ‹¬ wrap64 9223372036854775808 = -9223372036854775808›
    · have k : (- b) = val (- b) ∧ true = fit (- b) := chk_yes (by omega) rfl
      rw [← k.1, ← k.2]
      clear k
      go_enter Try.func113, Try.ntmps113
      go_wp2
      go_ret2
      exact Ret.mk0 rfl
  have hm := Lib.hid (mul_test ha hb b0 b1)
  clear ha hb
  go_enter Try.func113, Try.ntmps113
  go_wp2
  · go_ret2
    exact Ret.mk0 (two (mul_no hm.out ‹_›))
  · go_ret2
    exact Ret.mk0 (two (mul_yes hm.out ‹_›))
end Go.Proofs.Ytdedbfbkakofgaa

namespace Go.Proofs.Ytdedbfbkakofgaa
open Go.RowKit
set_option linter.unusedVariables false
set_option linter.unusedSimpArgs false
theorem thr {k l : IntKind} {a b c d : Int} {e f : Bool} (h : a = b ∧ c = d ∧ e = f) : Value.tuple #[.int k a, .int l c, .bool e] = Value.tuple #[.int k b, .int l d, .bool f] := by rw [h.1, h.2.1, h.2.2]
theorem one_ {k : IntKind} {a b : Int} (h : a = b) : Value.int k a = Value.int k b := by rw [h]

set_option maxHeartbeats 400000 in
theorem divide_any (a b : Int) (w : World) (ha : -9223372036854775808 ≤ a ∧ a ≤ 9223372036854775807) (hb : -9223372036854775808 ≤ b ∧ b ≤ 9223372036854775807) (h0 : ¬ b = 0) :
    Calls Try.prog 116 #[.int .i64 a, .int .i64 b] w (Ret w (.tuple #[.int .i64 (val (a.fdiv b)), .int .i64 (a.fmod b), .bool (fit (a.fdiv b))])) := by
  by_cases h1 : b = -1
  · subst h1
    rw [(fdiv_m1 a).1, (fdiv_m1 a).2]
    go_enter Try.func116, Try.ntmps116
    go_wp2_with (go_at_call 109; refine (sub_any _ _ _ (by omega) (by omega)).mono ?_; rintro e w' ⟨rfl, n1, rfl⟩)
    go_ret3
    exact Ret.mk _ (by simp [Array.getD])
  · have HA := Lib.hid ha
    have HB := Lib.hid hb
    go_enter Try.func116, Try.ntmps116
    go_wp2
    go_quiet (fail)
    go_wp2
    · go_ret3
      exact Ret.mk _ (thr (div_zero HA.out h0 h1 ‹_›))
    · go_ret3
      exact Ret.mk _ (thr (div_down HA.out h0 h1 HB.out ‹_›))
    · go_ret3
      exact Ret.mk _ (thr (div_stay HA.out h0 h1 ‹_›))
set_option maxHeartbeats 400000 in
theorem whole_any (a : Int) (w : World) (ha : -9223372036854775808 ≤ a ∧ a ≤ 9223372036854775807) :
    Calls Try.prog 111 #[.int .i64 a] w (Ret w (.int .u64 (a.natAbs : Int))) := by
  by_cases h : a < 0
  · have HW := Lib.hid (whole_neg ha h)
    clear ha
    go_enter Try.func111, Try.ntmps111
    go_wp2
    go_ret
    exact Ret.mk0 (one_ HW.out)
  · have HW := Lib.hid (whole_pos ha (by omega))
    clear ha
    go_enter Try.func111, Try.ntmps111
    go_wp2
    go_ret
    exact Ret.mk0 (one_ HW.out)
set_option maxHeartbeats 400000 in
theorem plain_any (a : Int) (w : World) (h0 : 0 ≤ a) (h1 : a ≤ 18446744073709551615) :
    Calls Try.prog 110 #[.int .u64 a] w (Ret w (.tuple #[.int .i64 (val a), .int .i64 (err a)])) := by
  by_cases h : a ≤ 9223372036854775807
  · have k := chk_yes (n := a) (m := a) (by omega) rfl
    rw [← k.1, err_of k.2.symm]
    clear k
    go_enter Try.func110, Try.ntmps110
    go_wp2
    go_ret2
    exact Ret.mk0 rfl
  · have k := chk_no (n := a) (by omega)
    rw [← k.1, err_not k.2.symm]
    clear k
    go_enter Try.func110, Try.ntmps110
    go_wp2
    go_ret2
    exact Ret.mk0 rfl
set_option maxHeartbeats 400000 in
theorem truth_any (b : Bool) (w : World) :
    Calls Try.prog 120 #[.bool b] w (Ret w (.tuple #[.int .i64 (bit b), .int .i64 0])) := by
  cases b <;> (go_enter Try.func120, Try.ntmps120; go_wp2; go_ret2; exact Ret.mk0 rfl)
set_option maxHeartbeats 400000 in
theorem row_any (a : Int) (w : World) :
    Calls Try.prog 115 #[.int .i64 a] w (Ret w (.bool (rowB a))) := by
  by_cases h : 1 ≤ a <;> by_cases h' : a ≤ 21
  · rw [rowB_yes h h']
    go_enter Try.func115, Try.ntmps115; go_wp2; go_ret; exact Ret.mk0 rfl
  · rw [rowB_no (by omega)]
    go_enter Try.func115, Try.ntmps115; go_wp2; go_ret; exact Ret.mk0 rfl
  · rw [rowB_no (by omega)]
    go_enter Try.func115, Try.ntmps115; go_wp2; go_ret; exact Ret.mk0 rfl
  · rw [rowB_no (by omega)]
    go_enter Try.func115, Try.ntmps115; go_wp2; go_ret; exact Ret.mk0 rfl
set_option maxHeartbeats 400000 in
theorem compared_8 (x y : Int) (w : World) : Calls Try.prog 117 #[.int .i64 8, .int .i64 x, .int .i64 y] w (Ret w (.tuple #[.int .i64 (bit (decide (x < y))), .int .i64 0])) := by
  go_enter Try.func117, Try.ntmps117
  go_wp2_with (go_at_call 120; refine (truth_any _ _).mono ?_; rintro e w' ⟨rfl, n1, rfl⟩)
  go_ret2
  exact Ret.mk _ rfl
set_option maxHeartbeats 400000 in
theorem compared_9 (x y : Int) (w : World) : Calls Try.prog 117 #[.int .i64 9, .int .i64 x, .int .i64 y] w (Ret w (.tuple #[.int .i64 (bit (decide (y < x))), .int .i64 0])) := by
  go_enter Try.func117, Try.ntmps117
  go_wp2_with (go_at_call 120; refine (truth_any _ _).mono ?_; rintro e w' ⟨rfl, n1, rfl⟩)
  go_ret2
  exact Ret.mk _ rfl
set_option maxHeartbeats 400000 in
theorem compared_10 (x y : Int) (w : World) : Calls Try.prog 117 #[.int .i64 10, .int .i64 x, .int .i64 y] w (Ret w (.tuple #[.int .i64 (bit (x == y)), .int .i64 0])) := by
  go_enter Try.func117, Try.ntmps117
  go_wp2_with (go_at_call 120; refine (truth_any _ _).mono ?_; rintro e w' ⟨rfl, n1, rfl⟩)
  go_ret2
  exact Ret.mk _ rfl
set_option maxHeartbeats 400000 in
theorem compared_11 (x y : Int) (w : World) : Calls Try.prog 117 #[.int .i64 11, .int .i64 x, .int .i64 y] w (Ret w (.tuple #[.int .i64 (bit (x != y)), .int .i64 0])) := by
  go_enter Try.func117, Try.ntmps117
  go_wp2_with (go_at_call 120; refine (truth_any _ _).mono ?_; rintro e w' ⟨rfl, n1, rfl⟩)
  go_ret2
  exact Ret.mk _ rfl
set_option maxHeartbeats 400000 in
theorem compared_12 (x y : Int) (w : World) : Calls Try.prog 117 #[.int .i64 12, .int .i64 x, .int .i64 y] w (Ret w (.tuple #[.int .i64 (bit (decide (x ≤ y))), .int .i64 0])) := by
  go_enter Try.func117, Try.ntmps117
  go_wp2_with (go_at_call 120; refine (truth_any _ _).mono ?_; rintro e w' ⟨rfl, n1, rfl⟩)
  go_ret2
  exact Ret.mk _ rfl
set_option maxHeartbeats 400000 in
theorem compared_13 (x y : Int) (w : World) : Calls Try.prog 117 #[.int .i64 13, .int .i64 x, .int .i64 y] w (Ret w (.tuple #[.int .i64 (bit (decide (y ≤ x))), .int .i64 0])) := by
  go_enter Try.func117, Try.ntmps117
  go_wp2_with (go_at_call 120; refine (truth_any _ _).mono ?_; rintro e w' ⟨rfl, n1, rfl⟩)
  go_ret2
  exact Ret.mk _ rfl
set_option maxHeartbeats 400000 in
theorem factorial_any (y : Int) (w : World) : Calls Try.prog 114 #[.int .i64 y] w (Ret w (.tuple #[.int .i64 (facV y), .int .i64 (facE y)])) := by
  by_cases h0 : y < 0
  · rw [(facV_neg h0).1, (facV_neg h0).2]
    go_enter Try.func114, Try.ntmps114
    go_wp2
    go_ret2
    exact Ret.mk0 rfl
  by_cases h1 : 20 < y
  · rw [(facV_big h1).1, (facV_big h1).2]
    go_enter Try.func114, Try.ntmps114
    go_wp2
    go_ret2
    exact Ret.mk0 rfl
  rw [(facV_in (by omega) (by omega)).1, (facV_in (y := y) (by omega) (by omega)).2]
  obtain ⟨n, rfl⟩ := Int.eq_ofNat_of_zero_le (show 0 ≤ y by omega)
  rw [Int.toNat_natCast]
  go_enter Try.func114, Try.ntmps114
  go_wp2
  go_loop [4, 5] (fun p i => ∃ k : Nat, 2 ≤ k ∧ (k ≤ n + 1 ∨ k = 2) ∧ k ≤ 21 ∧ i = .int .i64 k ∧ p = .int .i64 (fac (k - 1))) (fun _ i => 22 - (intOf i).toNat)
  case atStart => exact ⟨2, by omega, by omega, by omega, rfl, by rw [fac_two]⟩
  case round =>
    obtain ⟨k, hk2, hkn, hk, rfl, rfl⟩ := hrel
    have hb := fac_le (n := k - 1) (by omega)
    by_cases hlt : k ≤ n
    · have hb2 := fac_le (n := k) (by omega)
      have hs := Lib.hid (fac_step k hk2)
      have hm : IntKind.i64.wrap ((fac (k - 1) : Int) * k) = fac k := by rw [hs.out]; exact IntWalk.i64_in _ (by omega)
      go_wp2
      go_round
      case rel => exact ⟨k + 1, by omega, by omega, by omega, by go_num, rfl⟩
      case measure => simp [intOf]; omega
    · have he := Lib.hid (fac_end hk2 hkn (by omega))
      go_wp2
      go_ret2
      exact Ret.mk0 (twi ⟨he.out, rfl⟩)
set_option maxHeartbeats 400000 in
theorem gcd_any (a b : Nat) (w : World) (ha : a ≤ 18446744073709551615) (hb : b ≤ 18446744073709551615) :
    Calls Try.prog 118 #[.int .u64 a, .int .u64 b] w (Ret w (.int .u64 (Nat.gcd a b : Int))) := by
  go_enter Try.func118, Try.ntmps118
  go_wp2
  go_loopw [0, 1] (fun p q wr => ∃ x y : Nat, x ≤ 18446744073709551615 ∧ y ≤ 18446744073709551615 ∧ p = .int .u64 x ∧ q = .int .u64 y ∧ Hid (Nat.gcd x y = Nat.gcd a b) ∧ ∃ n, wr = w.drewN n) (fun _ q _ => (intOf q).toNat)
  case atStart => exact ⟨a, b, ha, hb, rfl, rfl, rfl, 0, rfl⟩
  case round =>
    obtain ⟨x, y, hx, hy, rfl, rfl, hg, n, rfl⟩ := hrel
    by_cases h : y = 0
    · subst h
      go_wp2
      go_ret
      exact Ret.mk _ (one_ (by have := hg.out; rw [Nat.gcd_zero_right] at this; rw [← this]))
    · have hl := Nat.mod_lt x (show 0 < y by omega)
      have hs := Lib.hid (gcd_step x y)
      have h1 : (1 : Int) ≤ (y : Int) := by omega
      have h2 : ¬ (y : Int) = 0 := by omega
      go_wp2
      go_quiet (fail)
      go_wp2
      go_roundw
      case rel => exact ⟨y, x % y, hy, by omega, rfl, by go_num, hs.out.trans hg.out, n + nq, World.drewN_drewN _ _ _⟩
      case measure => simp [intOf]; omega
end Go.Proofs.Ytdedbfbkakofgaa
