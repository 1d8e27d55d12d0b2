/- The walk of the statement on sums, differences and products of 32 bits. -/
import Derived.Test.YtkgakpofophhjaaNumBegun
import Derived.Test.YtkgakpofophhjaaNumAri3
namespace Go.Proofs.Ytkgakpofophhjaa
open Go.RowKit
set_option linter.unusedVariables false
set_option linter.unusedSimpArgs false

set_option maxHeartbeats 400000 in
theorem fits32_any (s : Int) (w : World) : Calls Try.prog 28 #[.int .i64 s] w (Ret w (.bool (fit3 s))) := by
  by_cases h1 : -2147483648 ≤ s
  · by_cases h2 : s ≤ 2147483647
    · rw [fit3_of ⟨h1, h2⟩]
      go_enter Try.func28, Try.ntmps28
      go_wp2
      go_ret
      exact Ret.mk0 rfl
    · rw [fit3_not (fun h => h2 h.2)]
      go_enter Try.func28, Try.ntmps28
      go_wp2
      go_ret
      exact Ret.mk0 rfl
  · rw [fit3_not (fun h => h1 h.1)]
    go_enter Try.func28, Try.ntmps28
    go_wp2
    go_ret
    exact Ret.mk0 rfl
set_option maxHeartbeats 400000 in
theorem small_any (s : Int) (w : World) : Calls Try.prog 16 #[.int .i32 (val3 s), .bool (fit3 s), .int .i64 s] w (Ret w (.bool true)) := by
  have A1 := Lib.hid (fun w => fits32_any s w)
  cases h : fit3 s
  · rw [val3_not h]
    have H := Lib.hid h
    clear h
    go_enter Try.func16, Try.ntmps16
    go_wp2_with fail
    refine (A1.out _).mono ?_; rintro e w' ⟨rfl, n0, rfl⟩
    rw [H.out]
    go_wp2
    go_ret
    exact Ret.mk _ rfl
  · rw [val3_of h]
    have hr := (fit3_iff s).1 h
    have H := Lib.hid h
    clear h
    go_enter Try.func16, Try.ntmps16
    go_wp2_with fail
    refine (A1.out _).mono ?_; rintro e w' ⟨rfl, n0, rfl⟩
    rw [H.out]
    go_wp2
    go_ret
    exact Ret.mk _ rfl
theorem prod_bd {a b : Int} (ha : -2147483648 ≤ a ∧ a ≤ 2147483647) (hb : -2147483648 ≤ b ∧ b ≤ 2147483647) : -4611686018427387904 ≤ a * b ∧ a * b ≤ 4611686018427387904 := by
  have h : (a * b).natAbs ≤ 2147483648 * 2147483648 := by
    rw [Int.natAbs_mul]
    exact Nat.mul_le_mul (by omega) (by omega)
  omega
set_option maxRecDepth 100000 in
set_option maxHeartbeats 400000 in
theorem walkNumSmall (a b : Int) (ha : -2147483648 ≤ a ∧ a ≤ 2147483647) (hb : -2147483648 ≤ b ∧ b ≤ 2147483647) (w : World) :
    Calls Try.prog 4 #[.int .i32 a, .int .i32 b] w (RetG w (.bool true)) := by
  have hp := prod_bd ha hb
  have hw : wrap64 (a * b) = a * b := IntWalk.wrap64_in _ (by omega)
  clear hp
  go_enter Try.func4, Try.ntmps4
  go_wp2_with fail
  refine (begun_any _).mono ?_; rintro e w' ⟨rfl, n0, rfl⟩
  go_wp2_with fail
  refine (add_any3 a b _ ha hb).mono ?_; rintro e w' ⟨rfl, n1, rfl⟩
  go_wp2_with fail
  refine (sub_any3 a b _ ha hb).mono ?_; rintro e w' ⟨rfl, n2, rfl⟩
  go_wp2_with fail
  refine (mul_any3 a b _ ha hb).mono ?_; rintro e w' ⟨rfl, n3, rfl⟩
  go_wp2_with fail
  refine (small_any _ _).mono ?_; rintro e w' ⟨rfl, n4, rfl⟩
  go_wp2_with fail
  refine (small_any _ _).mono ?_; rintro e w' ⟨rfl, n5, rfl⟩
  go_wp2_with fail
  refine (small_any _ _).mono ?_; rintro e w' ⟨rfl, n6, rfl⟩
  go_wp2
  go_ret
  exact RetG.mk rfl (grown_drewN _ _)
end Go.Proofs.Ytkgakpofophhjaa
