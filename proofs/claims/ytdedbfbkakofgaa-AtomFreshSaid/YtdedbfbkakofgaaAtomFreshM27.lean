/- Contracts of the reference's Monad and Dyad at every verb's number. -/
import Derived.Test.YtdedbfbkakofgaaAtomFreshM26
namespace Go.Proofs.Ytdedbfbkakofgaa
open Go.RowKit
set_option linter.unusedVariables false
set_option linter.unusedSimpArgs false
set_option maxRecDepth 100000 in
set_option maxHeartbeats 400000 in
theorem rmon_1 (y : Int) (w : World) (hy : -9223372036854775808 ≤ y ∧ y ≤ 9223372036854775807) : Calls Try.prog 124 #[.int .i64 1, .int .i64 y] w (Ret w (.tuple #[.int .i64 (moV 1 y), .int .i64 (moE 1 y)])) := by
  have hr : rowB 1 = true := rowB_yes (by omega) (by omega)
  show Calls _ _ _ _ (Ret w (.tuple #[.int .i64 (y), .int .i64 (0)]))
  go_enter Try.func124, Try.ntmps124
  go_wp2_with (first | (go_at_call 133; refine (rRow_any _ _).mono ?_; rintro e w' ⟨rfl, n1, rfl⟩) | (go_at_call 81; go_in) | (go_at_call 134; go_in) | (go_at_call 136; go_in) | (go_at_call 135; go_in))
  go_ret2
  exact Ret.mk _ rfl
set_option maxRecDepth 100000 in
set_option maxHeartbeats 400000 in
theorem rmon_6 (y : Int) (w : World) (hy : -9223372036854775808 ≤ y ∧ y ≤ 9223372036854775807) : Calls Try.prog 124 #[.int .i64 6, .int .i64 y] w (Ret w (.tuple #[.int .i64 (moV 6 y), .int .i64 (moE 6 y)])) := by
  have hr : rowB 6 = true := rowB_yes (by omega) (by omega)
  show Calls _ _ _ _ (Ret w (.tuple #[.int .i64 (y), .int .i64 (0)]))
  go_enter Try.func124, Try.ntmps124
  go_wp2_with (first | (go_at_call 133; refine (rRow_any _ _).mono ?_; rintro e w' ⟨rfl, n1, rfl⟩) | (go_at_call 81; go_in) | (go_at_call 134; go_in) | (go_at_call 136; go_in) | (go_at_call 135; go_in))
  go_ret2
  exact Ret.mk _ rfl
set_option maxRecDepth 100000 in
set_option maxHeartbeats 400000 in
theorem rmon_7 (y : Int) (w : World) (hy : -9223372036854775808 ≤ y ∧ y ≤ 9223372036854775807) : Calls Try.prog 124 #[.int .i64 7, .int .i64 y] w (Ret w (.tuple #[.int .i64 (moV 7 y), .int .i64 (moE 7 y)])) := by
  have hr : rowB 7 = true := rowB_yes (by omega) (by omega)
  show Calls _ _ _ _ (Ret w (.tuple #[.int .i64 (y), .int .i64 (0)]))
  go_enter Try.func124, Try.ntmps124
  go_wp2_with (first | (go_at_call 133; refine (rRow_any _ _).mono ?_; rintro e w' ⟨rfl, n1, rfl⟩) | (go_at_call 81; go_in) | (go_at_call 134; go_in) | (go_at_call 136; go_in) | (go_at_call 135; go_in))
  go_ret2
  exact Ret.mk _ rfl
set_option maxRecDepth 100000 in
set_option maxHeartbeats 400000 in
theorem rmon_2 (y : Int) (w : World) (hy : -9223372036854775808 ≤ y ∧ y ≤ 9223372036854775807) : Calls Try.prog 124 #[.int .i64 2, .int .i64 y] w (Ret w (.tuple #[.int .i64 (moV 2 y), .int .i64 (moE 2 y)])) := by
  have hr : rowB 2 = true := rowB_yes (by omega) (by omega)
  show Calls _ _ _ _ (Ret w (.tuple #[.int .i64 (val (-y)), .int .i64 (err (-y))]))
  go_enter Try.func124, Try.ntmps124
  go_wp2_with (first | (go_at_call 133; refine (rRow_any _ _).mono ?_; rintro e w' ⟨rfl, n1, rfl⟩) | (go_at_call 81; go_in) | (go_at_call 134; go_in) | (go_at_call 136; go_in) | (go_at_call 135; go_in) | (go_at_call 139; refine (rless_any _ _ _ (by omega) (by omega)).mono ?_; rintro e w' ⟨rfl, n1, rfl⟩))
  go_ret2
  exact Ret.mk _ rfl
set_option maxRecDepth 100000 in
set_option maxHeartbeats 400000 in
theorem rmon_3 (y : Int) (w : World) (hy : -9223372036854775808 ≤ y ∧ y ≤ 9223372036854775807) : Calls Try.prog 124 #[.int .i64 3, .int .i64 y] w (Ret w (.tuple #[.int .i64 (moV 3 y), .int .i64 (moE 3 y)])) := by
  have hr : rowB 3 = true := rowB_yes (by omega) (by omega)
  show Calls _ _ _ _ (Ret w (.tuple #[.int .i64 (sgn y), .int .i64 (0)]))
  by_cases h : y < 0
  · rw [show sgn y = -1 by simp [sgn, h]]
    go_enter Try.func124, Try.ntmps124
    go_wp2_with (first | (go_at_call 133; refine (rRow_any _ _).mono ?_; rintro e w' ⟨rfl, n1, rfl⟩) | (go_at_call 81; go_in) | (go_at_call 134; go_in) | (go_at_call 136; go_in) | (go_at_call 135; go_in))
    go_ret2
    exact Ret.mk _ rfl
  by_cases h' : 0 < y
  · rw [show sgn y = 1 by simp [sgn, h, h']]
    go_enter Try.func124, Try.ntmps124
    go_wp2_with (first | (go_at_call 133; refine (rRow_any _ _).mono ?_; rintro e w' ⟨rfl, n1, rfl⟩) | (go_at_call 81; go_in) | (go_at_call 134; go_in) | (go_at_call 136; go_in) | (go_at_call 135; go_in))
    go_ret2
    exact Ret.mk _ rfl
  · rw [show sgn y = 0 by simp [sgn, h, h']]
    go_enter Try.func124, Try.ntmps124
    go_wp2_with (first | (go_at_call 133; refine (rRow_any _ _).mono ?_; rintro e w' ⟨rfl, n1, rfl⟩) | (go_at_call 81; go_in) | (go_at_call 134; go_in) | (go_at_call 136; go_in) | (go_at_call 135; go_in))
    go_ret2
    exact Ret.mk _ rfl
set_option maxRecDepth 100000 in
set_option maxHeartbeats 400000 in
theorem rmon_5 (y : Int) (w : World) (hy : -9223372036854775808 ≤ y ∧ y ≤ 9223372036854775807) : Calls Try.prog 124 #[.int .i64 5, .int .i64 y] w (Ret w (.tuple #[.int .i64 (moV 5 y), .int .i64 (moE 5 y)])) := by
  have hr : rowB 5 = true := rowB_yes (by omega) (by omega)
  have A := Lib.hid (fun w => rsigned_any false y.natAbs w (by omega))
  rw [show sg false y.natAbs = (y.natAbs : Int) from rfl] at A
  show Calls _ _ _ _ (Ret w (.tuple #[.int .i64 (val y.natAbs), .int .i64 (err y.natAbs)]))
  go_enter Try.func124, Try.ntmps124
  go_wp2_with (first | (go_at_call 133; refine (rRow_any _ _).mono ?_; rintro e w' ⟨rfl, n1, rfl⟩) | (go_at_call 81; go_in) | (go_at_call 134; go_in) | (go_at_call 141; refine (rsize_any _ _ (by omega)).mono ?_; rintro e w' ⟨rfl, n1, rfl⟩))
  refine (A.out _).mono ?_; rintro e w' ⟨rfl, n1, rfl⟩
  go_wp2
  go_ret2
  exact Ret.mk _ rfl
set_option maxRecDepth 100000 in
set_option maxHeartbeats 400000 in
theorem rmon_12 (y : Int) (w : World) (hy : -9223372036854775808 ≤ y ∧ y ≤ 9223372036854775807) : Calls Try.prog 124 #[.int .i64 12, .int .i64 y] w (Ret w (.tuple #[.int .i64 (moV 12 y), .int .i64 (moE 12 y)])) := by
  have hr : rowB 12 = true := rowB_yes (by omega) (by omega)
  show Calls _ _ _ _ (Ret w (.tuple #[.int .i64 (val (y - 1)), .int .i64 (err (y - 1))]))
  go_enter Try.func124, Try.ntmps124
  go_wp2_with (first | (go_at_call 133; refine (rRow_any _ _).mono ?_; rintro e w' ⟨rfl, n1, rfl⟩) | (go_at_call 81; go_in) | (go_at_call 134; go_in) | (go_at_call 136; go_in) | (go_at_call 135; go_in) | (go_at_call 139; refine (rless_any _ _ _ (by omega) (by omega)).mono ?_; rintro e w' ⟨rfl, n1, rfl⟩))
  go_ret2
  exact Ret.mk _ rfl
set_option maxRecDepth 100000 in
set_option maxHeartbeats 400000 in
theorem rmon_13 (y : Int) (w : World) (hy : -9223372036854775808 ≤ y ∧ y ≤ 9223372036854775807) : Calls Try.prog 124 #[.int .i64 13, .int .i64 y] w (Ret w (.tuple #[.int .i64 (moV 13 y), .int .i64 (moE 13 y)])) := by
  have hr : rowB 13 = true := rowB_yes (by omega) (by omega)
  show Calls _ _ _ _ (Ret w (.tuple #[.int .i64 (val (y + 1)), .int .i64 (err (y + 1))]))
  go_enter Try.func124, Try.ntmps124
  go_wp2_with (first | (go_at_call 133; refine (rRow_any _ _).mono ?_; rintro e w' ⟨rfl, n1, rfl⟩) | (go_at_call 81; go_in) | (go_at_call 134; go_in) | (go_at_call 136; go_in) | (go_at_call 135; go_in) | (go_at_call 142; refine (rsum_any _ _ _ (by omega) (by omega)).mono ?_; rintro e w' ⟨rfl, n1, rfl⟩))
  go_ret2
  exact Ret.mk _ rfl
set_option maxRecDepth 100000 in
set_option maxHeartbeats 400000 in
theorem rmon_16 (y : Int) (w : World) (hy : -9223372036854775808 ≤ y ∧ y ≤ 9223372036854775807) : Calls Try.prog 124 #[.int .i64 16, .int .i64 y] w (Ret w (.tuple #[.int .i64 (moV 16 y), .int .i64 (moE 16 y)])) := by
  have hr : rowB 16 = true := rowB_yes (by omega) (by omega)
  show Calls _ _ _ _ (Ret w (.tuple #[.int .i64 (val (y + y)), .int .i64 (err (y + y))]))
  go_enter Try.func124, Try.ntmps124
  go_wp2_with (first | (go_at_call 133; refine (rRow_any _ _).mono ?_; rintro e w' ⟨rfl, n1, rfl⟩) | (go_at_call 81; go_in) | (go_at_call 134; go_in) | (go_at_call 136; go_in) | (go_at_call 135; go_in) | (go_at_call 142; refine (rsum_any _ _ _ (by omega) (by omega)).mono ?_; rintro e w' ⟨rfl, n1, rfl⟩))
  go_ret2
  exact Ret.mk _ rfl
set_option maxRecDepth 100000 in
set_option maxHeartbeats 400000 in
theorem rmon_17 (y : Int) (w : World) (hy : -9223372036854775808 ≤ y ∧ y ≤ 9223372036854775807) : Calls Try.prog 124 #[.int .i64 17, .int .i64 y] w (Ret w (.tuple #[.int .i64 (moV 17 y), .int .i64 (moE 17 y)])) := by
  have hr : rowB 17 = true := rowB_yes (by omega) (by omega)
  show Calls _ _ _ _ (Ret w (.tuple #[.int .i64 (val (y * y)), .int .i64 (err (y * y))]))
  go_enter Try.func124, Try.ntmps124
  go_wp2_with (first | (go_at_call 133; refine (rRow_any _ _).mono ?_; rintro e w' ⟨rfl, n1, rfl⟩) | (go_at_call 81; go_in) | (go_at_call 134; go_in) | (go_at_call 136; go_in) | (go_at_call 135; go_in) | (go_at_call 143; refine (rtimes_any _ _ _ (by omega) (by omega)).mono ?_; rintro e w' ⟨rfl, n1, rfl⟩))
  go_ret2
  exact Ret.mk _ rfl
set_option maxRecDepth 100000 in
set_option maxHeartbeats 400000 in
theorem rmon_18 (y : Int) (w : World) (hy : -9223372036854775808 ≤ y ∧ y ≤ 9223372036854775807) : Calls Try.prog 124 #[.int .i64 18, .int .i64 y] w (Ret w (.tuple #[.int .i64 (moV 18 y), .int .i64 (moE 18 y)])) := by
  have hr : rowB 18 = true := rowB_yes (by omega) (by omega)
  show Calls _ _ _ _ (Ret w (.tuple #[.int .i64 (val (1 - y)), .int .i64 (err (1 - y))]))
  go_enter Try.func124, Try.ntmps124
  go_wp2_with (first | (go_at_call 133; refine (rRow_any _ _).mono ?_; rintro e w' ⟨rfl, n1, rfl⟩) | (go_at_call 81; go_in) | (go_at_call 134; go_in) | (go_at_call 136; go_in) | (go_at_call 135; go_in) | (go_at_call 139; refine (rless_any _ _ _ (by omega) (by omega)).mono ?_; rintro e w' ⟨rfl, n1, rfl⟩))
  go_ret2
  exact Ret.mk _ rfl
set_option maxRecDepth 100000 in
set_option maxHeartbeats 400000 in
theorem rmon_19 (y : Int) (w : World) (hy : -9223372036854775808 ≤ y ∧ y ≤ 9223372036854775807) : Calls Try.prog 124 #[.int .i64 19, .int .i64 y] w (Ret w (.tuple #[.int .i64 (moV 19 y), .int .i64 (moE 19 y)])) := by
  have hr : rowB 19 = true := rowB_yes (by omega) (by omega)
  show Calls _ _ _ _ (Ret w (.tuple #[.int .i64 (halfV y), .int .i64 (halfE y)]))
  by_cases h : y % 2 = 0
  · obtain ⟨h1, h2, h3, h4, h5⟩ := half_even hy h
    have hw := IntWalk.wrap64_in (y.tdiv 2) ⟨h4, h5⟩
    rw [← h3, ← h2]
    clear h2 h3 h h4 h5
    go_enter Try.func124, Try.ntmps124
    go_wp2_with (first | (go_at_call 133; refine (rRow_any _ _).mono ?_; rintro e w' ⟨rfl, n1, rfl⟩) | (go_at_call 81; go_in) | (go_at_call 134; go_in) | (go_at_call 136; go_in) | (go_at_call 135; go_in))
    go_ret2
    exact Ret.mk _ rfl
  · obtain ⟨h1, h2, h3⟩ := half_odd h
    rw [← h3, ← h2]
    clear h2 h3 h
    go_enter Try.func124, Try.ntmps124
    go_wp2_with (first | (go_at_call 133; refine (rRow_any _ _).mono ?_; rintro e w' ⟨rfl, n1, rfl⟩) | (go_at_call 81; go_in) | (go_at_call 134; go_in) | (go_at_call 136; go_in) | (go_at_call 135; go_in))
    go_ret2
    exact Ret.mk _ rfl
set_option maxRecDepth 100000 in
set_option maxHeartbeats 400000 in
theorem rmon_21 (y : Int) (w : World) (hy : -9223372036854775808 ≤ y ∧ y ≤ 9223372036854775807) : Calls Try.prog 124 #[.int .i64 21, .int .i64 y] w (Ret w (.tuple #[.int .i64 (moV 21 y), .int .i64 (moE 21 y)])) := by
  have hr : rowB 21 = true := rowB_yes (by omega) (by omega)
  show Calls _ _ _ _ (Ret w (.tuple #[.int .i64 (facV y), .int .i64 (facE y)]))
  go_enter Try.func124, Try.ntmps124
  go_wp2_with (first | (go_at_call 133; refine (rRow_any _ _).mono ?_; rintro e w' ⟨rfl, n1, rfl⟩) | (go_at_call 81; go_in) | (go_at_call 134; go_in) | (go_at_call 136; go_in) | (go_at_call 135; go_in) | (go_at_call 144; refine (rfactorial_any _ _ (by omega)).mono ?_; rintro e w' ⟨rfl, n1, rfl⟩))
  go_ret2
  exact Ret.mk _ rfl
set_option maxRecDepth 100000 in
set_option maxHeartbeats 400000 in
theorem rmon_4 (y : Int) (w : World) (hy : -9223372036854775808 ≤ y ∧ y ≤ 9223372036854775807) : Calls Try.prog 124 #[.int .i64 4, .int .i64 y] w (Ret w (.tuple #[.int .i64 (moV 4 y), .int .i64 (moE 4 y)])) := by
  have hr : rowB 4 = true := rowB_yes (by omega) (by omega)
  rw [(mo_row (by omega)).1, (mo_row (by omega)).2]
  go_enter Try.func124, Try.ntmps124
  go_wp2_with (first | (go_at_call 133; refine (rRow_any _ _).mono ?_; rintro e w' ⟨rfl, n1, rfl⟩) | (go_at_call 81; go_in) | (go_at_call 134; go_in) | (go_at_call 136; go_in) | (go_at_call 135; go_in))
  go_ret2
  exact Ret.mk _ rfl
set_option maxRecDepth 100000 in
set_option maxHeartbeats 400000 in
theorem rmon_8 (y : Int) (w : World) (hy : -9223372036854775808 ≤ y ∧ y ≤ 9223372036854775807) : Calls Try.prog 124 #[.int .i64 8, .int .i64 y] w (Ret w (.tuple #[.int .i64 (moV 8 y), .int .i64 (moE 8 y)])) := by
  have hr : rowB 8 = true := rowB_yes (by omega) (by omega)
  rw [(mo_row (by omega)).1, (mo_row (by omega)).2]
  go_enter Try.func124, Try.ntmps124
  go_wp2_with (first | (go_at_call 133; refine (rRow_any _ _).mono ?_; rintro e w' ⟨rfl, n1, rfl⟩) | (go_at_call 81; go_in) | (go_at_call 134; go_in) | (go_at_call 136; go_in) | (go_at_call 135; go_in))
  go_ret2
  exact Ret.mk _ rfl
set_option maxRecDepth 100000 in
set_option maxHeartbeats 400000 in
theorem rmon_9 (y : Int) (w : World) (hy : -9223372036854775808 ≤ y ∧ y ≤ 9223372036854775807) : Calls Try.prog 124 #[.int .i64 9, .int .i64 y] w (Ret w (.tuple #[.int .i64 (moV 9 y), .int .i64 (moE 9 y)])) := by
  have hr : rowB 9 = true := rowB_yes (by omega) (by omega)
  rw [(mo_row (by omega)).1, (mo_row (by omega)).2]
  go_enter Try.func124, Try.ntmps124
  go_wp2_with (first | (go_at_call 133; refine (rRow_any _ _).mono ?_; rintro e w' ⟨rfl, n1, rfl⟩) | (go_at_call 81; go_in) | (go_at_call 134; go_in) | (go_at_call 136; go_in) | (go_at_call 135; go_in))
  go_ret2
  exact Ret.mk _ rfl
set_option maxRecDepth 100000 in
set_option maxHeartbeats 400000 in
theorem rmon_10 (y : Int) (w : World) (hy : -9223372036854775808 ≤ y ∧ y ≤ 9223372036854775807) : Calls Try.prog 124 #[.int .i64 10, .int .i64 y] w (Ret w (.tuple #[.int .i64 (moV 10 y), .int .i64 (moE 10 y)])) := by
  have hr : rowB 10 = true := rowB_yes (by omega) (by omega)
  rw [(mo_row (by omega)).1, (mo_row (by omega)).2]
  go_enter Try.func124, Try.ntmps124
  go_wp2_with (first | (go_at_call 133; refine (rRow_any _ _).mono ?_; rintro e w' ⟨rfl, n1, rfl⟩) | (go_at_call 81; go_in) | (go_at_call 134; go_in) | (go_at_call 136; go_in) | (go_at_call 135; go_in))
  go_ret2
  exact Ret.mk _ rfl
set_option maxRecDepth 100000 in
set_option maxHeartbeats 400000 in
theorem rmon_11 (y : Int) (w : World) (hy : -9223372036854775808 ≤ y ∧ y ≤ 9223372036854775807) : Calls Try.prog 124 #[.int .i64 11, .int .i64 y] w (Ret w (.tuple #[.int .i64 (moV 11 y), .int .i64 (moE 11 y)])) := by
  have hr : rowB 11 = true := rowB_yes (by omega) (by omega)
  rw [(mo_row (by omega)).1, (mo_row (by omega)).2]
  go_enter Try.func124, Try.ntmps124
  go_wp2_with (first | (go_at_call 133; refine (rRow_any _ _).mono ?_; rintro e w' ⟨rfl, n1, rfl⟩) | (go_at_call 81; go_in) | (go_at_call 134; go_in) | (go_at_call 136; go_in) | (go_at_call 135; go_in))
  go_ret2
  exact Ret.mk _ rfl
set_option maxRecDepth 100000 in
set_option maxHeartbeats 400000 in
theorem rmon_14 (y : Int) (w : World) (hy : -9223372036854775808 ≤ y ∧ y ≤ 9223372036854775807) : Calls Try.prog 124 #[.int .i64 14, .int .i64 y] w (Ret w (.tuple #[.int .i64 (moV 14 y), .int .i64 (moE 14 y)])) := by
  have hr : rowB 14 = true := rowB_yes (by omega) (by omega)
  rw [(mo_row (by omega)).1, (mo_row (by omega)).2]
  go_enter Try.func124, Try.ntmps124
  go_wp2_with (first | (go_at_call 133; refine (rRow_any _ _).mono ?_; rintro e w' ⟨rfl, n1, rfl⟩) | (go_at_call 81; go_in) | (go_at_call 134; go_in) | (go_at_call 136; go_in) | (go_at_call 135; go_in))
  go_ret2
  exact Ret.mk _ rfl
set_option maxRecDepth 100000 in
set_option maxHeartbeats 400000 in
theorem rmon_15 (y : Int) (w : World) (hy : -9223372036854775808 ≤ y ∧ y ≤ 9223372036854775807) : Calls Try.prog 124 #[.int .i64 15, .int .i64 y] w (Ret w (.tuple #[.int .i64 (moV 15 y), .int .i64 (moE 15 y)])) := by
  have hr : rowB 15 = true := rowB_yes (by omega) (by omega)
  rw [(mo_row (by omega)).1, (mo_row (by omega)).2]
  go_enter Try.func124, Try.ntmps124
  go_wp2_with (first | (go_at_call 133; refine (rRow_any _ _).mono ?_; rintro e w' ⟨rfl, n1, rfl⟩) | (go_at_call 81; go_in) | (go_at_call 134; go_in) | (go_at_call 136; go_in) | (go_at_call 135; go_in))
  go_ret2
  exact Ret.mk _ rfl
set_option maxRecDepth 100000 in
set_option maxHeartbeats 400000 in
theorem rmon_20 (y : Int) (w : World) (hy : -9223372036854775808 ≤ y ∧ y ≤ 9223372036854775807) : Calls Try.prog 124 #[.int .i64 20, .int .i64 y] w (Ret w (.tuple #[.int .i64 (moV 20 y), .int .i64 (moE 20 y)])) := by
  have hr : rowB 20 = true := rowB_yes (by omega) (by omega)
  rw [(mo_row (by omega)).1, (mo_row (by omega)).2]
  go_enter Try.func124, Try.ntmps124
  go_wp2_with (first | (go_at_call 133; refine (rRow_any _ _).mono ?_; rintro e w' ⟨rfl, n1, rfl⟩) | (go_at_call 81; go_in) | (go_at_call 134; go_in) | (go_at_call 136; go_in) | (go_at_call 135; go_in))
  go_ret2
  exact Ret.mk _ rfl
set_option maxRecDepth 100000 in
set_option maxHeartbeats 400000 in
theorem rmon_out (op y : Int) (w : World) (h : ¬ (1 ≤ op ∧ op ≤ 21)) : Calls Try.prog 124 #[.int .i64 op, .int .i64 y] w (Ret w (.tuple #[.int .i64 (moV op y), .int .i64 (moE op y)])) := by
  rw [(mo_out h).1, (mo_out h).2]
  have hr : rowB op = false := rowB_no h
  clear h
  go_enter Try.func124, Try.ntmps124
  go_wp2_with (first | (go_at_call 133; refine (rRow_any _ _).mono ?_; rintro e w' ⟨rfl, n1, rfl⟩))
  go_ret2
  exact Ret.mk _ rfl
theorem rmonad_any (op y : Int) (w : World) (hy : -9223372036854775808 ≤ y ∧ y ≤ 9223372036854775807) : Calls Try.prog 124 #[.int .i64 op, .int .i64 y] w (Ret w (.tuple #[.int .i64 (moV op y), .int .i64 (moE op y)])) := by
  by_cases h : 1 ≤ op ∧ op ≤ 21
  · have : op = 1 ∨ op = 2 ∨ op = 3 ∨ op = 4 ∨ op = 5 ∨ op = 6 ∨ op = 7 ∨ op = 8 ∨ op = 9 ∨ op = 10 ∨ op = 11 ∨ op = 12 ∨ op = 13 ∨ op = 14 ∨ op = 15 ∨ op = 16 ∨ op = 17 ∨ op = 18 ∨ op = 19 ∨ op = 20 ∨ op = 21 := by omega
    rcases this with rfl | rfl | rfl | rfl | rfl | rfl | rfl | rfl | rfl | rfl | rfl | rfl | rfl | rfl | rfl | rfl | rfl | rfl | rfl | rfl | rfl
    · exact rmon_1 y w hy
    · exact rmon_2 y w hy
    · exact rmon_3 y w hy
    · exact rmon_4 y w hy
    · exact rmon_5 y w hy
    · exact rmon_6 y w hy
    · exact rmon_7 y w hy
    · exact rmon_8 y w hy
    · exact rmon_9 y w hy
    · exact rmon_10 y w hy
    · exact rmon_11 y w hy
    · exact rmon_12 y w hy
    · exact rmon_13 y w hy
    · exact rmon_14 y w hy
    · exact rmon_15 y w hy
    · exact rmon_16 y w hy
    · exact rmon_17 y w hy
    · exact rmon_18 y w hy
    · exact rmon_19 y w hy
    · exact rmon_20 y w hy
    · exact rmon_21 y w hy
  · exact rmon_out op y w h
set_option maxRecDepth 100000 in
set_option maxHeartbeats 400000 in
theorem rdya_1 (x y : Int) (w : World) (hx : -9223372036854775808 ≤ x ∧ x ≤ 9223372036854775807) (hy : -9223372036854775808 ≤ y ∧ y ≤ 9223372036854775807) : Calls Try.prog 125 #[.int .i64 1, .int .i64 x, .int .i64 y] w (Ret w (.tuple #[.int .i64 (dyV 1 x y), .int .i64 (dyE 1 x y)])) := by
  have hr : rowB 1 = true := rowB_yes (by omega) (by omega)
  show Calls _ _ _ _ (Ret w (.tuple #[.int .i64 (val (x + y)), .int .i64 (err (x + y))]))
  go_enter Try.func125, Try.ntmps125
  go_wp2_with (first | (go_at_call 133; refine (rRow_any _ _).mono ?_; rintro e w' ⟨rfl, n1, rfl⟩) | (go_at_call 81; go_in) | (go_at_call 134; go_in) | (go_at_call 136; go_in) | (go_at_call 135; go_in) | (go_at_call 142; refine (rsum_any _ _ _ (by omega) (by omega)).mono ?_; rintro e w' ⟨rfl, n1, rfl⟩))
  go_ret2
  exact Ret.mk _ rfl
set_option maxRecDepth 100000 in
set_option maxHeartbeats 400000 in
theorem rdya_2 (x y : Int) (w : World) (hx : -9223372036854775808 ≤ x ∧ x ≤ 9223372036854775807) (hy : -9223372036854775808 ≤ y ∧ y ≤ 9223372036854775807) : Calls Try.prog 125 #[.int .i64 2, .int .i64 x, .int .i64 y] w (Ret w (.tuple #[.int .i64 (dyV 2 x y), .int .i64 (dyE 2 x y)])) := by
  have hr : rowB 2 = true := rowB_yes (by omega) (by omega)
  show Calls _ _ _ _ (Ret w (.tuple #[.int .i64 (val (x - y)), .int .i64 (err (x - y))]))
  go_enter Try.func125, Try.ntmps125
  go_wp2_with (first | (go_at_call 133; refine (rRow_any _ _).mono ?_; rintro e w' ⟨rfl, n1, rfl⟩) | (go_at_call 81; go_in) | (go_at_call 134; go_in) | (go_at_call 136; go_in) | (go_at_call 135; go_in) | (go_at_call 139; refine (rless_any _ _ _ (by omega) (by omega)).mono ?_; rintro e w' ⟨rfl, n1, rfl⟩))
  go_ret2
  exact Ret.mk _ rfl
set_option maxRecDepth 100000 in
set_option maxHeartbeats 400000 in
theorem rdya_3 (x y : Int) (w : World) (hx : -9223372036854775808 ≤ x ∧ x ≤ 9223372036854775807) (hy : -9223372036854775808 ≤ y ∧ y ≤ 9223372036854775807) : Calls Try.prog 125 #[.int .i64 3, .int .i64 x, .int .i64 y] w (Ret w (.tuple #[.int .i64 (dyV 3 x y), .int .i64 (dyE 3 x y)])) := by
  have hr : rowB 3 = true := rowB_yes (by omega) (by omega)
  show Calls _ _ _ _ (Ret w (.tuple #[.int .i64 (val (x * y)), .int .i64 (err (x * y))]))
  go_enter Try.func125, Try.ntmps125
  go_wp2_with (first | (go_at_call 133; refine (rRow_any _ _).mono ?_; rintro e w' ⟨rfl, n1, rfl⟩) | (go_at_call 81; go_in) | (go_at_call 134; go_in) | (go_at_call 136; go_in) | (go_at_call 135; go_in) | (go_at_call 143; refine (rtimes_any _ _ _ (by omega) (by omega)).mono ?_; rintro e w' ⟨rfl, n1, rfl⟩))
  go_ret2
  exact Ret.mk _ rfl
set_option maxRecDepth 100000 in
set_option maxHeartbeats 400000 in
theorem rdya_4 (x y : Int) (w : World) (hx : -9223372036854775808 ≤ x ∧ x ≤ 9223372036854775807) (hy : -9223372036854775808 ≤ y ∧ y ≤ 9223372036854775807) : Calls Try.prog 125 #[.int .i64 4, .int .i64 x, .int .i64 y] w (Ret w (.tuple #[.int .i64 (dyV 4 x y), .int .i64 (dyE 4 x y)])) := by
  have hr : rowB 4 = true := rowB_yes (by omega) (by omega)
  by_cases h : y = 0
  · subst h
    show Calls _ _ _ _ (Ret w (.tuple #[.int .i64 0, .int .i64 10]))
    have A : Hid (∀ w, Calls Try.prog 146 #[.int .i64 x, .int .i64 0] w (Ret w (.tuple #[.int .i64 0, .int .i64 10]))) := by
      intro w
      go_enter Try.func146, Try.ntmps146
      go_wp2
      go_ret2
      exact Ret.mk0 rfl
    go_enter Try.func125, Try.ntmps125
    go_wp2_with (first | (go_at_call 133; refine (rRow_any _ _).mono ?_; rintro e w' ⟨rfl, n1, rfl⟩) | (go_at_call 81; go_in) | (go_at_call 136; go_in))
    refine (A.out _).mono ?_; rintro e w' ⟨rfl, n1, rfl⟩
    go_wp2
    go_ret2
    exact Ret.mk _ rfl
  · have hv : dyV 4 x y = val (x.fdiv y) ∧ dyE 4 x y = err (x.fdiv y) := by simp [dyV, dyE, h]
    rw [hv.1, hv.2]
    clear hv
    go_enter Try.func125, Try.ntmps125
    go_wp2_with (first | (go_at_call 133; refine (rRow_any _ _).mono ?_; rintro e w' ⟨rfl, n1, rfl⟩) | (go_at_call 81; go_in) | (go_at_call 134; go_in) | (go_at_call 136; go_in) | (go_at_call 135; go_in) | (go_at_call 146; refine (rdivided_any _ _ _ (by omega) (by omega) (by omega)).mono ?_; rintro e w' ⟨rfl, n1, rfl⟩))
    go_ret2
    exact Ret.mk _ rfl
set_option maxRecDepth 100000 in
set_option maxHeartbeats 400000 in
theorem rdya_5 (x y : Int) (w : World) (hx : -9223372036854775808 ≤ x ∧ x ≤ 9223372036854775807) (hy : -9223372036854775808 ≤ y ∧ y ≤ 9223372036854775807) : Calls Try.prog 125 #[.int .i64 5, .int .i64 x, .int .i64 y] w (Ret w (.tuple #[.int .i64 (dyV 5 x y), .int .i64 (dyE 5 x y)])) := by
  have hr : rowB 5 = true := rowB_yes (by omega) (by omega)
  by_cases h : x = 0
  · subst h
    show Calls _ _ _ _ (Ret w (.tuple #[.int .i64 y, .int .i64 0]))
    have A : Hid (∀ w, Calls Try.prog 147 #[.int .i64 0, .int .i64 y] w (Ret w (.int .i64 y))) := by
      intro w
      go_enter Try.func147, Try.ntmps147
      go_wp2
      go_ret
      exact Ret.mk0 rfl
    go_enter Try.func125, Try.ntmps125
    go_wp2_with (first | (go_at_call 133; refine (rRow_any _ _).mono ?_; rintro e w' ⟨rfl, n1, rfl⟩) | (go_at_call 81; go_in) | (go_at_call 136; go_in))
    refine (A.out _).mono ?_; rintro e w' ⟨rfl, n1, rfl⟩
    go_wp2
    go_ret2
    exact Ret.mk _ rfl
  · have hv : dyV 5 x y = y.fmod x := by simp [dyV, h]
    rw [hv]
    show Calls _ _ _ _ (Ret w (.tuple #[.int .i64 (y.fmod x), .int .i64 0]))
    clear hv
    go_enter Try.func125, Try.ntmps125
    go_wp2_with (first | (go_at_call 133; refine (rRow_any _ _).mono ?_; rintro e w' ⟨rfl, n1, rfl⟩) | (go_at_call 81; go_in) | (go_at_call 134; go_in) | (go_at_call 136; go_in) | (go_at_call 135; go_in) | (go_at_call 147; refine (rresidue_any _ _ _ (by omega) (by omega) (by omega)).mono ?_; rintro e w' ⟨rfl, n1, rfl⟩))
    go_ret2
    exact Ret.mk _ rfl
set_option maxRecDepth 100000 in
set_option maxHeartbeats 400000 in
theorem rdya_6 (x y : Int) (w : World) (hx : -9223372036854775808 ≤ x ∧ x ≤ 9223372036854775807) (hy : -9223372036854775808 ≤ y ∧ y ≤ 9223372036854775807) : Calls Try.prog 125 #[.int .i64 6, .int .i64 x, .int .i64 y] w (Ret w (.tuple #[.int .i64 (dyV 6 x y), .int .i64 (dyE 6 x y)])) := by
  have hr : rowB 6 = true := rowB_yes (by omega) (by omega)
  by_cases h : x < y
  · have hv : dyV 6 x y = x := by simp [dyV]; omega
    rw [hv]
    show Calls _ _ _ _ (Ret w (.tuple #[.int .i64 x, .int .i64 0]))
    clear hv
    have hd := decide_eq_true h
    go_enter Try.func125, Try.ntmps125
    go_wp2_with (first | (go_at_call 133; refine (rRow_any _ _).mono ?_; rintro e w' ⟨rfl, n1, rfl⟩) | (go_at_call 81; go_in) | (go_at_call 134; go_in) | (go_at_call 136; go_in) | (go_at_call 135; go_in))
    go_ret2
    exact Ret.mk _ rfl
  · have hv : dyV 6 x y = y := by simp [dyV]; omega
    rw [hv]
    show Calls _ _ _ _ (Ret w (.tuple #[.int .i64 y, .int .i64 0]))
    clear hv
    have hd := decide_eq_false h
    go_enter Try.func125, Try.ntmps125
    go_wp2_with (first | (go_at_call 133; refine (rRow_any _ _).mono ?_; rintro e w' ⟨rfl, n1, rfl⟩) | (go_at_call 81; go_in) | (go_at_call 134; go_in) | (go_at_call 136; go_in) | (go_at_call 135; go_in))
    go_ret2
    exact Ret.mk _ rfl
set_option maxRecDepth 100000 in
set_option maxHeartbeats 400000 in
theorem rdya_7 (x y : Int) (w : World) (hx : -9223372036854775808 ≤ x ∧ x ≤ 9223372036854775807) (hy : -9223372036854775808 ≤ y ∧ y ≤ 9223372036854775807) : Calls Try.prog 125 #[.int .i64 7, .int .i64 x, .int .i64 y] w (Ret w (.tuple #[.int .i64 (dyV 7 x y), .int .i64 (dyE 7 x y)])) := by
  have hr : rowB 7 = true := rowB_yes (by omega) (by omega)
  by_cases h : x < y
  · have hv : dyV 7 x y = y := by simp [dyV]; omega
    rw [hv]
    show Calls _ _ _ _ (Ret w (.tuple #[.int .i64 y, .int .i64 0]))
    clear hv
    have hd := decide_eq_true h
    go_enter Try.func125, Try.ntmps125
    go_wp2_with (first | (go_at_call 133; refine (rRow_any _ _).mono ?_; rintro e w' ⟨rfl, n1, rfl⟩) | (go_at_call 81; go_in) | (go_at_call 134; go_in) | (go_at_call 136; go_in) | (go_at_call 135; go_in))
    go_ret2
    exact Ret.mk _ rfl
  · have hv : dyV 7 x y = x := by simp [dyV]; omega
    rw [hv]
    show Calls _ _ _ _ (Ret w (.tuple #[.int .i64 x, .int .i64 0]))
    clear hv
    have hd := decide_eq_false h
    go_enter Try.func125, Try.ntmps125
    go_wp2_with (first | (go_at_call 133; refine (rRow_any _ _).mono ?_; rintro e w' ⟨rfl, n1, rfl⟩) | (go_at_call 81; go_in) | (go_at_call 134; go_in) | (go_at_call 136; go_in) | (go_at_call 135; go_in))
    go_ret2
    exact Ret.mk _ rfl
set_option maxRecDepth 100000 in
set_option maxHeartbeats 400000 in
theorem rdya_8 (x y : Int) (w : World) (hx : -9223372036854775808 ≤ x ∧ x ≤ 9223372036854775807) (hy : -9223372036854775808 ≤ y ∧ y ≤ 9223372036854775807) : Calls Try.prog 125 #[.int .i64 8, .int .i64 x, .int .i64 y] w (Ret w (.tuple #[.int .i64 (dyV 8 x y), .int .i64 (dyE 8 x y)])) := by
  have hr : rowB 8 = true := rowB_yes (by omega) (by omega)
  show Calls _ _ _ _ (Ret w (.tuple #[.int .i64 (bit (decide (x < y))), .int .i64 (0)]))
  go_enter Try.func125, Try.ntmps125
  go_wp2_with (first | (go_at_call 133; refine (rRow_any _ _).mono ?_; rintro e w' ⟨rfl, n1, rfl⟩) | (go_at_call 81; go_in) | (go_at_call 134; go_in) | (go_at_call 136; go_in) | (go_at_call 135; go_in) | (go_at_call 145; refine (rtruth_any _ _).mono ?_; rintro e w' ⟨rfl, n1, rfl⟩))
  go_ret2
  exact Ret.mk _ rfl
set_option maxRecDepth 100000 in
set_option maxHeartbeats 400000 in
theorem rdya_9 (x y : Int) (w : World) (hx : -9223372036854775808 ≤ x ∧ x ≤ 9223372036854775807) (hy : -9223372036854775808 ≤ y ∧ y ≤ 9223372036854775807) : Calls Try.prog 125 #[.int .i64 9, .int .i64 x, .int .i64 y] w (Ret w (.tuple #[.int .i64 (dyV 9 x y), .int .i64 (dyE 9 x y)])) := by
  have hr : rowB 9 = true := rowB_yes (by omega) (by omega)
  show Calls _ _ _ _ (Ret w (.tuple #[.int .i64 (bit (decide (y < x))), .int .i64 (0)]))
  go_enter Try.func125, Try.ntmps125
  go_wp2_with (first | (go_at_call 133; refine (rRow_any _ _).mono ?_; rintro e w' ⟨rfl, n1, rfl⟩) | (go_at_call 81; go_in) | (go_at_call 134; go_in) | (go_at_call 136; go_in) | (go_at_call 135; go_in) | (go_at_call 145; refine (rtruth_any _ _).mono ?_; rintro e w' ⟨rfl, n1, rfl⟩))
  go_ret2
  exact Ret.mk _ rfl
set_option maxRecDepth 100000 in
set_option maxHeartbeats 400000 in
theorem rdya_10 (x y : Int) (w : World) (hx : -9223372036854775808 ≤ x ∧ x ≤ 9223372036854775807) (hy : -9223372036854775808 ≤ y ∧ y ≤ 9223372036854775807) : Calls Try.prog 125 #[.int .i64 10, .int .i64 x, .int .i64 y] w (Ret w (.tuple #[.int .i64 (dyV 10 x y), .int .i64 (dyE 10 x y)])) := by
  have hr : rowB 10 = true := rowB_yes (by omega) (by omega)
  show Calls _ _ _ _ (Ret w (.tuple #[.int .i64 (bit (x == y)), .int .i64 (0)]))
  go_enter Try.func125, Try.ntmps125
  go_wp2_with (first | (go_at_call 133; refine (rRow_any _ _).mono ?_; rintro e w' ⟨rfl, n1, rfl⟩) | (go_at_call 81; go_in) | (go_at_call 134; go_in) | (go_at_call 136; go_in) | (go_at_call 135; go_in) | (go_at_call 145; refine (rtruth_any _ _).mono ?_; rintro e w' ⟨rfl, n1, rfl⟩))
  go_ret2
  exact Ret.mk _ rfl
set_option maxRecDepth 100000 in
set_option maxHeartbeats 400000 in
theorem rdya_11 (x y : Int) (w : World) (hx : -9223372036854775808 ≤ x ∧ x ≤ 9223372036854775807) (hy : -9223372036854775808 ≤ y ∧ y ≤ 9223372036854775807) : Calls Try.prog 125 #[.int .i64 11, .int .i64 x, .int .i64 y] w (Ret w (.tuple #[.int .i64 (dyV 11 x y), .int .i64 (dyE 11 x y)])) := by
  have hr : rowB 11 = true := rowB_yes (by omega) (by omega)
  show Calls _ _ _ _ (Ret w (.tuple #[.int .i64 (bit (x != y)), .int .i64 (0)]))
  go_enter Try.func125, Try.ntmps125
  go_wp2_with (first | (go_at_call 133; refine (rRow_any _ _).mono ?_; rintro e w' ⟨rfl, n1, rfl⟩) | (go_at_call 81; go_in) | (go_at_call 134; go_in) | (go_at_call 136; go_in) | (go_at_call 135; go_in) | (go_at_call 145; refine (rtruth_any _ _).mono ?_; rintro e w' ⟨rfl, n1, rfl⟩))
  go_ret2
  exact Ret.mk _ rfl
set_option maxRecDepth 100000 in
set_option maxHeartbeats 400000 in
theorem rdya_12 (x y : Int) (w : World) (hx : -9223372036854775808 ≤ x ∧ x ≤ 9223372036854775807) (hy : -9223372036854775808 ≤ y ∧ y ≤ 9223372036854775807) : Calls Try.prog 125 #[.int .i64 12, .int .i64 x, .int .i64 y] w (Ret w (.tuple #[.int .i64 (dyV 12 x y), .int .i64 (dyE 12 x y)])) := by
  have hr : rowB 12 = true := rowB_yes (by omega) (by omega)
  show Calls _ _ _ _ (Ret w (.tuple #[.int .i64 (bit (decide (x ≤ y))), .int .i64 (0)]))
  go_enter Try.func125, Try.ntmps125
  go_wp2_with (first | (go_at_call 133; refine (rRow_any _ _).mono ?_; rintro e w' ⟨rfl, n1, rfl⟩) | (go_at_call 81; go_in) | (go_at_call 134; go_in) | (go_at_call 136; go_in) | (go_at_call 135; go_in) | (go_at_call 145; refine (rtruth_any _ _).mono ?_; rintro e w' ⟨rfl, n1, rfl⟩))
  go_ret2
  exact Ret.mk _ rfl
set_option maxRecDepth 100000 in
set_option maxHeartbeats 400000 in
theorem rdya_13 (x y : Int) (w : World) (hx : -9223372036854775808 ≤ x ∧ x ≤ 9223372036854775807) (hy : -9223372036854775808 ≤ y ∧ y ≤ 9223372036854775807) : Calls Try.prog 125 #[.int .i64 13, .int .i64 x, .int .i64 y] w (Ret w (.tuple #[.int .i64 (dyV 13 x y), .int .i64 (dyE 13 x y)])) := by
  have hr : rowB 13 = true := rowB_yes (by omega) (by omega)
  show Calls _ _ _ _ (Ret w (.tuple #[.int .i64 (bit (decide (y ≤ x))), .int .i64 (0)]))
  go_enter Try.func125, Try.ntmps125
  go_wp2_with (first | (go_at_call 133; refine (rRow_any _ _).mono ?_; rintro e w' ⟨rfl, n1, rfl⟩) | (go_at_call 81; go_in) | (go_at_call 134; go_in) | (go_at_call 136; go_in) | (go_at_call 135; go_in) | (go_at_call 145; refine (rtruth_any _ _).mono ?_; rintro e w' ⟨rfl, n1, rfl⟩))
  go_ret2
  exact Ret.mk _ rfl
set_option maxRecDepth 100000 in
set_option maxHeartbeats 400000 in
theorem rdya_14 (x y : Int) (w : World) (hx : -9223372036854775808 ≤ x ∧ x ≤ 9223372036854775807) (hy : -9223372036854775808 ≤ y ∧ y ≤ 9223372036854775807) : Calls Try.prog 125 #[.int .i64 14, .int .i64 x, .int .i64 y] w (Ret w (.tuple #[.int .i64 (dyV 14 x y), .int .i64 (dyE 14 x y)])) := by
  have hr : rowB 14 = true := rowB_yes (by omega) (by omega)
  have hb : Nat.gcd x.natAbs y.natAbs ≤ 9223372036854775808 := by
    by_cases h : x.natAbs = 0
    · rw [h, Nat.gcd_zero_left]; omega
    · exact Nat.le_trans (Nat.gcd_le_left _ (by omega)) (by omega)
  have A := Lib.hid (fun w => rsigned_any false (Nat.gcd x.natAbs y.natAbs) w (by omega))
  rw [show sg false (Nat.gcd x.natAbs y.natAbs) = (Nat.gcd x.natAbs y.natAbs : Int) from rfl] at A
  show Calls _ _ _ _ (Ret w (.tuple #[.int .i64 (val (Nat.gcd x.natAbs y.natAbs)), .int .i64 (err (Nat.gcd x.natAbs y.natAbs))]))
  go_enter Try.func125, Try.ntmps125
  go_wp2_with (first | (go_at_call 133; refine (rRow_any _ _).mono ?_; rintro e w' ⟨rfl, n1, rfl⟩) | (go_at_call 81; go_in) | (go_at_call 136; go_in) | (go_at_call 141; refine (rsize_any _ _ (by omega)).mono ?_; rintro e w' ⟨rfl, n1, rfl⟩) | (go_at_call 148; refine (rcommon_any _ _ _ (by omega) (by omega)).mono ?_; rintro e w' ⟨rfl, n1, rfl⟩))
  refine (A.out _).mono ?_; rintro e w' ⟨rfl, n1, rfl⟩
  go_wp2
  go_ret2
  exact Ret.mk _ rfl
set_option maxRecDepth 100000 in
set_option maxHeartbeats 400000 in
theorem rdya_15 (x y : Int) (w : World) (hx : -9223372036854775808 ≤ x ∧ x ≤ 9223372036854775807) (hy : -9223372036854775808 ≤ y ∧ y ≤ 9223372036854775807) : Calls Try.prog 125 #[.int .i64 15, .int .i64 x, .int .i64 y] w (Ret w (.tuple #[.int .i64 (dyV 15 x y), .int .i64 (dyE 15 x y)])) := by
  have hr : rowB 15 = true := rowB_yes (by omega) (by omega)
  show Calls _ _ _ _ (Ret w (.tuple #[.int .i64 (val (Nat.lcm x.natAbs y.natAbs)), .int .i64 (err (Nat.lcm x.natAbs y.natAbs))]))
  by_cases x0 : x = 0
  · subst x0
    rw [show (0 : Int).natAbs = 0 from rfl, Nat.lcm_zero_left, val_of (fit_of (by omega)), err_of (fit_of (by omega))]
    go_enter Try.func125, Try.ntmps125
    go_wp2_with (first | (go_at_call 133; refine (rRow_any _ _).mono ?_; rintro e w' ⟨rfl, n1, rfl⟩) | (go_at_call 81; go_in) | (go_at_call 134; go_in) | (go_at_call 136; go_in) | (go_at_call 135; go_in))
    go_ret2
    exact Ret.mk _ rfl
  have gx : (x == 0) = false := by simpa using x0
  by_cases y0 : y = 0
  · subst y0
    rw [show (0 : Int).natAbs = 0 from rfl, Nat.lcm_zero_right, val_of (fit_of (by omega)), err_of (fit_of (by omega))]
    go_enter Try.func125, Try.ntmps125
    go_wp2_with (first | (go_at_call 133; refine (rRow_any _ _).mono ?_; rintro e w' ⟨rfl, n1, rfl⟩) | (go_at_call 81; go_in) | (go_at_call 134; go_in) | (go_at_call 136; go_in) | (go_at_call 135; go_in))
    go_ret2
    exact Ret.mk _ rfl
  have gy : (y == 0) = false := by simpa using y0
  have hX : x.natAbs ≤ 9223372036854775808 := by omega
  have hY : y.natAbs ≤ 9223372036854775808 := by omega
  have hX1 : ¬ x.natAbs = 0 := by omega
  have A1 := Lib.hid (fun w => rsize_any x w hx)
  have A2 := Lib.hid (fun w => rsize_any y w hy)
  have hL := Lib.hid (lcm_eq (b := y.natAbs) hX1)
  have hg : 1 ≤ Nat.gcd x.natAbs y.natAbs := Nat.gcd_pos_of_pos_left _ (by omega)
  have A3 := Lib.hid (fun w => rcommon_any x.natAbs y.natAbs w (by omega) (by omega))
  generalize x.natAbs = X at *
  generalize y.natAbs = Y at *
  generalize Nat.lcm X Y = L at *
  generalize Nat.gcd X Y = g at *
  have hk : X / g ≤ X := Nat.div_le_self _ _
  have v1 : (X : Int) / (g : Int) = ((X / g : Nat) : Int) := by simp
  generalize X / g = k at *
  have gz : ¬ (g : Int) = 0 := by omega
  have gi : (1 : Int) ≤ g := by omega
  have vw : IntKind.u64.wrap (k : Int) = (k : Int) := wrap_u64_nat k (by omega)
  have A4 := Lib.hid (fun w => rproduct_any k Y w (by omega) (by omega))
  rw [hL.out] at A4
  by_cases hf : L ≤ 18446744073709551615
  · rw [(fitU_yes hf).1, (fitU_yes hf).2] at A4
    have A5 := Lib.hid (fun w => rsigned_any false L w hf)
    rw [show sg false L = (L : Int) from rfl] at A5
    go_enter Try.func125, Try.ntmps125
    go_wp2_with (first | (go_at_call 133; refine (rRow_any _ _).mono ?_; rintro e w' ⟨rfl, n1, rfl⟩) | (go_at_call 81; go_in) | (go_at_call 136; go_in))
    generalize hW : w.drewN _ = W
    have HW := Lib.hid hW
    clear hW
    go_quiet (first | (with_reducible exact Ret.quiet (A1.out _)) | (with_reducible exact Ret.quiet (A2.out _)) | (with_reducible exact Ret.quiet (A3.out _)) | (with_reducible exact Ret.quiet (A4.out _)))
    go_wp2_with fail
    refine (A5.out _).mono ?_; rintro e w' ⟨rfl, n1, rfl⟩
    go_wp2
    go_ret2
    exact Ret.via HW.out _ rfl
  · rw [(fitU_no hf).1, (fitU_no hf).2] at A4
    have e := ve_no (n := (L : Int)) (by omega)
    rw [e.1, e.2]
    clear e hf
    go_enter Try.func125, Try.ntmps125
    go_wp2_with (first | (go_at_call 133; refine (rRow_any _ _).mono ?_; rintro e w' ⟨rfl, n1, rfl⟩) | (go_at_call 81; go_in) | (go_at_call 136; go_in))
    generalize hW : w.drewN _ = W
    have HW := Lib.hid hW
    clear hW
    go_quiet (first | (with_reducible exact Ret.quiet (A1.out _)) | (with_reducible exact Ret.quiet (A2.out _)) | (with_reducible exact Ret.quiet (A3.out _)) | (with_reducible exact Ret.quiet (A4.out _)))
    go_wp2
    go_ret2
    exact Ret.via HW.out _ rfl
set_option maxRecDepth 100000 in
set_option maxHeartbeats 400000 in
theorem rdya_16 (x y : Int) (w : World) (hx : -9223372036854775808 ≤ x ∧ x ≤ 9223372036854775807) (hy : -9223372036854775808 ≤ y ∧ y ≤ 9223372036854775807) : Calls Try.prog 125 #[.int .i64 16, .int .i64 x, .int .i64 y] w (Ret w (.tuple #[.int .i64 (dyV 16 x y), .int .i64 (dyE 16 x y)])) := by
  have hr : rowB 16 = true := rowB_yes (by omega) (by omega)
  by_cases h : (x = 0 ∨ x = 1) ∧ (y = 0 ∨ y = 1)
  · have hv : dyV 16 x y = bit (x + y == 0) ∧ dyE 16 x y = 0 := by simp [dyV, dyE, bits_yes h]
    rw [hv.1, hv.2]
    clear hv
    have hbt := bits_yes h
    obtain ⟨rfl | rfl, rfl | rfl⟩ := h
    all_goals
      go_enter Try.func125, Try.ntmps125
      go_wp2_with (first | (go_at_call 133; refine (rRow_any _ _).mono ?_; rintro e w' ⟨rfl, n1, rfl⟩) | (go_at_call 81; go_in) | (go_at_call 134; go_in) | (go_at_call 136; go_in) | (go_at_call 135; go_in) | (go_at_call 150; refine (rbits_any _ _ _).mono ?_; rintro e w' ⟨rfl, n1, rfl⟩) | (go_at_call 145; refine (rtruth_any _ _).mono ?_; rintro e w' ⟨rfl, n1, rfl⟩))
      go_ret2
      exact Ret.mk _ rfl
  · have hv : dyV 16 x y = 0 ∧ dyE 16 x y = 10 := by simp [dyV, dyE, bits_no h]
    rw [hv.1, hv.2]
    clear hv
    have hbt := bits_no h
    clear h
    go_enter Try.func125, Try.ntmps125
    go_wp2_with (first | (go_at_call 133; refine (rRow_any _ _).mono ?_; rintro e w' ⟨rfl, n1, rfl⟩) | (go_at_call 81; go_in) | (go_at_call 134; go_in) | (go_at_call 136; go_in) | (go_at_call 135; go_in) | (go_at_call 150; refine (rbits_any _ _ _).mono ?_; rintro e w' ⟨rfl, n1, rfl⟩))
    go_ret2
    exact Ret.mk _ rfl
set_option maxRecDepth 100000 in
set_option maxHeartbeats 400000 in
theorem rdya_17 (x y : Int) (w : World) (hx : -9223372036854775808 ≤ x ∧ x ≤ 9223372036854775807) (hy : -9223372036854775808 ≤ y ∧ y ≤ 9223372036854775807) : Calls Try.prog 125 #[.int .i64 17, .int .i64 x, .int .i64 y] w (Ret w (.tuple #[.int .i64 (dyV 17 x y), .int .i64 (dyE 17 x y)])) := by
  have hr : rowB 17 = true := rowB_yes (by omega) (by omega)
  by_cases h : (x = 0 ∨ x = 1) ∧ (y = 0 ∨ y = 1)
  · have hv : dyV 17 x y = bit (decide (x + y < 2)) ∧ dyE 17 x y = 0 := by simp [dyV, dyE, bits_yes h]
    rw [hv.1, hv.2]
    clear hv
    have hbt := bits_yes h
    obtain ⟨rfl | rfl, rfl | rfl⟩ := h
    all_goals
      go_enter Try.func125, Try.ntmps125
      go_wp2_with (first | (go_at_call 133; refine (rRow_any _ _).mono ?_; rintro e w' ⟨rfl, n1, rfl⟩) | (go_at_call 81; go_in) | (go_at_call 134; go_in) | (go_at_call 136; go_in) | (go_at_call 135; go_in) | (go_at_call 150; refine (rbits_any _ _ _).mono ?_; rintro e w' ⟨rfl, n1, rfl⟩) | (go_at_call 145; refine (rtruth_any _ _).mono ?_; rintro e w' ⟨rfl, n1, rfl⟩))
      go_ret2
      exact Ret.mk _ rfl
  · have hv : dyV 17 x y = 0 ∧ dyE 17 x y = 10 := by simp [dyV, dyE, bits_no h]
    rw [hv.1, hv.2]
    clear hv
    have hbt := bits_no h
    clear h
    go_enter Try.func125, Try.ntmps125
    go_wp2_with (first | (go_at_call 133; refine (rRow_any _ _).mono ?_; rintro e w' ⟨rfl, n1, rfl⟩) | (go_at_call 81; go_in) | (go_at_call 134; go_in) | (go_at_call 136; go_in) | (go_at_call 135; go_in) | (go_at_call 150; refine (rbits_any _ _ _).mono ?_; rintro e w' ⟨rfl, n1, rfl⟩))
    go_ret2
    exact Ret.mk _ rfl
set_option maxRecDepth 100000 in
set_option maxHeartbeats 400000 in
theorem rdya_20 (x y : Int) (w : World) (hx : -9223372036854775808 ≤ x ∧ x ≤ 9223372036854775807) (hy : -9223372036854775808 ≤ y ∧ y ≤ 9223372036854775807) : Calls Try.prog 125 #[.int .i64 20, .int .i64 x, .int .i64 y] w (Ret w (.tuple #[.int .i64 (dyV 20 x y), .int .i64 (dyE 20 x y)])) := by
  have hr : rowB 20 = true := rowB_yes (by omega) (by omega)
  show Calls _ _ _ _ (Ret w (.tuple #[.int .i64 (pwV x y), .int .i64 (pwE x y)]))
  go_enter Try.func125, Try.ntmps125
  go_wp2_with (first | (go_at_call 133; refine (rRow_any _ _).mono ?_; rintro e w' ⟨rfl, n1, rfl⟩) | (go_at_call 81; go_in) | (go_at_call 134; go_in) | (go_at_call 136; go_in) | (go_at_call 135; go_in) | (go_at_call 151; refine (rpower_any _ _ _ (by omega) (by omega)).mono ?_; rintro e w' ⟨rfl, n1, rfl⟩))
  go_ret2
  exact Ret.mk _ rfl
set_option maxRecDepth 100000 in
set_option maxHeartbeats 400000 in
theorem rdya_21 (x y : Int) (w : World) (hx : -9223372036854775808 ≤ x ∧ x ≤ 9223372036854775807) (hy : -9223372036854775808 ≤ y ∧ y ≤ 9223372036854775807) : Calls Try.prog 125 #[.int .i64 21, .int .i64 x, .int .i64 y] w (Ret w (.tuple #[.int .i64 (dyV 21 x y), .int .i64 (dyE 21 x y)])) := by
  have hr : rowB 21 = true := rowB_yes (by omega) (by omega)
  show Calls _ _ _ _ (Ret w (.tuple #[.int .i64 (chV x y), .int .i64 (chE x y)]))
  go_enter Try.func125, Try.ntmps125
  go_wp2_with (first | (go_at_call 133; refine (rRow_any _ _).mono ?_; rintro e w' ⟨rfl, n1, rfl⟩) | (go_at_call 81; go_in) | (go_at_call 134; go_in) | (go_at_call 136; go_in) | (go_at_call 135; go_in) | (go_at_call 152; refine (rways_any _ _ _ (by omega) (by omega)).mono ?_; rintro e w' ⟨rfl, n1, rfl⟩))
  go_ret2
  exact Ret.mk _ rfl
set_option maxRecDepth 100000 in
set_option maxHeartbeats 400000 in
theorem rdya_18 (x y : Int) (w : World) (hx : -9223372036854775808 ≤ x ∧ x ≤ 9223372036854775807) (hy : -9223372036854775808 ≤ y ∧ y ≤ 9223372036854775807) : Calls Try.prog 125 #[.int .i64 18, .int .i64 x, .int .i64 y] w (Ret w (.tuple #[.int .i64 (dyV 18 x y), .int .i64 (dyE 18 x y)])) := by
  have hr : rowB 18 = true := rowB_yes (by omega) (by omega)
  rw [(dy_row (by omega)).1, (dy_row (by omega)).2]
  go_enter Try.func125, Try.ntmps125
  go_wp2_with (first | (go_at_call 133; refine (rRow_any _ _).mono ?_; rintro e w' ⟨rfl, n1, rfl⟩) | (go_at_call 81; go_in) | (go_at_call 134; go_in) | (go_at_call 136; go_in) | (go_at_call 135; go_in))
  go_ret2
  exact Ret.mk _ rfl
set_option maxRecDepth 100000 in
set_option maxHeartbeats 400000 in
theorem rdya_19 (x y : Int) (w : World) (hx : -9223372036854775808 ≤ x ∧ x ≤ 9223372036854775807) (hy : -9223372036854775808 ≤ y ∧ y ≤ 9223372036854775807) : Calls Try.prog 125 #[.int .i64 19, .int .i64 x, .int .i64 y] w (Ret w (.tuple #[.int .i64 (dyV 19 x y), .int .i64 (dyE 19 x y)])) := by
  have hr : rowB 19 = true := rowB_yes (by omega) (by omega)
  rw [(dy_row (by omega)).1, (dy_row (by omega)).2]
  go_enter Try.func125, Try.ntmps125
  go_wp2_with (first | (go_at_call 133; refine (rRow_any _ _).mono ?_; rintro e w' ⟨rfl, n1, rfl⟩) | (go_at_call 81; go_in) | (go_at_call 134; go_in) | (go_at_call 136; go_in) | (go_at_call 135; go_in))
  go_ret2
  exact Ret.mk _ rfl
set_option maxRecDepth 100000 in
set_option maxHeartbeats 400000 in
theorem rdya_out (op x y : Int) (w : World) (h : ¬ (1 ≤ op ∧ op ≤ 21)) : Calls Try.prog 125 #[.int .i64 op, .int .i64 x, .int .i64 y] w (Ret w (.tuple #[.int .i64 (dyV op x y), .int .i64 (dyE op x y)])) := by
  rw [(dy_out h).1, (dy_out h).2]
  have hr : rowB op = false := rowB_no h
  clear h
  go_enter Try.func125, Try.ntmps125
  go_wp2_with (first | (go_at_call 133; refine (rRow_any _ _).mono ?_; rintro e w' ⟨rfl, n1, rfl⟩))
  go_ret2
  exact Ret.mk _ rfl
theorem rdyad_any (op x y : Int) (w : World) (hx : -9223372036854775808 ≤ x ∧ x ≤ 9223372036854775807) (hy : -9223372036854775808 ≤ y ∧ y ≤ 9223372036854775807) : Calls Try.prog 125 #[.int .i64 op, .int .i64 x, .int .i64 y] w (Ret w (.tuple #[.int .i64 (dyV op x y), .int .i64 (dyE op x y)])) := by
  by_cases h : 1 ≤ op ∧ op ≤ 21
  · have : op = 1 ∨ op = 2 ∨ op = 3 ∨ op = 4 ∨ op = 5 ∨ op = 6 ∨ op = 7 ∨ op = 8 ∨ op = 9 ∨ op = 10 ∨ op = 11 ∨ op = 12 ∨ op = 13 ∨ op = 14 ∨ op = 15 ∨ op = 16 ∨ op = 17 ∨ op = 18 ∨ op = 19 ∨ op = 20 ∨ op = 21 := by omega
    rcases this with rfl | rfl | rfl | rfl | rfl | rfl | rfl | rfl | rfl | rfl | rfl | rfl | rfl | rfl | rfl | rfl | rfl | rfl | rfl | rfl | rfl
    · exact rdya_1 x y w hx hy
    · exact rdya_2 x y w hx hy
    · exact rdya_3 x y w hx hy
    · exact rdya_4 x y w hx hy
    · exact rdya_5 x y w hx hy
    · exact rdya_6 x y w hx hy
    · exact rdya_7 x y w hx hy
    · exact rdya_8 x y w hx hy
    · exact rdya_9 x y w hx hy
    · exact rdya_10 x y w hx hy
    · exact rdya_11 x y w hx hy
    · exact rdya_12 x y w hx hy
    · exact rdya_13 x y w hx hy
    · exact rdya_14 x y w hx hy
    · exact rdya_15 x y w hx hy
    · exact rdya_16 x y w hx hy
    · exact rdya_17 x y w hx hy
    · exact rdya_18 x y w hx hy
    · exact rdya_19 x y w hx hy
    · exact rdya_20 x y w hx hy
    · exact rdya_21 x y w hx hy
  · exact rdya_out op x y w h
end Go.Proofs.Ytdedbfbkakofgaa
