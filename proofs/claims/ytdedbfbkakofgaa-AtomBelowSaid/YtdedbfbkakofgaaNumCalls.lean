/- Contracts of num.Monad and num.Dyad at every verb's number. -/
import Derived.Test.YtdedbfbkakofgaaNumChoices
import Derived.Test.YtdedbfbkakofgaaNumSpec
namespace Go.Proofs.Ytdedbfbkakofgaa
open Go.RowKit
set_option linter.unusedVariables false
set_option linter.unusedSimpArgs false
set_option maxRecDepth 100000 in
set_option maxHeartbeats 400000 in
theorem mon_1 (y : Int) (w : World) (hy : -9223372036854775808 ≤ y ∧ y ≤ 9223372036854775807) : Calls Try.prog 79 #[.int .i64 1, .int .i64 y] w (Ret w (.tuple #[.int .i64 (moV 1 y), .int .i64 (moE 1 y)])) := by
  show Calls _ _ _ _ (Ret w (.tuple #[.int .i64 y, .int .i64 0]))
  go_enter Try.func79, Try.ntmps79
  go_wp2
  go_ret2
  exact Ret.mk0 rfl
set_option maxRecDepth 100000 in
set_option maxHeartbeats 400000 in
theorem mon_6 (y : Int) (w : World) (hy : -9223372036854775808 ≤ y ∧ y ≤ 9223372036854775807) : Calls Try.prog 79 #[.int .i64 6, .int .i64 y] w (Ret w (.tuple #[.int .i64 (moV 6 y), .int .i64 (moE 6 y)])) := by
  show Calls _ _ _ _ (Ret w (.tuple #[.int .i64 y, .int .i64 0]))
  go_enter Try.func79, Try.ntmps79
  go_wp2
  go_ret2
  exact Ret.mk0 rfl
set_option maxRecDepth 100000 in
set_option maxHeartbeats 400000 in
theorem mon_7 (y : Int) (w : World) (hy : -9223372036854775808 ≤ y ∧ y ≤ 9223372036854775807) : Calls Try.prog 79 #[.int .i64 7, .int .i64 y] w (Ret w (.tuple #[.int .i64 (moV 7 y), .int .i64 (moE 7 y)])) := by
  show Calls _ _ _ _ (Ret w (.tuple #[.int .i64 y, .int .i64 0]))
  go_enter Try.func79, Try.ntmps79
  go_wp2
  go_ret2
  exact Ret.mk0 rfl
set_option maxRecDepth 100000 in
set_option maxHeartbeats 400000 in
theorem mon_2 (y : Int) (w : World) (hy : -9223372036854775808 ≤ y ∧ y ≤ 9223372036854775807) : Calls Try.prog 79 #[.int .i64 2, .int .i64 y] w (Ret w (.tuple #[.int .i64 (moV 2 y), .int .i64 (moE 2 y)])) := by
  show Calls _ _ _ _ (Ret w (.tuple #[.int .i64 (val (-y)), .int .i64 (err (-y))]))
  go_enter Try.func79, Try.ntmps79
  go_wp2_with (first | (go_at_call 109; refine (sub_any _ _ _ (by omega) (by omega)).mono ?_; rintro e w' ⟨rfl, n1, rfl⟩) | (go_at_call 108; refine (fits_any _ _).mono ?_; rintro e w' ⟨rfl, n1, rfl⟩))
  go_ret2
  exact Ret.mk _ rfl
set_option maxRecDepth 100000 in
set_option maxHeartbeats 400000 in
theorem mon_3 (y : Int) (w : World) (hy : -9223372036854775808 ≤ y ∧ y ≤ 9223372036854775807) : Calls Try.prog 79 #[.int .i64 3, .int .i64 y] w (Ret w (.tuple #[.int .i64 (moV 3 y), .int .i64 (moE 3 y)])) := by
  show Calls _ _ _ _ (Ret w (.tuple #[.int .i64 (sgn y), .int .i64 0]))
  by_cases h : y < 0
  · rw [show sgn y = -1 by simp [sgn, h]]
    go_enter Try.func79, Try.ntmps79
    go_wp2
    go_ret2
    exact Ret.mk0 rfl
  by_cases h' : 0 < y
  · rw [show sgn y = 1 by simp [sgn, h, h']]
    go_enter Try.func79, Try.ntmps79
    go_wp2
    go_ret2
    exact Ret.mk0 rfl
  · rw [show sgn y = 0 by simp [sgn, h, h']]
    go_enter Try.func79, Try.ntmps79
    go_wp2
    go_ret2
    exact Ret.mk0 rfl
set_option maxRecDepth 100000 in
set_option maxHeartbeats 400000 in
theorem mon_5 (y : Int) (w : World) (hy : -9223372036854775808 ≤ y ∧ y ≤ 9223372036854775807) : Calls Try.prog 79 #[.int .i64 5, .int .i64 y] w (Ret w (.tuple #[.int .i64 (moV 5 y), .int .i64 (moE 5 y)])) := by
  show Calls _ _ _ _ (Ret w (.tuple #[.int .i64 (val y.natAbs), .int .i64 (err y.natAbs)]))
  go_enter Try.func79, Try.ntmps79
  go_wp2_with (first | (go_at_call 111; refine (whole_any _ _ (by omega)).mono ?_; rintro e w' ⟨rfl, n1, rfl⟩) | (go_at_call 110; refine (plain_any _ _ (by omega) (by omega)).mono ?_; rintro e w' ⟨rfl, n1, rfl⟩))
  go_ret2
  exact Ret.mk _ rfl
set_option maxRecDepth 100000 in
set_option maxHeartbeats 400000 in
theorem mon_12 (y : Int) (w : World) (hy : -9223372036854775808 ≤ y ∧ y ≤ 9223372036854775807) : Calls Try.prog 79 #[.int .i64 12, .int .i64 y] w (Ret w (.tuple #[.int .i64 (moV 12 y), .int .i64 (moE 12 y)])) := by
  show Calls _ _ _ _ (Ret w (.tuple #[.int .i64 (val (y - 1)), .int .i64 (err (y - 1))]))
  go_enter Try.func79, Try.ntmps79
  go_wp2_with (first | (go_at_call 109; refine (sub_any _ _ _ (by omega) (by omega)).mono ?_; rintro e w' ⟨rfl, n1, rfl⟩) | (go_at_call 108; refine (fits_any _ _).mono ?_; rintro e w' ⟨rfl, n1, rfl⟩))
  go_ret2
  exact Ret.mk _ rfl
set_option maxRecDepth 100000 in
set_option maxHeartbeats 400000 in
theorem mon_13 (y : Int) (w : World) (hy : -9223372036854775808 ≤ y ∧ y ≤ 9223372036854775807) : Calls Try.prog 79 #[.int .i64 13, .int .i64 y] w (Ret w (.tuple #[.int .i64 (moV 13 y), .int .i64 (moE 13 y)])) := by
  show Calls _ _ _ _ (Ret w (.tuple #[.int .i64 (val (y + 1)), .int .i64 (err (y + 1))]))
  go_enter Try.func79, Try.ntmps79
  go_wp2_with (first | (go_at_call 112; refine (add_any _ _ _ (by omega) (by omega)).mono ?_; rintro e w' ⟨rfl, n1, rfl⟩) | (go_at_call 108; refine (fits_any _ _).mono ?_; rintro e w' ⟨rfl, n1, rfl⟩))
  go_ret2
  exact Ret.mk _ rfl
set_option maxRecDepth 100000 in
set_option maxHeartbeats 400000 in
theorem mon_16 (y : Int) (w : World) (hy : -9223372036854775808 ≤ y ∧ y ≤ 9223372036854775807) : Calls Try.prog 79 #[.int .i64 16, .int .i64 y] w (Ret w (.tuple #[.int .i64 (moV 16 y), .int .i64 (moE 16 y)])) := by
  show Calls _ _ _ _ (Ret w (.tuple #[.int .i64 (val (y + y)), .int .i64 (err (y + y))]))
  go_enter Try.func79, Try.ntmps79
  go_wp2_with (first | (go_at_call 112; refine (add_any _ _ _ (by omega) (by omega)).mono ?_; rintro e w' ⟨rfl, n1, rfl⟩) | (go_at_call 108; refine (fits_any _ _).mono ?_; rintro e w' ⟨rfl, n1, rfl⟩))
  go_ret2
  exact Ret.mk _ rfl
set_option maxRecDepth 100000 in
set_option maxHeartbeats 400000 in
theorem mon_17 (y : Int) (w : World) (hy : -9223372036854775808 ≤ y ∧ y ≤ 9223372036854775807) : Calls Try.prog 79 #[.int .i64 17, .int .i64 y] w (Ret w (.tuple #[.int .i64 (moV 17 y), .int .i64 (moE 17 y)])) := by
  show Calls _ _ _ _ (Ret w (.tuple #[.int .i64 (val (y * y)), .int .i64 (err (y * y))]))
  go_enter Try.func79, Try.ntmps79
  go_wp2_with (first | (go_at_call 113; refine (mul_any _ _ _ (by omega) (by omega)).mono ?_; rintro e w' ⟨rfl, n1, rfl⟩) | (go_at_call 108; refine (fits_any _ _).mono ?_; rintro e w' ⟨rfl, n1, rfl⟩))
  go_ret2
  exact Ret.mk _ rfl
set_option maxRecDepth 100000 in
set_option maxHeartbeats 400000 in
theorem mon_18 (y : Int) (w : World) (hy : -9223372036854775808 ≤ y ∧ y ≤ 9223372036854775807) : Calls Try.prog 79 #[.int .i64 18, .int .i64 y] w (Ret w (.tuple #[.int .i64 (moV 18 y), .int .i64 (moE 18 y)])) := by
  show Calls _ _ _ _ (Ret w (.tuple #[.int .i64 (val (1 - y)), .int .i64 (err (1 - y))]))
  go_enter Try.func79, Try.ntmps79
  go_wp2_with (first | (go_at_call 109; refine (sub_any _ _ _ (by omega) (by omega)).mono ?_; rintro e w' ⟨rfl, n1, rfl⟩) | (go_at_call 108; refine (fits_any _ _).mono ?_; rintro e w' ⟨rfl, n1, rfl⟩))
  go_ret2
  exact Ret.mk _ rfl
set_option maxRecDepth 100000 in
set_option maxHeartbeats 400000 in
theorem mon_19 (y : Int) (w : World) (hy : -9223372036854775808 ≤ y ∧ y ≤ 9223372036854775807) : Calls Try.prog 79 #[.int .i64 19, .int .i64 y] w (Ret w (.tuple #[.int .i64 (moV 19 y), .int .i64 (moE 19 y)])) := by
  show Calls _ _ _ _ (Ret w (.tuple #[.int .i64 (halfV y), .int .i64 (halfE y)]))
  by_cases h : y % 2 = 0
  · obtain ⟨h1, h2, h3, h4, h5⟩ := half_even hy h
    have H2 := Lib.hid h2
    have hw := IntWalk.wrap64_in (y.tdiv 2) ⟨h4, h5⟩
    rw [← h3, ← h2]
    clear h2 h3 h h4 h5
    go_enter Try.func79, Try.ntmps79
    go_wp2
    go_ret2
    exact Ret.mk0 rfl
  · obtain ⟨h1, h2, h3⟩ := half_odd h
    rw [← h3, ← h2]
    clear h2 h3 h
    go_enter Try.func79, Try.ntmps79
    go_wp2
    go_ret2
    exact Ret.mk0 rfl
set_option maxRecDepth 100000 in
set_option maxHeartbeats 400000 in
theorem mon_21 (y : Int) (w : World) (hy : -9223372036854775808 ≤ y ∧ y ≤ 9223372036854775807) : Calls Try.prog 79 #[.int .i64 21, .int .i64 y] w (Ret w (.tuple #[.int .i64 (moV 21 y), .int .i64 (moE 21 y)])) := by
  show Calls _ _ _ _ (Ret w (.tuple #[.int .i64 (facV y), .int .i64 (facE y)]))
  go_enter Try.func79, Try.ntmps79
  go_wp2_with (first | (go_at_call 114; refine (factorial_any _ _).mono ?_; rintro e w' ⟨rfl, n1, rfl⟩))
  go_ret2
  exact Ret.mk _ rfl
set_option maxRecDepth 100000 in
set_option maxHeartbeats 400000 in
theorem mon_4 (y : Int) (w : World) (hy : -9223372036854775808 ≤ y ∧ y ≤ 9223372036854775807) : Calls Try.prog 79 #[.int .i64 4, .int .i64 y] w (Ret w (.tuple #[.int .i64 (moV 4 y), .int .i64 (moE 4 y)])) := by
  rw [(mo_row (by omega)).1, (mo_row (by omega)).2]
  have hr : rowB 4 = true := rowB_yes (by omega) (by omega)
  go_enter Try.func79, Try.ntmps79
  go_wp2_with (first | (go_at_call 115; refine (row_any _ _).mono ?_; rintro e w' ⟨rfl, n1, rfl⟩))
  go_ret2
  exact Ret.mk _ rfl
set_option maxRecDepth 100000 in
set_option maxHeartbeats 400000 in
theorem mon_8 (y : Int) (w : World) (hy : -9223372036854775808 ≤ y ∧ y ≤ 9223372036854775807) : Calls Try.prog 79 #[.int .i64 8, .int .i64 y] w (Ret w (.tuple #[.int .i64 (moV 8 y), .int .i64 (moE 8 y)])) := by
  rw [(mo_row (by omega)).1, (mo_row (by omega)).2]
  have hr : rowB 8 = true := rowB_yes (by omega) (by omega)
  go_enter Try.func79, Try.ntmps79
  go_wp2_with (first | (go_at_call 115; refine (row_any _ _).mono ?_; rintro e w' ⟨rfl, n1, rfl⟩))
  go_ret2
  exact Ret.mk _ rfl
set_option maxRecDepth 100000 in
set_option maxHeartbeats 400000 in
theorem mon_9 (y : Int) (w : World) (hy : -9223372036854775808 ≤ y ∧ y ≤ 9223372036854775807) : Calls Try.prog 79 #[.int .i64 9, .int .i64 y] w (Ret w (.tuple #[.int .i64 (moV 9 y), .int .i64 (moE 9 y)])) := by
  rw [(mo_row (by omega)).1, (mo_row (by omega)).2]
  have hr : rowB 9 = true := rowB_yes (by omega) (by omega)
  go_enter Try.func79, Try.ntmps79
  go_wp2_with (first | (go_at_call 115; refine (row_any _ _).mono ?_; rintro e w' ⟨rfl, n1, rfl⟩))
  go_ret2
  exact Ret.mk _ rfl
set_option maxRecDepth 100000 in
set_option maxHeartbeats 400000 in
theorem mon_10 (y : Int) (w : World) (hy : -9223372036854775808 ≤ y ∧ y ≤ 9223372036854775807) : Calls Try.prog 79 #[.int .i64 10, .int .i64 y] w (Ret w (.tuple #[.int .i64 (moV 10 y), .int .i64 (moE 10 y)])) := by
  rw [(mo_row (by omega)).1, (mo_row (by omega)).2]
  have hr : rowB 10 = true := rowB_yes (by omega) (by omega)
  go_enter Try.func79, Try.ntmps79
  go_wp2_with (first | (go_at_call 115; refine (row_any _ _).mono ?_; rintro e w' ⟨rfl, n1, rfl⟩))
  go_ret2
  exact Ret.mk _ rfl
set_option maxRecDepth 100000 in
set_option maxHeartbeats 400000 in
theorem mon_11 (y : Int) (w : World) (hy : -9223372036854775808 ≤ y ∧ y ≤ 9223372036854775807) : Calls Try.prog 79 #[.int .i64 11, .int .i64 y] w (Ret w (.tuple #[.int .i64 (moV 11 y), .int .i64 (moE 11 y)])) := by
  rw [(mo_row (by omega)).1, (mo_row (by omega)).2]
  have hr : rowB 11 = true := rowB_yes (by omega) (by omega)
  go_enter Try.func79, Try.ntmps79
  go_wp2_with (first | (go_at_call 115; refine (row_any _ _).mono ?_; rintro e w' ⟨rfl, n1, rfl⟩))
  go_ret2
  exact Ret.mk _ rfl
set_option maxRecDepth 100000 in
set_option maxHeartbeats 400000 in
theorem mon_14 (y : Int) (w : World) (hy : -9223372036854775808 ≤ y ∧ y ≤ 9223372036854775807) : Calls Try.prog 79 #[.int .i64 14, .int .i64 y] w (Ret w (.tuple #[.int .i64 (moV 14 y), .int .i64 (moE 14 y)])) := by
  rw [(mo_row (by omega)).1, (mo_row (by omega)).2]
  have hr : rowB 14 = true := rowB_yes (by omega) (by omega)
  go_enter Try.func79, Try.ntmps79
  go_wp2_with (first | (go_at_call 115; refine (row_any _ _).mono ?_; rintro e w' ⟨rfl, n1, rfl⟩))
  go_ret2
  exact Ret.mk _ rfl
set_option maxRecDepth 100000 in
set_option maxHeartbeats 400000 in
theorem mon_15 (y : Int) (w : World) (hy : -9223372036854775808 ≤ y ∧ y ≤ 9223372036854775807) : Calls Try.prog 79 #[.int .i64 15, .int .i64 y] w (Ret w (.tuple #[.int .i64 (moV 15 y), .int .i64 (moE 15 y)])) := by
  rw [(mo_row (by omega)).1, (mo_row (by omega)).2]
  have hr : rowB 15 = true := rowB_yes (by omega) (by omega)
  go_enter Try.func79, Try.ntmps79
  go_wp2_with (first | (go_at_call 115; refine (row_any _ _).mono ?_; rintro e w' ⟨rfl, n1, rfl⟩))
  go_ret2
  exact Ret.mk _ rfl
set_option maxRecDepth 100000 in
set_option maxHeartbeats 400000 in
theorem mon_20 (y : Int) (w : World) (hy : -9223372036854775808 ≤ y ∧ y ≤ 9223372036854775807) : Calls Try.prog 79 #[.int .i64 20, .int .i64 y] w (Ret w (.tuple #[.int .i64 (moV 20 y), .int .i64 (moE 20 y)])) := by
  rw [(mo_row (by omega)).1, (mo_row (by omega)).2]
  have hr : rowB 20 = true := rowB_yes (by omega) (by omega)
  go_enter Try.func79, Try.ntmps79
  go_wp2_with (first | (go_at_call 115; refine (row_any _ _).mono ?_; rintro e w' ⟨rfl, n1, rfl⟩))
  go_ret2
  exact Ret.mk _ rfl
set_option maxRecDepth 100000 in
set_option maxHeartbeats 800000 in
theorem mon_out (op y : Int) (w : World) (h : ¬ (1 ≤ op ∧ op ≤ 21)) : Calls Try.prog 79 #[.int .i64 op, .int .i64 y] w (Ret w (.tuple #[.int .i64 (moV op y), .int .i64 (moE op y)])) := by
  rw [(mo_out h).1, (mo_out h).2]
  have hr : rowB op = false := rowB_no h
  have hd : op ≤ 0 ∨ 22 ≤ op := by omega
  clear h
  rcases hd with h | h
  all_goals
    go_enter Try.func79, Try.ntmps79
    go_wp2_with (first | (go_at_call 115; refine (row_any _ _).mono ?_; rintro e w' ⟨rfl, n1, rfl⟩))
    go_ret2
    exact Ret.mk _ rfl
theorem monad_any (op y : Int) (w : World) (hy : -9223372036854775808 ≤ y ∧ y ≤ 9223372036854775807) : Calls Try.prog 79 #[.int .i64 op, .int .i64 y] w (Ret w (.tuple #[.int .i64 (moV op y), .int .i64 (moE op y)])) := by
  by_cases h : 1 ≤ op ∧ op ≤ 21
  · have : op = 1 ∨ op = 2 ∨ op = 3 ∨ op = 4 ∨ op = 5 ∨ op = 6 ∨ op = 7 ∨ op = 8 ∨ op = 9 ∨ op = 10 ∨ op = 11 ∨ op = 12 ∨ op = 13 ∨ op = 14 ∨ op = 15 ∨ op = 16 ∨ op = 17 ∨ op = 18 ∨ op = 19 ∨ op = 20 ∨ op = 21 := by omega
    rcases this with rfl | rfl | rfl | rfl | rfl | rfl | rfl | rfl | rfl | rfl | rfl | rfl | rfl | rfl | rfl | rfl | rfl | rfl | rfl | rfl | rfl
    · exact mon_1 y w hy
    · exact mon_2 y w hy
    · exact mon_3 y w hy
    · exact mon_4 y w hy
    · exact mon_5 y w hy
    · exact mon_6 y w hy
    · exact mon_7 y w hy
    · exact mon_8 y w hy
    · exact mon_9 y w hy
    · exact mon_10 y w hy
    · exact mon_11 y w hy
    · exact mon_12 y w hy
    · exact mon_13 y w hy
    · exact mon_14 y w hy
    · exact mon_15 y w hy
    · exact mon_16 y w hy
    · exact mon_17 y w hy
    · exact mon_18 y w hy
    · exact mon_19 y w hy
    · exact mon_20 y w hy
    · exact mon_21 y w hy
  · exact mon_out op y w h
set_option maxRecDepth 100000 in
set_option maxHeartbeats 400000 in
theorem dya_1 (x y : Int) (w : World) (hx : -9223372036854775808 ≤ x ∧ x ≤ 9223372036854775807) (hy : -9223372036854775808 ≤ y ∧ y ≤ 9223372036854775807) : Calls Try.prog 80 #[.int .i64 1, .int .i64 x, .int .i64 y] w (Ret w (.tuple #[.int .i64 (dyV 1 x y), .int .i64 (dyE 1 x y)])) := by
  show Calls _ _ _ _ (Ret w (.tuple #[.int .i64 (val (x + y)), .int .i64 (err (x + y))]))
  go_enter Try.func80, Try.ntmps80
  go_wp2_with (first | (go_at_call 112; refine (add_any _ _ _ (by omega) (by omega)).mono ?_; rintro e w' ⟨rfl, n1, rfl⟩) | (go_at_call 108; refine (fits_any _ _).mono ?_; rintro e w' ⟨rfl, n1, rfl⟩))
  go_ret2
  exact Ret.mk _ rfl
set_option maxRecDepth 100000 in
set_option maxHeartbeats 400000 in
theorem dya_2 (x y : Int) (w : World) (hx : -9223372036854775808 ≤ x ∧ x ≤ 9223372036854775807) (hy : -9223372036854775808 ≤ y ∧ y ≤ 9223372036854775807) : Calls Try.prog 80 #[.int .i64 2, .int .i64 x, .int .i64 y] w (Ret w (.tuple #[.int .i64 (dyV 2 x y), .int .i64 (dyE 2 x y)])) := by
  show Calls _ _ _ _ (Ret w (.tuple #[.int .i64 (val (x - y)), .int .i64 (err (x - y))]))
  go_enter Try.func80, Try.ntmps80
  go_wp2_with (first | (go_at_call 109; refine (sub_any _ _ _ (by omega) (by omega)).mono ?_; rintro e w' ⟨rfl, n1, rfl⟩) | (go_at_call 108; refine (fits_any _ _).mono ?_; rintro e w' ⟨rfl, n1, rfl⟩))
  go_ret2
  exact Ret.mk _ rfl
set_option maxRecDepth 100000 in
set_option maxHeartbeats 400000 in
theorem dya_3 (x y : Int) (w : World) (hx : -9223372036854775808 ≤ x ∧ x ≤ 9223372036854775807) (hy : -9223372036854775808 ≤ y ∧ y ≤ 9223372036854775807) : Calls Try.prog 80 #[.int .i64 3, .int .i64 x, .int .i64 y] w (Ret w (.tuple #[.int .i64 (dyV 3 x y), .int .i64 (dyE 3 x y)])) := by
  show Calls _ _ _ _ (Ret w (.tuple #[.int .i64 (val (x * y)), .int .i64 (err (x * y))]))
  go_enter Try.func80, Try.ntmps80
  go_wp2_with (first | (go_at_call 113; refine (mul_any _ _ _ (by omega) (by omega)).mono ?_; rintro e w' ⟨rfl, n1, rfl⟩) | (go_at_call 108; refine (fits_any _ _).mono ?_; rintro e w' ⟨rfl, n1, rfl⟩))
  go_ret2
  exact Ret.mk _ rfl
set_option maxRecDepth 100000 in
set_option maxHeartbeats 400000 in
theorem dya_4 (x y : Int) (w : World) (hx : -9223372036854775808 ≤ x ∧ x ≤ 9223372036854775807) (hy : -9223372036854775808 ≤ y ∧ y ≤ 9223372036854775807) : Calls Try.prog 80 #[.int .i64 4, .int .i64 x, .int .i64 y] w (Ret w (.tuple #[.int .i64 (dyV 4 x y), .int .i64 (dyE 4 x y)])) := by
  by_cases h : y = 0
  · subst h
    show Calls _ _ _ _ (Ret w (.tuple #[.int .i64 0, .int .i64 10]))
    go_enter Try.func80, Try.ntmps80
    go_wp2
    go_ret2
    exact Ret.mk0 rfl
  · have hv : dyV 4 x y = val (x.fdiv y) ∧ dyE 4 x y = err (x.fdiv y) := by simp [dyV, dyE, h]
    rw [hv.1, hv.2]
    clear hv
    have h' : (y == 0) = false := by simpa using h
    go_enter Try.func80, Try.ntmps80
    go_wp2_with (first | (go_at_call 116; refine (divide_any _ _ _ (by omega) (by omega) (by omega)).mono ?_; rintro e w' ⟨rfl, n1, rfl⟩) | (go_at_call 108; refine (fits_any _ _).mono ?_; rintro e w' ⟨rfl, n1, rfl⟩))
    go_ret2
    exact Ret.mk _ rfl
set_option maxRecDepth 100000 in
set_option maxHeartbeats 400000 in
theorem dya_5 (x y : Int) (w : World) (hx : -9223372036854775808 ≤ x ∧ x ≤ 9223372036854775807) (hy : -9223372036854775808 ≤ y ∧ y ≤ 9223372036854775807) : Calls Try.prog 80 #[.int .i64 5, .int .i64 x, .int .i64 y] w (Ret w (.tuple #[.int .i64 (dyV 5 x y), .int .i64 (dyE 5 x y)])) := by
  by_cases h : x = 0
  · subst h
    show Calls _ _ _ _ (Ret w (.tuple #[.int .i64 y, .int .i64 0]))
    go_enter Try.func80, Try.ntmps80
    go_wp2
    go_ret2
    exact Ret.mk0 rfl
  · have hv : dyV 5 x y = y.fmod x := by simp [dyV, h]
    rw [hv]
    show Calls _ _ _ _ (Ret w (.tuple #[.int .i64 (y.fmod x), .int .i64 0]))
    clear hv
    have h' : (x == 0) = false := by simpa using h
    go_enter Try.func80, Try.ntmps80
    go_wp2_with (first | (go_at_call 116; refine (divide_any _ _ _ (by omega) (by omega) (by omega)).mono ?_; rintro e w' ⟨rfl, n1, rfl⟩))
    go_ret2
    exact Ret.mk _ rfl
set_option maxRecDepth 100000 in
set_option maxHeartbeats 400000 in
theorem dya_6 (x y : Int) (w : World) (hx : -9223372036854775808 ≤ x ∧ x ≤ 9223372036854775807) (hy : -9223372036854775808 ≤ y ∧ y ≤ 9223372036854775807) : Calls Try.prog 80 #[.int .i64 6, .int .i64 x, .int .i64 y] w (Ret w (.tuple #[.int .i64 (dyV 6 x y), .int .i64 (dyE 6 x y)])) := by
  show Calls _ _ _ _ (Ret w (.tuple #[.int .i64 (min x y), .int .i64 (0)]))
  go_enter Try.func80, Try.ntmps80
  go_wp2
  go_ret2
  exact Ret.mk0 rfl
set_option maxRecDepth 100000 in
set_option maxHeartbeats 400000 in
theorem dya_7 (x y : Int) (w : World) (hx : -9223372036854775808 ≤ x ∧ x ≤ 9223372036854775807) (hy : -9223372036854775808 ≤ y ∧ y ≤ 9223372036854775807) : Calls Try.prog 80 #[.int .i64 7, .int .i64 x, .int .i64 y] w (Ret w (.tuple #[.int .i64 (dyV 7 x y), .int .i64 (dyE 7 x y)])) := by
  show Calls _ _ _ _ (Ret w (.tuple #[.int .i64 (max x y), .int .i64 (0)]))
  go_enter Try.func80, Try.ntmps80
  go_wp2
  go_ret2
  exact Ret.mk0 rfl
set_option maxRecDepth 100000 in
set_option maxHeartbeats 400000 in
theorem dya_8 (x y : Int) (w : World) (hx : -9223372036854775808 ≤ x ∧ x ≤ 9223372036854775807) (hy : -9223372036854775808 ≤ y ∧ y ≤ 9223372036854775807) : Calls Try.prog 80 #[.int .i64 8, .int .i64 x, .int .i64 y] w (Ret w (.tuple #[.int .i64 (dyV 8 x y), .int .i64 (dyE 8 x y)])) := by
  show Calls _ _ _ _ (Ret w (.tuple #[.int .i64 (bit (decide (x < y))), .int .i64 (0)]))
  go_enter Try.func80, Try.ntmps80
  go_wp2_with (first | (go_at_call 117; refine (compared_8 _ _ _).mono ?_; rintro e w' ⟨rfl, n1, rfl⟩))
  go_ret2
  exact Ret.mk _ rfl
set_option maxRecDepth 100000 in
set_option maxHeartbeats 400000 in
theorem dya_9 (x y : Int) (w : World) (hx : -9223372036854775808 ≤ x ∧ x ≤ 9223372036854775807) (hy : -9223372036854775808 ≤ y ∧ y ≤ 9223372036854775807) : Calls Try.prog 80 #[.int .i64 9, .int .i64 x, .int .i64 y] w (Ret w (.tuple #[.int .i64 (dyV 9 x y), .int .i64 (dyE 9 x y)])) := by
  show Calls _ _ _ _ (Ret w (.tuple #[.int .i64 (bit (decide (y < x))), .int .i64 (0)]))
  go_enter Try.func80, Try.ntmps80
  go_wp2_with (first | (go_at_call 117; refine (compared_9 _ _ _).mono ?_; rintro e w' ⟨rfl, n1, rfl⟩))
  go_ret2
  exact Ret.mk _ rfl
set_option maxRecDepth 100000 in
set_option maxHeartbeats 400000 in
theorem dya_10 (x y : Int) (w : World) (hx : -9223372036854775808 ≤ x ∧ x ≤ 9223372036854775807) (hy : -9223372036854775808 ≤ y ∧ y ≤ 9223372036854775807) : Calls Try.prog 80 #[.int .i64 10, .int .i64 x, .int .i64 y] w (Ret w (.tuple #[.int .i64 (dyV 10 x y), .int .i64 (dyE 10 x y)])) := by
  show Calls _ _ _ _ (Ret w (.tuple #[.int .i64 (bit (x == y)), .int .i64 (0)]))
  go_enter Try.func80, Try.ntmps80
  go_wp2_with (first | (go_at_call 117; refine (compared_10 _ _ _).mono ?_; rintro e w' ⟨rfl, n1, rfl⟩))
  go_ret2
  exact Ret.mk _ rfl
set_option maxRecDepth 100000 in
set_option maxHeartbeats 400000 in
theorem dya_11 (x y : Int) (w : World) (hx : -9223372036854775808 ≤ x ∧ x ≤ 9223372036854775807) (hy : -9223372036854775808 ≤ y ∧ y ≤ 9223372036854775807) : Calls Try.prog 80 #[.int .i64 11, .int .i64 x, .int .i64 y] w (Ret w (.tuple #[.int .i64 (dyV 11 x y), .int .i64 (dyE 11 x y)])) := by
  show Calls _ _ _ _ (Ret w (.tuple #[.int .i64 (bit (x != y)), .int .i64 (0)]))
  go_enter Try.func80, Try.ntmps80
  go_wp2_with (first | (go_at_call 117; refine (compared_11 _ _ _).mono ?_; rintro e w' ⟨rfl, n1, rfl⟩))
  go_ret2
  exact Ret.mk _ rfl
set_option maxRecDepth 100000 in
set_option maxHeartbeats 400000 in
theorem dya_12 (x y : Int) (w : World) (hx : -9223372036854775808 ≤ x ∧ x ≤ 9223372036854775807) (hy : -9223372036854775808 ≤ y ∧ y ≤ 9223372036854775807) : Calls Try.prog 80 #[.int .i64 12, .int .i64 x, .int .i64 y] w (Ret w (.tuple #[.int .i64 (dyV 12 x y), .int .i64 (dyE 12 x y)])) := by
  show Calls _ _ _ _ (Ret w (.tuple #[.int .i64 (bit (decide (x ≤ y))), .int .i64 (0)]))
  go_enter Try.func80, Try.ntmps80
  go_wp2_with (first | (go_at_call 117; refine (compared_12 _ _ _).mono ?_; rintro e w' ⟨rfl, n1, rfl⟩))
  go_ret2
  exact Ret.mk _ rfl
set_option maxRecDepth 100000 in
set_option maxHeartbeats 400000 in
theorem dya_13 (x y : Int) (w : World) (hx : -9223372036854775808 ≤ x ∧ x ≤ 9223372036854775807) (hy : -9223372036854775808 ≤ y ∧ y ≤ 9223372036854775807) : Calls Try.prog 80 #[.int .i64 13, .int .i64 x, .int .i64 y] w (Ret w (.tuple #[.int .i64 (dyV 13 x y), .int .i64 (dyE 13 x y)])) := by
  show Calls _ _ _ _ (Ret w (.tuple #[.int .i64 (bit (decide (y ≤ x))), .int .i64 (0)]))
  go_enter Try.func80, Try.ntmps80
  go_wp2_with (first | (go_at_call 117; refine (compared_13 _ _ _).mono ?_; rintro e w' ⟨rfl, n1, rfl⟩))
  go_ret2
  exact Ret.mk _ rfl
set_option maxRecDepth 100000 in
set_option maxHeartbeats 400000 in
theorem dya_14 (x y : Int) (w : World) (hx : -9223372036854775808 ≤ x ∧ x ≤ 9223372036854775807) (hy : -9223372036854775808 ≤ y ∧ y ≤ 9223372036854775807) : Calls Try.prog 80 #[.int .i64 14, .int .i64 x, .int .i64 y] w (Ret w (.tuple #[.int .i64 (dyV 14 x y), .int .i64 (dyE 14 x y)])) := by
  show Calls _ _ _ _ (Ret w (.tuple #[.int .i64 (val (Nat.gcd x.natAbs y.natAbs)), .int .i64 (err (Nat.gcd x.natAbs y.natAbs))]))
  have hb : Nat.gcd x.natAbs y.natAbs ≤ 9223372036854775808 := by
    by_cases h : x.natAbs = 0
    · rw [h, Nat.gcd_zero_left]; omega
    · exact Nat.le_trans (Nat.gcd_le_left _ (by omega)) (by omega)
  go_enter Try.func80, Try.ntmps80
  go_wp2_with (first | (go_at_call 111; refine (whole_any _ _ (by omega)).mono ?_; rintro e w' ⟨rfl, n1, rfl⟩) | (go_at_call 118; refine (gcd_any _ _ _ (by omega) (by omega)).mono ?_; rintro e w' ⟨rfl, n1, rfl⟩) | (go_at_call 110; refine (plain_any _ _ (by omega) (by omega)).mono ?_; rintro e w' ⟨rfl, n1, rfl⟩))
  go_ret2
  exact Ret.mk _ rfl
set_option maxRecDepth 100000 in
set_option maxHeartbeats 400000 in
theorem dya_15 (x y : Int) (w : World) (hx : -9223372036854775808 ≤ x ∧ x ≤ 9223372036854775807) (hy : -9223372036854775808 ≤ y ∧ y ≤ 9223372036854775807) : Calls Try.prog 80 #[.int .i64 15, .int .i64 x, .int .i64 y] w (Ret w (.tuple #[.int .i64 (dyV 15 x y), .int .i64 (dyE 15 x y)])) := by
  show Calls _ _ _ _ (Ret w (.tuple #[.int .i64 (val (Nat.lcm x.natAbs y.natAbs)), .int .i64 (err (Nat.lcm x.natAbs y.natAbs))]))
  go_enter Try.func80, Try.ntmps80
  go_wp2_with (first | (go_at_call 111; refine (whole_any _ _ (by omega)).mono ?_; rintro e w' ⟨rfl, n1, rfl⟩) | (go_at_call 119; refine (lcm_any _ _ _ (by omega) (by omega)).mono ?_; rintro e w' ⟨rfl, n1, rfl⟩))
  go_ret2
  exact Ret.mk _ rfl
set_option maxRecDepth 100000 in
set_option maxHeartbeats 400000 in
theorem dya_16 (x y : Int) (w : World) (hx : -9223372036854775808 ≤ x ∧ x ≤ 9223372036854775807) (hy : -9223372036854775808 ≤ y ∧ y ≤ 9223372036854775807) : Calls Try.prog 80 #[.int .i64 16, .int .i64 x, .int .i64 y] w (Ret w (.tuple #[.int .i64 (dyV 16 x y), .int .i64 (dyE 16 x y)])) := by
  by_cases h : (x = 0 ∨ x = 1) ∧ (y = 0 ∨ y = 1)
  · have hv : dyV 16 x y = bit (x + y == 0) ∧ dyE 16 x y = 0 := by simp [dyV, dyE, bits_yes h]
    rw [hv.1, hv.2]
    clear hv
    obtain ⟨rfl | rfl, rfl | rfl⟩ := h
    all_goals
      go_enter Try.func80, Try.ntmps80
      go_wp2_with (first | (go_at_call 120; refine (truth_any _ _).mono ?_; rintro e w' ⟨rfl, n1, rfl⟩))
      go_ret2
      exact Ret.mk _ rfl
  · have hv : dyV 16 x y = 0 ∧ dyE 16 x y = 10 := by simp [dyV, dyE, bits_no h]
    rw [hv.1, hv.2]
    clear hv
    by_cases h1 : x = 0 ∨ x = 1
    · have hb := u64_big hy (fun k => h ⟨h1, k⟩)
      have hs := u64_small h1
      have d1 : decide (1 < IntKind.u64.wrap x) = false := by simp; omega
      have d2 : decide (1 < IntKind.u64.wrap y) = true := by simp; omega
      clear h h1
      go_enter Try.func80, Try.ntmps80
      go_wp2
      go_ret2
      exact Ret.mk0 rfl
    · have hb := u64_big hx h1
      have d2 : decide (1 < IntKind.u64.wrap x) = true := by simp; omega
      clear h h1
      go_enter Try.func80, Try.ntmps80
      go_wp2
      go_ret2
      exact Ret.mk0 rfl
set_option maxRecDepth 100000 in
set_option maxHeartbeats 400000 in
theorem dya_17 (x y : Int) (w : World) (hx : -9223372036854775808 ≤ x ∧ x ≤ 9223372036854775807) (hy : -9223372036854775808 ≤ y ∧ y ≤ 9223372036854775807) : Calls Try.prog 80 #[.int .i64 17, .int .i64 x, .int .i64 y] w (Ret w (.tuple #[.int .i64 (dyV 17 x y), .int .i64 (dyE 17 x y)])) := by
  by_cases h : (x = 0 ∨ x = 1) ∧ (y = 0 ∨ y = 1)
  · have hv : dyV 17 x y = bit (decide (x + y < 2)) ∧ dyE 17 x y = 0 := by simp [dyV, dyE, bits_yes h]
    rw [hv.1, hv.2]
    clear hv
    obtain ⟨rfl | rfl, rfl | rfl⟩ := h
    all_goals
      go_enter Try.func80, Try.ntmps80
      go_wp2_with (first | (go_at_call 120; refine (truth_any _ _).mono ?_; rintro e w' ⟨rfl, n1, rfl⟩))
      go_ret2
      exact Ret.mk _ rfl
  · have hv : dyV 17 x y = 0 ∧ dyE 17 x y = 10 := by simp [dyV, dyE, bits_no h]
    rw [hv.1, hv.2]
    clear hv
    by_cases h1 : x = 0 ∨ x = 1
    · have hb := u64_big hy (fun k => h ⟨h1, k⟩)
      have hs := u64_small h1
      have d1 : decide (1 < IntKind.u64.wrap x) = false := by simp; omega
      have d2 : decide (1 < IntKind.u64.wrap y) = true := by simp; omega
      clear h h1
      go_enter Try.func80, Try.ntmps80
      go_wp2
      go_ret2
      exact Ret.mk0 rfl
    · have hb := u64_big hx h1
      have d2 : decide (1 < IntKind.u64.wrap x) = true := by simp; omega
      clear h h1
      go_enter Try.func80, Try.ntmps80
      go_wp2
      go_ret2
      exact Ret.mk0 rfl
set_option maxRecDepth 100000 in
set_option maxHeartbeats 400000 in
theorem dya_20 (x y : Int) (w : World) (hx : -9223372036854775808 ≤ x ∧ x ≤ 9223372036854775807) (hy : -9223372036854775808 ≤ y ∧ y ≤ 9223372036854775807) : Calls Try.prog 80 #[.int .i64 20, .int .i64 x, .int .i64 y] w (Ret w (.tuple #[.int .i64 (dyV 20 x y), .int .i64 (dyE 20 x y)])) := by
  show Calls _ _ _ _ (Ret w (.tuple #[.int .i64 (pwV x y), .int .i64 (pwE x y)]))
  go_enter Try.func80, Try.ntmps80
  go_wp2_with (first | (go_at_call 121; refine (power_any _ _ _ (by omega) (by omega)).mono ?_; rintro e w' ⟨rfl, n1, rfl⟩))
  go_ret2
  exact Ret.mk _ rfl
set_option maxRecDepth 100000 in
set_option maxHeartbeats 400000 in
theorem dya_21 (x y : Int) (w : World) (hx : -9223372036854775808 ≤ x ∧ x ≤ 9223372036854775807) (hy : -9223372036854775808 ≤ y ∧ y ≤ 9223372036854775807) : Calls Try.prog 80 #[.int .i64 21, .int .i64 x, .int .i64 y] w (Ret w (.tuple #[.int .i64 (dyV 21 x y), .int .i64 (dyE 21 x y)])) := by
  show Calls _ _ _ _ (Ret w (.tuple #[.int .i64 (chV x y), .int .i64 (chE x y)]))
  go_enter Try.func80, Try.ntmps80
  go_wp2_with (first | (go_at_call 122; refine (choices_any _ _ _ (by omega) (by omega)).mono ?_; rintro e w' ⟨rfl, n1, rfl⟩))
  go_ret2
  exact Ret.mk _ rfl
set_option maxRecDepth 100000 in
set_option maxHeartbeats 400000 in
theorem dya_18 (x y : Int) (w : World) (hx : -9223372036854775808 ≤ x ∧ x ≤ 9223372036854775807) (hy : -9223372036854775808 ≤ y ∧ y ≤ 9223372036854775807) : Calls Try.prog 80 #[.int .i64 18, .int .i64 x, .int .i64 y] w (Ret w (.tuple #[.int .i64 (dyV 18 x y), .int .i64 (dyE 18 x y)])) := by
  rw [(dy_row (by omega)).1, (dy_row (by omega)).2]
  have hr : rowB 18 = true := rowB_yes (by omega) (by omega)
  go_enter Try.func80, Try.ntmps80
  go_wp2_with (first | (go_at_call 115; refine (row_any _ _).mono ?_; rintro e w' ⟨rfl, n1, rfl⟩))
  go_ret2
  exact Ret.mk _ rfl
set_option maxRecDepth 100000 in
set_option maxHeartbeats 400000 in
theorem dya_19 (x y : Int) (w : World) (hx : -9223372036854775808 ≤ x ∧ x ≤ 9223372036854775807) (hy : -9223372036854775808 ≤ y ∧ y ≤ 9223372036854775807) : Calls Try.prog 80 #[.int .i64 19, .int .i64 x, .int .i64 y] w (Ret w (.tuple #[.int .i64 (dyV 19 x y), .int .i64 (dyE 19 x y)])) := by
  rw [(dy_row (by omega)).1, (dy_row (by omega)).2]
  have hr : rowB 19 = true := rowB_yes (by omega) (by omega)
  go_enter Try.func80, Try.ntmps80
  go_wp2_with (first | (go_at_call 115; refine (row_any _ _).mono ?_; rintro e w' ⟨rfl, n1, rfl⟩))
  go_ret2
  exact Ret.mk _ rfl
set_option maxRecDepth 100000 in
set_option maxHeartbeats 800000 in
theorem dya_out (op x y : Int) (w : World) (h : ¬ (1 ≤ op ∧ op ≤ 21)) : Calls Try.prog 80 #[.int .i64 op, .int .i64 x, .int .i64 y] w (Ret w (.tuple #[.int .i64 (dyV op x y), .int .i64 (dyE op x y)])) := by
  rw [(dy_out h).1, (dy_out h).2]
  have hr : rowB op = false := rowB_no h
  have hd : op ≤ 0 ∨ 22 ≤ op := by omega
  clear h
  rcases hd with h | h
  all_goals
    go_enter Try.func80, Try.ntmps80
    go_wp2_with (first | (go_at_call 115; refine (row_any _ _).mono ?_; rintro e w' ⟨rfl, n1, rfl⟩))
    go_ret2
    exact Ret.mk _ rfl
theorem dyad_any (op x y : Int) (w : World) (hx : -9223372036854775808 ≤ x ∧ x ≤ 9223372036854775807) (hy : -9223372036854775808 ≤ y ∧ y ≤ 9223372036854775807) : Calls Try.prog 80 #[.int .i64 op, .int .i64 x, .int .i64 y] w (Ret w (.tuple #[.int .i64 (dyV op x y), .int .i64 (dyE op x y)])) := by
  by_cases h : 1 ≤ op ∧ op ≤ 21
  · have : op = 1 ∨ op = 2 ∨ op = 3 ∨ op = 4 ∨ op = 5 ∨ op = 6 ∨ op = 7 ∨ op = 8 ∨ op = 9 ∨ op = 10 ∨ op = 11 ∨ op = 12 ∨ op = 13 ∨ op = 14 ∨ op = 15 ∨ op = 16 ∨ op = 17 ∨ op = 18 ∨ op = 19 ∨ op = 20 ∨ op = 21 := by omega
    rcases this with rfl | rfl | rfl | rfl | rfl | rfl | rfl | rfl | rfl | rfl | rfl | rfl | rfl | rfl | rfl | rfl | rfl | rfl | rfl | rfl | rfl
    · exact dya_1 x y w hx hy
    · exact dya_2 x y w hx hy
    · exact dya_3 x y w hx hy
    · exact dya_4 x y w hx hy
    · exact dya_5 x y w hx hy
    · exact dya_6 x y w hx hy
    · exact dya_7 x y w hx hy
    · exact dya_8 x y w hx hy
    · exact dya_9 x y w hx hy
    · exact dya_10 x y w hx hy
    · exact dya_11 x y w hx hy
    · exact dya_12 x y w hx hy
    · exact dya_13 x y w hx hy
    · exact dya_14 x y w hx hy
    · exact dya_15 x y w hx hy
    · exact dya_16 x y w hx hy
    · exact dya_17 x y w hx hy
    · exact dya_18 x y w hx hy
    · exact dya_19 x y w hx hy
    · exact dya_20 x y w hx hy
    · exact dya_21 x y w hx hy
  · exact dya_out op x y w h
end Go.Proofs.Ytdedbfbkakofgaa
