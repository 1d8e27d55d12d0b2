/- The walk of the statement on quotients and what is left. -/
import Derived.Test.YtkgakpofophhjaaNumBegun
namespace Go.Proofs.Ytkgakpofophhjaa
open Go.RowKit
set_option linter.unusedVariables false
set_option linter.unusedSimpArgs false

theorem pick_mk {p q : Prop} [Decidable p] [Decidable q] (h : p ↔ q) : (!decide p == decide q) = false := by
  by_cases hp : p <;> by_cases hq : q <;> simp_all
theorem pick_mk' {p q : Prop} [Decidable p] [Decidable q] (h : ¬ (p ↔ q)) : (!decide p == decide q) = true := by
  by_cases hp : p <;> by_cases hq : q <;> simp_all
theorem fdiv_fit {x y : Int} (hx : -9223372036854775808 ≤ x ∧ x ≤ 9223372036854775807) (hy : -9223372036854775808 ≤ y ∧ y ≤ 9223372036854775807) (h0 : ¬ y = 0) (hm : ¬ (x = -9223372036854775808 ∧ y = -1)) : fit (x.fdiv y) = true := by
  by_cases h1 : y = -1
  · subst h1; rw [(fdiv_m1 x).1]; exact fit_of (by omega)
  · by_cases hz : x.tmod y = 0
    · exact (div_zero hx h0 h1 hz).2.2.symm
    · by_cases hs : (x.tmod y < 0 ↔ y < 0)
      · exact (div_stay hx h0 h1 (.inr (pick_mk hs))).2.2.symm
      · exact (div_down hx h0 h1 hy ⟨by simpa using hz, pick_mk' hs⟩).2.2.symm
theorem divides_plain {x y q r : Int} (hx : -9223372036854775808 ≤ x ∧ x ≤ 9223372036854775807) (h0 : r + y * q = x) (hr : -9223372036854775808 ≤ r ∧ r ≤ 9223372036854775807) :
    (wrap64 (wrap64 (q * y) + r) == x) = true := by
  rw [Int.mul_comm] at h0
  generalize q * y = m at *
  have : wrap64 (wrap64 m + r) = x := by unfold wrap64; omega
  simpa using this
set_option maxRecDepth 100000 in
set_option maxHeartbeats 800000 in
theorem walkNumDivides (x y : Int) (hx : -9223372036854775808 ≤ x ∧ x ≤ 9223372036854775807) (hy : -9223372036854775808 ≤ y ∧ y ≤ 9223372036854775807) (w : World) :
    Calls Try.prog 5 #[.int .i64 x, .int .i64 y] w (RetG w (.bool true)) := by
  by_cases h0 : y = 0
  · subst h0
    have A1 := Lib.hid (fun w => dyad_at (op := 4) (x := x) (y := 0) (v := 0) (e := 10) w (by omega) (by omega) (by simp [dyV]) (by simp [dyE]))
    have A2 := Lib.hid (fun w => dyad_at (op := 5) (x := 0) (y := x) (v := x) (e := 0) w (by omega) (by omega) (by simp [dyV]) (by simp [dyE]))
    go_enter Try.func5, Try.ntmps5
    go_wp2_with fail
    refine (begun_any _).mono ?_; rintro e w' ⟨rfl, n0, rfl⟩
    go_wp2_with fail
    refine (A1.out _).mono ?_; rintro e w' ⟨rfl, n1, rfl⟩
    go_wp2_with fail
    refine (A2.out _).mono ?_; rintro e w' ⟨rfl, n2, rfl⟩
    go_wp2
    go_ret
    exact RetG.mk rfl (grown_drewN _ _)
  have g0 : (y == 0) = false := by simpa using h0
  by_cases hm : x = -9223372036854775808 ∧ y = -1
  · obtain ⟨rfl, rfl⟩ := hm
    have A1 := Lib.hid (fun w => dyad_at (op := 4) (x := -9223372036854775808) (y := -1) (v := 0) (e := 14) w (by omega) (by omega) (by decide) (by decide))
    have A2 := Lib.hid (fun w => dyad_at (op := 5) (x := -1) (y := -9223372036854775808) (v := 0) (e := 0) w (by omega) (by omega) (by decide) (by decide))
    go_enter Try.func5, Try.ntmps5
    go_wp2_with fail
    refine (begun_any _).mono ?_; rintro e w' ⟨rfl, n0, rfl⟩
    go_wp2_with fail
    refine (A1.out _).mono ?_; rintro e w' ⟨rfl, n1, rfl⟩
    go_wp2_with fail
    refine (A2.out _).mono ?_; rintro e w' ⟨rfl, n2, rfl⟩
    go_wp2
    go_ret
    exact RetG.mk rfl (grown_drewN _ _)
  · obtain ⟨s1, s2, s3⟩ := fmod_spec x y h0
    have hf := fdiv_fit hx hy h0 hm
    obtain ⟨q, Hq⟩ : ∃ q, Hid (x.fdiv y = q) := ⟨_, rfl⟩
    obtain ⟨r, Hr⟩ : ∃ r, Hid (x.fmod y = r) := ⟨_, rfl⟩
    rw [Hq.out] at s1 hf
    rw [Hr.out] at s1 s2 s3
    have A1 := Lib.hid (fun w => dyad_at (op := 4) (x := x) (y := y) (v := q) (e := 0) w (by omega) (by omega) (by simp only [dyV]; simp [h0]; rw [Hq.out, val_of hf]) (by simp only [dyE]; simp [h0]; rw [Hq.out, err_of hf]))
    have A2 := Lib.hid (fun w => dyad_at (op := 5) (x := y) (y := x) (v := r) (e := 0) w (by omega) (by omega) (by simp only [dyV]; simp [h0]; rw [Hr.out]) (by simp [dyE]))
    have hl := divides_plain hx s1 (by omega)
    have hnm : (x == -9223372036854775808) = false ∨ (x == -9223372036854775808) = true ∧ (y == -1) = false := by
      by_cases a : x = -9223372036854775808
      · right; subst a; simpa using hm
      · left; simpa using a
    clear s1 hm hf
    by_cases hp : 0 < y
    · obtain ⟨r1, r2⟩ := s2 hp
      clear s2 s3 h0
      rcases hnm with m1 | ⟨m1, m2⟩
      all_goals
        go_enter Try.func5, Try.ntmps5
        go_wp2_with fail
        refine (begun_any _).mono ?_; rintro e w' ⟨rfl, n0, rfl⟩
        go_wp2_with fail
        refine (A1.out _).mono ?_; rintro e w' ⟨rfl, n1, rfl⟩
        go_wp2_with fail
        refine (A2.out _).mono ?_; rintro e w' ⟨rfl, n2, rfl⟩
        go_wp2
        go_ret
        exact RetG.mk rfl (grown_drewN _ _)
    · have hn : y < 0 := by omega
      obtain ⟨r1, r2⟩ := s3 hn
      clear s2 s3 h0
      rcases hnm with m1 | ⟨m1, m2⟩
      all_goals
        go_enter Try.func5, Try.ntmps5
        go_wp2_with fail
        refine (begun_any _).mono ?_; rintro e w' ⟨rfl, n0, rfl⟩
        go_wp2_with fail
        refine (A1.out _).mono ?_; rintro e w' ⟨rfl, n1, rfl⟩
        go_wp2_with fail
        refine (A2.out _).mono ?_; rintro e w' ⟨rfl, n2, rfl⟩
        go_wp2
        go_ret
        exact RetG.mk rfl (grown_drewN _ _)
end Go.Proofs.Ytkgakpofophhjaa
