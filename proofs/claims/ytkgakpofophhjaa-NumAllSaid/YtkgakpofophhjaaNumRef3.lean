/- Contracts of the reference's divided, residue, factorial, power, ways, bits. -/
import Derived.Test.YtkgakpofophhjaaNumRef2
namespace Go.Proofs.Ytkgakpofophhjaa
open Go.RowKit
set_option linter.unusedVariables false
set_option linter.unusedSimpArgs false

set_option maxHeartbeats 400000 in
theorem rdivided_any (x y : Int) (w : World) (hx : -9223372036854775808 ≤ x ∧ x ≤ 9223372036854775807) (hy : -9223372036854775808 ≤ y ∧ y ≤ 9223372036854775807) (h0 : ¬ y = 0) :
    Calls Try.prog 55 #[.int .i64 x, .int .i64 y] w (Ret w (.tuple #[.int .i64 (val (x.fdiv y)), .int .i64 (err (x.fdiv y))])) := by
  have hs := (upq_sg (x := x) h0).1
  rw [← hs]
  clear hs
  have A1 := Lib.hid (fun w => rsize_any x w hx)
  have A2 := Lib.hid (fun w => rsize_any y w hy)
  have A3 := Lib.hid (fun b n w h => rsigned_any b n w h)
  have hX : x.natAbs ≤ 9223372036854775808 := by omega
  have hY : y.natAbs ≤ 9223372036854775808 := by omega
  have hY1 : 1 ≤ y.natAbs := by omega
  have gy : (y == 0) = false := by simpa using h0
  generalize x.natAbs = X at *
  generalize y.natAbs = Y at *
  have hq : (X : Int) / (Y : Int) = ((X / Y : Nat) : Int) := by simp
  have hm : (X : Int) % (Y : Int) = ((X % Y : Nat) : Int) := by simp
  have hk : X / Y ≤ X := Nat.div_le_self _ _
  unfold upq
  generalize X / Y = k at *
  generalize X % Y = m at *
  have hYi : (1 : Int) ≤ (Y : Int) := by omega
  have hYn : ¬ (Y : Int) = 0 := by omega
  have F0 := Lib.hid (A3.out false)
  have F1 := Lib.hid (A3.out true)
  clear A3
  obtain ⟨b, hb⟩ : ∃ b, (decide (x < 0) != decide (y < 0)) = b := ⟨_, rfl⟩
  rw [hb]
  have hb' : (!decide (x < 0) == decide (y < 0)) = b := hb
  clear hb
  cases b
  · simp only [Bool.false_and, Bool.false_eq_true, if_false]
    go_enter Try.func55, Try.ntmps55
    go_wp2_with fail
    refine (A1.out _).mono ?_; rintro e w' ⟨rfl, n1, rfl⟩
    go_wp2_with fail
    refine (A2.out _).mono ?_; rintro e w' ⟨rfl, n2, rfl⟩
    go_wp2_with fail
    refine (F0.out k _ (by omega)).mono ?_; rintro e w' ⟨rfl, n3, rfl⟩
    go_wp2
    go_ret2
    exact Ret.mk _ rfl
  by_cases mz : m = 0
  · subst mz
    simp only [show ((0 : Nat) != 0) = false from rfl, Bool.and_false, Bool.false_eq_true, if_false]
    by_cases kz : k = 0
    · subst kz
      show Calls _ _ _ _ (Ret w (.tuple #[.int .i64 (val (sg false 0)), .int .i64 (err (sg false 0))]))
      go_enter Try.func55, Try.ntmps55
      go_wp2_with fail
      refine (A1.out _).mono ?_; rintro e w' ⟨rfl, n1, rfl⟩
      go_wp2_with fail
      refine (A2.out _).mono ?_; rintro e w' ⟨rfl, n2, rfl⟩
      go_wp2_with fail
      refine (F0.out 0 _ (by omega)).mono ?_
      rintro e w' ⟨rfl, n3, rfl⟩
      go_wp2
      go_ret2
      exact Ret.mk _ rfl
    · have kp : (0 : Int) < k := by omega
      have kn : decide (0 < k) = true := by simp; omega
      clear kz
      go_enter Try.func55, Try.ntmps55
      go_wp2_with fail
      refine (A1.out _).mono ?_; rintro e w' ⟨rfl, n1, rfl⟩
      go_wp2_with fail
      refine (A2.out _).mono ?_; rintro e w' ⟨rfl, n2, rfl⟩
      go_wp2_with fail
      refine (F1.out k _ (by omega)).mono ?_
      rintro e w' ⟨rfl, n3, rfl⟩
      go_wp2
      go_ret2
      exact Ret.mk _ rfl
  · have mz' : (m != 0) = true := by simpa using mz
    have mzi : ((m : Int) != 0) = true := by simpa using mz
    simp only [mz', Bool.and_true, if_true]
    clear mz mz'
    have kp : (0 : Int) < (k : Int) + 1 := by omega
    go_enter Try.func55, Try.ntmps55
    go_wp2_with fail
    refine (A1.out _).mono ?_; rintro e w' ⟨rfl, n1, rfl⟩
    go_wp2_with fail
    refine (A2.out _).mono ?_; rintro e w' ⟨rfl, n2, rfl⟩
    go_wp2_with fail
    refine (F1.out (k + 1) _ (by omega)).mono ?_
    rintro e w' ⟨rfl, n3, rfl⟩
    go_wp2
    go_ret2
    exact Ret.mk _ rfl
end Go.Proofs.Ytkgakpofophhjaa
