/- Contracts of the reference's residue, bits, factorial. -/
import Derived.Test.YtkgakpofophhjaaNumRef3
namespace Go.Proofs.Ytkgakpofophhjaa
open Go.RowKit
set_option linter.unusedVariables false
set_option linter.unusedSimpArgs false

set_option maxHeartbeats 400000 in
theorem rresidue_any (x y : Int) (w : World) (hx : -9223372036854775808 ≤ x ∧ x ≤ 9223372036854775807) (hy : -9223372036854775808 ≤ y ∧ y ≤ 9223372036854775807) (h0 : ¬ x = 0) :
    Calls Try.prog 56 #[.int .i64 x, .int .i64 y] w (Ret w (.int .i64 (y.fmod x))) := by
  have hs := (upq_sg (x := y) h0).2
  simp only at hs
  rw [hs]
  clear hs
  have A1 := Lib.hid (fun w => rsize_any x w hx)
  have A2 := Lib.hid (fun w => rsize_any y w hy)
  have hX : x.natAbs ≤ 9223372036854775808 := by omega
  have hY : y.natAbs ≤ 9223372036854775808 := by omega
  have hX1 : 1 ≤ x.natAbs := by omega
  have gx : (x == 0) = false := by simpa using h0
  have hml := Nat.mod_lt y.natAbs (show 0 < x.natAbs by omega)
  have hxa : x < 0 → x.natAbs = -x := by omega
  have hxb : ¬ x < 0 → x.natAbs ≤ 9223372036854775807 := by omega
  have hxc : x < 0 ∨ x.natAbs ≤ 9223372036854775807 := by omega
  generalize x.natAbs = X at *
  generalize y.natAbs = Y at *
  have hm : (Y : Int) % (X : Int) = ((Y % X : Nat) : Int) := by simp
  generalize Y % X = m at *
  have hXi : (1 : Int) ≤ (X : Int) := by omega
  have hXn : ¬ (X : Int) = 0 := by omega
  clear hxa hxb h0
  have wn : ∀ r : Nat, r ≤ 9223372036854775808 → Hid (wrap64 (IntKind.u64.wrap (-(r : Int))) = -(r : Int)) := by
    intro r hr; show _ = _; rw [IntKind.wrap_u64]; unfold wrap64; omega
  by_cases mz : m = 0
  · subst mz
    simp only [ne_eq, not_true_eq_false, false_and, if_false]
    have e0 : (if x < 0 then -((0 : Nat) : Int) else ((0 : Nat) : Int)) = 0 := by split <;> rfl
    rw [e0]
    clear e0 wn hxc
    by_cases sx : x < 0
    · clear hml
      go_enter Try.func56, Try.ntmps56
      go_wp2_with fail
      refine (A2.out _).mono ?_; rintro e w' ⟨rfl, n1, rfl⟩
      go_wp2_with fail
      refine (A1.out _).mono ?_; rintro e w' ⟨rfl, n2, rfl⟩
      go_wp2
      go_ret
      exact Ret.mk _ rfl
    · clear hml
      go_enter Try.func56, Try.ntmps56
      go_wp2_with fail
      refine (A2.out _).mono ?_; rintro e w' ⟨rfl, n1, rfl⟩
      go_wp2_with fail
      refine (A1.out _).mono ?_; rintro e w' ⟨rfl, n2, rfl⟩
      go_wp2
      go_ret
      exact Ret.mk _ rfl
  have mzi : ((m : Int) != 0) = true := by simpa using mz
  have mzj : ((Y : Int) % (X : Int) != 0) = true := by rw [hm]; exact mzi
  have mzk : ((Y : Int) % (X : Int) == 0) = false := by rw [hm]; simpa using mz
  have mzl : ¬ (Y : Int) % (X : Int) = 0 := by rw [hm]; omega
  have wm := wn m (by omega)
  by_cases sx : x < 0 <;> by_cases sy : y < 0
  · have e : (if x < 0 then -((if m ≠ 0 ∧ (decide (x < 0) != decide (y < 0)) = true then X - m else m : Nat) : Int) else ((if m ≠ 0 ∧ (decide (x < 0) != decide (y < 0)) = true then X - m else m : Nat) : Int)) = -(m : Int) := by simp [sx, sy]
    rw [e]
    clear e wn mz
    have dx := decide_eq_true sx
    have dy := decide_eq_true sy
    · skip
      go_enter Try.func56, Try.ntmps56
      go_wp2_with fail
      refine (A2.out _).mono ?_; rintro e w' ⟨rfl, n1, rfl⟩
      go_wp2_with fail
      refine (A1.out _).mono ?_; rintro e w' ⟨rfl, n2, rfl⟩
      go_wp2
      go_ret
      exact Ret.mk _ (one_ wm.out)
  · have e : (if x < 0 then -((if m ≠ 0 ∧ (decide (x < 0) != decide (y < 0)) = true then X - m else m : Nat) : Int) else ((if m ≠ 0 ∧ (decide (x < 0) != decide (y < 0)) = true then X - m else m : Nat) : Int)) = -((X - m : Nat) : Int) := by simp [sx, sy, mz]
    rw [e]
    have hsub : (X : Int) - (m : Int) = ((X - m : Nat) : Int) := by omega
    have wr := wn (X - m) (by omega)
    have hr : X - m ≤ 9223372036854775808 := by omega
    clear e wn mz
    have dx := decide_eq_true sx
    have dy := decide_eq_false sy
    generalize X - m = r at *
    · skip
      go_enter Try.func56, Try.ntmps56
      go_wp2_with fail
      refine (A2.out _).mono ?_; rintro e w' ⟨rfl, n1, rfl⟩
      go_wp2_with fail
      refine (A1.out _).mono ?_; rintro e w' ⟨rfl, n2, rfl⟩
      go_wp2
      go_ret
      exact Ret.mk _ (one_ wr.out)
  · have e : (if x < 0 then -((if m ≠ 0 ∧ (decide (x < 0) != decide (y < 0)) = true then X - m else m : Nat) : Int) else ((if m ≠ 0 ∧ (decide (x < 0) != decide (y < 0)) = true then X - m else m : Nat) : Int)) = ((X - m : Nat) : Int) := by simp [sx, sy, mz]
    rw [e]
    have hsub : (X : Int) - (m : Int) = ((X - m : Nat) : Int) := by omega
    have hr : X - m ≤ 9223372036854775807 := by omega
    clear e wn mz
    have dx := decide_eq_false sx
    have dy := decide_eq_true sy
    generalize X - m = r at *
    · skip
      go_enter Try.func56, Try.ntmps56
      go_wp2_with fail
      refine (A2.out _).mono ?_; rintro e w' ⟨rfl, n1, rfl⟩
      go_wp2_with fail
      refine (A1.out _).mono ?_; rintro e w' ⟨rfl, n2, rfl⟩
      go_wp2
      go_ret
      exact Ret.mk _ rfl
  · have e : (if x < 0 then -((if m ≠ 0 ∧ (decide (x < 0) != decide (y < 0)) = true then X - m else m : Nat) : Int) else ((if m ≠ 0 ∧ (decide (x < 0) != decide (y < 0)) = true then X - m else m : Nat) : Int)) = (m : Int) := by simp [sx, sy]
    rw [e]
    have hr : m ≤ 9223372036854775807 := by omega
    clear e wn mz
    have dx := decide_eq_false sx
    have dy := decide_eq_false sy
    · skip
      go_enter Try.func56, Try.ntmps56
      go_wp2_with fail
      refine (A2.out _).mono ?_; rintro e w' ⟨rfl, n1, rfl⟩
      go_wp2_with fail
      refine (A1.out _).mono ?_; rintro e w' ⟨rfl, n2, rfl⟩
      go_wp2
      go_ret
      exact Ret.mk _ rfl
set_option maxHeartbeats 400000 in
theorem rbits_any (x y : Int) (w : World) : Calls Try.prog 59 #[.int .i64 x, .int .i64 y] w (Ret w (.bool (bitsOk x y))) := by
  by_cases h : (x = 0 ∨ x = 1) ∧ (y = 0 ∨ y = 1)
  · rw [bits_yes h]
    obtain ⟨rfl | rfl, rfl | rfl⟩ := h
    all_goals
      go_enter Try.func59, Try.ntmps59
      go_wp2
      go_ret
      exact Ret.mk0 rfl
  · rw [bits_no h]
    have hc : ((x == 0) = false ∧ (x == 1) = false) ∨ ((x = 0 ∨ x = 1) ∧ (y == 0) = false ∧ (y == 1) = false) := by
      by_cases a : x = 0 ∨ x = 1
      · right; exact ⟨a, by simp; omega, by simp; omega⟩
      · left; exact ⟨by simp; omega, by simp; omega⟩
    clear h
    rcases hc with ⟨h1, h2⟩ | ⟨rfl | rfl, h1, h2⟩
    all_goals
      go_enter Try.func59, Try.ntmps59
      go_wp2
      go_ret
      exact Ret.mk0 rfl
set_option maxHeartbeats 400000 in
theorem rfactorial_any (y : Int) (w : World) (hy : -9223372036854775808 ≤ y ∧ y ≤ 9223372036854775807) :
    Calls Try.prog 53 #[.int .i64 y] w (Ret w (.tuple #[.int .i64 (facV y), .int .i64 (facE y)])) := by
  by_cases h0 : y < 0
  · rw [(facV_neg h0).1, (facV_neg h0).2]
    go_enter Try.func53, Try.ntmps53
    go_wp2
    go_ret2
    exact Ret.mk0 rfl
  obtain ⟨n, rfl⟩ := Int.eq_ofNat_of_zero_le (show 0 ≤ y by omega)
  obtain ⟨fv, fe, HV, HE⟩ : ∃ fv fe, Hid (facV (n : Int) = fv) ∧ Hid (facE (n : Int) = fe) := ⟨_, _, rfl, rfl⟩
  rw [HV.out, HE.out]
  go_enter Try.func53, Try.ntmps53
  go_wp2
  go_loopw [4, 5] (fun p i wr => ∃ k : Nat, 2 ≤ k ∧ (k ≤ n + 1 ∨ k = 2) ∧ k ≤ 21 ∧ i = .int .i64 k ∧ p = .int .i64 (fac (k - 1)) ∧ ∃ q, wr = w.drewN q) (fun _ i _ => 22 - (intOf i).toNat)
  case atStart => exact ⟨2, by omega, by omega, by omega, rfl, by rw [fac_two], 0, rfl⟩
  case round =>
    obtain ⟨k, hk2, hkn, hk, rfl, rfl, q, rfl⟩ := hrel
    have hb := fac_le (n := k - 1) (by omega)
    have hs := Lib.hid (fac_step k hk2)
    by_cases hlt : k ≤ n
    · by_cases h20 : k ≤ 20
      · have hb2 := fac_le (n := k) (by omega)
        have A := Lib.hid (fun w => rtimes_any (fac (k - 1) : Int) (k : Int) w (by omega) (by omega))
        rw [hs.out, val_of (fit_of (n := (fac k : Int)) (by omega)), err_of (fit_of (n := (fac k : Int)) (by omega))] at A
        go_wp2_with fail
        refine (A.out _).mono ?_; rintro e w' ⟨rfl, n1, rfl⟩
        go_wp2
        go_roundw
        case rel => exact ⟨k + 1, by omega, by omega, by omega, by go_num, rfl, _, rfl⟩
        case measure => simp [intOf]; omega
      · have hk21 : k = 21 := by omega
        subst hk21
        have A := Lib.hid (fun w => rtimes_any (fac (21 - 1) : Int) ((21 : Nat) : Int) w (by omega) (by omega))
        have hf : fit (fac 21 : Int) = false := by decide
        rw [hs.out, val_not hf, err_not hf] at A
        have hfin := facV_big (y := (n : Int)) (by omega)
        rw [HV.out, HE.out] at hfin
        obtain ⟨rfl, rfl⟩ := hfin
        clear hf hs
        go_wp2_with fail
        refine (A.out _).mono ?_; rintro e w' ⟨rfl, n1, rfl⟩
        go_wp2
        go_ret2
        exact Ret.mk _ rfl
    · have he := Lib.hid (fac_end hk2 hkn (by omega))
      have hfin := facV_in (y := (n : Int)) (by omega) (by omega)
      rw [HV.out, HE.out, Int.toNat_natCast] at hfin
      obtain ⟨rfl, rfl⟩ := hfin
      go_wp2
      go_ret2
      exact Ret.mk _ (twi ⟨he.out, rfl⟩)
end Go.Proofs.Ytkgakpofophhjaa
