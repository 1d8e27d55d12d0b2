/- The walk of the statement on the greatest common divisor and the least common multiple. -/
import Derived.Test.YtkgakpofophhjaaNumBegun
namespace Go.Proofs.Ytkgakpofophhjaa
open Go.RowKit
set_option linter.unusedVariables false
set_option linter.unusedSimpArgs false

def dvdB (d n : Int) : Bool := decide (d ∣ n)
theorem dvdB_yes {d n : Int} (h : d ∣ n) : dvdB d n = true := by simp [dvdB, h]
theorem dvdB_no {d n : Int} (h : ¬ d ∣ n) : dvdB d n = false := by simp [dvdB, h]
theorem dvdB_iff {d n : Int} : dvdB d n = true ↔ d ∣ n := by simp [dvdB]
set_option maxHeartbeats 400000 in
theorem divides_any (d n : Int) (w : World) (h0 : ¬ d = 0) : Calls Try.prog 18 #[.int .i64 d, .int .i64 n] w (Ret w (.bool (dvdB d n))) := by
  by_cases h1 : d = -1
  · subst h1
    rw [dvdB_yes (⟨-n, by omega⟩ : (-1 : Int) ∣ n)]
    go_enter Try.func18, Try.ntmps18
    go_wp2
    go_ret
    exact Ret.mk0 rfl
  · have g1 : (d == -1) = false := by simpa using h1
    by_cases h2 : d ∣ n
    · rw [dvdB_yes h2]
      have hm : n.tmod d = 0 := Int.tmod_eq_zero_of_dvd h2
      clear h2
      go_enter Try.func18, Try.ntmps18
      go_wp2
      go_ret
      exact Ret.mk0 rfl
    · rw [dvdB_no h2]
      have hm : (n.tmod d == 0) = false := by simp; exact fun h => h2 (Int.dvd_of_tmod_eq_zero h)
      clear h2
      go_enter Try.func18, Try.ntmps18
      go_wp2
      go_ret
      exact Ret.mk0 rfl

theorem gcd_most {X Y : Nat} (hX : X ≤ 9223372036854775808) (hY : Y ≤ 9223372036854775808) : Nat.gcd X Y ≤ 9223372036854775808 := by
  by_cases h : X = 0
  · rw [h, Nat.gcd_zero_left]; exact hY
  · exact Nat.le_trans (Nat.gcd_le_left _ (by omega)) hX
theorem dvd_big {G X : Nat} (h : G ∣ X) (hG : G = 9223372036854775808) (hX : X ≤ 9223372036854775808) : X = 0 ∨ X = 9223372036854775808 := by
  obtain ⟨k, rfl⟩ := h
  subst hG
  have : k = 0 ∨ k = 1 := by omega
  rcases this with rfl | rfl <;> omega
theorem dyV14 (x y : Int) : dyV 14 x y = val (Nat.gcd x.natAbs y.natAbs) := rfl
theorem dyE14 (x y : Int) : dyE 14 x y = err (Nat.gcd x.natAbs y.natAbs) := rfl
theorem dyV15 (x y : Int) : dyV 15 x y = val (Nat.lcm x.natAbs y.natAbs) := rfl
theorem dyE15 (x y : Int) : dyE 15 x y = err (Nat.lcm x.natAbs y.natAbs) := rfl
theorem moV5 (y : Int) : moV 5 y = val y.natAbs := rfl
theorem moE5 (y : Int) : moE 5 y = err y.natAbs := rfl

set_option maxRecDepth 100000 in
set_option maxHeartbeats 2000000 in
theorem walkNumCommon (x y d : Int) (hx : -9223372036854775808 ≤ x ∧ x ≤ 9223372036854775807) (hy : -9223372036854775808 ≤ y ∧ y ≤ 9223372036854775807) (hd : -9223372036854775808 ≤ d ∧ d ≤ 9223372036854775807) (w : World) :
    Calls Try.prog 6 #[.int .i64 x, .int .i64 y, .int .i64 d] w (RetG w (.bool true)) := by
  have hm := gcd_most (X := x.natAbs) (Y := y.natAbs) (by omega) (by omega)
  by_cases hG : Nat.gcd x.natAbs y.natAbs = 9223372036854775808
  · -- too great by one: the sizes are 0 or 2^63
    have hf : fit (Nat.gcd x.natAbs y.natAbs : Int) = false := fit_not (by omega)
    have A1 := Lib.hid (fun w => dyad_at (op := 14) (x := x) (y := y) (v := 0) (e := 14) w hx hy (by rw [dyV14, val_not hf]) (by rw [dyE14, err_not hf]))
    have h1 := dvd_big (Nat.gcd_dvd_left x.natAbs y.natAbs) hG (by omega)
    have h2 := dvd_big (Nat.gcd_dvd_right x.natAbs y.natAbs) hG (by omega)
    have h3 : ¬ (x = 0 ∧ y = 0) := by rintro ⟨rfl, rfl⟩; simp at hG
    have hx' : x = 0 ∨ x = -9223372036854775808 := by omega
    have hy' : y = 0 ∨ y = -9223372036854775808 := by omega
    clear hf h1 h2 hG hm
    rcases hx' with rfl | rfl <;> rcases hy' with rfl | rfl
    · exact absurd ⟨rfl, rfl⟩ h3
    all_goals
      clear h3
      go_enter Try.func6, Try.ntmps6
      go_wp2_with fail
      refine (begun_any _).mono ?_; rintro e w' ⟨rfl, n0, rfl⟩
      go_wp2_with fail
      refine (A1.out _).mono ?_; rintro e w' ⟨rfl, n1, rfl⟩
      go_wp2
      all_goals go_ret
      all_goals exact RetG.mk rfl (grown_drewN _ _)
  have hf : fit (Nat.gcd x.natAbs y.natAbs : Int) = true := fit_of (by omega)
  by_cases h0 : x = 0 ∧ y = 0
  · obtain ⟨rfl, rfl⟩ := h0
    have A1 := Lib.hid (fun w => dyad_at (op := 14) (x := 0) (y := 0) (v := 0) (e := 0) w hx hy (by decide) (by decide))
    clear hf hG hm
    go_enter Try.func6, Try.ntmps6
    go_wp2_with fail
    refine (begun_any _).mono ?_; rintro e w' ⟨rfl, n0, rfl⟩
    go_wp2_with fail
    refine (A1.out _).mono ?_; rintro e w' ⟨rfl, n1, rfl⟩
    go_wp2
    go_ret
    exact RetG.mk rfl (grown_drewN _ _)
  have hpos : 1 ≤ Nat.gcd x.natAbs y.natAbs := by
    by_cases e : x.natAbs = 0
    · exact Nat.gcd_pos_of_pos_right _ (by omega)
    · exact Nat.gcd_pos_of_pos_left _ (by omega)
  have dx := Int.ofNat_dvd_left.2 (Nat.gcd_dvd_left x.natAbs y.natAbs)
  have dy := Int.ofNat_dvd_left.2 (Nat.gcd_dvd_right x.natAbs y.natAbs)
  have dd : d ∣ x → d ∣ y → d ∣ (Nat.gcd x.natAbs y.natAbs : Int) := fun h1 h2 =>
    Int.ofNat_dvd_right.2 (Nat.dvd_gcd (Int.natAbs_dvd_natAbs.2 h1) (Int.natAbs_dvd_natAbs.2 h2))
  have A1 := Lib.hid (fun w => dyad_at (op := 14) (x := x) (y := y) (v := (Nat.gcd x.natAbs y.natAbs : Nat)) (e := 0) w hx hy (by rw [dyV14, val_of hf]) (by rw [dyE14, err_of hf]))
  have hq1 : (x.tdiv (Nat.gcd x.natAbs y.natAbs : Nat)).natAbs = x.natAbs / Nat.gcd x.natAbs y.natAbs := by rw [Int.natAbs_tdiv]; rfl
  have hL : ¬ x = 0 → x.natAbs / Nat.gcd x.natAbs y.natAbs * y.natAbs = Nat.lcm x.natAbs y.natAbs := fun h => lcm_eq (by omega)
  have hle : x.natAbs / Nat.gcd x.natAbs y.natAbs ≤ x.natAbs := Nat.div_le_self _ _
  have lx : x ∣ (Nat.lcm x.natAbs y.natAbs : Int) := Int.ofNat_dvd_right.2 (Nat.dvd_lcm_left _ _)
  have ly : y ∣ (Nat.lcm x.natAbs y.natAbs : Int) := Int.ofNat_dvd_right.2 (Nat.dvd_lcm_right _ _)
  have hLp : ¬ x = 0 → ¬ y = 0 → 1 ≤ Nat.lcm x.natAbs y.natAbs := fun h1 h2 => Nat.lcm_pos (by omega) (by omega)
  have hLz : x = 0 ∨ y = 0 → Nat.lcm x.natAbs y.natAbs = 0 := by
    rintro (rfl | rfl)
    · exact Nat.lcm_zero_left _
    · exact Nat.lcm_zero_right _
  have A2 := Lib.hid (fun w => dyad_any 15 x y w hx hy)
  have A2V : Hid (dyV 15 x y = val (Nat.lcm x.natAbs y.natAbs)) := dyV15 x y
  have A2E : Hid (dyE 15 x y = err (Nat.lcm x.natAbs y.natAbs)) := dyE15 x y
  generalize Nat.lcm x.natAbs y.natAbs = L at *
  generalize Nat.gcd x.natAbs y.natAbs = g at *
  have e1 := dvdB_yes dx
  have e2 := dvdB_yes dy
  have e3 := dvdB_yes lx
  have e4 := dvdB_yes ly
  have hg0 : ¬ (g : Int) = 0 := by omega
  have hg1 : (1 : Int) ≤ (g : Int) := by omega
  have hgb : ((g : Int) == 0) = false := by simp; omega
  have H0 := Lib.hid h0
  clear hf hG hm h0 dx dy lx ly hpos
  -- what d says
  have hD : d = 0 ∨ ((d != 0) = true ∧ ¬ d = 0 ∧ dvdB d x = false) ∨ ((d != 0) = true ∧ ¬ d = 0 ∧ dvdB d x = true ∧ dvdB d y = false) ∨ ((d != 0) = true ∧ ¬ d = 0 ∧ dvdB d x = true ∧ dvdB d y = true ∧ dvdB d g = true) := by
    by_cases a : d = 0
    · exact .inl a
    · right
      have a' : (d != 0) = true := by simpa using a
      by_cases b : d ∣ x
      · by_cases c : d ∣ y
        · exact .inr (.inr ⟨a', a, dvdB_yes b, dvdB_yes c, dvdB_yes (dd b c)⟩)
        · exact .inr (.inl ⟨a', a, dvdB_yes b, dvdB_no c⟩)
      · exact .inl ⟨a', a, dvdB_no b⟩
  clear dd
  have hB : -9223372036854775808 ≤ x.tdiv g ∧ x.tdiv g ≤ 9223372036854775807 := tdiv_in hx (by omega) (by omega)
  have hwx : wrap64 (x.tdiv g) = x.tdiv g := IntWalk.wrap64_in _ hB
  have tail : (¬ x = 0 ∧ ¬ y = 0 ∧ fit (L : Int) = false) ∨ (x = 0 ∧ ¬ y = 0 ∧ L = 0) ∨ (y = 0 ∧ ¬ x = 0 ∧ L = 0) ∨ (¬ x = 0 ∧ ¬ y = 0 ∧ fit (L : Int) = true ∧ 1 ≤ L) := by
    by_cases a : x = 0
    · exact .inr (.inl ⟨a, fun b => H0.out ⟨a, b⟩, hLz (.inl a)⟩)
    · by_cases b : y = 0
      · exact .inr (.inr (.inl ⟨b, a, hLz (.inr b)⟩))
      · cases e : fit (L : Int)
        · exact .inl ⟨a, b, rfl⟩
        · exact .inr (.inr (.inr ⟨a, b, rfl, hLp a b⟩))
  have HL := Lib.hid hL
  have HQ := Lib.hid hq1
  have HB := Lib.hid hB
  clear hLz hLp hL hq1 hB
  rcases hD with rfl | ⟨d1, d2, d3⟩ | ⟨d1, d2, d3, d4⟩ | ⟨d1, d2, d3, d4, d5⟩
  all_goals
    rcases tail with ⟨t1, t2, t3⟩ | ⟨rfl, t2, rfl⟩ | ⟨rfl, t2, rfl⟩ | ⟨t1, t2, t3, t4⟩
    · have x1 : (x == 0) = false := by simpa using t1
      have T := Lib.hid t3
      clear t3
      go_enter Try.func6, Try.ntmps6
      go_wp2_with fail
      refine (begun_any _).mono ?_; rintro e w' ⟨rfl, n0, rfl⟩
      go_wp2_with fail
      refine (A1.out _).mono ?_; rintro e w' ⟨rfl, n1, rfl⟩
      go_wp2_with (first | (go_at_call 18; refine (divides_any _ _ _ (by omega)).mono ?_; rintro e w' ⟨rfl, n2, rfl⟩))
      refine (A2.out _).mono ?_; rintro e w' ⟨rfl, n3, rfl⟩
      rw [A2V.out, A2E.out, val_not T.out, err_not T.out]
      go_wp2
      all_goals go_ret
      all_goals exact RetG.mk rfl (grown_drewN _ _)
    · have y1 : (y == 0) = false := by simpa using t2
      have T0 : Hid (fit ((0 : Nat) : Int) = true) := fit_of (by omega)
      go_enter Try.func6, Try.ntmps6
      go_wp2_with fail
      refine (begun_any _).mono ?_; rintro e w' ⟨rfl, n0, rfl⟩
      go_wp2_with fail
      refine (A1.out _).mono ?_; rintro e w' ⟨rfl, n1, rfl⟩
      go_wp2_with (first | (go_at_call 18; refine (divides_any _ _ _ (by omega)).mono ?_; rintro e w' ⟨rfl, n2, rfl⟩))
      all_goals (refine (A2.out _).mono ?_; rintro e w' ⟨rfl, n3, rfl⟩)
      all_goals rw [A2V.out, A2E.out, val_of T0.out, err_of T0.out]
      all_goals go_wp2
      all_goals go_ret
      all_goals exact RetG.mk rfl (grown_drewN _ _)
    · have x1 : (x == 0) = false := by simpa using t2
      have T0 : Hid (fit ((0 : Nat) : Int) = true) := fit_of (by omega)
      go_enter Try.func6, Try.ntmps6
      go_wp2_with fail
      refine (begun_any _).mono ?_; rintro e w' ⟨rfl, n0, rfl⟩
      go_wp2_with fail
      refine (A1.out _).mono ?_; rintro e w' ⟨rfl, n1, rfl⟩
      go_wp2_with (first | (go_at_call 18; refine (divides_any _ _ _ (by omega)).mono ?_; rintro e w' ⟨rfl, n2, rfl⟩))
      all_goals (refine (A2.out _).mono ?_; rintro e w' ⟨rfl, n3, rfl⟩)
      all_goals rw [A2V.out, A2E.out, val_of T0.out, err_of T0.out]
      all_goals go_wp2
      all_goals go_ret
      all_goals exact RetG.mk rfl (grown_drewN _ _)
    · have x1 : (x == 0) = false := by simpa using t1
      have y1 : (y == 0) = false := by simpa using t2
      have T := Lib.hid t3
      clear t3
      go_enter Try.func6, Try.ntmps6
      go_wp2_with fail
      refine (begun_any _).mono ?_; rintro e w' ⟨rfl, n0, rfl⟩
      go_wp2_with fail
      refine (A1.out _).mono ?_; rintro e w' ⟨rfl, n1, rfl⟩
      go_wp2_with (first | (go_at_call 18; refine (divides_any _ _ _ (by omega)).mono ?_; rintro e w' ⟨rfl, n2, rfl⟩))
      refine (A2.out _).mono ?_; rintro e w' ⟨rfl, n3, rfl⟩
      rw [A2V.out, A2E.out, val_of T.out, err_of T.out]
      go_wp2_with fail
      refine (monad_any 5 _ _ HB.out).mono ?_; rintro e w' ⟨rfl, n4, rfl⟩
      rw [moV5, moE5, HQ.out]
      cases hc : fit ((x.natAbs / g : Nat) : Int)
      · rw [val_not hc, err_not hc]
        clear hc
        go_wp2_with fail
        refine (monad_any 5 _ _ hy).mono ?_; rintro e w' ⟨rfl, n5, rfl⟩
        rw [moV5, moE5]
        go_wp2_with fail
        refine (mul_any _ _ _ (by omega) (val_bd _)).mono ?_; rintro e w' ⟨rfl, n6, rfl⟩
        go_wp2_with (first | (go_at_call 18; refine (divides_any _ _ _ (by omega)).mono ?_; rintro e w' ⟨rfl, n2, rfl⟩))
        go_ret
        exact RetG.mk rfl (grown_drewN _ _)
      · rw [val_of hc, err_of hc]
        have hcb := (fit_iff _).1 hc
        clear hc
        go_wp2_with fail
        refine (monad_any 5 _ _ hy).mono ?_; rintro e w' ⟨rfl, n5, rfl⟩
        rw [moV5, moE5]
        cases hj : fit (y.natAbs : Int)
        · rw [val_not hj, err_not hj]
          clear hj
          go_wp2_with fail
          refine (mul_any _ _ _ hcb (by omega)).mono ?_; rintro e w' ⟨rfl, n6, rfl⟩
          go_wp2_with (first | (go_at_call 18; refine (divides_any _ _ _ (by omega)).mono ?_; rintro e w' ⟨rfl, n2, rfl⟩))
          go_ret
          exact RetG.mk rfl (grown_drewN _ _)
        · rw [val_of hj, err_of hj]
          have hjb := (fit_iff _).1 hj
          clear hj
          go_wp2_with fail
          refine (mul_any _ _ _ hcb hjb).mono ?_; rintro e w' ⟨rfl, n6, rfl⟩
          rw [← Int.natCast_mul, HL.out t1, val_of T.out, T.out]
          go_wp2_with (first | (go_at_call 18; refine (divides_any _ _ _ (by omega)).mono ?_; rintro e w' ⟨rfl, n2, rfl⟩))
          go_ret
          exact RetG.mk rfl (grown_drewN _ _)
end Go.Proofs.Ytkgakpofophhjaa
