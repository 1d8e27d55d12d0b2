/- The walk of the statement on factorials and choices. -/
import Derived.Test.YtkgakpofophhjaaNumBegun
namespace Go.Proofs.Ytkgakpofophhjaa
open Go.RowKit
set_option linter.unusedVariables false
set_option linter.unusedSimpArgs false

theorem dyV21 (x y : Int) : dyV 21 x y = chV x y := rfl
theorem dyE21 (x y : Int) : dyE 21 x y = chE x y := rfl
theorem moV21 (y : Int) : moV 21 y = facV y := rfl
theorem moE21 (y : Int) : moE 21 y = facE y := rfl
theorem facV_bd (y : Int) : -9223372036854775808 ≤ facV y ∧ facV y ≤ 9223372036854775807 := by
  unfold facV
  by_cases h : y < 0
  · rw [if_pos h]; omega
  · rw [if_neg h]; exact val_bd _
theorem chV_bd (x y : Int) : -9223372036854775808 ≤ chV x y ∧ chV x y ≤ 9223372036854775807 := by
  unfold chV
  by_cases h : y < 0
  · rw [if_pos h]; omega
  · rw [if_neg h]
    by_cases h' : x < 0 ∨ y < x
    · rw [if_pos h']; omega
    · rw [if_neg h']; exact val_bd _
theorem fac_law {n : Int} (hn : 1 ≤ n) : (facE n = 0 ∧ facE (n - 1) = 0 ∧ val (n * facV (n - 1)) = facV n ∧ fit (n * facV (n - 1)) = true) ∨
    (facE n = 14 ∧ facE (n - 1) = 14) ∨ (facE n = 14 ∧ facE (n - 1) = 0 ∧ fit (n * facV (n - 1)) = false) := by
  obtain ⟨k, rfl⟩ := Int.eq_ofNat_of_zero_le (show 0 ≤ n by omega)
  obtain ⟨m, rfl⟩ : ∃ m, k = m + 1 := ⟨k - 1, by omega⟩
  rw [show (((m + 1 : Nat) : Int) - 1) = (m : Int) by omega]
  have hm : ¬ ((m : Int) < 0) := by omega
  have hm' : ¬ (((m + 1 : Nat) : Int) < 0) := by omega
  simp only [facV, facE, if_neg hm, if_neg hm', Int.toNat_natCast]
  have hs : ((m + 1 : Nat) : Int) * (fac m : Int) = (fac (m + 1) : Int) := by simp [fac]
  have hmono : fac m ≤ fac (m + 1) := fac_mono (by omega)
  cases h : fit (fac (m + 1) : Int)
  · right
    cases h' : fit (fac m : Int)
    · exact .inl ⟨err_not h, err_not h'⟩
    · right
      rw [val_of h', hs]
      exact ⟨err_not h, err_of h', h⟩
  · left
    have h1 := (fit_iff _).1 h
    have h' : fit (fac m : Int) = true := fit_of (by omega)
    rw [val_of h', hs, err_of h, err_of h']
    exact ⟨rfl, rfl, rfl, h⟩
theorem ch_some {x n : Nat} : chV (x : Int) (n : Int) = val (binom n x) ∧ chE (x : Int) (n : Int) = err (binom n x) := by
  by_cases h : x ≤ n
  · have := ch_in (x := (x : Int)) (y := (n : Int)) (by omega) (by omega)
    simpa using this
  · have := ch_out (x := (x : Int)) (y := (n : Int)) (by omega) (by omega)
    rw [this.1, this.2, binom_big n x (by omega)]
    exact ⟨(val_of (fit_of (by omega))).symm, (err_of (fit_of (by omega))).symm⟩
theorem ch_law {x n : Int} (hx : 1 ≤ x) (hn : x ≤ n) : chV (n - x) n = chV x n ∧ chE (n - x) n = chE x n ∧
    ((chE x n = 0 ∧ chE (x - 1) (n - 1) = 0 ∧ chE x (n - 1) = 0 ∧ val (chV (x - 1) (n - 1) + chV x (n - 1)) = chV x n ∧ fit (chV (x - 1) (n - 1) + chV x (n - 1)) = true) ∨
     (chE x n = 14 ∧ chE (x - 1) (n - 1) = 14) ∨ (chE x n = 14 ∧ chE (x - 1) (n - 1) = 0 ∧ chE x (n - 1) = 14) ∨
     (chE x n = 14 ∧ chE (x - 1) (n - 1) = 0 ∧ chE x (n - 1) = 0 ∧ fit (chV (x - 1) (n - 1) + chV x (n - 1)) = false)) := by
  obtain ⟨a, rfl⟩ : ∃ a : Nat, x = ((a + 1 : Nat) : Int) := ⟨(x - 1).toNat, by omega⟩
  obtain ⟨b, rfl⟩ : ∃ b : Nat, n = ((b + 1 : Nat) : Int) := ⟨(n - 1).toNat, by omega⟩
  obtain ⟨c, hc⟩ : ∃ c, b = a + c := ⟨b - a, by omega⟩
  subst hc
  rw [show (((a + 1 : Nat) : Int) - 1) = (a : Int) by omega, show (((a + c + 1 : Nat) : Int) - 1) = ((a + c : Nat) : Int) by omega, show ((a + c + 1 : Nat) : Int) - ((a + 1 : Nat) : Int) = (c : Int) by omega]
  rw [ch_some.1, ch_some.2, ch_some.1, ch_some.2, ch_some.1, ch_some.2, ch_some.1, ch_some.2]
  have hs : binom (a + c + 1) c = binom (a + c + 1) (a + 1) := by
    have := binom_symm (a + 1) c
    rw [show a + 1 + c = a + c + 1 by omega] at this
    exact this.symm
  rw [hs]
  have hp : binom (a + c + 1) (a + 1) = binom (a + c) a + binom (a + c) (a + 1) := rfl
  refine ⟨rfl, rfl, ?_⟩
  rw [hp]
  generalize binom (a + c) a = u
  generalize binom (a + c) (a + 1) = v
  rw [Int.natCast_add]
  cases h : fit ((u : Int) + (v : Int))
  · right
    rw [err_not h]
    cases h1 : fit (u : Int)
    · exact .inl ⟨rfl, err_not h1⟩
    cases h2 : fit (v : Int)
    · exact .inr (.inl ⟨rfl, err_of h1, err_not h2⟩)
    · rw [val_of h1, val_of h2, err_of h1, err_of h2]
      exact .inr (.inr ⟨rfl, rfl, rfl, h⟩)
  · left
    have hb := (fit_iff _).1 h
    have h1 : fit (u : Int) = true := fit_of (by omega)
    have h2 : fit (v : Int) = true := fit_of (by omega)
    rw [val_of h1, val_of h2, err_of h1, err_of h2, err_of h, val_of h]
    exact ⟨rfl, rfl, rfl, rfl, h⟩
theorem ch_none {n : Int} (hn : 1 ≤ n) : chV n n = chV 0 n ∧ chE n n = chE 0 n ∧ chE 0 n = 0 ∧ chV 0 n = 1 := by
  obtain ⟨b, rfl⟩ := Int.eq_ofNat_of_zero_le (show 0 ≤ n by omega)
  have h0 := ch_some (x := 0) (n := b)
  rw [show ((0 : Nat) : Int) = 0 from rfl] at h0
  rw [h0.1, h0.2, ch_some.1, ch_some.2, binom_self, binom_zero]
  exact ⟨rfl, rfl, err_of fit_one, val_of fit_one⟩

set_option maxRecDepth 100000 in
set_option maxHeartbeats 2000000 in
theorem walkNumChosen (x n : Int) (hx : -9223372036854775808 ≤ x ∧ x ≤ 9223372036854775807) (hn : -9223372036854775808 ≤ n ∧ n ≤ 9223372036854775807) (w : World) :
    Calls Try.prog 8 #[.int .i64 x, .int .i64 n] w (RetG w (.bool true)) := by
  by_cases n0 : n < 1
  · go_enter Try.func8, Try.ntmps8
    go_wp2_with fail
    refine (begun_any _).mono ?_; rintro e w' ⟨rfl, n0, rfl⟩
    go_wp2
    go_ret
    exact RetG.mk rfl (grown_drewN _ _)
  have n1 : 1 ≤ n := by omega
  clear n0
  have A1 := Lib.hid (fun w => monad_any 21 n w hn)
  have A2 := Lib.hid (fun w => monad_any 21 (n - 1) w (by omega))
  have B1 := Lib.hid (fun w => dyad_any 21 x n w hx hn)
  rw [moV21, moE21] at A1 A2
  rw [dyV21, dyE21] at B1
  have M := Lib.hid (fun w => mul_any n (facV (n - 1)) w hn (facV_bd _))
  have F := fac_law n1
  have bf := facV_bd (n - 1)
  generalize facV n = a at *
  generalize facE n = e at *
  generalize facV (n - 1) = b at *
  generalize facE (n - 1) = f at *
  -- the first half, three ways
  have F' : ∃ (c : Int) (ok : Bool), Hid (val (n * b) = c) ∧ Hid (fit (n * b) = ok) ∧ ((e = 0 ∧ f = 0 ∧ c = a ∧ ok = true) ∨ (e = 14 ∧ f = 14) ∨ (e = 14 ∧ f = 0 ∧ ok = false)) :=
    ⟨_, _, rfl, rfl, F⟩
  obtain ⟨c, ok, Hc, Hok, F'⟩ := F'
  have M' : Hid (∀ w, Calls Try.prog 20 #[.int .i64 n, .int .i64 b] w (Ret w (.tuple #[.int .i64 c, .bool ok]))) := by
    intro w; rw [← Hc.out, ← Hok.out]; exact M.out w
  clear M F Hc Hok bf
  by_cases xo : x < 0 ∨ n < x
  · have hc := ch_out (x := x) (y := n) (by omega) xo
    rw [hc.1, hc.2] at B1
    clear hc
    rcases xo with xo | xo
    all_goals
      rcases F' with ⟨rfl, rfl, rfl, rfl⟩ | ⟨rfl, rfl⟩ | ⟨rfl, rfl, rfl⟩
      all_goals
        go_enter Try.func8, Try.ntmps8
        go_wp2_with fail
        refine (begun_any _).mono ?_; rintro e w' ⟨rfl, n0, rfl⟩
        go_wp2_with fail
        refine (A1.out _).mono ?_; rintro e w' ⟨rfl, n2, rfl⟩
        go_wp2_with fail
        refine (A2.out _).mono ?_; rintro e w' ⟨rfl, n3, rfl⟩
        go_wp2_with fail
        refine (M'.out _).mono ?_; rintro e w' ⟨rfl, n4, rfl⟩
        go_wp2_with fail
        refine (B1.out _).mono ?_; rintro e w' ⟨rfl, n5, rfl⟩
        go_wp2
        go_ret
        exact RetG.mk rfl (grown_drewN _ _)
  have x0 : 0 ≤ x := by omega
  have xn : x ≤ n := by omega
  clear xo
  have B2 := Lib.hid (fun w => dyad_any 21 (n - x) n w (by omega) hn)
  have B3 := Lib.hid (fun w => dyad_any 21 (x - 1) (n - 1) w (by omega) (by omega))
  have B4 := Lib.hid (fun w => dyad_any 21 x (n - 1) w hx (by omega))
  rw [dyV21, dyE21] at B2 B3 B4
  by_cases xz : x = 0
  · subst xz
    have C := ch_none n1
    rw [show n - 0 = n by omega] at B2
    rw [C.1, C.2.1, C.2.2.1, C.2.2.2] at B2
    rw [C.2.2.1, C.2.2.2] at B1
    clear C
    generalize chV (0 - 1) (n - 1) = u at *
    generalize chE (0 - 1) (n - 1) = i at *
    generalize chV 0 (n - 1) = v at *
    generalize chE 0 (n - 1) = j at *
    rw [show (0 : Int) - 1 = -1 by omega] at B3
    rcases F' with ⟨rfl, rfl, rfl, rfl⟩ | ⟨rfl, rfl⟩ | ⟨rfl, rfl, rfl⟩
    all_goals
      go_enter Try.func8, Try.ntmps8
      go_wp2_with fail
      refine (begun_any _).mono ?_; rintro e w' ⟨rfl, n0, rfl⟩
      go_wp2_with fail
      refine (A1.out _).mono ?_; rintro e w' ⟨rfl, n2, rfl⟩
      go_wp2_with fail
      refine (A2.out _).mono ?_; rintro e w' ⟨rfl, n3, rfl⟩
      go_wp2_with fail
      refine (M'.out _).mono ?_; rintro e w' ⟨rfl, n4, rfl⟩
      go_wp2_with fail
      refine (B1.out _).mono ?_; rintro e w' ⟨rfl, n5, rfl⟩
      go_wp2_with fail
      refine (B2.out _).mono ?_; rintro e w' ⟨rfl, n6, rfl⟩
      go_wp2_with fail
      refine (B3.out _).mono ?_; rintro e w' ⟨rfl, n7, rfl⟩
      go_wp2_with fail
      refine (B4.out _).mono ?_; rintro e w' ⟨rfl, n8, rfl⟩
      go_wp2
      go_ret
      exact RetG.mk rfl (grown_drewN _ _)
  have x1 : 1 ≤ x := by omega
  clear xz
  obtain ⟨c1, c2, c3⟩ := ch_law x1 xn
  rw [c1, c2] at B2
  have D := Lib.hid (fun w => add_any (chV (x - 1) (n - 1)) (chV x (n - 1)) w (chV_bd _ _) (chV_bd _ _))
  clear c1 c2
  generalize chV x n = p at *
  generalize chE x n = g at *
  generalize chV (x - 1) (n - 1) = u at *
  generalize chE (x - 1) (n - 1) = i at *
  generalize chV x (n - 1) = v at *
  generalize chE x (n - 1) = j at *
  obtain ⟨s, ft, Hs, Hf, c4⟩ : ∃ (s : Int) (ft : Bool), Hid (val (u + v) = s) ∧ Hid (fit (u + v) = ft) ∧ ((g = 0 ∧ i = 0 ∧ j = 0 ∧ s = p ∧ ft = true) ∨ (g = 14 ∧ i = 14) ∨ (g = 14 ∧ i = 0 ∧ j = 14) ∨ (g = 14 ∧ i = 0 ∧ j = 0 ∧ ft = false)) := ⟨_, _, rfl, rfl, c3⟩
  have D' : Hid (∀ w, Calls Try.prog 21 #[.int .i64 u, .int .i64 v] w (Ret w (.tuple #[.int .i64 s, .bool ft]))) := by
    intro w; rw [← Hs.out, ← Hf.out]; exact D.out w
  clear D c3 Hs Hf
  rcases c4 with ⟨rfl, rfl, rfl, rfl, rfl⟩ | ⟨rfl, rfl⟩ | ⟨rfl, rfl, rfl⟩ | ⟨rfl, rfl, rfl, rfl⟩
  all_goals
    rcases F' with ⟨rfl, rfl, rfl, rfl⟩ | ⟨rfl, rfl⟩ | ⟨rfl, rfl, rfl⟩
    all_goals
      go_enter Try.func8, Try.ntmps8
      go_wp2_with fail
      refine (begun_any _).mono ?_; rintro e w' ⟨rfl, n0, rfl⟩
      go_wp2_with fail
      refine (A1.out _).mono ?_; rintro e w' ⟨rfl, n2, rfl⟩
      go_wp2_with fail
      refine (A2.out _).mono ?_; rintro e w' ⟨rfl, n3, rfl⟩
      go_wp2_with fail
      refine (M'.out _).mono ?_; rintro e w' ⟨rfl, n4, rfl⟩
      go_wp2_with fail
      refine (B1.out _).mono ?_; rintro e w' ⟨rfl, n5, rfl⟩
      go_wp2_with fail
      refine (B2.out _).mono ?_; rintro e w' ⟨rfl, n6, rfl⟩
      go_wp2_with fail
      refine (B3.out _).mono ?_; rintro e w' ⟨rfl, n7, rfl⟩
      go_wp2_with fail
      refine (B4.out _).mono ?_; rintro e w' ⟨rfl, n8, rfl⟩
      go_wp2_with fail
      refine (D'.out _).mono ?_; rintro e w' ⟨rfl, n9, rfl⟩
      go_wp2
      go_ret
      exact RetG.mk rfl (grown_drewN _ _)
end Go.Proofs.Ytkgakpofophhjaa
