/- The walk of the statement on powers. -/
import Derived.Test.YtkgakpofophhjaaNumBegun
namespace Go.Proofs.Ytkgakpofophhjaa
open Go.RowKit
set_option linter.unusedVariables false
set_option linter.unusedSimpArgs false

theorem dyV20 (x y : Int) : dyV 20 x y = pwV x y := rfl
theorem dyE20 (x y : Int) : dyE 20 x y = pwE x y := rfl
theorem pw_zero (x : Int) : pwV x 0 = 1 ∧ pwE x 0 = 0 := by
  by_cases h1 : x = 1
  · subst h1; decide
  by_cases h2 : x = -1
  · subst h2; decide
  have h := pw_in (x := x) (y := 0) h1 h2 (by omega)
  rw [h.1, h.2]
  simp only [Int.toNat_zero, Int.pow_zero]
  exact ⟨val_of fit_one, err_of fit_one⟩
theorem pw_unit {x : Int} (hx : -9223372036854775808 ≤ x ∧ x ≤ 9223372036854775807) : pwV x 1 = x ∧ pwE x 1 = 0 := by
  by_cases h1 : x = 1
  · subst h1; decide
  by_cases h2 : x = -1
  · subst h2; decide
  have h := pw_in (x := x) (y := 1) h1 h2 (by omega)
  rw [h.1, h.2, show (1 : Int).toNat = 1 from rfl, Int.pow_succ, Int.pow_zero, Int.one_mul]
  exact ⟨val_of (fit_of hx), err_of (fit_of hx)⟩
/-- What the three powers tell of one another. -/
theorem pw_sum {x : Int} {a b : Nat} : (pwE x a = 0 ∧ pwE x b = 0 ∧ pwE x (a + b : Nat) = 0 ∧ pwV x a * pwV x b = pwV x (a + b : Nat) ∧ fit (pwV x a * pwV x b) = true) ∨
    ((pwE x a = 0 ∨ pwE x a = 14) ∧ (pwE x b = 0 ∨ pwE x b = 14) ∧ (pwE x (a + b : Nat) = 0 ∨ pwE x (a + b : Nat) = 14) ∧ (x < -1 ∨ 1 < x) ∧ (¬ pwE x a = 0 ∨ ¬ pwE x b = 0 ∨ ¬ pwE x (a + b : Nat) = 0)) := by
  by_cases h1 : x = 1
  · subst h1
    left
    rw [(pw_one a).1, (pw_one a).2, (pw_one b).1, (pw_one b).2, (pw_one _).1, (pw_one _).2]
    exact ⟨rfl, rfl, rfl, rfl, by decide⟩
  by_cases h2 : x = -1
  · subst h2
    left
    rw [(pw_mone a).1, (pw_mone a).2, (pw_mone b).1, (pw_mone b).2, (pw_mone _).1, (pw_mone _).2]
    have ha : (a : Int) % 2 = 0 ∨ (a : Int) % 2 = 1 := by omega
    have hb : (b : Int) % 2 = 0 ∨ (b : Int) % 2 = 1 := by omega
    refine ⟨rfl, rfl, rfl, ?_, ?_⟩
    · rcases ha with ha | ha <;> rcases hb with hb | hb <;> rw [ha, hb] <;> omega
    · rcases ha with ha | ha <;> rcases hb with hb | hb <;> rw [ha, hb] <;> decide
  have pa := pw_in (x := x) (y := (a : Int)) h1 h2 (by omega)
  have pb := pw_in (x := x) (y := (b : Int)) h1 h2 (by omega)
  have pc := pw_in (x := x) (y := ((a + b : Nat) : Int)) h1 h2 (by omega)
  rw [pa.1, pa.2, pb.1, pb.2, pc.1, pc.2]
  simp only [Int.toNat_natCast]
  have hp : x ^ (a + b) = x ^ a * x ^ b := Int.pow_add _ _ _
  by_cases h0 : x = 0
  · subst h0
    left
    have hz : ∀ n : Nat, (0 : Int) ^ n = 0 ∨ (0 : Int) ^ n = 1 := fun n => by
      cases n with
      | zero => right; rfl
      | succ n => left; rw [Int.pow_succ]; omega
    have hf : ∀ n : Nat, fit ((0 : Int) ^ n) = true := fun n => fit_of (by rcases hz n with h | h <;> rw [h] <;> omega)
    rw [val_of (hf a), val_of (hf b), val_of (hf (a + b)), err_of (hf a), err_of (hf b), err_of (hf (a + b)), ← hp]
    exact ⟨rfl, rfl, rfl, rfl, hf _⟩
  have hbig : 2 ≤ x.natAbs := by omega
  cases ha : fit (x ^ a)
  · right
    rw [err_not ha]
    refine ⟨.inr rfl, ?_, ?_, by omega, .inl (by omega)⟩
    · cases hb : fit (x ^ b) <;> simp [err, hb]
    · cases hb : fit (x ^ (a + b)) <;> simp [err, hb]
  cases hb : fit (x ^ b)
  · right
    rw [err_not hb, err_of ha]
    refine ⟨.inl rfl, .inr rfl, ?_, by omega, .inr (.inl (by omega))⟩
    cases hc : fit (x ^ (a + b)) <;> simp [err, hc]
  cases hc : fit (x ^ (a + b))
  · right
    rw [err_not hc, err_of ha, err_of hb]
    exact ⟨.inl rfl, .inl rfl, .inr rfl, by omega, .inr (.inr (by omega))⟩
  · left
    rw [val_of ha, val_of hb, val_of hc, err_of ha, err_of hb, err_of hc, ← hp]
    exact ⟨rfl, rfl, rfl, rfl, hc⟩
theorem pwV_bd (x y : Int) : -9223372036854775808 ≤ pwV x y ∧ pwV x y ≤ 9223372036854775807 := by
  unfold pwV
  by_cases h1 : x = 1
  · rw [if_pos h1]; omega
  rw [if_neg h1]
  by_cases h2 : x = -1
  · rw [if_pos h2]; omega
  rw [if_neg h2]
  by_cases h3 : y < 0
  · rw [if_pos h3]; omega
  · rw [if_neg h3]; exact val_bd _
set_option maxRecDepth 100000 in
set_option maxHeartbeats 800000 in
theorem walkNumPowers (x : Int) (a b : Nat) (hx : -9223372036854775808 ≤ x ∧ x ≤ 9223372036854775807) (ha : a ≤ 255) (hb : b ≤ 255) (w : World) :
    Calls Try.prog 7 #[.int .i64 x, .int .u8 a, .int .u8 b] w (RetG w (.bool true)) := by
  have H := pw_sum (x := x) (a := a) (b := b)
  have Z := pw_zero x
  have U := pw_unit hx
  have ba := pwV_bd x a
  have bb := pwV_bd x b
  have A1 := Lib.hid (fun w => dyad_any 20 x (a : Int) w hx (by omega))
  have A2 := Lib.hid (fun w => dyad_any 20 x (b : Int) w hx (by omega))
  have A3 := Lib.hid (fun w => dyad_any 20 x ((a + b : Nat) : Int) w hx (by omega))
  have A4 := Lib.hid (fun w => dyad_at (op := 20) (x := x) (y := 0) (v := 1) (e := 0) w hx (by omega) (by rw [dyV20]; exact Z.1) (by rw [dyE20]; exact Z.2))
  have A5 := Lib.hid (fun w => dyad_at (op := 20) (x := x) (y := 1) (v := x) (e := 0) w hx (by omega) (by rw [dyV20]; exact U.1) (by rw [dyE20]; exact U.2))
  have eab : (a : Int) + (b : Int) = ((a + b : Nat) : Int) := by omega
  rw [← eab] at H A3
  clear Z U
  rw [dyV20, dyE20] at A1 A2 A3
  generalize pwV x a = p at *
  generalize pwE x a = pe at *
  generalize pwV x b = q at *
  generalize pwE x b = qe at *
  generalize pwV x ((a : Int) + (b : Int)) = r at *
  generalize pwE x ((a : Int) + (b : Int)) = re at *
  clear eab
  rcases H with ⟨rfl, rfl, rfl, m1, m2⟩ | ⟨s1, s2, s3, s4, s5⟩
  · have M := Lib.hid (fun w => mul_at (x := p) (y := q) (v := r) (b := true) w ba bb (by rw [val_of m2, m1]) m2)
    clear m1 m2
    go_enter Try.func7, Try.ntmps7
    go_wp2_with fail
    refine (begun_any _).mono ?_; rintro e w' ⟨rfl, n0, rfl⟩
    go_wp2_with fail
    refine (A1.out _).mono ?_; rintro e w' ⟨rfl, n1, rfl⟩
    go_wp2_with fail
    refine (A2.out _).mono ?_; rintro e w' ⟨rfl, n2, rfl⟩
    go_wp2_with fail
    refine (A3.out _).mono ?_; rintro e w' ⟨rfl, n3, rfl⟩
    go_wp2_with fail
    refine (A4.out _).mono ?_; rintro e w' ⟨rfl, n4, rfl⟩
    go_wp2_with fail
    refine (A5.out _).mono ?_; rintro e w' ⟨rfl, n5, rfl⟩
    go_wp2_with fail
    refine (M.out _).mono ?_; rintro e w' ⟨rfl, n6, rfl⟩
    go_wp2
    go_ret
    exact RetG.mk rfl (grown_drewN _ _)
  · rcases s1 with rfl | rfl <;> rcases s2 with rfl | rfl <;> rcases s3 with rfl | rfl <;> rcases s4 with s4 | s4
    all_goals try (exfalso; omega)
    all_goals
      clear s5
      go_enter Try.func7, Try.ntmps7
      go_wp2_with fail
      refine (begun_any _).mono ?_; rintro e w' ⟨rfl, n0, rfl⟩
      go_wp2_with fail
      refine (A1.out _).mono ?_; rintro e w' ⟨rfl, n1, rfl⟩
      go_wp2_with fail
      refine (A2.out _).mono ?_; rintro e w' ⟨rfl, n2, rfl⟩
      go_wp2_with fail
      refine (A3.out _).mono ?_; rintro e w' ⟨rfl, n3, rfl⟩
      go_wp2_with fail
      refine (A4.out _).mono ?_; rintro e w' ⟨rfl, n4, rfl⟩
      go_wp2_with fail
      refine (A5.out _).mono ?_; rintro e w' ⟨rfl, n5, rfl⟩
      go_wp2
      go_ret
      exact RetG.mk rfl (grown_drewN _ _)
end Go.Proofs.Ytkgakpofophhjaa
