/- Contracts of the reference's divided, residue, factorial, power, ways, bits. Contracts of the reference's residue, bits, factorial. Contracts of the reference's power and ways. -/
import Derived.Test.YtdedbfbkakofgaaAtomFreshM25
namespace Go.Proofs.Ytdedbfbkakofgaa
open Go.RowKit
set_option linter.unusedVariables false
set_option linter.unusedSimpArgs false

set_option maxHeartbeats 400000 in
theorem rdivided_any (x y : Int) (w : World) (hx : -9223372036854775808 ≤ x ∧ x ≤ 9223372036854775807) (hy : -9223372036854775808 ≤ y ∧ y ≤ 9223372036854775807) (h0 : ¬ y = 0) :
    Calls Try.prog 146 #[.int .i64 x, .int .i64 y] w (Ret w (.tuple #[.int .i64 (val (x.fdiv y)), .int .i64 (err (x.fdiv y))])) := by
  have hs := (upq_sg (x := x) h0).1
  rw [← hs]
  clear hs
  have A1 := Lib.hid (fun w => rsize_any x w hx)
  have A2 := Lib.hid (fun w => rsize_any y w hy)
  have A3 := Lib.hid (fun b n w h => rsigned_any b n w h)
  have hX : x.natAbs ≤ 9223372036854775808 := by omega
  have hY : y.natAbs ≤ 9223372036854775808 := by omega
  have hY1 : 1 ≤ y.natAbs := by omega
  have gy : (y == 0) = false := by simpa using h0
  generalize x.natAbs = X at *
  generalize y.natAbs = Y at *
  have hq : (X : Int) / (Y : Int) = ((X / Y : Nat) : Int) := by simp
  have hm : (X : Int) % (Y : Int) = ((X % Y : Nat) : Int) := by simp
  have hk : X / Y ≤ X := Nat.div_le_self _ _
  unfold upq
  generalize X / Y = k at *
  generalize X % Y = m at *
  have hYi : (1 : Int) ≤ (Y : Int) := by omega
  have hYn : ¬ (Y : Int) = 0 := by omega
  have F0 := Lib.hid (A3.out false)
  have F1 := Lib.hid (A3.out true)
  clear A3
  obtain ⟨b, hb⟩ : ∃ b, (decide (x < 0) != decide (y < 0)) = b := ⟨_, rfl⟩
  rw [hb]
  have hb' : (!decide (x < 0) == decide (y < 0)) = b := hb
  clear hb
  cases b
  · simp only [Bool.false_and, Bool.false_eq_true, if_false]
    go_enter Try.func146, Try.ntmps146
    go_wp2_with fail
    refine (A1.out _).mono ?_; rintro e w' ⟨rfl, n1, rfl⟩
    go_wp2_with fail
    refine (A2.out _).mono ?_; rintro e w' ⟨rfl, n2, rfl⟩
    go_wp2_with fail
    refine (F0.out k _ (by omega)).mono ?_; rintro e w' ⟨rfl, n3, rfl⟩
    go_wp2
    go_ret2
    exact Ret.mk _ rfl
  by_cases mz : m = 0
  · subst mz
    simp only [show ((0 : Nat) != 0) = false from rfl, Bool.and_false, Bool.false_eq_true, if_false]
    by_cases kz : k = 0
    · subst kz
      show Calls _ _ _ _ (Ret w (.tuple #[.int .i64 (val (sg false 0)), .int .i64 (err (sg false 0))]))
      go_enter Try.func146, Try.ntmps146
      go_wp2_with fail
      refine (A1.out _).mono ?_; rintro e w' ⟨rfl, n1, rfl⟩
      go_wp2_with fail
      refine (A2.out _).mono ?_; rintro e w' ⟨rfl, n2, rfl⟩
      go_wp2_with fail
      refine (F0.out 0 _ (by omega)).mono ?_
      rintro e w' ⟨rfl, n3, rfl⟩
      go_wp2
      go_ret2
      exact Ret.mk _ rfl
    · have kp : (0 : Int) < k := by omega
      have kn : decide (0 < k) = true := by simp; omega
      clear kz
      go_enter Try.func146, Try.ntmps146
      go_wp2_with fail
      refine (A1.out _).mono ?_; rintro e w' ⟨rfl, n1, rfl⟩
      go_wp2_with fail
      refine (A2.out _).mono ?_; rintro e w' ⟨rfl, n2, rfl⟩
      go_wp2_with fail
      refine (F1.out k _ (by omega)).mono ?_
      rintro e w' ⟨rfl, n3, rfl⟩
      go_wp2
      go_ret2
      exact Ret.mk _ rfl
  · have mz' : (m != 0) = true := by simpa using mz
    have mzi : ((m : Int) != 0) = true := by simpa using mz
    simp only [mz', Bool.and_true, if_true]
    clear mz mz'
    have kp : (0 : Int) < (k : Int) + 1 := by omega
    go_enter Try.func146, Try.ntmps146
    go_wp2_with fail
    refine (A1.out _).mono ?_; rintro e w' ⟨rfl, n1, rfl⟩
    go_wp2_with fail
    refine (A2.out _).mono ?_; rintro e w' ⟨rfl, n2, rfl⟩
    go_wp2_with fail
    refine (F1.out (k + 1) _ (by omega)).mono ?_
    rintro e w' ⟨rfl, n3, rfl⟩
    go_wp2
    go_ret2
    exact Ret.mk _ rfl
end Go.Proofs.Ytdedbfbkakofgaa

namespace Go.Proofs.Ytdedbfbkakofgaa
open Go.RowKit
set_option linter.unusedVariables false
set_option linter.unusedSimpArgs false

set_option maxHeartbeats 400000 in
theorem rresidue_any (x y : Int) (w : World) (hx : -9223372036854775808 ≤ x ∧ x ≤ 9223372036854775807) (hy : -9223372036854775808 ≤ y ∧ y ≤ 9223372036854775807) (h0 : ¬ x = 0) :
    Calls Try.prog 147 #[.int .i64 x, .int .i64 y] w (Ret w (.int .i64 (y.fmod x))) := by
  have hs := (upq_sg (x := y) h0).2
  simp only at hs
  rw [hs]
  clear hs
  have A1 := Lib.hid (fun w => rsize_any x w hx)
  have A2 := Lib.hid (fun w => rsize_any y w hy)
  have hX : x.natAbs ≤ 9223372036854775808 := by omega
  have hY : y.natAbs ≤ 9223372036854775808 := by omega
  have hX1 : 1 ≤ x.natAbs := by omega
  have gx : (x == 0) = false := by simpa using h0
  have hml := Nat.mod_lt y.natAbs (show 0 < x.natAbs by omega)
  have hxa : x < 0 → x.natAbs = -x := by omega
  have hxb : ¬ x < 0 → x.natAbs ≤ 9223372036854775807 := by omega
  have hxc : x < 0 ∨ x.natAbs ≤ 9223372036854775807 := by omega
  generalize x.natAbs = X at *
  generalize y.natAbs = Y at *
  have hm : (Y : Int) % (X : Int) = ((Y % X : Nat) : Int) := by simp
  generalize Y % X = m at *
  have hXi : (1 : Int) ≤ (X : Int) := by omega
  have hXn : ¬ (X : Int) = 0 := by omega
  clear hxa hxb h0
  have wn : ∀ r : Nat, r ≤ 9223372036854775808 → Hid (wrap64 (IntKind.u64.wrap (-(r : Int))) = -(r : Int)) := by
    intro r hr; show _ = _; rw [IntKind.wrap_u64]; unfold wrap64; omega
  by_cases mz : m = 0
  · subst mz
    simp only [ne_eq, not_true_eq_false, false_and, if_false]
    have e0 : (if x < 0 then -((0 : Nat) : Int) else ((0 : Nat) : Int)) = 0 := by split <;> rfl
    rw [e0]
    clear e0 wn hxc
    by_cases sx : x < 0
    · clear hml
      go_enter Try.func147, Try.ntmps147
      go_wp2_with fail
      refine (A2.out _).mono ?_; rintro e w' ⟨rfl, n1, rfl⟩
      go_wp2_with fail
      refine (A1.out _).mono ?_; rintro e w' ⟨rfl, n2, rfl⟩
      go_wp2
      go_ret
      exact Ret.mk _ rfl
    · clear hml
      go_enter Try.func147, Try.ntmps147
      go_wp2_with fail
      refine (A2.out _).mono ?_; rintro e w' ⟨rfl, n1, rfl⟩
      go_wp2_with fail
      refine (A1.out _).mono ?_; rintro e w' ⟨rfl, n2, rfl⟩
      go_wp2
      go_ret
      exact Ret.mk _ rfl
  have mzi : ((m : Int) != 0) = true := by simpa using mz
  have mzj : ((Y : Int) % (X : Int) != 0) = true := by rw [hm]; exact mzi
  have mzk : ((Y : Int) % (X : Int) == 0) = false := by rw [hm]; simpa using mz
  have mzl : ¬ (Y : Int) % (X : Int) = 0 := by rw [hm]; omega
  have wm := wn m (by omega)
  by_cases sx : x < 0 <;> by_cases sy : y < 0
  · have e : (if x < 0 then -((if m ≠ 0 ∧ (decide (x < 0) != decide (y < 0)) = true then X - m else m : Nat) : Int) else ((if m ≠ 0 ∧ (decide (x < 0) != decide (y < 0)) = true then X - m else m : Nat) : Int)) = -(m : Int) := by simp [sx, sy]
    rw [e]
    clear e wn mz
    have dx := decide_eq_true sx
    have dy := decide_eq_true sy
    · skip
      go_enter Try.func147, Try.ntmps147
      go_wp2_with fail
      refine (A2.out _).mono ?_; rintro e w' ⟨rfl, n1, rfl⟩
      go_wp2_with fail
      refine (A1.out _).mono ?_; rintro e w' ⟨rfl, n2, rfl⟩
      go_wp2
      go_ret
      exact Ret.mk _ (one_ wm.out)
  · have e : (if x < 0 then -((if m ≠ 0 ∧ (decide (x < 0) != decide (y < 0)) = true then X - m else m : Nat) : Int) else ((if m ≠ 0 ∧ (decide (x < 0) != decide (y < 0)) = true then X - m else m : Nat) : Int)) = -((X - m : Nat) : Int) := by simp [sx, sy, mz]
    rw [e]
    have hsub : (X : Int) - (m : Int) = ((X - m : Nat) : Int) := by omega
    have wr := wn (X - m) (by omega)
    have hr : X - m ≤ 9223372036854775808 := by omega
    clear e wn mz
    have dx := decide_eq_true sx
    have dy := decide_eq_false sy
    generalize X - m = r at *
    · skip
      go_enter Try.func147, Try.ntmps147
      go_wp2_with fail
      refine (A2.out _).mono ?_; rintro e w' ⟨rfl, n1, rfl⟩
      go_wp2_with fail
      refine (A1.out _).mono ?_; rintro e w' ⟨rfl, n2, rfl⟩
      go_wp2
      go_ret
      exact Ret.mk _ (one_ wr.out)
  · have e : (if x < 0 then -((if m ≠ 0 ∧ (decide (x < 0) != decide (y < 0)) = true then X - m else m : Nat) : Int) else ((if m ≠ 0 ∧ (decide (x < 0) != decide (y < 0)) = true then X - m else m : Nat) : Int)) = ((X - m : Nat) : Int) := by simp [sx, sy, mz]
    rw [e]
    have hsub : (X : Int) - (m : Int) = ((X - m : Nat) : Int) := by omega
    have hr : X - m ≤ 9223372036854775807 := by omega
    clear e wn mz
    have dx := decide_eq_false sx
    have dy := decide_eq_true sy
    generalize X - m = r at *
    · skip
      go_enter Try.func147, Try.ntmps147
      go_wp2_with fail
      refine (A2.out _).mono ?_; rintro e w' ⟨rfl, n1, rfl⟩
      go_wp2_with fail
      refine (A1.out _).mono ?_; rintro e w' ⟨rfl, n2, rfl⟩
      go_wp2
      go_ret
      exact Ret.mk _ rfl
  · have e : (if x < 0 then -((if m ≠ 0 ∧ (decide (x < 0) != decide (y < 0)) = true then X - m else m : Nat) : Int) else ((if m ≠ 0 ∧ (decide (x < 0) != decide (y < 0)) = true then X - m else m : Nat) : Int)) = (m : Int) := by simp [sx, sy]
    rw [e]
    have hr : m ≤ 9223372036854775807 := by omega
    clear e wn mz
    have dx := decide_eq_false sx
    have dy := decide_eq_false sy
    · skip
      go_enter Try.func147, Try.ntmps147
      go_wp2_with fail
      refine (A2.out _).mono ?_; rintro e w' ⟨rfl, n1, rfl⟩
      go_wp2_with fail
      refine (A1.out _).mono ?_; rintro e w' ⟨rfl, n2, rfl⟩
      go_wp2
      go_ret
      exact Ret.mk _ rfl
set_option maxHeartbeats 400000 in
theorem rbits_any (x y : Int) (w : World) : Calls Try.prog 150 #[.int .i64 x, .int .i64 y] w (Ret w (.bool (bitsOk x y))) := by
  by_cases h : (x = 0 ∨ x = 1) ∧ (y = 0 ∨ y = 1)
  · rw [bits_yes h]
    obtain ⟨rfl | rfl, rfl | rfl⟩ := h
    all_goals
      go_enter Try.func150, Try.ntmps150
      go_wp2
      go_ret
      exact Ret.mk0 rfl
  · rw [bits_no h]
    have hc : ((x == 0) = false ∧ (x == 1) = false) ∨ ((x = 0 ∨ x = 1) ∧ (y == 0) = false ∧ (y == 1) = false) := by
      by_cases a : x = 0 ∨ x = 1
      · right; exact ⟨a, by simp; omega, by simp; omega⟩
      · left; exact ⟨by simp; omega, by simp; omega⟩
    clear h
    rcases hc with ⟨h1, h2⟩ | ⟨rfl | rfl, h1, h2⟩
    all_goals
      go_enter Try.func150, Try.ntmps150
      go_wp2
      go_ret
      exact Ret.mk0 rfl
set_option maxHeartbeats 400000 in
theorem rfactorial_any (y : Int) (w : World) (hy : -9223372036854775808 ≤ y ∧ y ≤ 9223372036854775807) :
    Calls Try.prog 144 #[.int .i64 y] w (Ret w (.tuple #[.int .i64 (facV y), .int .i64 (facE y)])) := by
  by_cases h0 : y < 0
  · rw [(facV_neg h0).1, (facV_neg h0).2]
    go_enter Try.func144, Try.ntmps144
    go_wp2
    go_ret2
    exact Ret.mk0 rfl
  obtain ⟨n, rfl⟩ := Int.eq_ofNat_of_zero_le (show 0 ≤ y by omega)
  obtain ⟨fv, fe, HV, HE⟩ : ∃ fv fe, Hid (facV (n : Int) = fv) ∧ Hid (facE (n : Int) = fe) := ⟨_, _, rfl, rfl⟩
  rw [HV.out, HE.out]
  go_enter Try.func144, Try.ntmps144
  go_wp2
  go_loopw [4, 5] (fun p i wr => ∃ k : Nat, 2 ≤ k ∧ (k ≤ n + 1 ∨ k = 2) ∧ k ≤ 21 ∧ i = .int .i64 k ∧ p = .int .i64 (fac (k - 1)) ∧ ∃ q, wr = w.drewN q) (fun _ i _ => 22 - (intOf i).toNat)
  case atStart => exact ⟨2, by omega, by omega, by omega, rfl, by rw [fac_two], 0, rfl⟩
  case round =>
    obtain ⟨k, hk2, hkn, hk, rfl, rfl, q, rfl⟩ := hrel
    have hb := fac_le (n := k - 1) (by omega)
    have hs := Lib.hid (fac_step k hk2)
    by_cases hlt : k ≤ n
    · by_cases h20 : k ≤ 20
      · have hb2 := fac_le (n := k) (by omega)
        have A := Lib.hid (fun w => rtimes_any (fac (k - 1) : Int) (k : Int) w (by omega) (by omega))
        rw [hs.out, val_of (fit_of (n := (fac k : Int)) (by omega)), err_of (fit_of (n := (fac k : Int)) (by omega))] at A
        go_wp2_with fail
        refine (A.out _).mono ?_; rintro e w' ⟨rfl, n1, rfl⟩
        go_wp2
        go_roundw
        case rel => exact ⟨k + 1, by omega, by omega, by omega, by go_num, rfl, _, rfl⟩
        case measure => simp [intOf]; omega
      · have hk21 : k = 21 := by omega
        subst hk21
        have A := Lib.hid (fun w => rtimes_any (fac (21 - 1) : Int) ((21 : Nat) : Int) w (by omega) (by omega))
        have hf : fit (fac 21 : Int) = false := by decide
        rw [hs.out, val_not hf, err_not hf] at A
        have hfin := facV_big (y := (n : Int)) (by omega)
        rw [HV.out, HE.out] at hfin
        obtain ⟨rfl, rfl⟩ := hfin
        clear hf hs
        go_wp2_with fail
        refine (A.out _).mono ?_; rintro e w' ⟨rfl, n1, rfl⟩
        go_wp2
        go_ret2
        exact Ret.mk _ rfl
    · have he := Lib.hid (fac_end hk2 hkn (by omega))
      have hfin := facV_in (y := (n : Int)) (by omega) (by omega)
      rw [HV.out, HE.out, Int.toNat_natCast] at hfin
      obtain ⟨rfl, rfl⟩ := hfin
      go_wp2
      go_ret2
      exact Ret.mk _ (twi ⟨he.out, rfl⟩)
end Go.Proofs.Ytdedbfbkakofgaa

namespace Go.Proofs.Ytdedbfbkakofgaa
open Go.RowKit
set_option linter.unusedVariables false
set_option linter.unusedSimpArgs false

theorem pw_zero' (x : Int) : pwV x 0 = 1 ∧ pwE x 0 = 0 := by
  by_cases h1 : x = 1
  · subst h1; decide
  by_cases h2 : x = -1
  · subst h2; decide
  have h := pw_in (x := x) (y := 0) h1 h2 (by omega)
  rw [h.1, h.2]
  simp only [Int.toNat_zero, Int.pow_zero]
  exact ⟨val_of fit_one, err_of fit_one⟩
theorem sg_pow (x : Int) (n : Nat) : sg (decide (x < 0) && ((n : Int) % 2 == 1)) (x.natAbs ^ n) = x ^ n := by
  by_cases hx : x < 0
  · obtain ⟨m, rfl⟩ : ∃ m : Nat, x = -(m : Int) := ⟨x.natAbs, by omega⟩
    rw [show decide (-(m : Int) < 0) = true by simpa using hx, Bool.true_and]
    simp only [Int.natAbs_neg, Int.natAbs_natCast]
    induction n using Nat.strongRecOn with
    | _ n ih =>
      match n, ih with
      | 0, _ => simp [sg]
      | 1, _ => simp [sg, Int.pow_succ]
      | n + 2, ih =>
        have := ih n (by omega)
        rw [show ((n + 2 : Nat) : Int) % 2 = (n : Int) % 2 by omega]
        rw [Int.pow_add, ← this, Nat.pow_add]
        have h2 : (-(m : Int)) ^ 2 = ((m ^ 2 : Nat) : Int) := by
          rw [Int.pow_succ, Int.pow_succ, Int.pow_zero, Int.one_mul, Int.neg_mul_neg, Nat.pow_two]; simp
        rw [h2]
        cases ((n : Int) % 2 == 1)
        · simp [sg]
        · simp [sg, Int.neg_mul]
  · rw [show decide (x < 0) = false by simp; omega, Bool.false_and]
    obtain ⟨m, rfl⟩ : ∃ m : Nat, x = (m : Int) := ⟨x.natAbs, by omega⟩
    simp [sg]
theorem pow_uover {x : Int} (h : 2 ≤ x.natAbs) {a b : Nat} (hab : a ≤ b) (hf : ¬ x.natAbs ^ a ≤ 18446744073709551615) : fit (x ^ b) = false := by
  have h1 : x.natAbs ^ a ≤ x.natAbs ^ b := Nat.pow_le_pow_right (by omega) hab
  have h2 : (x ^ b).natAbs = x.natAbs ^ b := Int.natAbs_pow x b
  exact fit_not (by omega)
theorem pow_u64 {X k : Nat} (h : 2 ≤ X) (hf : X ^ k ≤ 18446744073709551615) : k ≤ 63 := by
  rcases Nat.lt_or_ge 63 k with h1 | h1
  · have h2 : 2 ^ 64 ≤ 2 ^ k := Nat.pow_le_pow_right (by omega) (by omega)
    have h3 : 2 ^ k ≤ X ^ k := Nat.pow_le_pow_left h k
    omega
  · exact h1
set_option maxHeartbeats 800000 in
theorem rpower_any (x y : Int) (w : World) (hx : -9223372036854775808 ≤ x ∧ x ≤ 9223372036854775807) (hy : -9223372036854775808 ≤ y ∧ y ≤ 9223372036854775807) :
    Calls Try.prog 151 #[.int .i64 x, .int .i64 y] w (Ret w (.tuple #[.int .i64 (pwV x y), .int .i64 (pwE x y)])) := by
  by_cases h1 : x = 1
  · subst h1
    rw [(pw_one y).1, (pw_one y).2]
    go_enter Try.func151, Try.ntmps151
    go_wp2
    all_goals go_ret2
    all_goals exact Ret.mk0 rfl
  have g1 : (x == 1) = false := by simpa using h1
  have g1' : (x != 1) = true := by simpa using h1
  by_cases h2 : x = -1
  · subst h2
    rw [(pw_mone y).1, (pw_mone y).2]
    by_cases y0 : y = 0
    · subst y0
      rw [show (1 : Int) - 2 * (0 % 2) = 1 by omega]
      go_enter Try.func151, Try.ntmps151
      go_wp2
      go_ret2
      exact Ret.mk0 rfl
    · have gy : (y == 0) = false := by simpa using y0
      have A := Lib.hid (fun w => rsize_any y w hy)
      have hm : (y.natAbs : Int) % 2 = y % 2 := by omega
      obtain ⟨Y, hY⟩ : ∃ Y, y.natAbs = Y := ⟨_, rfl⟩
      rw [hY] at A hm
      have hb : Y ≤ 9223372036854775808 := by omega
      have HM := Lib.hid hm
      clear hm hY y0
      go_enter Try.func151, Try.ntmps151
      go_wp2_with fail
      refine (A.out _).mono ?_; rintro e w' ⟨rfl, n1, rfl⟩
      go_wp2
      all_goals go_ret2
      all_goals first | exact Ret.mk _ rfl | exact Ret.mk0 rfl | exact Ret.mk _ (twi ⟨congrArg (fun t => 1 - 2 * t) HM.out, rfl⟩) | exact Ret.mk0 (twi ⟨congrArg (fun t => 1 - 2 * t) HM.out, rfl⟩)
  have g2 : (x == -1) = false := by simpa using h2
  have g2' : (x != -1) = true := by simpa using h2
  by_cases h3 : y < 0
  · rw [(pw_neg h1 h2 h3).1, (pw_neg h1 h2 h3).2]
    go_enter Try.func151, Try.ntmps151
    go_wp2
    go_ret2
    exact Ret.mk0 rfl
  by_cases h4 : y = 0
  · subst h4
    rw [(pw_zero' x).1, (pw_zero' x).2]
    go_enter Try.func151, Try.ntmps151
    go_wp2
    go_ret2
    exact Ret.mk0 rfl
  have g4 : (y == 0) = false := by simpa using h4
  rw [(pw_in h1 h2 (show 0 ≤ y by omega)).1, (pw_in h1 h2 (show 0 ≤ y by omega)).2]
  by_cases h5 : x = 0
  · subst h5
    obtain ⟨p1, p2⟩ := pow_zero_bit (y := y) (by omega)
    rw [← p1, p2, g4]
    clear p1 p2
    go_enter Try.func151, Try.ntmps151
    go_wp2
    go_ret2
    exact Ret.mk0 rfl
  have g5 : (x == 0) = false := by simpa using h5
  have hbig : 2 ≤ x.natAbs := by omega
  obtain ⟨n, rfl⟩ := Int.eq_ofNat_of_zero_le (show 0 ≤ y by omega)
  rw [Int.toNat_natCast]
  have HB := Lib.hid hbig
  have A1 := Lib.hid (fun w => rsize_any x w hx)
  have hXb : x.natAbs ≤ 9223372036854775808 := by omega
  have HS := Lib.hid (sg_pow x n)
  have HO := Lib.hid (fun a (hab : a ≤ n) (hf : ¬ x.natAbs ^ a ≤ 18446744073709551615) => pow_uover (x := x) (a := a) (b := n) hbig hab hf)
  obtain ⟨X, HX⟩ : ∃ X, Hid (x.natAbs = X) := ⟨_, rfl⟩
  rw [HX.out] at A1 hXb HS HO HB
  clear hbig
  have hn64 : (n : Int) ≤ 9223372036854775807 := hy.2
  go_enter Try.func151, Try.ntmps151
  go_wp2
  go_loopw [6, 7] (fun P I wr => ∃ (k p : Nat), k ≤ n ∧ k ≤ 63 ∧ I = .int .i64 k ∧ P = .int .u64 p ∧ Hid (p = X ^ k) ∧ p ≤ 18446744073709551615 ∧ ∃ q, wr = w.drewN q) (fun _ I _ => 64 - (intOf I).toNat)
  case atStart => exact ⟨0, 1, by omega, by omega, rfl, rfl, (Nat.pow_zero X).symm, by omega, 0, rfl⟩
  case round =>
    obtain ⟨k, p, hk, hk63, rfl, rfl, hp, hpb, q, rfl⟩ := hrel
    by_cases hlt : k < n
    · have A2 := Lib.hid (fun w => rproduct_any p X w hpb (by omega))
      have hpp : Hid (p * X = X ^ (k + 1)) := by show p * X = _; rw [hp.out, Nat.pow_succ]
      by_cases hf : p * X ≤ 18446744073709551615
      · rw [(fitU_yes hf).1, (fitU_yes hf).2] at A2
        have h64 := pow_u64 (k := k + 1) HB.out (by rw [← hpp.out]; exact hf)
        obtain ⟨p', Hp'⟩ : ∃ p', Hid (p * X = p') := ⟨_, rfl⟩
        rw [Hp'.out] at A2 hf
        go_wp2_with fail
        refine (A1.out _).mono ?_; rintro e w' ⟨rfl, n1, rfl⟩
        go_wp2_with fail
        refine (A2.out _).mono ?_; rintro e w' ⟨rfl, n2, rfl⟩
        go_wp2
        go_roundw
        case rel => exact ⟨k + 1, p', by omega, by omega, by go_num, rfl, by show p' = _; rw [← Hp'.out, hpp.out], hf, _, rfl⟩
        case measure => simp [intOf]; omega
      · rw [(fitU_no hf).1, (fitU_no hf).2] at A2
        have ho := HO.out (k + 1) (by omega) (by rw [← hpp.out]; exact hf)
        rw [val_not ho, err_not ho]
        clear ho hf
        go_wp2_with fail
        refine (A1.out _).mono ?_; rintro e w' ⟨rfl, n1, rfl⟩
        go_wp2_with fail
        refine (A2.out _).mono ?_; rintro e w' ⟨rfl, n2, rfl⟩
        go_wp2
        go_ret2
        exact Ret.mk _ rfl
    · have hkn : k = n := by omega
      subst hkn
      have hfin : Hid (sg (decide (x < 0) && ((k : Int) % 2 == 1)) p = x ^ k) := by show _ = _; rw [hp.out]; exact HS.out
      by_cases sx : x < 0
      · have hd := decide_eq_true sx
        have A3 := Lib.hid (fun w => rsigned_any ((k : Int) % 2 == 1) p w hpb)
        have hfin2 := hfin.out
        rw [hd, Bool.true_and] at hfin2
        rw [hfin2] at A3
        clear hd hfin2 h4 h3
        go_wp2_with fail
        refine (A3.out _).mono ?_; rintro e w' ⟨rfl, n1, rfl⟩
        go_wp2
        go_ret2
        exact Ret.mk _ rfl
      · have A3 := Lib.hid (fun w => rsigned_any false p w hpb)
        have hd := decide_eq_false sx
        have hfin2 := hfin.out
        rw [hd] at hfin2
        rw [show sg false p = x ^ k from hfin2] at A3
        clear hfin2 h4 h3
        go_wp2_with fail
        refine (A3.out _).mono ?_; rintro e w' ⟨rfl, n1, rfl⟩
        go_wp2
        go_ret2
        exact Ret.mk _ rfl

theorem ways_step {m i g d f n : Nat} (hn : n = binom (m + i) i) (hg : g = Nat.gcd f d) (hf : f = m + (i + 1)) (hd : d = i + 1) :
    n / (d / g) * (f / g) = binom (m + (i + 1)) (i + 1) := by
  have hgp : 0 < g := by rw [hg]; exact Nat.gcd_pos_of_pos_right _ (by omega)
  have g1 : g ∣ d := by rw [hg]; exact Nat.gcd_dvd_right _ _
  have g2 : g ∣ f := by rw [hg]; exact Nat.gcd_dvd_left _ _
  have hx : binom (m + (i + 1)) (i + 1) * d = n * f := by rw [hd, hf, hn]; exact binom_next m i
  obtain ⟨d', hd'⟩ := g1
  obtain ⟨f', hf'⟩ := g2
  have e1 : d / g = d' := by rw [hd']; exact Nat.mul_div_cancel_left _ hgp
  have e2 : f / g = f' := by rw [hf']; exact Nat.mul_div_cancel_left _ hgp
  rw [e1, e2]
  have hd0 : 0 < d' := by
    rcases Nat.eq_zero_or_pos d' with h | h
    · subst h; omega
    · exact h
  -- b d = n f, so b d' = n f'
  have h1 : binom (m + (i + 1)) (i + 1) * d' = n * f' := by
    have : g * (binom (m + (i + 1)) (i + 1) * d') = g * (n * f') := by
      rw [Nat.mul_left_comm, ← hd', Nat.mul_left_comm g n f', ← hf']
      exact hx
    exact Nat.eq_of_mul_eq_mul_left hgp this
  have hc : Nat.Coprime d' f' := by
    have : Nat.gcd f d = g * Nat.gcd f' d' := by rw [hf', hd', Nat.gcd_mul_left]
    rw [← hg] at this
    have h2 : Nat.gcd f' d' = 1 := by
      have : g * Nat.gcd f' d' = g * 1 := by rw [Nat.mul_one]; exact this.symm
      exact Nat.eq_of_mul_eq_mul_left hgp this
    rw [Nat.Coprime, Nat.gcd_comm]; exact h2
  have hdv : d' ∣ n := hc.dvd_of_dvd_mul_right (by rw [← h1]; exact Nat.dvd_mul_left _ _)
  obtain ⟨q, rfl⟩ := hdv
  rw [Nat.mul_div_cancel_left _ hd0]
  have : binom (m + (i + 1)) (i + 1) * d' = q * f' * d' := by rw [h1]; rw [Nat.mul_comm d' q, Nat.mul_right_comm]
  exact (Nat.eq_of_mul_eq_mul_right hd0 this).symm

set_option maxHeartbeats 1600000 in
theorem rways_at (k m : Nat) (x y : Int) (w : World) (hkm : k ≤ m) (e1 : y - (k : Int) = (m : Int)) (hy : y ≤ 9223372036854775807) (hx : x = (k : Int) ∨ x = (m : Int) ∧ (k : Int) < m) :
    Calls Try.prog 152 #[.int .i64 x, .int .i64 y] w (Ret w (.tuple #[.int .i64 (val (binom (m + k) k)), .int .i64 (err (binom (m + k) k))])) := by
  have e2 : y - (m : Int) = (k : Int) := by omega
  have hy0 : 0 ≤ y := by omega
  have hmy : (m : Int) ≤ y := by omega
  have hky : (k : Int) ≤ y := by omega
  have hkm' : (k : Int) ≤ (m : Int) := by omega
  have d0 : decide (y < 0) = false := by simp; omega
  have d1 : decide ((k : Int) < 0) = false := by simp
  have d2 : decide ((m : Int) < 0) = false := by simp
  have d3 : decide (y < (k : Int)) = false := by simp; omega
  have d4 : decide (y < (m : Int)) = false := by simp; omega
  have d5 : decide ((m : Int) < (k : Int)) = false := by simp; omega
  have d5' : decide (m < k) = false := by simp; omega
  rcases hx with rfl | ⟨rfl, hlt0⟩
  all_goals
    first | (have d6 := decide_eq_true hlt0; have d6' : decide (k < m) = true := by simp; omega) | skip
    go_enter Try.func152, Try.ntmps152
    go_wp2
    clear d0 d1 d2 d3 d4 d5 d5' e2
    go_loopw [6, 7] (fun C I wr => ∃ i c : Nat, i ≤ k ∧ I = .int .i64 ((i : Int) + 1) ∧ C = .int .u64 c ∧ Hid (c = binom (m + i) i) ∧ c ≤ 9223372036854775807 ∧ ∃ q, wr = w.drewN q) (fun _ I _ => k + 1 - (intOf I).toNat)
    case atStart => exact ⟨0, 1, by omega, rfl, rfl, (binom_zero _).symm, by omega, 0, rfl⟩
    case round =>
      obtain ⟨i, c, hi, rfl, rfl, hc, hcb, q, rfl⟩ := hrel
      by_cases hlt : i < k
      · obtain ⟨n, hn, HN⟩ : ∃ n : Nat, (m : Int) + ((i : Int) + 1) = (n : Int) ∧ Hid (n = m + (i + 1)) := ⟨m + (i + 1), by omega, rfl⟩
        have hnb : n ≤ 9223372036854775807 := by have := HN.out; omega
        have hgp : 1 ≤ Nat.gcd n (i + 1) := Nat.gcd_pos_of_pos_right _ (by omega)
        have hst := Lib.hid (ways_step hc.out rfl HN.out (rfl : i + 1 = i + 1))
        have hgd : (i + 1) / Nat.gcd n (i + 1) ≤ i + 1 := Nat.div_le_self _ _
        have hgd1 : 1 ≤ (i + 1) / Nat.gcd n (i + 1) := Nat.div_pos (Nat.le_of_dvd (by omega) (Nat.gcd_dvd_right _ _)) (by omega)
        have A1 := Lib.hid (fun w => rcommon_any n (i + 1) w (by omega) (by omega))
        obtain ⟨g, HG⟩ : ∃ g, Hid (Nat.gcd n (i + 1) = g) := ⟨_, rfl⟩
        rw [HG.out] at hgp hst hgd hgd1 A1
        have v1 : ((i : Int) + 1) / (g : Int) = (((i + 1) / g : Nat) : Int) := by simp
        have v3 : (n : Int) / (g : Int) = ((n / g : Nat) : Int) := by simp
        have hfg : n / g ≤ n := Nat.div_le_self _ _
        obtain ⟨dg, Hdg⟩ : ∃ dg, Hid ((i + 1) / g = dg) := ⟨_, rfl⟩
        obtain ⟨fg, Hfg⟩ : ∃ fg, Hid (n / g = fg) := ⟨_, rfl⟩
        rw [Hdg.out] at hst hgd hgd1 v1
        rw [Hfg.out] at hst hfg v3
        have v2 : (c : Int) / (dg : Int) = ((c / dg : Nat) : Int) := by simp
        have hcd : c / dg ≤ c := Nat.div_le_self _ _
        obtain ⟨cd, Hcd⟩ : ∃ cd, Hid (c / dg = cd) := ⟨_, rfl⟩
        rw [Hcd.out] at hst hcd v2
        have A2 := Lib.hid (fun w => rproduct_any cd fg w (by omega) (by omega))
        obtain ⟨p, Hp⟩ : ∃ p, Hid (cd * fg = p) := ⟨_, rfl⟩
        rw [Hp.out] at hst A2
        have hlt' : (i : Int) + 1 ≤ k := by omega
        have gz : ¬ (g : Int) = 0 := by omega
        have dz : ¬ (dg : Int) = 0 := by omega
        have gi : (1 : Int) ≤ g := by omega
        have di : (1 : Int) ≤ dg := by omega
        by_cases hsm : p ≤ 9223372036854775807
        · rw [(fitU_yes (n := p) (by omega)).1, (fitU_yes (n := p) (by omega)).2] at A2
          go_wp2_with fail
          refine (A1.out _).mono ?_; rintro e w' ⟨rfl, n1, rfl⟩
          go_wp2_with fail
          refine (A2.out _).mono ?_; rintro e w' ⟨rfl, n2, rfl⟩
          go_wp2
          exact ⟨⟨i + 1, p, by omega, rfl, rfl, hst.out, hsm, _, rfl⟩, by simp [intOf]; omega⟩
        · have HF := Lib.hid (ch_over2 (k := k) (by omega) hst.out hsm)
          by_cases hmd : p ≤ 18446744073709551615
          · rw [(fitU_yes hmd).1, (fitU_yes hmd).2] at A2
            go_wp2_with fail
            refine (A1.out _).mono ?_; rintro e w' ⟨rfl, n1, rfl⟩
            go_wp2_with fail
            refine (A2.out _).mono ?_; rintro e w' ⟨rfl, n2, rfl⟩
            go_wp2
            go_ret2
            exact Ret.mk _ (twi HF.out)
          · rw [(fitU_no hmd).1, (fitU_no hmd).2] at A2
            go_wp2_with fail
            refine (A1.out _).mono ?_; rintro e w' ⟨rfl, n1, rfl⟩
            go_wp2_with fail
            refine (A2.out _).mono ?_; rintro e w' ⟨rfl, n2, rfl⟩
            go_wp2
            go_ret2
            exact Ret.mk _ (twi HF.out)
      · have hik : i = k := by omega
        subst hik
        have HV : Hid (val ((binom (m + i) i : Nat) : Int) = (c : Int) ∧ err ((binom (m + i) i : Nat) : Int) = 0) := by
          show _ ∧ _
          rw [← hc.out]; exact ve_yes (by omega)
        go_wp2
        go_ret2
        exact Ret.mk _ (twi ⟨HV.out.1.symm, HV.out.2.symm⟩)
set_option maxHeartbeats 400000 in
theorem rways_any (x y : Int) (w : World) (hx : -9223372036854775808 ≤ x ∧ x ≤ 9223372036854775807) (hy : -9223372036854775808 ≤ y ∧ y ≤ 9223372036854775807) :
    Calls Try.prog 152 #[.int .i64 x, .int .i64 y] w (Ret w (.tuple #[.int .i64 (chV x y), .int .i64 (chE x y)])) := by
  by_cases h1 : y < 0
  · rw [(ch_neg h1).1, (ch_neg h1).2]
    go_enter Try.func152, Try.ntmps152
    go_wp2
    go_ret2
    exact Ret.mk0 rfl
  by_cases h2 : x < 0
  · rw [(ch_out h1 (.inl h2)).1, (ch_out h1 (.inl h2)).2]
    go_enter Try.func152, Try.ntmps152
    go_wp2
    go_ret2
    exact Ret.mk0 rfl
  by_cases h3 : y < x
  · rw [(ch_out h1 (.inr h3)).1, (ch_out h1 (.inr h3)).2]
    go_enter Try.func152, Try.ntmps152
    go_wp2
    go_ret2
    exact Ret.mk0 rfl
  rw [(ch_in (show 0 ≤ x by omega) (show x ≤ y by omega)).1, (ch_in (show 0 ≤ x by omega) (show x ≤ y by omega)).2]
  by_cases h4 : x ≤ y - x
  · have := rways_at x.toNat (y - x).toNat x y w (by omega) (by omega) hy.2 (.inl (by omega))
    rw [show (y - x).toNat + x.toNat = y.toNat by omega] at this
    exact this
  · have := rways_at (y - x).toNat x.toNat x y w (by omega) (by omega) hy.2 (.inr (by omega))
    rw [← binom_symm] at this
    rw [show x.toNat + (y - x).toNat = y.toNat by omega] at this
    exact this
end Go.Proofs.Ytdedbfbkakofgaa
