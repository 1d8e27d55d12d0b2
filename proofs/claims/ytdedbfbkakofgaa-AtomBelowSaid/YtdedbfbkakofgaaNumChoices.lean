/- Contract of num.choices. -/
import Derived.Test.YtdedbfbkakofgaaNumWays
namespace Go.Proofs.Ytdedbfbkakofgaa
open Go.RowKit
set_option linter.unusedVariables false
set_option linter.unusedSimpArgs false

theorem ch_over {m k i c n hi : Nat} (hik : i + 1 ≤ k) (hc : c = binom (m + i) i) (hn : n = m + (i + 1)) (hh : c * n / 18446744073709551616 = hi) (hge : i + 1 ≤ hi) :
    (0 : Int) = val (binom (m + k) k) ∧ (14 : Int) = err (binom (m + k) k) := by
  have h1 : (i + 1) * 18446744073709551616 ≤ c * n := by
    have := Nat.div_mul_le_self (c * n) 18446744073709551616
    rw [hh] at this
    exact Nat.le_trans (Nat.mul_le_mul_right _ hge) this
  have h2 : 18446744073709551616 ≤ binom (m + (i + 1)) (i + 1) := by
    rw [← binom_div m i, ← hc, ← hn, Nat.le_div_iff_mul_le (by omega), Nat.mul_comm]; exact h1
  have h3 := binom_mono (m := m) hik
  exact ov_val (by omega)
theorem ch_over2 {m k i c' : Nat} (hik : i + 1 ≤ k) (hc : c' = binom (m + (i + 1)) (i + 1)) (hge : ¬ c' ≤ 9223372036854775807) :
    (0 : Int) = val (binom (m + k) k) ∧ (14 : Int) = err (binom (m + k) k) := by
  have h3 := binom_mono (m := m) hik
  exact ov_val (by omega)
theorem ch_step {m i c n hi lo : Nat} (hc : c = binom (m + i) i) (hn : n = m + (i + 1)) (hh : c * n / 18446744073709551616 = hi) (hl : c * n % 18446744073709551616 = lo) :
    quo128 hi lo (i + 1) = binom (m + (i + 1)) (i + 1) := by
  have := Nat.div_add_mod (c * n) 18446744073709551616
  unfold quo128
  rw [show hi * 18446744073709551616 + lo = c * n by rw [← hh, ← hl, Nat.mul_comm]; exact this]
  rw [hc, hn, binom_div]

set_option maxHeartbeats 1600000 in
theorem choices_at (k m : Nat) (x y : Int) (w : World) (hkm : k ≤ m) (e1 : y - (k : Int) = (m : Int)) (hy : y ≤ 9223372036854775807) (hx : x = (k : Int) ∨ x = (m : Int)) :
    Calls Try.prog 122 #[.int .i64 x, .int .i64 y] w (Ret w (.tuple #[.int .i64 (val (binom (m + k) k)), .int .i64 (err (binom (m + k) k))])) := by
  have e2 : y - (m : Int) = (k : Int) := by omega
  have hy0 : 0 ≤ y := by omega
  have hmy : (m : Int) ≤ y := by omega
  have hky : (k : Int) ≤ y := by omega
  have hkm' : (k : Int) ≤ (m : Int) := by omega
  have hb : (0 : Int) ≤ (k : Int) := by omega
  have m1 : min (k : Int) (m : Int) = (k : Int) := by omega
  have m2 : min (m : Int) (k : Int) = (k : Int) := by omega
  have d0 : decide (y < 0) = false := by simp; omega
  have d1 : decide ((k : Int) < 0) = false := by simp
  have d2 : decide ((m : Int) < 0) = false := by simp
  have d3 : decide (y < (k : Int)) = false := by simp; omega
  have d4 : decide (y < (m : Int)) = false := by simp; omega
  rcases hx with rfl | rfl
  all_goals
    go_enter Try.func122, Try.ntmps122
    go_wp2
    clear m1 m2 d0 d1 d2 d3 d4 e2
    go_loopw [7, 8] (fun C I wr => ∃ i c : Nat, i ≤ k ∧ I = .int .i64 ((i : Int) + 1) ∧ C = .int .u64 c ∧ Hid (c = binom (m + i) i) ∧ c ≤ 9223372036854775807 ∧ ∃ q, wr = w.drewN q) (fun _ I _ => k + 1 - (intOf I).toNat)
    case atStart => exact ⟨0, 1, by omega, rfl, rfl, (binom_zero _).symm, by omega, 0, rfl⟩
    case round =>
      obtain ⟨i, c, hi, rfl, rfl, hc, hcb, q, rfl⟩ := hrel
      by_cases hlt : i < k
      · have i62 := binom_small (m := m) (i := i) (by omega) (by rw [← hc.out]; exact hcb)
        obtain ⟨n, hn, HN⟩ : ∃ n : Nat, (m : Int) + ((i : Int) + 1) = (n : Int) ∧ Hid (n = m + (i + 1)) := ⟨m + (i + 1), by omega, rfl⟩
        have hnb : n ≤ 9223372036854775807 := by have := HN.out; omega
        obtain ⟨hh, Hh⟩ : ∃ hh, Hid (c * n / 18446744073709551616 = hh) := ⟨_, rfl⟩
        obtain ⟨ll, Hl⟩ : ∃ ll, Hid (c * n % 18446744073709551616 = ll) := ⟨_, rfl⟩
        have hlb : ll ≤ 18446744073709551615 := by
          have := Hl.out
          have := Nat.mod_lt (c * n) (show 0 < 18446744073709551616 by omega)
          omega
        have hlt' : (i : Int) + 1 ≤ k := by omega
        by_cases hge : i + 1 ≤ hh
        · have HF := Lib.hid (ch_over (k := k) (by omega) hc.out HN.out Hh.out hge)
          have hge' : (i : Int) + 1 ≤ hh := by omega
          go_wp2_with fail
          refine (Try.bits_Mul64 _ _ (by omega) (by omega) _).mono ?_
          rintro e w' ⟨rfl, rfl⟩
          rw [Hh.out, Hl.out]
          go_wp2
          go_ret2
          exact Ret.mk _ (twi HF.out)
        · have hge' : (hh : Int) < (i : Int) + 1 := by omega
          obtain ⟨c', Hc'⟩ : ∃ c', Hid (quo128 hh ll (i + 1) = c') := ⟨_, rfl⟩
          have Hb : Hid (c' = binom (m + (i + 1)) (i + 1)) := by
            show c' = binom (m + (i + 1)) (i + 1)
            rw [← Hc'.out]; exact ch_step hc.out HN.out Hh.out Hl.out
          go_wp2_with fail
          refine (Try.bits_Mul64 _ _ (by omega) (by omega) _).mono ?_
          rintro e w' ⟨rfl, rfl⟩
          rw [Hh.out, Hl.out]
          go_wp2_with fail
          rw [show (i : Int) + 1 = ((i + 1 : Nat) : Int) from rfl]
          refine (div64_any hh ll (i + 1) _ (by omega) (by omega) (by omega)).mono ?_
          rintro e w' ⟨r, rfl, n1, rfl⟩
          rw [Hc'.out]
          by_cases hbig : c' ≤ 9223372036854775807
          · have hbig' : (c' : Int) ≤ 9223372036854775807 := by omega
            go_wp2
            exact ⟨⟨i + 1, c', by omega, rfl, rfl, Hb, hbig, _, rfl⟩, by simp [intOf]; omega⟩
          · have HF := Lib.hid (ch_over2 (k := k) (by omega) Hb.out hbig)
            have hbig' : (9223372036854775807 : Int) < (c' : Int) := by omega
            go_wp2
            go_ret2
            exact Ret.mk _ (twi HF.out)
      · have hik : i = k := by omega
        subst hik
        go_wp2_with fail
        refine (plain_any _ _ (by omega) (by omega)).mono ?_
        rintro e w' ⟨rfl, n1, rfl⟩
        go_wp2
        go_ret2
        exact Ret.mk (q + n1) (by rw [← hc.out]; rfl)

set_option maxHeartbeats 400000 in
theorem choices_any (x y : Int) (w : World) (hx : -9223372036854775808 ≤ x ∧ x ≤ 9223372036854775807) (hy : -9223372036854775808 ≤ y ∧ y ≤ 9223372036854775807) :
    Calls Try.prog 122 #[.int .i64 x, .int .i64 y] w (Ret w (.tuple #[.int .i64 (chV x y), .int .i64 (chE x y)])) := by
  by_cases h1 : y < 0
  · rw [(ch_neg h1).1, (ch_neg h1).2]
    go_enter Try.func122, Try.ntmps122
    go_wp2
    go_ret2
    exact Ret.mk0 rfl
  by_cases h2 : x < 0
  · rw [(ch_out h1 (.inl h2)).1, (ch_out h1 (.inl h2)).2]
    go_enter Try.func122, Try.ntmps122
    go_wp2
    go_ret2
    exact Ret.mk0 rfl
  by_cases h3 : y < x
  · rw [(ch_out h1 (.inr h3)).1, (ch_out h1 (.inr h3)).2]
    go_enter Try.func122, Try.ntmps122
    go_wp2
    go_ret2
    exact Ret.mk0 rfl
  rw [(ch_in (show 0 ≤ x by omega) (show x ≤ y by omega)).1, (ch_in (show 0 ≤ x by omega) (show x ≤ y by omega)).2]
  by_cases h4 : x ≤ y - x
  · have := choices_at x.toNat (y - x).toNat x y w (by omega) (by omega) hy.2 (.inl (by omega))
    rw [show (y - x).toNat + x.toNat = y.toNat by omega] at this
    exact this
  · have := choices_at (y - x).toNat x.toNat x y w (by omega) (by omega) hy.2 (.inr (by omega))
    rw [← binom_symm] at this
    rw [show x.toNat + (y - x).toNat = y.toNat by omega] at this
    exact this
end Go.Proofs.Ytdedbfbkakofgaa
