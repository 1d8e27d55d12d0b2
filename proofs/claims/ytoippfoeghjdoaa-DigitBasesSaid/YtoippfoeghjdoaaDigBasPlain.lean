/- Plain laws of digits by any bases. -/
import Derived.Test.YtoippfoeghjdoaaDigLaws
namespace Go.Proofs.Ytoippfoeghjdoaa
open Go.RowKit Go.Lib
set_option linter.unusedVariables false
set_option linter.unusedSimpArgs false
theorem fdiv_fitB {x y : Int} (hx : fit x = true) (h0 : ¬ y = 0) (hm : ¬ fit (x.fdiv y) = true) : y = -1 := by
  unfold fit at hx hm
  simp only [decide_eq_true_eq] at hx hm
  obtain ⟨h1, h2, h3⟩ := fmod_spec x y h0
  obtain ⟨q, hq⟩ : ∃ q, q = x.fdiv y := ⟨_, rfl⟩
  obtain ⟨m, hmm⟩ : ∃ m, m = x.fmod y := ⟨_, rfl⟩
  rw [← hq] at h1 hm
  rw [← hmm] at h1 h2 h3
  rcases (show 0 < y ∨ y = -1 ∨ y ≤ -2 by omega) with h | h | h
  · exfalso
    obtain ⟨g1, g2⟩ := h2 h
    by_cases hb : 9223372036854775807 < q
    · have : 1 * q ≤ y * q := Int.mul_le_mul_of_nonneg_right (by omega) (by omega)
      omega
    · have h4 : q + 1 ≤ -9223372036854775808 := by omega
      have h5 : y * (q + 1) ≤ 1 * (q + 1) := Int.mul_le_mul_of_nonpos_right (by omega) (by omega)
      rw [Int.mul_add] at h5
      omega
  · exact h
  · exfalso
    obtain ⟨g1, g2⟩ := h3 (by omega)
    by_cases hb : 9223372036854775807 < q
    · have : y * q ≤ (-2) * q := Int.mul_le_mul_of_nonneg_right (by omega) (by omega)
      omega
    · have h4 : q + 1 ≤ -9223372036854775808 := by omega
      have h5 : (-2) * (q + 1) ≤ y * (q + 1) := Int.mul_le_mul_of_nonpos_right (by omega) (by omega)
      rw [Int.mul_add y] at h5
      omega
theorem anGo_some {xs : List Int} {n : Int} {j : Nat} {p : Int × List Int} (h : anGo xs n (j + 1) = some p) :
    ∃ q dl d, anGo xs n j = some (q, dl) ∧ p.2 = d :: dl ∧ ((xs.getD (xs.length - 1 - j) 0 = 0 ∧ d = q) ∨ (xs.getD (xs.length - 1 - j) 0 ≠ 0 ∧ p.1 = q.fdiv (xs.getD (xs.length - 1 - j) 0) ∧ d = q.fmod (xs.getD (xs.length - 1 - j) 0))) := by
  rw [anGo] at h
  cases hj : anGo xs n j with
  | none => rw [hj] at h; simp at h
  | some r =>
    obtain ⟨q, dl⟩ := r
    rw [hj] at h
    simp only at h
    by_cases h0 : xs.getD (xs.length - 1 - j) 0 = 0
    · rw [if_pos h0] at h
      cases h
      exact ⟨q, dl, q, rfl, rfl, .inl ⟨h0, rfl⟩⟩
    · rw [if_neg h0] at h
      split at h
      · cases h
        exact ⟨q, dl, _, rfl, rfl, .inr ⟨h0, rfl, rfl⟩⟩
      · cases h
/-- An earlier stage is there, its digits the last ones. -/
theorem anGo_back {xs : List Int} {n : Int} {N : Nat} {q : Int} {ds : List Int} (h : anGo xs n N = some (q, ds)) : ∀ d, d ≤ N → ∃ r, anGo xs n (N - d) = some (r, ds.drop d)
  | 0, _ => ⟨q, h⟩
  | d + 1, hd => by
    obtain ⟨r, hr⟩ := anGo_back h d (by omega)
    rw [show N - d = N - (d + 1) + 1 by omega] at hr
    obtain ⟨r', dl, x, h1, h2, -⟩ := anGo_some hr
    refine ⟨r', ?_⟩
    rw [h1]
    simp only at h2
    rw [show ds.drop (d + 1) = (ds.drop d).tail by rw [List.tail_drop], h2]
    rfl
theorem anGo_bad {x : List Int} {n : Int} (hn : fit n = true) : ∀ j, j ≤ x.length + 1 → (∃ q dl, anGo (0 :: x) n j = some (q, dl) ∧ fit q = true) ∨ ∃ i, i < x.length ∧ x.getD i 0 = -1
  | 0, _ => .inl ⟨n, [], rfl, hn⟩
  | j + 1, hj => by
    rcases anGo_bad (x := x) hn j (by omega) with ⟨q, dl, h1, h2⟩ | h
    · obtain ⟨b, hb⟩ : ∃ b, b = (0 :: x).getD ((0 :: x).length - 1 - j) 0 := ⟨_, rfl⟩
      rw [anGo, h1, ← hb]
      simp only
      by_cases h0 : b = 0
      · rw [if_pos h0]; exact .inl ⟨0, _, rfl, by decide⟩
      · rw [if_neg h0]
        by_cases hf : fit (q.fdiv b) = true
        · rw [if_pos hf]; exact .inl ⟨_, _, rfl, hf⟩
        · have hm := fdiv_fitB h2 h0 hf
          right
          rw [hm] at hb
          simp only [List.length_cons, Nat.add_sub_cancel] at hb
          by_cases hj0 : x.length - j = 0
          · rw [hj0] at hb; simp at hb
          · refine ⟨x.length - j - 1, by omega, ?_⟩
            rw [show x.length - j = x.length - j - 1 + 1 by omega, List.getD_cons_succ] at hb
            exact hb.symm
    · exact .inr h
theorem dig_at {xs : List Int} {n q : Int} {ds : List Int} (h : anGo xs n xs.length = some (q, ds)) {i : Nat} (hi : i < xs.length) :
    ∃ r, (xs.getD i 0 = 0 ∧ ds.getD i 0 = r) ∨ (xs.getD i 0 ≠ 0 ∧ ds.getD i 0 = r.fmod (xs.getD i 0)) := by
  obtain ⟨r, hr⟩ := anGo_back h i (by omega)
  rw [show xs.length - i = xs.length - i - 1 + 1 by omega] at hr
  obtain ⟨r', dl, d, h1, h2, h3⟩ := anGo_some hr
  rw [show xs.length - 1 - (xs.length - i - 1) = i by omega] at h3
  have hd : ds.getD i 0 = d := by
    simp only at h2
    have : (ds.drop i).getD 0 0 = d := by rw [h2]; rfl
    rw [← this]
    simp [List.getD_eq_getElem?_getD]
  rw [hd]
  refine ⟨r', ?_⟩
  rcases h3 with ⟨a, b⟩ | ⟨a, -, b⟩
  · exact .inl ⟨a, b⟩
  · exact .inr ⟨a, b⟩
/-- What is put together by the same bases is what the digits were told of. -/
theorem bs_back {x : List Int} {n q : Int} {ds : List Int} (h : anGo (0 :: x) n (x.length + 1) = some (q, ds)) (hx : ∀ i, i < x.length → x.getD i 0 ≠ 0) {N : Int} :
    ∀ i, i ≤ x.length → ∀ r, bsGo [N] (0 :: x) [N] ds (i + 1) = some r → anGo (0 :: x) n (x.length - i) = some (r, ds.drop (i + 1))
  | 0, _, r, hr => by
    obtain ⟨r', dl, d, h1, h2, h3⟩ := anGo_some h
    have e : bsGo [N] (0 :: x) [N] ds 0 = some 0 := rfl
    rw [bsGo] at hr
    simp only at h2
    subst h2
    simp only [List.length_cons, Nat.add_sub_cancel, Nat.sub_self, List.getD_cons_zero] at h3
    rcases h3 with ⟨-, rfl⟩ | ⟨h3, -⟩
    · have e1 : pkV [N] (0 :: x) 0 = 0 := rfl
      have e2 : pkV [N] (d :: dl) 0 = d := rfl
      rw [e, e1, e2] at hr
      simp only at hr
      split at hr
      · split at hr
        · simp only [Option.some.injEq] at hr
          rw [Int.zero_mul, Int.zero_add] at hr
          rw [← hr, Nat.sub_zero, h1]
          rfl
        · cases hr
      · cases hr
    · exact absurd rfl h3
  | i + 1, hi, r, hr => by
    rw [bsGo] at hr
    cases hj : bsGo [N] (0 :: x) [N] ds (i + 1) with
    | none => rw [hj] at hr; simp at hr
    | some p =>
      rw [hj] at hr
      have ih := bs_back h hx i (by omega) p hj
      rw [show x.length - i = x.length - (i + 1) + 1 by omega] at ih
      obtain ⟨r', dl, d, h1, h2, h3⟩ := anGo_some ih
      simp only at h2
      have hb : (0 :: x).getD ((0 :: x).length - 1 - (x.length - (i + 1))) 0 = x.getD i 0 := by
        rw [List.length_cons, show x.length + 1 - 1 - (x.length - (i + 1)) = i + 1 by omega, List.getD_cons_succ]
      rw [hb] at h3
      have hd : ds.getD (i + 1) 0 = d := by
        have : (ds.drop (i + 1)).getD 0 0 = d := by rw [h2]; rfl
        rw [← this]
        simp [List.getD_eq_getElem?_getD]
      have e1 : pkV [N] (0 :: x) (i + 1) = x.getD i 0 := by unfold pkV; rw [if_neg (by simp), List.getD_cons_succ]
      have e2 : pkV [N] ds (i + 1) = d := by unfold pkV; rw [if_neg (by simp), hd]
      rw [e1, e2] at hr
      have hdr : ds.drop (i + 1 + 1) = dl := by rw [show ds.drop (i + 1 + 1) = (ds.drop (i + 1)).tail by rw [List.tail_drop], h2]; rfl
      rcases h3 with ⟨h3, -⟩ | ⟨h3, h4, h5⟩
      · exact absurd h3 (hx i (by omega))
      · have := (fmod_spec r' (x.getD i 0) h3).1
        rw [← h4, ← h5] at this
        simp only at this
        have e3 : p * x.getD i 0 + d = r' := by rw [Int.mul_comm]; omega
        simp only at hr
        split at hr
        · split at hr
          · cases hr
            rw [h1, hdr, e3]
          · cases hr
        · cases hr
theorem anti_none {xs : List Int} {n : Nat} {x : Int} (hl : xs.length = n) (hn : n ≤ 4095) (h : anGo (0 :: xs) x (n + 1) = none) : dDya 40 [((n + 1 : Nat) : Int)] (0 :: xs) [] [x] = ([], [], 14) := by
  have hl2 : (0 :: xs).length = n + 1 := by rw [List.length_cons, hl]
  unfold dDya
  rw [if_neg (by rw [amE_list hl2.symm (by omega), amE_scal]; decide), if_neg (by decide), if_neg (by simp), if_neg (by decide), if_neg (by decide)]
  unfold anS anA anE
  rw [hl2, List.getD_cons_zero, h]
theorem anti_some {xs : List Int} {n : Nat} {x q : Int} {ds : List Int} (hl : xs.length = n) (hn : n ≤ 4095) (h : anGo (0 :: xs) x (n + 1) = some (q, ds)) : dDya 40 [((n + 1 : Nat) : Int)] (0 :: xs) [] [x] = ([((n + 1 : Nat) : Int)], ds, 0) := by
  have hl2 : (0 :: xs).length = n + 1 := by rw [List.length_cons, hl]
  unfold dDya
  rw [if_neg (by rw [amE_list hl2.symm (by omega), amE_scal]; decide), if_neg (by decide), if_neg (by simp), if_neg (by decide), if_neg (by decide)]
  unfold anS anA anE
  rw [hl2, List.getD_cons_zero, h]
theorem based_none {xs ds : List Int} {n : Nat} (hl : xs.length = n) (hd : ds.length = n + 1) (hn : n ≤ 4095) (h : bsGo [((n + 1 : Nat) : Int)] (0 :: xs) [((n + 1 : Nat) : Int)] ds (n + 1) = none) : dDya 39 [((n + 1 : Nat) : Int)] (0 :: xs) [((n + 1 : Nat) : Int)] ds = ([], [], 14) := by
  have hl2 : (0 :: xs).length = n + 1 := by rw [List.length_cons, hl]
  unfold dDya
  rw [if_neg (by rw [amE_list hl2.symm (by omega), amE_list hd.symm (by omega)]; decide), if_neg (by decide), if_neg (by simp), if_neg (by decide), if_pos rfl]
  have hb : bsN (0 :: xs) [((n + 1 : Nat) : Int)] ds = n + 1 := by unfold bsN; rw [if_neg (by simp), hd]
  have hc : ¬ (([((n + 1 : Nat) : Int)] : List Int).length = 1 ∧ ([((n + 1 : Nat) : Int)] : List Int).length = 1 ∧ (0 :: xs).length ≠ ds.length) := fun h => h.2.2 (by rw [hl2, hd])
  unfold bsA bsE
  rw [if_neg hc, if_neg hc, hb, h]
theorem based_some {xs ds : List Int} {n : Nat} {r : Int} (hl : xs.length = n) (hd : ds.length = n + 1) (hn : n ≤ 4095) (h : bsGo [((n + 1 : Nat) : Int)] (0 :: xs) [((n + 1 : Nat) : Int)] ds (n + 1) = some r) : dDya 39 [((n + 1 : Nat) : Int)] (0 :: xs) [((n + 1 : Nat) : Int)] ds = ([], [r], 0) := by
  have hl2 : (0 :: xs).length = n + 1 := by rw [List.length_cons, hl]
  unfold dDya
  rw [if_neg (by rw [amE_list hl2.symm (by omega), amE_list hd.symm (by omega)]; decide), if_neg (by decide), if_neg (by simp), if_neg (by decide), if_pos rfl]
  have hb : bsN (0 :: xs) [((n + 1 : Nat) : Int)] ds = n + 1 := by unfold bsN; rw [if_neg (by simp), hd]
  have hc : ¬ (([((n + 1 : Nat) : Int)] : List Int).length = 1 ∧ ([((n + 1 : Nat) : Int)] : List Int).length = 1 ∧ (0 :: xs).length ≠ ds.length) := fun h => h.2.2 (by rw [hl2, hd])
  unfold bsA bsE
  rw [if_neg hc, if_neg hc, hb, h]
/-- Each digit lies within its base. -/
theorem dig_bd {xs : List Int} {n : Nat} {x q : Int} {ds : List Int} (hl : xs.length = n) (h : anGo (0 :: xs) x (n + 1) = some (q, ds)) (i : Nat) (hi : i < n + 1) :
    (0 < (0 :: xs).getD i 0 → 0 ≤ ds.getD i 0 ∧ ds.getD i 0 < (0 :: xs).getD i 0) ∧ ((0 :: xs).getD i 0 < 0 → (0 :: xs).getD i 0 < ds.getD i 0 ∧ ds.getD i 0 ≤ 0) := by
  have hl2 : (0 :: xs).length = n + 1 := by rw [List.length_cons, hl]
  rw [← hl2] at h
  obtain ⟨r, ⟨h0, h1⟩ | ⟨h0, h1⟩⟩ := dig_at h (i := i) (by rw [hl2]; exact hi)
  · exact ⟨fun h => absurd h (by omega), fun h => absurd h (by omega)⟩
  · obtain ⟨-, h2, h3⟩ := fmod_spec r _ h0
    rw [h1]
    exact ⟨h2, h3⟩
theorem back_eq {xs : List Int} {n : Nat} {x q r N : Int} {ds : List Int} (hl : xs.length = n) (h : anGo (0 :: xs) x (n + 1) = some (q, ds)) (hx : ∀ i, i < n → xs.getD i 0 ≠ 0) (hr : bsGo [N] (0 :: xs) [N] ds (n + 1) = some r) : r = x := by
  subst hl
  have := bs_back h hx xs.length (Nat.le_refl _) r hr
  rw [Nat.sub_self] at this
  simp only [anGo, Option.some.injEq, Prod.mk.injEq] at this
  exact this.1.symm
end Go.Proofs.Ytoippfoeghjdoaa
