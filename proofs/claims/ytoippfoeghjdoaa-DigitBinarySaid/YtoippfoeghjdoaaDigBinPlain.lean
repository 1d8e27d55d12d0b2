/- Plain laws of binary digits. -/
import Derived.Test.YtoippfoeghjdoaaDigLaws
namespace Go.Proofs.Ytoippfoeghjdoaa
open Go.RowKit Go.Lib
set_option linter.unusedVariables false
set_option linter.unusedSimpArgs false
/-- Binary digits: the width is the greatest length. -/
theorem biW_ub {a : List Int} : ∀ k, k ≤ a.length → (∀ i, i < k → (Lib.bitLen (a.getD i 0).natAbs : Int) ≤ biW (a.take k)) ∧ (0 < k → 1 ≤ biW (a.take k)) ∧ (0 < k → biW (a.take k) = 1 ∨ ∃ i, i < k ∧ biW (a.take k) = (Lib.bitLen (a.getD i 0).natAbs : Int))
  | 0, _ => ⟨fun i hi => absurd hi (by omega), fun h => absurd h (by omega), fun h => absurd h (by omega)⟩
  | k + 1, hk => by
    obtain ⟨h1, h2, h3⟩ := biW_ub (a := a) k (by omega)
    rw [biW_snoc (by omega)]
    refine ⟨fun i hi => ?_, fun _ => by omega, fun _ => ?_⟩
    · by_cases e : i = k
      · subst e; omega
      · have := h1 i (by omega); omega
    · rcases (show max (max (biW (a.take k)) 1) (Lib.bitLen (a.getD k 0).natAbs : Int) = (Lib.bitLen (a.getD k 0).natAbs : Int) ∨ max (max (biW (a.take k)) 1) (Lib.bitLen (a.getD k 0).natAbs : Int) = 1 ∨ (max (max (biW (a.take k)) 1) (Lib.bitLen (a.getD k 0).natAbs : Int) = biW (a.take k) ∧ 1 < biW (a.take k)) by omega) with h | h | ⟨h, h4⟩
      · exact .inr ⟨k, by omega, h⟩
      · exact .inl h
      · rw [h]
        have h0 : 0 < k := by
          rcases Nat.eq_zero_or_pos k with e | e
          · subst e; simp [biW] at h4
          · exact e
        rcases h3 h0 with e | ⟨i, hi, e⟩
        · exact .inl e
        · exact .inr ⟨i, by omega, e⟩
theorem biD_len (w : Nat) (n : Int) (k : Nat) : (biD w n k).length = k := by simp [biD]
theorem biD_at {w : Nat} {n : Int} {k j : Nat} (h : j < k) : (biD w n k).getD j 0 = n / 2 ^ (w - 1 - j) % 2 := by
  unfold biD
  simp only [List.getD_eq_getElem?_getD, List.getElem?_map, List.getElem?_range h, Option.map_some, Option.getD_some]
theorem fit_nn {m : Int} (h : 0 ≤ m ∧ m ≤ 9223372036854775807) : fit m = true := decide_eq_true ⟨by omega, h.2⟩
/-- Binary digits put together. -/
theorem bs_bits {W : Nat} {n : Int} (hn : 0 ≤ n ∧ n ≤ 9223372036854775807) (hlt : n < 2 ^ W) : ∀ j, j ≤ W → bsGo [] [2] [(W : Int)] (biD W n W) j = some (n / 2 ^ (W - j))
  | 0, _ => by
    have : n / 2 ^ (W - 0) = 0 := Int.ediv_eq_zero_of_lt hn.1 (by simpa using hlt)
    rw [this]; rfl
  | j + 1, hj => by
    have ih := bs_bits hn hlt j (by omega)
    have e1 : pkV [] [2] j = 2 := rfl
    have e2 : pkV [(W : Int)] (biD W n W) j = n / 2 ^ (W - 1 - j) % 2 := by unfold pkV; rw [if_neg (by simp), biD_at (by omega)]
    obtain ⟨m, hm⟩ : ∃ m, m = n / 2 ^ (W - 1 - j) := ⟨_, rfl⟩
    have hp : (1 : Int) ≤ 2 ^ (W - 1 - j) := by have := Int.pow_pos (n := 2) (m := W - 1 - j) (by omega); omega
    have e3 : n / 2 ^ (W - j) = m / 2 := by
      rw [show W - j = W - 1 - j + 1 by omega, Int.pow_succ, ← Int.ediv_ediv_of_nonneg (by omega), hm]
    have hm1 : 0 ≤ m ∧ m ≤ n := by
      rw [hm]
      exact ⟨Int.ediv_nonneg hn.1 (by omega), Int.ediv_le_self _ hn.1⟩
    rw [bsGo, ih, e1, e2, ← hm, e3]
    simp only
    rw [if_pos (fit_nn (by omega)), if_pos (fit_nn (by omega)), show W - (j + 1) = W - 1 - j by omega, ← hm]
    congr 1
    omega
theorem base_bits {W : Nat} {n : Int} (hW : W ≤ 4096) (hn : 0 ≤ n ∧ n ≤ 9223372036854775807) (hlt : n < 2 ^ W) : dMon 39 [(W : Int)] (biD W n W) = ([], [n], 0) := by
  have h := bs_bits hn hlt W (Nat.le_refl _)
  rw [Nat.sub_self, Int.pow_zero, Int.ediv_one] at h
  have hN : bsN [2] [(W : Int)] (biD W n W) = W := by unfold bsN; rw [if_neg (by simp), biD_len]
  unfold dMon
  rw [if_neg (by rw [amE_list (biD_len W n W).symm hW]; decide), if_neg (by decide), if_neg (by simp), if_neg (by decide), if_neg (by decide), if_pos rfl]
  unfold bsA bsE
  rw [if_neg (by simp), if_neg (by simp), hN, h]
theorem flat_cut {W : Nat} {f : Int → List Int} (hf : ∀ x, (f x).length = W) : ∀ (b : List Int) (i : Nat), i < b.length → (((b.map f).flatten).drop (i * W)).take W = f (b.getD i 0)
  | [], i, h => absurd h (by simp)
  | x :: b, 0, _ => by simp [List.take_append_of_le_length, hf, List.take_of_length_le]
  | x :: b, i + 1, h => by
    have ih := flat_cut hf b i (by simpa using h)
    rw [List.map_cons, List.flatten_cons, show (i + 1) * W = (f x).length + i * W by rw [hf, Nat.succ_mul]; omega, List.drop_append]
    rw [List.drop_of_length_le (by omega), List.nil_append, show (f x).length + i * W - (f x).length = i * W by omega, ih]
    rfl
theorem flat_len {W : Nat} {f : Int → List Int} (hf : ∀ x, (f x).length = W) (b : List Int) : ((b.map f).flatten).length = W * b.length := by
  induction b with
  | nil => simp
  | cons x b ih => rw [List.map_cons, List.flatten_cons, List.length_append, ih, hf, List.length_cons, Nat.mul_succ]; omega
/-- The first binary digit of a number that fills the width. -/
theorem top_bit {W : Nat} {n : Int} (hW : 1 ≤ W) (hlt : n < 2 ^ W) (h : 2 ^ (W - 1) ≤ n) : n / 2 ^ (W - 1 - 0) % 2 = 1 := by
  have hp : (1 : Int) ≤ 2 ^ (W - 1) := by have := Int.pow_pos (n := 2) (m := W - 1) (by omega); omega
  have h1 : n / 2 ^ (W - 1) = 1 := by
    rw [show W = W - 1 + 1 by omega, Int.pow_succ] at hlt
    exact Int.le_antisymm (by
      have : n / 2 ^ (W - 1) < 2 := Int.ediv_lt_of_lt_mul (by omega) (by omega)
      omega) (Int.le_ediv_of_mul_le (by omega) (by omega))
  rw [Nat.sub_zero, h1]
  rfl
theorem lbit_spec : ∀ (f x : Nat), x ≤ f → x < 2 ^ 64 → x < 2 ^ Lib.bitLen x ∧ (x ≠ 0 → 1 ≤ Lib.bitLen x ∧ 2 ^ (Lib.bitLen x - 1) ≤ x)
  | 0, x, h, _ => by
    obtain rfl : x = 0 := by omega
    exact ⟨by decide, fun h => absurd rfl h⟩
  | f + 1, x, h, h64 => by
    by_cases h0 : x = 0
    · subst h0; exact ⟨by decide, fun h => absurd rfl h⟩
    · have e := Lib.bitLen_half x h0 h64
      obtain ⟨h1, h2⟩ := lbit_spec f (x / 2) (by omega) (by omega)
      obtain ⟨L, hL⟩ : ∃ L, L = Lib.bitLen (x / 2) := ⟨_, rfl⟩
      rw [← hL] at h1 h2 e
      rw [e, Nat.add_comm 1 L]
      refine ⟨by rw [Nat.pow_succ]; omega, fun _ => ⟨by omega, ?_⟩⟩
      rw [Nat.add_sub_cancel]
      by_cases hx : x / 2 = 0
      · rw [hx] at hL
        have hz : Lib.bitLen 0 = 0 := by decide
        rw [hL, hz]; simp; omega
      · obtain ⟨h3, h4⟩ := h2 hx
        rw [show L = L - 1 + 1 by omega, Nat.pow_succ]
        omega
theorem bitLen_int {n : Int} {W : Nat} (hr : n ≤ 9223372036854775807) (h : (Lib.bitLen n.natAbs : Int) ≤ W) (hn : 0 ≤ n) : n < 2 ^ W := by
  have h1 := (lbit_spec n.natAbs n.natAbs (Nat.le_refl _) (by omega)).1
  have h2 : 2 ^ Lib.bitLen n.natAbs ≤ 2 ^ W := Nat.pow_le_pow_right (by omega) (by omega)
  have h3 : ((n.natAbs : Nat) : Int) < ((2 ^ W : Nat) : Int) := by exact_mod_cast Nat.lt_of_lt_of_le h1 h2
  have h4 : ((2 ^ W : Nat) : Int) = (2 : Int) ^ W := by push_cast; rfl
  omega
theorem bitLen_top {n : Int} {W : Nat} (hr : n ≤ 9223372036854775807) (h : (W : Int) = (Lib.bitLen n.natAbs : Int)) (hW : 1 < W) (hn : 0 ≤ n) : 2 ^ (W - 1) ≤ n := by
  have h0 : n.natAbs ≠ 0 := fun e => by
    rw [e] at h
    have hz : Lib.bitLen 0 = 0 := by decide
    have : (Lib.bitLen (0 : Int).natAbs : Int) = 0 := by rw [show (0 : Int).natAbs = 0 from rfl, hz]; rfl
    have h5 : n = 0 := by omega
    rw [hz] at h
    omega
  have h1 := ((lbit_spec n.natAbs n.natAbs (Nat.le_refl _) (by omega)).2 h0).2
  rw [show Lib.bitLen n.natAbs = W by omega] at h1
  have h3 : ((2 ^ (W - 1) : Nat) : Int) ≤ ((n.natAbs : Nat) : Int) := by exact_mod_cast h1
  have h4 : ((2 ^ (W - 1) : Nat) : Int) = (2 : Int) ^ (W - 1) := by push_cast; rfl
  omega
end Go.Proofs.Ytoippfoeghjdoaa
