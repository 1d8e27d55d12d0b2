/- Plain facts on items: how many, how long, what they are. -/
import Derived.Test.YtoippfoeghjdoaaArrMake
namespace Go.Proofs.Ytoippfoeghjdoaa
open Go.RowKit Go.Lib
set_option linter.unusedVariables false
set_option linter.unusedSimpArgs false
theorem below_via' {W W1 W2 : World} (h : Below W.heap.size W W1) (h2 : Below W1.heap.size W1 W2) : Below W.heap.size W W2 := h.trans (h2.mono h.size)
theorem pm_cons (x : Int) (xs : List Int) : pm (x :: xs) = max x 1 * pm xs := by
  have : ∀ (xs : List Int) (a b : Int), xs.foldl (fun n k => n * max k 1) (a * b) = a * xs.foldl (fun n k => n * max k 1) b := by
    intro xs; induction xs with
    | nil => intro a b; rfl
    | cons y ys ih => intro a b; simp only [List.foldl_cons]; rw [Int.mul_assoc, ih]
  have h := this xs (max x 1) 1
  simpa [pm] using h
theorem mayE_tail {s : List Int} (h : mayE s = 0) : mayE s.tail = 0 := by
  cases s with
  | nil => exact h
  | cons x xs =>
    show mayE xs = 0
    unfold mayE at h ⊢
    have h1 : xs.any (fun k => decide (k < 0)) = false := by
      split at h
      · omega
      · rename_i h2; simp only [List.any_cons, Bool.or_eq_true, not_or] at h2; simpa using h2.2
    have h2 : ¬ 8 < xs.length ∧ ¬ 4096 < pm (x :: xs) := by
      split at h
      · omega
      · split at h
        · omega
        · split at h
          · omega
          · rename_i h3 h4; simp only [List.length_cons] at h3; exact ⟨by omega, h4⟩
    have h3 : pm xs ≤ pm (x :: xs) := by
      rw [pm_cons]
      have hp := (pm_up xs xs.length).1
      rw [List.take_length] at hp
      exact (le_mul1 (show 1 ≤ max x 1 by omega) hp).2
    rw [h1]
    simp only [Bool.false_eq_true, if_false]
    rw [if_neg h2.1, if_neg (by omega)]
theorem item_len {s a : List Int} (h : amE s a = 0) : ∃ N m : Nat, itE s a = N ∧ pr s.tail = m ∧ N * m = a.length := by
  obtain ⟨h1, h2⟩ := amE_zero h
  obtain ⟨g1, g2, g3⟩ := mayE_zero h1
  cases s with
  | nil =>
    refine ⟨1, 1, by simp [itE, h], rfl, ?_⟩
    have : pr [] = 1 := rfl
    omega
  | cons x xs =>
    have e : itE (x :: xs) a = x := by simp [itE, h]
    rw [pr_cons] at h2
    have hxs : ∀ i, 0 ≤ xs.getD i 0 := fun i => by have := g1 (i + 1); simpa [List.getD] using this
    have hp := (pr_le xs hxs xs.length).1
    rw [List.take_length] at hp
    have hx : 0 ≤ x := by simpa using g1 0
    obtain ⟨N, rfl⟩ := Int.eq_ofNat_of_zero_le hx
    obtain ⟨m, hm⟩ := Int.eq_ofNat_of_zero_le hp
    refine ⟨N, m, by rw [e], by simpa using hm, ?_⟩
    rw [hm] at h2
    exact_mod_cast h2
theorem it_one {s a : List Int} {N : Nat} (h : s.length = 0) (h2 : amE s a = 0) (h3 : itE s a = N) : N = 1 := by
  rw [itE, if_pos h2, if_pos h] at h3; omega
theorem it_head {s a : List Int} {N n : Nat} (h : s.length = n) (h0 : 0 < n) (h2 : amE s a = 0) (h3 : itE s a = N) : s.getD 0 0 = N := by
  rw [itE, if_pos h2, if_neg (by omega)] at h3; exact h3
theorem itemA_length {a : List Int} {N m k : Nat} (h : N * m = a.length) (hk : k < N) : (itemA a k m).length = m := by
  have h1 : (k + 1) * m ≤ N * m := Nat.mul_le_mul_right _ (by omega)
  rw [Nat.add_mul, Nat.one_mul] at h1
  simp [itemA]; omega
theorem itemA_take (a : List Int) (k m : Nat) : a.take (k * m) ++ itemA a k m = a.take ((k + 1) * m) := by
  rw [Nat.add_mul, Nat.one_mul, List.take_add]; rfl
theorem amE_item {s a : List Int} {N m k : Nat} (h : amE s a = 0) (hm : pr s.tail = m) (hN : N * m = a.length) (hk : k < N) : amE s.tail (itemA a k m) = 0 := by
  obtain ⟨h1, h2⟩ := amE_zero h
  unfold amE
  rw [if_pos (mayE_tail h1), itemA_length hN hk, if_pos hm]
end Go.Proofs.Ytoippfoeghjdoaa
