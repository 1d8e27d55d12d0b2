/- Plain facts on the agreement of two arrays, and the answer out of a shape of the call's own. -/
import Derived.Test.YtdedbfbkakofgaaAtomPlain
import Derived.Test.YtdedbfbkakofgaaBelow
namespace Go.Proofs.Ytdedbfbkakofgaa
open Go.RowKit Go.Lib
set_option linter.unusedVariables false
set_option linter.unusedSimpArgs false
theorem pr_append (s t : List Int) : pr (s ++ t) = pr s * pr t := by
  induction s with
  | nil => simp [pr]
  | cons x xs ih => rw [List.cons_append, pr_cons, pr_cons, ih, Int.mul_assoc]
theorem ag_cases {s t : List Int} (h : agE s t = 0) : (agL s t = t ∧ t.take s.length = s) ∨ (agL s t = s ∧ s.take t.length = t) := by
  unfold agE at h
  unfold agL
  by_cases h1 : s.length < t.length
  · rw [if_pos h1] at h ⊢
    by_cases h2 : t.take s.length = s
    · rw [if_pos h2]; exact .inl ⟨rfl, h2⟩
    · rw [if_neg h2] at h; omega
  · rw [if_neg h1] at h ⊢
    by_cases h2 : s.take t.length = t
    · rw [if_pos h2]; exact .inr ⟨rfl, h2⟩
    · rw [if_neg h2] at h; omega
theorem ag_bad {s t : List Int} (h : agE s t ≠ 0) : agL s t = [] ∧ agE s t = 11 := by
  unfold agE at h ⊢
  unfold agL
  by_cases h1 : s.length < t.length
  · rw [if_pos h1] at h ⊢; rw [if_pos h1]
    by_cases h2 : t.take s.length = s
    · rw [if_pos h2] at h; omega
    · rw [if_neg h2, if_neg h2]; exact ⟨rfl, rfl⟩
  · rw [if_neg h1] at h ⊢; rw [if_neg h1]
    by_cases h2 : s.take t.length = t
    · rw [if_pos h2] at h; omega
    · rw [if_neg h2, if_neg h2]; exact ⟨rfl, rfl⟩
theorem am_pr {s a : List Int} (h : amE s a = 0) : pr s = a.length ∧ a.length ≤ 4096 := by
  obtain ⟨h1, h2⟩ := amE_zero h
  obtain ⟨g1, g2, g3⟩ := mayE_zero h1
  have q3 := pr_le s g1 s.length
  rw [List.take_length] at q3
  exact ⟨h2, by omega⟩
theorem div_in {n l m k : Nat} (h : n = l * m) (hk : k < n) : 0 < l ∧ 0 < m ∧ n / l = m ∧ k / m < l := by
  have hl : 0 < l := by rcases Nat.eq_zero_or_pos l with h0 | h0
                        · subst h0; omega
                        · exact h0
  have hm : 0 < m := by rcases Nat.eq_zero_or_pos m with h0 | h0
                        · subst h0; omega
                        · exact h0
  refine ⟨hl, hm, by rw [h, Nat.mul_div_cancel_left _ hl], ?_⟩
  rw [Nat.div_lt_iff_lt_mul hm]; omega
theorem dy_place {s a t b : List Int} (h1 : amE s a = 0) (h2 : amE t b = 0) (h : agE s t = 0) :
    pr (agL s t) = adyN s t ∧ mayE (agL s t) = 0 ∧ adyN s t ≤ 4096 ∧ (∀ k, k < adyN s t → ∃ m1 m2, (0 < a.length ∧ 0 < m1 ∧ adyN s t / a.length = m1 ∧ k / m1 < a.length) ∧ (0 < b.length ∧ 0 < m2 ∧ adyN s t / b.length = m2 ∧ k / m2 < b.length)) := by
  obtain ⟨p1, q1⟩ := am_pr h1
  obtain ⟨p2, q2⟩ := am_pr h2
  obtain ⟨y1, -⟩ := amE_zero h1
  obtain ⟨y2, -⟩ := amE_zero h2
  rcases ag_cases h with ⟨e, e2⟩ | ⟨e, e2⟩
  · have hn : adyN s t = b.length := by unfold adyN; rw [e]; omega
    have hs : t = s ++ t.drop s.length := by conv => lhs; rw [← List.take_append_drop s.length t, e2]
    have hp : (b.length : Int) = a.length * pr (t.drop s.length) := by rw [← p2, ← p1, ← pr_append, ← hs]
    refine ⟨by rw [e, hn, p2], by rw [e]; exact y2, by omega, fun k hk => ?_⟩
    rw [hn] at hk ⊢
    have hnn : 0 ≤ pr (t.drop s.length) := by
      have := pr_le (t.drop s.length) (fun i => by rw [List.getD_eq_getElem?_getD, List.getElem?_drop]; have := (mayE_zero y2).1 (s.length + i); rwa [List.getD_eq_getElem?_getD] at this) (t.drop s.length).length
      rw [List.take_length] at this; exact this.1
    obtain ⟨m, hm⟩ := Int.eq_ofNat_of_zero_le hnn
    have hp' : b.length = a.length * m := by rw [hm] at hp; exact_mod_cast hp
    exact ⟨m, 1, div_in hp' hk, div_in (by omega) hk⟩
  · have hn : adyN s t = a.length := by unfold adyN; rw [e]; omega
    have hs : s = t ++ s.drop t.length := by conv => lhs; rw [← List.take_append_drop t.length s, e2]
    have hp : (a.length : Int) = b.length * pr (s.drop t.length) := by rw [← p2, ← p1, ← pr_append, ← hs]
    refine ⟨by rw [e, hn, p1], by rw [e]; exact y1, by omega, fun k hk => ?_⟩
    rw [hn] at hk ⊢
    have hnn : 0 ≤ pr (s.drop t.length) := by
      have := pr_le (s.drop t.length) (fun i => by rw [List.getD_eq_getElem?_getD, List.getElem?_drop]; have := (mayE_zero y1).1 (t.length + i); rwa [List.getD_eq_getElem?_getD] at this) (s.drop t.length).length
      rw [List.take_length] at this; exact this.1
    obtain ⟨m, hm⟩ := Int.eq_ofNat_of_zero_le hnn
    have hp' : a.length = b.length * m := by rw [hm] at hp; exact_mod_cast hp
    exact ⟨1, m, div_in (by omega) hk, div_in hp' hk⟩
/-- A shape of the call's own, a row of zeros, the box of both. -/
theorem fm_own {w' w2 : World} {n c1 N : Nat} {ao1 : Option Addr} {s : List Int} (hN : N ≤ 1000000) (hL : Ls w2 ao1 n c1 s) (hO : w2.ownsRow w'.heap.size 3 1 (.slice ao1 n c1) n (s.map (Value.int .i64))) (hB : Below w'.heap.size w' w2) :
    FillMid w' ((w2.alloc (.cells (Array.replicate N (.int .i64 0)) 2)).alloc (.cells #[.slice ao1 n c1, .slice (some ⟨w2.heap.size, 0, none⟩) N N] 55)) (w2.heap.size + 1) n ao1 c1 N (w2.heap.size) s (List.replicate N 0) := by
  have hs := hB.size
  refine ⟨by simpa using BoxA.new (w2.alloc (.cells (Array.replicate N (.int .i64 0)) 2)) _ _ _, by omega, ?_, (hO.alloc _).alloc _, (own_zeros w2 _ N _ hN hs).alloc _, ?_, ?_, ?_, (hB.alloc hs _).alloc (by simp; omega) _⟩
  · exact (hL.below ((Below.refl _ _).alloc (Nat.le_refl _) _) (Nat.le_refl _)).below ((Below.refl _ _).alloc (Nat.le_refl _) _) (Nat.le_refl _)
  · intro h1; have := own_block hO h1; omega
  · intro h1; have := own_block hO h1; omega
  · omega
end Go.Proofs.Ytdedbfbkakofgaa
