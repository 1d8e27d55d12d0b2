/- Plain facts for AtomLengths: agreement place by place, and what a dyad then tells. -/
import Derived.Test.YtdedbfbkakofgaaAtomDyadPlain
namespace Go.Proofs.Ytdedbfbkakofgaa
open Go.RowKit Go.Lib
set_option linter.unusedVariables false
set_option linter.unusedSimpArgs false
/-- Do the first k lengths agree? -/
def alB (s t : List Int) (k : Nat) : Bool := decide (s.take k = t.take k)
theorem alB_zero (s t : List Int) : alB s t 0 = true := by simp [alB]
theorem alB_succ {s t : List Int} {k : Nat} (h1 : k < s.length) (h2 : k < t.length) : alB s t (k + 1) = (alB s t k && decide (s.getD k 0 = t.getD k 0)) := by
  unfold alB
  rw [Bool.eq_iff_iff, Bool.and_eq_true, decide_eq_true_eq, decide_eq_true_eq, decide_eq_true_eq, take_snoc h1, take_snoc h2]
  constructor
  · intro h
    have := List.append_inj h (by simp; omega)
    exact ⟨this.1, by simpa using this.2⟩
  · rintro ⟨a, b⟩; rw [a, b]
theorem alB_end {s t : List Int} {k : Nat} (h1 : k ≤ s.length) (h2 : k ≤ t.length) (h3 : k = s.length ∨ k = t.length) : alB s t k = decide (agE s t = 0) := by
  unfold alB agE
  rw [Bool.eq_iff_iff, decide_eq_true_eq, decide_eq_true_eq]
  by_cases h : s.length < t.length
  · obtain rfl : k = s.length := by omega
    rw [if_pos h, List.take_length]
    constructor
    · intro e; rw [if_pos e.symm]
    · intro e
      by_cases q : t.take s.length = s
      · exact q.symm
      · rw [if_neg q] at e; omega
  · obtain rfl : k = t.length := by omega
    rw [if_neg h, List.take_length]
    constructor
    · intro e; rw [if_pos e]
    · intro e
      by_cases q : s.take t.length = t
      · exact q
      · rw [if_neg q] at e; omega
theorem ag_long {s t : List Int} (h : agE s t = 0) : agL s t = if s.length < t.length then t else s := by
  unfold agE at h; unfold agL
  by_cases h1 : s.length < t.length
  · rw [if_pos h1] at h ⊢; rw [if_pos h1]
    by_cases h2 : t.take s.length = s
    · rw [if_pos h2]
    · rw [if_neg h2] at h; omega
  · rw [if_neg h1] at h ⊢; rw [if_neg h1]
    by_cases h2 : s.take t.length = t
    · rw [if_pos h2]
    · rw [if_neg h2] at h; omega
theorem firE_not {l : List Int} {x : Int} (hx : x ≠ 0) (h : ∀ e, e ∈ l → e ≠ x) : firE l ≠ x := by
  induction l with
  | nil => exact fun e => hx e.symm
  | cons a l ih =>
    by_cases ha : a = 0
    · rw [firE_yes _ ha]; exact ih fun e he => h e (List.mem_cons_of_mem _ he)
    · rw [firE_no _ ha]; exact h a (List.mem_cons_self ..)
theorem ady_bad {op : Int} {s a t b : List Int} (h1 : amE s a = 0) (h2 : amE t b = 0) (hr : refV op 2 = 0) (h : agE s t ≠ 0) : adyE op s a t b = 11 ∧ adyS op s a t b = [] ∧ adyA op s a t b = [] := by
  have e : adyE op s a t b = 11 := by
    unfold adyE
    rw [if_neg (by rw [h1, h2]; simp), if_neg (by rw [hr]; simp), if_pos h, (ag_bad h).2]
  exact ⟨e, by rw [adyS, e]; rfl, by rw [adyA, e]; rfl⟩
theorem ady_ok {op : Int} {s a t b : List Int} (h1 : amE s a = 0) (h2 : amE t b = 0) (hr : refV op 2 = 0) (h : agE s t = 0) :
    adyE op s a t b ≠ 11 ∧ (a.length = 0 ∨ b.length = 0 → adyE op s a t b = 0 ∧ adyS op s a t b = (if s.length < t.length then t else s) ∧ adyA op s a t b = []) ∧
    (adyE op s a t b = 0 → adyS op s a t b = (if s.length < t.length then t else s) ∧ amE (adyS op s a t b) (adyA op s a t b) = 0) := by
  have e : adyE op s a t b = firE ((List.range (adyN s t)).map (dnE op a b (adyN s t))) := by
    unfold adyE
    rw [if_neg (by rw [h1, h2]; simp), if_neg (by rw [hr]; simp), if_neg (by rw [h]; simp)]
  obtain ⟨p1, p2, p3, p4⟩ := dy_place h1 h2 h
  refine ⟨?_, ?_, ?_⟩
  · rw [e]
    refine firE_not (by omega) fun x hx => ?_
    obtain ⟨i, -, rfl⟩ := List.mem_map.1 hx
    exact dyE_len _ _ _
  · intro h0
    have hn : adyN s t = 0 := by
      rcases Nat.eq_zero_or_pos (adyN s t) with q | q
      · exact q
      · obtain ⟨m1, m2, ⟨q1, -⟩, ⟨q2, -⟩⟩ := p4 0 q; omega
    have e0 : adyE op s a t b = 0 := by rw [e, hn]; rfl
    exact ⟨e0, by rw [adyS, if_pos e0, ag_long h], by rw [adyA, if_pos e0, hn]; rfl⟩
  · intro e0
    refine ⟨by rw [adyS, if_pos e0, ag_long h], ?_⟩
    rw [adyS, if_pos e0, adyA, if_pos e0, amE, if_pos p2, if_pos (by rw [p1]; simp)]
end Go.Proofs.Ytdedbfbkakofgaa
