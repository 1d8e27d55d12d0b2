/- Rotations by one number, one behind the other: no program in sight. -/
import Derived.Test.YthackmkdicpdeaaGreatMoldBackP
namespace Go.Proofs.YthackmkdicpdeaaGreat
open Go.RowKit Go.Lib
set_option linter.unusedVariables false
set_option linter.unusedSimpArgs false
theorem ro_mod (a n b : Int) : (a + n.tmod b) % b = (a + n) % b := by
  have h := Int.tmod_add_mul_tdiv n b
  have e : a + n = (a + n.tmod b) + b * n.tdiv b := by omega
  rw [e, Int.add_mul_emod_self_left]
/-- The first index shifted. -/
def sh1 (n : Int) (s t : List Int) : List Int := t.set 0 ((t.getD 0 0 + n) % s.getD 0 0)
theorem roF_one {n : Int} {s : List Int} (hl : s.length ≠ 0) (k : Nat) : roF [n] s k = atF s (sh1 n s (ixL s k)) := by
  unfold roF sh1
  congr 1
  have h := updG_step (f := rof [n] s (ixL s k)) (t := ixL s k) (i := 0) (by rw [ixL_len]; omega)
  rw [updG_zero] at h
  show updG (rof [n] s (ixL s k)) (ixL s k) 1 = _
  rw [← h]
  congr 1
  show ((ixL s k).getD 0 0 + n.tmod (s.getD 0 0)) % s.getD 0 0 = _
  rw [ro_mod]
theorem sh1_len (n : Int) (s t : List Int) : (sh1 n s t).length = t.length := by simp [sh1]
theorem sh1_at {n : Int} {s t : List Int} {i : Nat} (hi : i < t.length) : (sh1 n s t).getD i 0 = if i = 0 then (t.getD 0 0 + n) % s.getD 0 0 else t.getD i 0 := by
  unfold sh1
  simp only [List.getD, List.getElem?_set]
  by_cases h : 0 = i
  · subst h; simp [hi]
  · rw [if_neg h, if_neg (fun e => h e.symm)]
theorem sh1_in {n : Int} {s t : List Int} (hl : t.length = s.length) (h : inR s t s.length) : inR s (sh1 n s t) s.length := fun i hi => by
  rw [sh1_at (by omega)]
  split
  · rename_i e
    subst e
    have h0 := h 0 hi
    exact ⟨Int.emod_nonneg _ (by omega), Int.emod_lt_of_pos _ (by omega)⟩
  · exact h i hi
theorem sh1_sh1 {n m : Int} {s t : List Int} (hl : t.length = s.length) (h : s.length ≠ 0) : sh1 n s (sh1 m s t) = sh1 (n + m) s t := by
  refine getD_ext (by simp [sh1]) fun p hp => ?_
  have hp' : p < t.length := by simpa [sh1] using hp
  rw [sh1_at (by rw [sh1_len]; exact hp'), sh1_at hp', sh1_at (n := m) (i := 0) (by omega), if_pos rfl]
  split
  · rename_i e
    rw [sh1_at hp', if_pos e, Int.emod_add_emod]
    congr 1
    omega
  · rw [sh1_at hp', if_neg ‹_›]
theorem sh1_id {n : Int} {s t : List Int} (hl : t.length = s.length) (h : inR s t s.length) (hn : ∃ c, n = s.getD 0 0 * c) : sh1 n s t = t := by
  refine getD_ext (by simp [sh1]) fun p hp => ?_
  have hp' : p < t.length := by simpa [sh1] using hp
  rw [sh1_at hp']
  split
  · rename_i e
    subst e
    have h0 := h 0 (by omega)
    obtain ⟨c, rfl⟩ := hn
    rw [Int.add_mul_emod_self_left, Int.emod_eq_of_lt h0.1 h0.2]
  · rfl
theorem pk_comp {s a : List Int} {f g h : Nat → Int} (hm : mayE s = 0) (hh : ∀ k : Nat, (k : Int) < pr s → ∃ m : Nat, f k = m ∧ (m : Int) < pr s ∧ g m = h k) : pkA s (pkA s a g) f = pkA s a h := by
  unfold pkA
  rw [if_pos hm, if_pos hm, if_pos hm]
  have hp := pr_nonneg hm
  refine getD_ext (by simp [pkAs]) fun p hp' => ?_
  have hpl : p < (pr s).toNat := by simpa [pkAs] using hp'
  obtain ⟨m, h1, h2, h3⟩ := hh p (by omega)
  have e1 : (pkAs (pkAs a g (pr s).toNat) f (pr s).toNat).getD p 0 = pkAt (pkAs a g (pr s).toNat) (f p) := by simp [pkAs, List.getD, hpl]
  have hm2 : m < (pr s).toNat := by omega
  have e2 : (pkAs a g (pr s).toNat).getD m 0 = pkAt a (g m) := by simp [pkAs, List.getD, hm2]
  have e3 : (pkAs a h (pr s).toNat).getD p 0 = pkAt a (h p) := by simp [pkAs, List.getD, hpl]
  rw [e1, e3, h1, pkAt, if_pos (by omega), Int.toNat_natCast, e2, h3]
theorem roOk_one (s : List Int) : roOk 1 s = true := by
  unfold roOk
  simp only [decide_eq_true_eq]
  split <;> omega
theorem ro_one {s a : List Int} (hm : amE s a = 0) (n : Int) : roE [n] s = 0 ∧ roS [n] s = s ∧ roA [n] s a = (if s.length = 0 then a else pkA s a (roF [n] s)) ∧ amE s (roA [n] s a) = 0 := by
  obtain ⟨hm1, hm2⟩ := amE_zero hm
  have e3 : roA [n] s a = if s.length = 0 then a else pkA s a (roF [n] s) := by
    show (if roOk 1 s = true then _ else _) = _
    rw [roOk_one, if_pos rfl]
    split
    · exact if_pos hm1
    · rfl
  refine ⟨?_, ?_, e3, ?_⟩
  · show (if roOk 1 s = true then mdE s else 11) = 0
    rw [roOk_one, if_pos rfl]; exact if_pos hm1
  · show (if roOk 1 s = true then mdS s else []) = s
    rw [roOk_one, if_pos rfl]; exact if_pos hm1
  · rw [e3]
    split
    · exact hm
    · unfold amE; rw [if_pos hm1, if_pos]
      unfold pkA
      rw [if_pos hm1]
      simp [pkAs]
      have := pr_nonneg hm1; omega
theorem ro_comp {s a : List Int} (hm : amE s a = 0) (n m : Int) : roA [m] s (roA [n] s a) = roA [n + m] s a := by
  obtain ⟨hm1, hm2⟩ := amE_zero hm
  obtain ⟨-, -, e1, h1⟩ := ro_one hm n
  obtain ⟨-, -, e2, -⟩ := ro_one h1 m
  obtain ⟨-, -, e3, -⟩ := ro_one hm (n + m)
  rw [e2, e3, e1]
  by_cases h0 : s.length = 0
  · rw [if_pos h0, if_pos h0, if_pos h0]
  · rw [if_neg h0, if_neg h0, if_neg h0]
    refine pk_comp hm1 fun k hk => ?_
    have hp := pos_all (mayE_zero hm1).1 (by omega)
    have hl := ixL_len s (k : Int)
    have hr : inR s (ixL s k) s.length := fun i hi => ixL_rng hp i hi
    have hr2 := sh1_in (n := m) hl hr
    have hl2 : (sh1 m s (ixL s k)).length = s.length := by rw [sh1_len, hl]
    obtain ⟨q1, b1, b2⟩ := atF_in hm1 hl2 hr2
    refine ⟨(plN s (sh1 m s (ixL s k)) s.length).toNat, ?_, ?_, ?_⟩
    · rw [roF_one h0, q1, Int.toNat_of_nonneg b1]
    · rw [Int.toNat_of_nonneg b1]; exact b2
    · rw [roF_one h0, roF_one h0, Int.toNat_of_nonneg b1, ix_plN hp hl2 hr2, sh1_sh1 hl h0]
theorem ro_id {s a : List Int} (hm : amE s a = 0) {n : Int} (hn : ∃ c, n = s.getD 0 0 * c) : roA [n] s a = a := by
  obtain ⟨hm1, hm2⟩ := amE_zero hm
  obtain ⟨-, -, e1, h1⟩ := ro_one hm n
  rw [e1]
  split
  · rfl
  · rename_i h0
    unfold pkA
    rw [if_pos hm1]
    have hp := pr_nonneg hm1
    refine getD_ext (by simp [pkAs]; omega) fun p hp' => ?_
    have hpl : p < (pr s).toNat := by simpa [pkAs] using hp'
    have hk : (p : Int) < pr s := by omega
    have hpp := pos_all (mayE_zero hm1).1 (by omega)
    have hl := ixL_len s (p : Int)
    have hr : inR s (ixL s p) s.length := fun i hi => ixL_rng hpp i hi
    have e2 : (pkAs a (roF [n] s) (pr s).toNat).getD p 0 = pkAt a (roF [n] s p) := by simp [pkAs, List.getD, hpl]
    obtain ⟨q1, b1, b2⟩ := atF_in hm1 hl hr
    rw [e2, roF_one h0, sh1_id hl hr hn, q1, plN_ixL hpp ⟨by omega, hk⟩, pkAt, if_pos (by omega), Int.toNat_natCast]
theorem ro_back {s a : List Int} (hm : amE s a = 0) (n : Int) : roA [-n] s (roA [n] s a) = a := by
  rw [ro_comp hm, show n + -n = 0 by omega]
  exact ro_id hm ⟨0, by omega⟩
end Go.Proofs.YthackmkdicpdeaaGreat
