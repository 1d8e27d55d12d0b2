/- What turned round twice, and laid out by its own shape, comes to: no program in sight. -/
import Derived.Test.YthackmkdicpdeaaGreatMoldLaws
namespace Go.Proofs.YthackmkdicpdeaaGreat
open Go.RowKit Go.Lib
set_option linter.unusedVariables false
set_option linter.unusedSimpArgs false
theorem atF_in {s t : List Int} (hm : mayE s = 0) (hl : t.length = s.length) (hr : inR s t s.length) : atF s t = plN s t s.length ∧ 0 ≤ plN s t s.length ∧ plN s t s.length < pr s := by
  have hb := plN_bd (mayE_zero hm).1 (Nat.le_refl _) hr
  rw [List.take_length] at hb
  exact ⟨by unfold atF plE plV; rw [if_pos hm, if_pos hl, if_pos hr, if_pos rfl, if_pos ⟨hm, hl, hr⟩], hb⟩
/-- Two choosings of places, one behind the other, that lead back. -/
theorem pk_back {s s' a : List Int} {f g : Nat → Int} (hm : mayE s = 0) (hm' : mayE s' = 0) (ha : (a.length : Int) = pr s)
    (h : ∀ k : Nat, (k : Int) < pr s → ∃ m : Nat, f k = m ∧ (m : Int) < pr s' ∧ g m = k) : pkA s (pkA s' a g) f = a := by
  unfold pkA
  rw [if_pos hm, if_pos hm']
  have hp := pr_nonneg hm
  refine getD_ext (by simp [pkAs]; omega) fun p hp' => ?_
  have hpl : p < (pr s).toNat := by simpa [pkAs] using hp'
  obtain ⟨m, h1, h2, h3⟩ := h p (by omega)
  have e1 : (pkAs (pkAs a g (pr s').toNat) f (pr s).toNat).getD p 0 = pkAt (pkAs a g (pr s').toNat) (f p) := by simp [pkAs, List.getD, hpl]
  have hm2 : m < (pr s').toNat := by omega
  have e2 : (pkAs a g (pr s').toNat).getD m 0 = pkAt a (g m) := by simp [pkAs, List.getD, hm2]
  rw [e1, h1, pkAt, if_pos (by omega), Int.toNat_natCast, e2, h3, pkAt, if_pos (by omega), Int.toNat_natCast]
theorem rv0_len (s t : List Int) : (rv0 s t).length = t.length := by simp [rv0]
theorem rv0_at {s t : List Int} {i : Nat} (hi : i < t.length) : (rv0 s t).getD i 0 = if i = 0 then s.getD 0 0 - 1 - t.getD 0 0 else t.getD i 0 := by
  unfold rv0
  simp only [List.getD, List.getElem?_set]
  by_cases h : 0 = i
  · subst h; simp [hi]
  · rw [if_neg h, if_neg (fun e => h e.symm)]
theorem rv0_in {s t : List Int} (hl : t.length = s.length) (h : inR s t s.length) : inR s (rv0 s t) s.length := fun i hi => by
  rw [rv0_at (by omega)]
  split
  · rename_i e
    subst e
    have := h 0 hi
    omega
  · exact h i hi
theorem rv0_rv0 {s t : List Int} (hl : t.length = s.length) : rv0 s (rv0 s t) = t := by
  refine getD_ext (by simp [rv0]) fun p hp => ?_
  have hp' : p < t.length := by simpa [rv0] using hp
  rw [rv0_at (by rw [rv0_len]; exact hp')]
  split
  · rename_i e
    subst e
    rw [rv0_at hp', if_pos rfl]
    omega
  · rw [rv0_at hp', if_neg ‹_›]
theorem rev_rev {s a : List Int} (hm : amE s a = 0) : pkA s (pkA s a (rvF s)) (rvF s) = a := by
  obtain ⟨hm1, hm2⟩ := amE_zero hm
  refine pk_back hm1 hm1 hm2.symm fun k hk => ?_
  have hp := pos_all (mayE_zero hm1).1 (by omega)
  have hl := ixL_len s (k : Int)
  have hr : inR s (ixL s k) s.length := fun i hi => ixL_rng hp i hi
  have hr2 := rv0_in hl hr
  have hl2 : (rv0 s (ixL s k)).length = s.length := by rw [rv0_len, hl]
  obtain ⟨e1, b1, b2⟩ := atF_in hm1 hl2 hr2
  refine ⟨(plN s (rv0 s (ixL s k)) s.length).toNat, ?_, ?_, ?_⟩
  · show atF s (rv0 s (ixL s k)) = _
    rw [e1, Int.toNat_of_nonneg b1]
  · rw [Int.toNat_of_nonneg b1]; exact b2
  · show atF s (rv0 s (ixL s _)) = _
    rw [Int.toNat_of_nonneg b1, ix_plN hp hl2 hr2, rv0_rv0 hl]
    obtain ⟨e2, -, -⟩ := atF_in hm1 hl hr
    rw [e2, plN_ixL hp ⟨by omega, hk⟩]
theorem pm_reverse (s : List Int) : pm s.reverse = pm s := by
  induction s with
  | nil => rfl
  | cons x xs ih =>
    rw [List.reverse_cons, pm_app, ih, pm_cons', pm_cons', Int.mul_comm]
    show max x 1 * pm [] * pm xs = _
    rw [show pm [] = 1 from rfl, Int.mul_one]
theorem pr_reverse (s : List Int) : pr s.reverse = pr s := by
  induction s with
  | nil => rfl
  | cons x xs ih =>
    rw [List.reverse_cons, pr_app, ih, pr_cons, pr_cons, show pr [] = 1 from rfl, Int.mul_one, Int.mul_comm]
theorem getD_rev {l : List Int} {i : Nat} (hi : i < l.length) : l.reverse.getD i 0 = l.getD (l.length - 1 - i) 0 := by
  have h1 : i < l.reverse.length := by simpa using hi
  simp only [List.getD, List.getElem?_eq_getElem h1, List.getElem?_eq_getElem (show l.length - 1 - i < l.length by omega), Option.getD_some]
  rw [List.getElem_reverse]
theorem may_reverse {s : List Int} (hm : mayE s = 0) : mayE s.reverse = 0 := by
  obtain ⟨g1, g2, g3⟩ := mayE_zero hm
  refine mayE_from (fun i => ?_) (by simpa using g2) (by rw [pm_reverse]; exact g3)
  by_cases hi : i < s.length
  · rw [getD_rev hi]; exact g1 _
  · simp [List.getD, List.getElem?_eq_none (show s.reverse.length ≤ i by simp; omega)]
theorem in_reverse {s t : List Int} (hl : t.length = s.length) (h : inR s t s.length) : inR s.reverse t.reverse s.reverse.length := fun i hi => by
  rw [List.length_reverse] at hi
  rw [getD_rev (by omega), getD_rev hi, hl]
  exact h _ (by omega)
theorem tran_tran {s a : List Int} (hm : amE s a = 0) : pkA s (pkA s.reverse a (tuF s)) (tuF s.reverse) = a := by
  obtain ⟨hm1, hm2⟩ := amE_zero hm
  have hmr := may_reverse hm1
  refine pk_back hm1 hmr hm2.symm fun k hk => ?_
  have hp := pos_all (mayE_zero hm1).1 (by omega)
  have hpr := pos_all (mayE_zero hmr).1 (by rw [pr_reverse]; omega)
  have hl := ixL_len s (k : Int)
  have hr : inR s (ixL s k) s.length := fun i hi => ixL_rng hp i hi
  have hr2 := in_reverse hl hr
  have hl2 : (ixL s k).reverse.length = s.reverse.length := by rw [List.length_reverse, List.length_reverse, hl]
  obtain ⟨e1, b1, b2⟩ := atF_in hmr hl2 hr2
  refine ⟨(plN s.reverse (ixL s k).reverse s.reverse.length).toNat, ?_, ?_, ?_⟩
  · show atF s.reverse (ixL s.reverse.reverse k).reverse = _
    rw [List.reverse_reverse, e1, Int.toNat_of_nonneg b1]
  · rw [Int.toNat_of_nonneg b1]; exact b2
  · show atF s (ixL s.reverse _).reverse = _
    rw [Int.toNat_of_nonneg b1, ix_plN hpr hl2 hr2, List.reverse_reverse]
    obtain ⟨e2, -, -⟩ := atF_in hm1 hl hr
    rw [e2, plN_ixL hp ⟨by omega, hk⟩]
/-- Laid out by its own shape. -/
theorem resh_back {s a : List Int} (hm : amE s a = 0) (h0 : a.length ≠ 0) : rsE s [(a.length : Int)] a = 0 ∧ rsS s [(a.length : Int)] a = s ∧ rsA s [(a.length : Int)] a = a := by
  obtain ⟨hm1, hm2⟩ := amE_zero hm
  have hpb := pr_nonneg hm1
  have e1 : rsL s = s := by
    unfold rsL
    refine getD_ext (by simp) fun p hp => ?_
    have hp' : p < s.length := by simpa using hp
    have := may_bd hm1 p
    have e : (s.map fun n => min n 4097).getD p 0 = min (s.getD p 0) 4097 := by simp [List.getD, hp']
    rw [e]; omega
  have e2 : rsW s [(a.length : Int)] = s := by unfold rsW; rw [e1]; simp
  have e3 : s.any (fun k => decide (k < 0)) = false := by
    rw [Bool.eq_false_iff]
    intro h
    obtain ⟨i, hi, h2⟩ := any_neg6.1 h
    have := (mayE_zero hm1).1 i
    omega
  have e4 : mayE [(a.length : Int)] = 0 := mayE_from (fun i => by cases i with
    | zero => simp
    | succ i => simp [List.getD]) (by simp) (by rw [pm_cons', show pm [] = 1 from rfl]; omega)
  have e5 : itE [(a.length : Int)] a = a.length := by
    have h1 : amE [(a.length : Int)] a = 0 := by unfold amE; rw [if_pos e4, if_pos (by rw [pr_cons]; show (a.length : Int) * 1 = _; omega)]
    unfold itE
    rw [if_pos h1, if_neg (by simp)]
    simp
  have e6 : rsE s [(a.length : Int)] a = 0 := by
    unfold rsE
    rw [e3, if_neg (by simp), e2, if_pos hm1, if_neg (by rw [e5]; omega)]
  refine ⟨e6, by rw [rsS, if_pos e6, e2], ?_⟩
  rw [rsA, if_pos e6, e5, e1]
  show rsG a (pr []).toNat _ _ = a
  rw [show (pr []).toNat = 1 from rfl, Int.toNat_natCast, show (pr s).toNat = a.length by omega]
  unfold rsG
  have e7 : ((List.range a.length).map fun i => ckL 1 (i % a.length) a) = (List.range a.length).map fun i => [a.getD i 0] := by
    refine List.map_congr_left fun i hi => ?_
    have hi' : i < a.length := by simpa using hi
    rw [Nat.mod_eq_of_lt hi']
    unfold ckL
    rw [Nat.mul_one, List.drop_eq_getElem_cons hi', List.take_succ_cons, List.take_zero]
    simp [List.getD, hi']
  rw [e7]
  have e8 : ∀ l : List Nat, (l.map fun i => [a.getD i 0]).flatten = l.map fun i => a.getD i 0 := fun l => by
    induction l with
    | nil => rfl
    | cons x xs ih => rw [List.map_cons, List.flatten_cons, ih]; rfl
  rw [e8]
  refine getD_ext (by simp) fun p hp => ?_
  have hp' : p < a.length := by simpa using hp
  simp [List.getD, hp']
end Go.Proofs.YthackmkdicpdeaaGreat
