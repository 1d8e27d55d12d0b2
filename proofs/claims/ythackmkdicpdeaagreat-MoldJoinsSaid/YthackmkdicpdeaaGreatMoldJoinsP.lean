/- Two arrays of one shape, one behind the other and under one another: no program in sight. -/
import Derived.Test.YthackmkdicpdeaaGreatMoldCutsP
import Derived.Test.YthackmkdicpdeaaGreatMoldLam
namespace Go.Proofs.YthackmkdicpdeaaGreat
open Go.RowKit Go.Lib
set_option linter.unusedVariables false
set_option linter.unusedSimpArgs false
theorem join_two {s a b : List Int} (ha : amE s a = 0) (hb : amE s b = 0) :
    (mayE (2 :: s) = 0 → jnE [2] [(s, a), (s, b)] = 0 ∧ jnS [2] [(s, a), (s, b)] = 2 :: s ∧ jnA [2] [(s, a), (s, b)] = a ++ b) ∧ (mayE (2 :: s) ≠ 0 → jnE [2] [(s, a), (s, b)] = 17 ∧ jnS [2] [(s, a), (s, b)] = [] ∧ jnA [2] [(s, a), (s, b)] = []) := by
  have hg : bgE [2] = 0 := by decide
  have hp : pr [2] = 2 := by decide
  have e1 : adE [2] [] [] s a = if mayE (2 :: s) = 0 then 0 else 17 := by
    unfold adE
    rw [if_neg (by rw [hp]; simp), if_pos ha]
    rfl
  refine ⟨fun hm => ?_, fun hm => ?_⟩
  · rw [if_pos hm] at e1
    have e4 : adC s [(s, a)] s = s := by unfold adC; rw [if_neg (by simp), bthL_self]
    have e2 : adE [2] s [(s, a)] s b = 0 := by
      unfold adE
      rw [if_neg (by rw [hp]; simp), if_pos hb, e4]
      exact if_pos hm
    have e3 : adC [] [] s = s := if_pos rfl
    have e5 : jnGo [2] [] [] [(s, a), (s, b)] = (0, s, [(s, a), (s, b)]) := by
      unfold jnGo
      rw [if_pos e1, e3]
      unfold jnGo
      rw [List.nil_append, if_pos e2, e4]
      rfl
    obtain ⟨ha1, ha2⟩ := amE_zero ha
    obtain ⟨hb1, hb2⟩ := amE_zero hb
    have e6 : ¬ ((([(s, a), (s, b)] : List (List Int × List Int)).length : Int) < pr [2]) := by rw [hp]; simp
    refine ⟨?_, ?_, ?_⟩
    · unfold jnE dnE; rw [if_pos hg, e5, if_pos rfl, if_neg e6]
    · unfold jnS dnS; rw [if_pos hg, e5, if_pos rfl, if_neg e6]; rfl
    · unfold jnA dnA; rw [if_pos hg, e5, if_pos rfl, if_neg e6]
      simp [layL_self ha1 ha2.symm, layL_self ha1 hb2.symm]
  · rw [if_neg hm] at e1
    have e5 : jnGo [2] [] [] [(s, a), (s, b)] = (17, [], []) := by
      unfold jnGo
      rw [if_neg (by rw [e1]; decide), e1]
    refine ⟨?_, ?_, ?_⟩
    · unfold jnE; rw [if_pos hg, e5, if_neg (by decide)]
    · unfold jnS; rw [if_pos hg, e5, if_neg (by decide)]
    · unfold jnA; rw [if_pos hg, e5, if_neg (by decide)]
/-- All that MoldJoins asks. -/
theorem joins_plain {m : Int} {r a b : List Int} (ha : amE (m :: r) a = 0) (hb : amE (m :: r) b = 0) :
    (mayE ((m + m) :: r) ≠ 0 → beE (m :: r) (m :: r) = 17 ∧ beS (m :: r) (m :: r) = [] ∧ beA (m :: r) a (m :: r) b = []) ∧
    (mayE ((m + m) :: r) = 0 → beE (m :: r) (m :: r) = 0 ∧ beS (m :: r) (m :: r) = (m + m) :: r ∧ beA (m :: r) a (m :: r) b = a ++ b ∧ amE ((m + m) :: r) (a ++ b) = 0 ∧
      tkE [m] ((m + m) :: r) = 0 ∧ tkS [m] ((m + m) :: r) = m :: r ∧ tkA [m] ((m + m) :: r) (a ++ b) = a ∧ drE [m] ((m + m) :: r) = 0 ∧ drS [m] ((m + m) :: r) = m :: r ∧ drA [m] ((m + m) :: r) (a ++ b) = b) ∧
    (mayE (2 :: m :: r) = 0 → amE (2 :: m :: r) (a ++ b) = 0 ∧ enA (2 :: m :: r) (a ++ b) 0 = a ∧ enA (2 :: m :: r) (a ++ b) (-1) = b) := by
  obtain ⟨ha1, ha2⟩ := amE_zero ha
  obtain ⟨hb1, hb2⟩ := amE_zero hb
  have hm0 : 0 ≤ m := by simpa using (mayE_zero ha1).1 0
  have hmb := may_bd ha1 0
  simp only [List.getD_cons_zero] at hmb
  have hP := pr_nonneg ha1
  rw [pr_cons] at ha2 hb2 hP
  refine ⟨fun hm => ?_, fun hm => ?_, fun hm => ?_⟩
  · have e1 : bxs (m :: r) (m :: r) = m :: r := if_neg (by simp)
    have e3 : bK (m :: r) (m :: r) = r.length + 1 := by simp [bK]
    have e4 : bS (r.length + 1) (m :: r) = m :: r := by simp [bS]
    have e5 : bW (m :: r) (m :: r) = (m + m) :: r := by
      unfold bW
      refine getD_ext (by rw [updG_len]; simp) fun i hi => ?_
      rw [updG_len] at hi
      rw [updG_at hi, if_pos hi]
      unfold bwf
      cases i with
      | zero => simp
      | succ i => simp [List.getD]
    have e6 : bhW (m :: r) (m :: r) = (m + m) :: r := by unfold bhW; rw [e3, e4, e5]
    have n0 : ¬ ((m :: r).length = 0 ∧ (m :: r).length = 0) := by simp
    refine ⟨?_, ?_, ?_⟩
    · unfold beE bhE mdE; rw [if_neg n0, e1, e6, if_neg hm]
    · unfold beS bhS mdS; rw [if_neg n0, e1, e6, if_neg hm]
    · unfold beA bhA; rw [if_neg n0, e1, e6, if_neg hm]
  · obtain ⟨h1, h2, h3⟩ := beh_two ha hb hm
    have hab : amE ((m + m) :: r) (a ++ b) = 0 := by
      unfold amE; rw [if_pos hm, if_pos (by rw [pr_cons, Int.add_mul, List.length_append]; omega)]
    have hf : fa m = m := by unfold fa; rw [if_neg (by omega)]; omega
    obtain ⟨t1, t2, t3⟩ := tk_one hab m (by rw [hf]; exact ha1)
    obtain ⟨d1, d2, d3⟩ := dr_one hab m
    rw [hf] at t2 t3 d2 d3
    rw [show max 0 (m + m - m) = m by omega] at d2 d3
    refine ⟨h1, h2, h3, hab, t1, t2, ?_, d1, d2, ?_⟩
    · rw [t3, if_neg (by omega), Int.zero_mul, pr_cons, shA_take (by simp; omega)]
      rw [show (m * pr r).toNat = a.length by omega, List.take_left']
      rfl
    · have e : (if 0 < m then m else 0) * pr r = ((a.length : Nat) : Int) := by
        by_cases h : 0 < m
        · rw [if_pos h, ha2]
        · rw [if_neg h, ← ha2, show m = 0 by omega]
      rw [d3, e, pr_cons, shA_drop (by simp; omega)]
      rw [List.drop_left']
      rfl
  · have hab : amE (2 :: m :: r) (a ++ b) = 0 := by
      unfold amE; rw [if_pos hm, if_pos (by rw [pr_cons, pr_cons, List.length_append]; omega)]
    have e1 : itE (2 :: m :: r) (a ++ b) = 2 := by unfold itE; rw [if_pos hab, if_neg (by simp)]; simp
    have e2 : (pr (2 :: m :: r).tail).toNat = a.length := by rw [List.tail_cons, pr_cons]; omega
    refine ⟨hab, ?_, ?_⟩
    · unfold enA itemA itJ
      rw [e1, if_neg (by decide), e2, if_neg (by decide)]
      simp
    · unfold enA itemA itJ
      rw [e1, if_neg (by decide), e2, if_pos (by decide)]
      rw [show (-1 + 2 : Int).toNat * a.length = a.length by simp, List.drop_left', List.take_of_length_le (by omega)]
      rfl
end Go.Proofs.YthackmkdicpdeaaGreat
