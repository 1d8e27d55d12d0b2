/- What digit makes of lists of bounded length is of bounded length. -/
import Derived.Test.YtoippfoeghjdoaaDigAllWalk
import Derived.Test.YtoippfoeghjdoaaAgainXY
namespace Go.Proofs.Ytoippfoeghjdoaa
open Go.RowKit Go.Lib
set_option linter.unusedVariables false
set_option linter.unusedSimpArgs false
theorem fitA {s : List Int} (h : mayE s = 0) : s.length ≤ 4194304 := by
  have := (mayE_zero h).2.1
  omega
theorem whGo_fit : ∀ (ns : List Int) (i : Nat) (l r : List Int), l.length ≤ 4096 → whGo i l ns = some r → r.length ≤ 4096
  | [], i, l, r, h, e => by
    simp only [whGo, Option.some.injEq] at e
    rw [← e]; exact h
  | n :: ns, i, l, r, h, e => by
    simp only [whGo] at e
    split at e
    · exact absurd e (by simp)
    · rename_i h2
      exact whGo_fit ns _ _ r (by rw [List.length_append, List.length_replicate]; omega) e
theorem cpE_zero {s a t : List Int} (h : cpE s a t = 0) : a.any (fun k => decide (k < 0)) = false ∧ mayE (cpT s a t :: t.tail) = 0 := by
  unfold cpE at h
  split at h
  · exact absurd h (by decide)
  split at h
  · exact absurd h (by decide)
  rename_i hn
  split at h
  · rename_i hm
    exact ⟨by simpa using hn, hm⟩
  · exact absurd h (by decide)
theorem cpK_fit {a t b : List Int} (hm : amE t b = 0) (i : Nat) (hi : i < cpN a t) : (cpK t b i).length = (pr t.tail).toNat := by
  have hb := (amE_zero hm).2
  have h0 := (mayE_zero (amE_zero hm).1).1 0
  have ht := pr_nonneg (mayE_tail (amE_zero hm).1)
  unfold cpK
  cases t with
  | nil =>
    have h1 := amE_scalar hm rfl
    have e1 : (pr ([] : List Int).tail).toNat = 1 := rfl
    rw [e1]
    exact ckL_len (m := 1) (by omega) (by simp)
  | cons x tl =>
    simp only [List.tail_cons, List.length_cons] at ht ⊢
    rw [if_neg (by omega)]
    have hx : (x :: tl).getD 0 0 = x := rfl
    rw [hx] at h0
    have hi2 : i < x.toNat := by
      unfold cpN at hi
      rw [if_neg (by simp), hx] at hi
      exact hi
    refine ckL_len (m := x.toNat) ?_ hi2
    rw [pr_cons] at hb
    obtain ⟨p, hp⟩ := Int.eq_ofNat_of_zero_le ht.1
    obtain ⟨q, hq⟩ := Int.eq_ofNat_of_zero_le h0
    rw [hp, hq] at hb ⊢
    simp only [Int.toNat_natCast]
    exact_mod_cast hb.symm
theorem cpA_fit {s a t b : List Int} (hm : amE t b = 0) : (cpA s a t b).length ≤ 4194304 := by
  unfold cpA
  split
  · rename_i h
    obtain ⟨h1, h2⟩ := cpE_zero h
    rw [cpR_len (s := s) h1 (fun i hi => cpK_fit hm i hi) (cpN a t) (Nat.le_refl _)]
    have hu := (cpU_mono (s := s) h1 (cpN a t) 0).1
    have ht := pr_nonneg (mayE_tail (amE_zero hm).1)
    have hT : cpT s a t = cpU s a (cpN a t) := by
      unfold cpT
      split
      · rfl
      · rename_i h3
        exfalso
        have h4 := (mayE_zero h2).2.2
        rw [pm_cons] at h4
        have h5 : cpT s a t = 4097 := by unfold cpT; rw [if_neg h3]
        rw [h5] at h4
        have h6 := pm_pos t.tail
        have h7 : max (4097 : Int) 1 = 4097 := by decide
        rw [h7] at h4
        omega
    have h8 := pr_nonneg h2
    rw [pr_cons, hT] at h8
    obtain ⟨p, hp⟩ := Int.eq_ofNat_of_zero_le ht.1
    obtain ⟨q, hq⟩ := Int.eq_ofNat_of_zero_le hu
    rw [hp, hq] at h8 ⊢
    simp only [Int.toNat_natCast]
    have h9 : ((q * p : Nat) : Int) ≤ 4096 := by rw [Int.natCast_mul]; exact h8.2
    omega
  · exact Nat.zero_le _
theorem biA_fit {t b : List Int} (hm : amE t b = 0) : (biA t b).length ≤ 4194304 := by
  unfold biA
  split
  · rename_i h
    rw [flat_len (fun x => biD_len _ x _)]
    have p := pr_nonneg h
    rw [pr_app, (amE_zero hm).2, pr_one] at p
    rcases Int.lt_or_le (biW b) 0 with h0 | h0
    · rw [show (biW b).toNat = 0 by omega, Nat.zero_mul]; omega
    · obtain ⟨q, hq⟩ := Int.eq_ofNat_of_zero_le h0
      rw [hq] at p ⊢
      simp only [Int.toNat_natCast]
      have h9 : ((b.length * q : Nat) : Int) ≤ 4096 := by rw [Int.natCast_mul]; exact p.2
      rw [Nat.mul_comm]
      omega
  · exact Nat.zero_le _
theorem bsA_fit (s a t b : List Int) : (bsA s a t b).length ≤ 4194304 := by
  unfold bsA
  split
  · exact Nat.zero_le _
  split
  · exact Nat.zero_le _
  · simp
theorem fitMon (op : Int) (t b : List Int) : (dMon op t b).1.length ≤ 4194304 ∧ (dMon op t b).2.1.length ≤ 4194304 := by
  unfold dMon
  split
  · exact ⟨Nat.zero_le _, Nat.zero_le _⟩
  rename_i g0
  have hm : amE t b = 0 := by
    rcases Decidable.em (amE t b = 0) with h | h
    · exact h
    · exact absurd (Or.inl h) g0
  split
  · exact ⟨Nat.zero_le _, Nat.zero_le _⟩
  split
  · exact ⟨Nat.zero_le _, Nat.zero_le _⟩
  split
  · refine ⟨?_, ?_⟩
    · show (pcS b).length ≤ _
      unfold pcS
      split
      · rename_i h; exact fitA h
      · exact Nat.zero_le _
    · show (pcA b).length ≤ _
      unfold pcA
      split
      · rename_i h
        rw [List.length_map, List.length_range]
        have := pr_nonneg h
        omega
      · exact Nat.zero_le _
  split
  · refine ⟨?_, ?_⟩
    · show (whS b).length ≤ _
      unfold whS
      split
      · exact Nat.zero_le _
      split
      · exact Nat.zero_le _
      · simp
    · show (whA b).length ≤ _
      unfold whA
      split
      · exact Nat.zero_le _
      split
      · exact Nat.zero_le _
      · rename_i l e
        have := whGo_fit b 0 [] l (by simp) e
        omega
  split
  · exact ⟨Nat.zero_le _, bsA_fit [] [2] t b⟩
  · refine ⟨?_, biA_fit hm⟩
    show (biS t b).length ≤ _
    unfold biS
    split
    · rename_i h; exact fitA h
    · exact Nat.zero_le _
theorem fitDya (op : Int) {s a t b : List Int} (hs : s.length ≤ 4194304) (ha : a.length ≤ 4194304) : (dDya op s a t b).1.length ≤ 4194304 ∧ (dDya op s a t b).2.1.length ≤ 4194304 := by
  unfold dDya
  split
  · exact ⟨Nat.zero_le _, Nat.zero_le _⟩
  rename_i g0
  have hm : amE t b = 0 := by
    rcases Decidable.em (amE t b = 0) with h | h
    · exact h
    · exact absurd (Or.inr (Or.inl h)) g0
  split
  · exact ⟨Nat.zero_le _, Nat.zero_le _⟩
  split
  · exact ⟨Nat.zero_le _, Nat.zero_le _⟩
  split
  · refine ⟨?_, cpA_fit hm⟩
    show (cpS s a t).length ≤ _
    unfold cpS
    split
    · rename_i h; exact fitA (cpE_zero h).2
    · exact Nat.zero_le _
  split
  · exact ⟨Nat.zero_le _, bsA_fit s a t b⟩
  · refine ⟨?_, ?_⟩
    · show (anS s a (b.getD 0 0)).length ≤ _
      unfold anS
      split
      · exact Nat.zero_le _
      · exact hs
    · show (anA a (b.getD 0 0)).length ≤ _
      unfold anA
      split
      · exact Nat.zero_le _
      · rename_i e
        have h5 := anGo_len e
        have h6 := Nat.le_trans (Nat.le_of_eq h5) ha
        exact h6
theorem fit8 : Fit dMon dDya := ⟨fun op t b _ _ => fitMon op t b, fun op s a t b hs ha _ _ => fitDya op hs ha⟩
end Go.Proofs.Ytoippfoeghjdoaa
