/- Axes moved to the end, and back again: no program in sight. -/
import Derived.Test.YthackmkdicpdeaaGreatMoldBackP
namespace Go.Proofs.YthackmkdicpdeaaGreat
open Go.RowKit Go.Lib
set_option linter.unusedVariables false
set_option linter.unusedSimpArgs false
def nmd (k n : Int) : Int := if n < 0 then n + k else n
/-- The axes that are named, one behind the other, or what is wrong with them. -/
def trG (k : Int) : List Int → List Int → Int × List Int
  | [], N => (0, N)
  | n :: xs, N => if n < -k ∨ k ≤ n then (13, N) else if N.contains (nmd k n) = true then (10, N) else trG k xs (N ++ [nmd k n])
def rgI (k : Nat) : List Int := (List.range k).map fun (i : Nat) => (i : Int)
def trX (k : Nat) (N : List Int) : List Int := (rgI k).filter fun i => !N.contains i
/-- All axes in the answer's order. -/
def trA (k : Nat) (N : List Int) : List Int := trX k N ++ N
theorem rgI_len (k : Nat) : (rgI k).length = k := by simp [rgI]
theorem rgI_mem {k : Nat} {x : Int} : x ∈ rgI k ↔ 0 ≤ x ∧ x < k := by
  unfold rgI
  simp only [List.mem_map, List.mem_range]
  constructor
  · rintro ⟨i, hi, rfl⟩; omega
  · intro h; exact ⟨x.toNat, by omega, by omega⟩
theorem rgI_at {k i : Nat} (h : i < k) : (rgI k).getD i 0 = i := by simp [rgI, List.getD, h]
theorem rgI_nodup (k : Nat) : (rgI k).Nodup := by
  unfold rgI
  rw [List.Nodup, List.pairwise_map]
  exact (List.nodup_range (n := k)).imp fun h h2 => h (by omega)
theorem rgI_succ (k : Nat) : rgI (k + 1) = rgI k ++ [(k : Int)] := by unfold rgI; rw [List.range_succ, List.map_append]; rfl
theorem trG_inv {k : Nat} : ∀ {xs N M : List Int}, trG k xs N = (0, M) → N.Nodup → (∀ n ∈ N, 0 ≤ n ∧ n < (k : Int)) → M = N ++ xs.map (nmd k) ∧ M.Nodup ∧ (∀ n ∈ M, 0 ≤ n ∧ n < (k : Int)) ∧ ∀ x ∈ xs, -(k : Int) ≤ x ∧ x < k
  | [], N, M, h, h1, h2 => by
    simp only [trG, Prod.mk.injEq, true_and] at h
    subst h
    exact ⟨by simp, h1, h2, by simp⟩
  | n :: xs, N, M, h, h1, h2 => by
    unfold trG at h
    split at h
    · simp at h
    · rename_i hn
      split at h
      · simp at h
      · rename_i hc
        have hn1 : 0 ≤ nmd k n ∧ nmd k n < k := by unfold nmd; split <;> omega
        have hc' : nmd k n ∉ N := by simpa using hc
        obtain ⟨g1, g2, g3, g4⟩ := trG_inv h (by
          rw [List.nodup_append]
          exact ⟨h1, by simp, fun a ha b hb => by simp only [List.mem_singleton] at hb; rintro rfl; exact hc' (hb ▸ ha)⟩) (fun m hm => by
          rcases List.mem_append.1 hm with h | h
          · exact h2 m h
          · simp only [List.mem_singleton] at h; subst h; exact hn1)
        refine ⟨by rw [g1]; simp, g2, g3, fun x hx => ?_⟩
        rcases List.mem_cons.1 hx with rfl | h
        · omega
        · exact g4 x h
theorem trG_ok {k : Nat} : ∀ {xs N : List Int}, (N ++ xs).Nodup → (∀ n ∈ xs, 0 ≤ n ∧ n < (k : Int)) → trG k xs N = (0, N ++ xs)
  | [], N, _, _ => by simp [trG]
  | n :: xs, N, h1, h2 => by
    have hn := h2 n (List.mem_cons_self ..)
    have e : nmd k n = n := by unfold nmd; rw [if_neg (by omega)]
    unfold trG
    rw [if_neg (by omega), e, if_neg (by
      intro h
      have h' : n ∈ N := by simpa using h
      exact (List.nodup_append.1 h1).2.2 n h' n (List.mem_cons_self ..) rfl)]
    rw [trG_ok (by simpa using h1) (fun m hm => h2 m (List.mem_cons_of_mem _ hm))]
    simp
theorem trA_perm {k : Nat} {N : List Int} (hN : N.Nodup) (hr : ∀ n ∈ N, 0 ≤ n ∧ n < (k : Int)) : (trA k N).Perm (rgI k) ∧ (trA k N).Nodup := by
  have hnd : (trA k N).Nodup := by
    unfold trA trX
    rw [List.nodup_append]
    refine ⟨(rgI_nodup k).filter _, hN, fun a ha b hb => ?_⟩
    rw [List.mem_filter] at ha
    rintro rfl
    simp [hb] at ha
  refine ⟨(List.perm_ext_iff_of_nodup hnd (rgI_nodup k)).2 fun a => ?_, hnd⟩
  unfold trA trX
  rw [List.mem_append, List.mem_filter]
  constructor
  · rintro (h | h)
    · exact h.1
    · exact rgI_mem.2 (hr a h)
  · intro h
    by_cases hc : a ∈ N
    · exact .inr hc
    · exact .inl ⟨h, by simpa using hc⟩
/-- Numbers laid at the places that a list tells. -/
def puL (A t : List Int) (k : Nat) : Nat → List Int
  | 0 => List.replicate k 0
  | i + 1 => (puL A t k i).set (A.getD i 0).toNat (t.getD i 0)
theorem puL_len (A t : List Int) (k : Nat) : ∀ i, (puL A t k i).length = k
  | 0 => by simp [puL]
  | i + 1 => by rw [puL, List.length_set, puL_len A t k i]
theorem nodup_at {A : List Int} (h : A.Nodup) {i j : Nat} (hi : i < A.length) (hj : j < A.length) (he : A.getD i 0 = A.getD j 0) : i = j := by
  simp only [List.getD, List.getElem?_eq_getElem hi, List.getElem?_eq_getElem hj, Option.getD_some] at he
  have h2 := List.pairwise_iff_getElem.1 h
  rcases Nat.lt_trichotomy i j with h3 | h3 | h3
  · exact absurd he (h2 i j hi hj h3)
  · exact h3
  · exact absurd he.symm (h2 j i hj hi h3)
theorem mem_at {A : List Int} {i : Nat} (hi : i < A.length) : A.getD i 0 ∈ A := by
  simp only [List.getD, List.getElem?_eq_getElem hi, Option.getD_some]; exact List.getElem_mem hi
theorem puL_at {A t : List Int} {k : Nat} (hn : A.Nodup) (hr : ∀ n ∈ A, 0 ≤ n ∧ n < (k : Int)) : ∀ i, i ≤ A.length → ∀ j, j < i → (puL A t k i).getD (A.getD j 0).toNat 0 = t.getD j 0
  | 0, _, j, hj => absurd hj (by omega)
  | i + 1, hi, j, hj => by
    have h1 := hr _ (mem_at (i := i) (by omega))
    have h2 := hr _ (mem_at (i := j) (by omega))
    rw [puL]
    simp only [List.getD, List.getElem?_set]
    by_cases e : i = j
    · subst e
      rw [if_pos rfl, if_pos (by rw [puL_len]; simp only [List.getD] at h1; omega)]; rfl
    · have hne : ¬ (A.getD i 0).toNat = (A.getD j 0).toNat := fun h => e (nodup_at hn (by omega) (by omega) (by omega))
      simp only [List.getD] at hne
      rw [if_neg hne]
      exact puL_at hn hr i (by omega) j (by omega)
/-- The lengths in another order; the place in y of a place in the answer. -/
def tpS (A s : List Int) : List Int := A.map fun n => s.getD n.toNat 0
def tpF (A s : List Int) (p : Nat) : Int := atF s (puL A (ixL (tpS A s) p) s.length A.length)
theorem tpS_at {A s : List Int} {i : Nat} (h : i < A.length) : (tpS A s).getD i 0 = s.getD (A.getD i 0).toNat 0 := by simp [tpS, List.getD, h]
theorem pr_perm {s t : List Int} (h : s.Perm t) : pr s = pr t := by
  induction h with
  | nil => rfl
  | cons x _ ih => rw [pr_cons, pr_cons, ih]
  | swap x y l => rw [pr_cons, pr_cons, pr_cons, pr_cons, ← Int.mul_assoc, ← Int.mul_assoc, Int.mul_comm y x]
  | trans _ _ h1 h2 => rw [h1, h2]
theorem pm_perm {s t : List Int} (h : s.Perm t) : pm s = pm t := by
  induction h with
  | nil => rfl
  | cons x _ ih => rw [pm_cons', pm_cons', ih]
  | swap x y l => rw [pm_cons', pm_cons', pm_cons', pm_cons', ← Int.mul_assoc, ← Int.mul_assoc, Int.mul_comm (max y 1)]
  | trans _ _ h1 h2 => rw [h1, h2]
theorem tpS_perm {A s : List Int} (h : A.Perm (rgI s.length)) : (tpS A s).Perm s := by
  have h2 : (tpS A s).Perm (tpS (rgI s.length) s) := h.map _
  have e : tpS (rgI s.length) s = s := by
    refine getD_ext (by simp [tpS, rgI]) fun p hp => ?_
    have hp' : p < s.length := by simpa [tpS, rgI] using hp
    rw [tpS_at (by rw [rgI_len]; exact hp'), rgI_at hp', Int.toNat_natCast]
  rwa [e] at h2
theorem may_perm {s t : List Int} (h : s.Perm t) (hm : mayE t = 0) : mayE s = 0 := by
  obtain ⟨g1, g2, g3⟩ := mayE_zero hm
  refine mayE_from (fun i => ?_) (by rw [h.length_eq]; exact g2) (by rw [pm_perm h]; exact g3)
  by_cases hi : i < s.length
  · have h1 : s.getD i 0 ∈ t := h.mem_iff.1 (mem_at hi)
    obtain ⟨j, hj, e⟩ := List.mem_iff_getElem.1 h1
    have := g1 j
    rw [List.getD, List.getElem?_eq_getElem hj, Option.getD_some, e] at this
    exact this
  · simp [List.getD, List.getElem?_eq_none (Nat.le_of_not_lt hi)]
theorem nodup_of {l : List Int} (h : ∀ i j, i < l.length → j < l.length → l.getD i 0 = l.getD j 0 → i = j) : l.Nodup := by
  rw [List.Nodup, List.pairwise_iff_getElem]
  intro i j hi hj hij e
  have := h i j hi hj (by simp only [List.getD, List.getElem?_eq_getElem hi, List.getElem?_eq_getElem hj, Option.getD_some]; exact e)
  omega
theorem moves_plain {s a A : List Int} (hm : amE s a = 0) (hA : A.Perm (rgI s.length)) :
    ∃ B, B = puL A (rgI s.length) s.length s.length ∧ B.length = s.length ∧ (∀ n ∈ B, 0 ≤ n ∧ n < (s.length : Int)) ∧ mayE (tpS A s) = 0 ∧ amE (tpS A s) (pkA (tpS A s) a (tpF A s)) = 0 ∧ (tpS A s).length = s.length ∧
      trG (s.length : Int) B [] = (0, B) ∧ trA s.length B = B ∧ tpS B (tpS A s) = s ∧ mayE s = 0 ∧ pkA s (pkA (tpS A s) a (tpF A s)) (tpF B (tpS A s)) = a := by
  obtain ⟨hm1, hm2⟩ := amE_zero hm
  have hAl : A.length = s.length := by rw [hA.length_eq, rgI_len]
  have hAn : A.Nodup := hA.nodup_iff.2 (rgI_nodup _)
  have hAr : ∀ n ∈ A, 0 ≤ n ∧ n < (s.length : Int) := fun n hn => rgI_mem.1 (hA.mem_iff.1 hn)
  have hsur : ∀ j : Nat, j < s.length → ∃ i, i < s.length ∧ A.getD i 0 = j := fun j hj => by
    have h1 : (j : Int) ∈ A := hA.mem_iff.2 (rgI_mem.2 (by omega))
    obtain ⟨i, hi, e⟩ := List.mem_iff_getElem.1 h1
    exact ⟨i, by omega, by rw [List.getD, List.getElem?_eq_getElem hi, Option.getD_some, e]⟩
  have hSp := tpS_perm hA
  have hSm := may_perm hSp hm1
  have hSl : (tpS A s).length = s.length := by rw [hSp.length_eq]
  have hBl : (puL A (rgI s.length) s.length s.length).length = s.length := puL_len ..
  have hBA : ∀ i, i < s.length → (puL A (rgI s.length) s.length s.length).getD (A.getD i 0).toNat 0 = i := fun i hi => by
    have h := puL_at (t := rgI s.length) hAn hAr s.length (by omega) i hi
    rw [h, rgI_at hi]
  generalize puL A (rgI s.length) s.length s.length = B at hBl hBA
  have hAB : ∀ j, j < s.length → ∃ i : Nat, i < s.length ∧ B.getD j 0 = i ∧ A.getD i 0 = j := fun j hj => by
    obtain ⟨i, hi, e⟩ := hsur j hj
    have h := hBA i hi
    rw [e, Int.toNat_natCast] at h
    exact ⟨i, hi, h, e⟩
  have hBr : ∀ n ∈ B, 0 ≤ n ∧ n < (s.length : Int) := fun n hn => by
    obtain ⟨j, hj, e⟩ := List.mem_iff_getElem.1 hn
    obtain ⟨i, hi, e1, -⟩ := hAB j (by omega)
    rw [List.getD, List.getElem?_eq_getElem hj, Option.getD_some, e] at e1
    omega
  have hBn : B.Nodup := nodup_of fun i j hi hj e => by
    obtain ⟨i', hi', e1, e2⟩ := hAB i (by omega)
    obtain ⟨j', hj', e3, e4⟩ := hAB j (by omega)
    rw [e1, e3] at e
    have : i' = j' := by omega
    subst this
    rw [e2] at e4
    omega
  have hBp : B.Perm (rgI s.length) := (List.perm_ext_iff_of_nodup hBn (rgI_nodup _)).2 fun x => by
    constructor
    · intro h; exact rgI_mem.2 (hBr x h)
    · intro h
      have hx := rgI_mem.1 h
      obtain ⟨n, rfl⟩ := Int.eq_ofNat_of_zero_le hx.1
      have h2 := hBA n (by omega)
      have h3 := hAr _ (mem_at (A := A) (i := n) (by omega))
      have h4 := mem_at (A := B) (i := (A.getD n 0).toNat) (by omega)
      rw [h2] at h4
      exact h4
  have hSS : tpS B (tpS A s) = s := by
    refine getD_ext (by simp [tpS]; omega) fun p hp => ?_
    have hp' : p < s.length := by simpa [tpS, hBl] using hp
    obtain ⟨i, hi, e1, e2⟩ := hAB p hp'
    rw [tpS_at (by omega), e1, Int.toNat_natCast, tpS_at (by omega), e2, Int.toNat_natCast]
  refine ⟨B, rfl, hBl, hBr, hSm, ?_, hSl, ?_, ?_, hSS, hm1, ?_⟩
  · unfold amE
    rw [if_pos hSm, if_pos]
    unfold pkA
    rw [if_pos hSm]
    have := pr_nonneg hSm
    simp [pkAs]
    omega
  · exact trG_ok (N := []) (by simpa using hBn) hBr
  · unfold trA trX
    rw [List.filter_eq_nil_iff.2 fun x hx => by simp [hBp.mem_iff.2 hx], List.nil_append]
  · refine pk_back hm1 hSm hm2.symm fun k hk => ?_
    have hp := pos_all (mayE_zero hm1).1 (by omega)
    have hpS := pos_all (mayE_zero hSm).1 (by rw [pr_perm hSp]; omega)
    have htl := ixL_len s (k : Int)
    have htr : inR s (ixL s k) s.length := fun i hi => ixL_rng hp i hi
    have hul : (puL B (ixL s k) s.length s.length).length = s.length := puL_len ..
    have huB : ∀ i, i < s.length → (puL B (ixL s k) s.length s.length).getD (B.getD i 0).toNat 0 = (ixL s k).getD i 0 := fun i hi => puL_at hBn hBr s.length (by omega) i hi
    have huA : ∀ j, j < s.length → (puL B (ixL s k) s.length s.length).getD j 0 = (ixL s k).getD (A.getD j 0).toNat 0 := fun j hj => by
      have h3 := hAr _ (mem_at (A := A) (i := j) (by omega))
      have h := huB (A.getD j 0).toNat (by omega)
      rw [hBA j hj, Int.toNat_natCast] at h
      exact h
    generalize hu : puL B (ixL s k) s.length s.length = u at hul huB huA
    have hur : inR (tpS A s) u (tpS A s).length := fun j hj => by
      rw [hSl] at hj
      have h3 := hAr _ (mem_at (A := A) (i := j) (by omega))
      rw [huA j hj, tpS_at (by omega)]
      exact htr _ (by omega)
    obtain ⟨e1, b1, b2⟩ := atF_in hSm (by rw [hul, hSl]) hur
    refine ⟨(plN (tpS A s) u (tpS A s).length).toNat, ?_, ?_, ?_⟩
    · rw [Int.toNat_of_nonneg b1, ← e1]
      unfold tpF
      rw [hSS, hSl, hBl, hu]
    · rw [Int.toNat_of_nonneg b1]; exact b2
    · unfold tpF
      rw [Int.toNat_of_nonneg b1, ix_plN hpS (by rw [hul, hSl]) hur, hAl]
      have hv : puL A u s.length s.length = ixL s k := by
        refine getD_ext (by rw [puL_len, htl]) fun j hj => ?_
        rw [puL_len] at hj
        obtain ⟨i, hi, e⟩ := hsur j hj
        have h := puL_at (t := u) hAn hAr s.length (by omega) i hi
        rw [e, Int.toNat_natCast] at h
        rw [h, huA i hi, e, Int.toNat_natCast]
      rw [hv, (atF_in hm1 htl htr).1, plN_ixL hp ⟨by omega, hk⟩]
end Go.Proofs.YthackmkdicpdeaaGreat
