/- The common shape of many: no program in sight. -/
import Derived.Test.YtdmlldghelpijaaShapeBegun
import Derived.Test.YtdmlldghelpijaaArrItemsWalk
namespace Go.Proofs.Ytdmlldghelpijaa
open Go.RowKit Go.Lib
set_option linter.unusedVariables false
set_option linter.unusedSimpArgs false

/-- A shape's length on an axis, counted from behind; 1 where it has none. -/
def rv (s : List Int) (j : Nat) : Int := if j < s.length then s.getD (s.length - 1 - j) 0 else 1
theorem rv_cons_lt (x : Int) (xs : List Int) (j : Nat) (h : j < xs.length) : rv (x :: xs) j = rv xs j := by
  unfold rv
  rw [if_pos (by simp; omega), if_pos h, show (x :: xs).length - 1 - j = (xs.length - 1 - j) + 1 by simp; omega]
  simp [List.getD]
theorem rv_cons_top (x : Int) (xs : List Int) : rv (x :: xs) xs.length = x := by
  unfold rv; rw [if_pos (by simp)]; simp
theorem rv_out {s : List Int} {j : Nat} (h : s.length ≤ j) : rv s j = 1 := by unfold rv; rw [if_neg (by omega)]
theorem rv_at {s : List Int} {i : Nat} (h : i < s.length) : s.getD i 0 = rv s (s.length - 1 - i) := by
  unfold rv; rw [if_pos (by omega), show s.length - 1 - (s.length - 1 - i) = i by omega]
theorem rv_ext {s t : List Int} (hl : s.length = t.length) (h : ∀ j, rv s j = rv t j) : s = t := by
  apply List.ext_getElem hl
  intro i h1 h2
  have e1 := rv_at h1
  have e2 := rv_at h2
  rw [hl, h, ← hl] at e1
  rw [← hl] at e2
  simp only [List.getD, List.getElem?_eq_getElem h1, List.getElem?_eq_getElem h2, Option.getD_some] at e1 e2
  rw [e1, e2]
theorem frL_rv {s : List Int} {N i : Nat} (hi : i < N) (hN : s.length ≤ N) : frL s N i = rv s (N - 1 - i) := by
  unfold frL rv
  by_cases h : i < N - s.length
  · rw [if_pos h, if_neg (by omega)]
  · rw [if_neg h, if_pos (by omega), show s.length - 1 - (N - 1 - i) = i - (N - s.length) by omega]
theorem rv_bth (s t : List Int) (j : Nat) : rv (bthL s t) j = max (rv s j) (rv t j) := by
  by_cases h : j < max s.length t.length
  · have h1 : (bthL s t).getD (max s.length t.length - 1 - j) 0 = max (frL s (max s.length t.length) (max s.length t.length - 1 - j)) (frL t (max s.length t.length) (max s.length t.length - 1 - j)) := by
      have : max s.length t.length - 1 - j < max s.length t.length := by omega
      simp [bthL, List.getD, this]
    have h2 : rv (bthL s t) j = (bthL s t).getD (max s.length t.length - 1 - j) 0 := by
      unfold rv; rw [bthL_len, if_pos h]
    rw [h2, h1, frL_rv (by omega) (by omega), frL_rv (by omega) (by omega), show max s.length t.length - 1 - (max s.length t.length - 1 - j) = j by omega]
  · rw [rv_out (by rw [bthL_len]; omega), rv_out (show s.length ≤ j by omega), rv_out (show t.length ≤ j by omega)]; rfl
def PP (f : Nat → Int) : Nat → Int
  | 0 => 1
  | n + 1 => PP f n * max (f n) 1
theorem PP_congr {f g : Nat → Int} {n : Nat} (h : ∀ j, j < n → f j = g j) : PP f n = PP g n := by
  induction n with
  | zero => rfl
  | succ n ih => simp only [PP]; rw [ih (fun j hj => h j (by omega)), h n (by omega)]
theorem PP_pos (f : Nat → Int) (n : Nat) : 1 ≤ PP f n := by
  induction n with
  | zero => simp [PP]
  | succ n ih => simp only [PP]; have := (le_mul1 ih (show 1 ≤ max (f n) 1 by omega)).1; omega
theorem PP_mono {f g : Nat → Int} {n m : Nat} (h : ∀ j, f j ≤ g j) (hnm : n ≤ m) : PP f n ≤ PP g m := by
  have h1 : PP f n ≤ PP g n := by
    clear hnm
    induction n with
    | zero => simp [PP]
    | succ n ih => simp only [PP]; have := h n; have := PP_pos g n; exact Int.mul_le_mul ih (by omega) (by omega) (by omega)
  have h2 : PP g n ≤ PP g m := by
    induction hnm with
    | refl => omega
    | step _ ih => rename_i m _; simp only [PP]; have := (le_mul1 (PP_pos g m) (show 1 ≤ max (g m) 1 by omega)).1; omega
  omega
theorem pm_PP : ∀ s : List Int, pm s = PP (rv s) s.length
  | [] => rfl
  | x :: xs => by
    rw [pm_cons, List.length_cons, PP, rv_cons_top, PP_congr (fun j hj => rv_cons_lt x xs j hj), ← pm_PP xs, Int.mul_comm]
theorem mayE_iff {s : List Int} : mayE s = 0 ↔ (∀ i, 0 ≤ s.getD i 0) ∧ s.length ≤ 8 ∧ pm s ≤ 4096 := by
  constructor
  · exact mayE_zero
  · rintro ⟨h1, h2, h3⟩
    rw [mayE_of (fun i _ => h1 i), if_neg (by omega), if_neg (by omega)]
theorem may_sub {x y : List Int} (hx : mayE x = 0) (hl : y.length ≤ x.length) (h0 : ∀ i, 0 ≤ y.getD i 0) (h : ∀ j, rv y j ≤ rv x j) : mayE y = 0 := by
  obtain ⟨g1, g2, g3⟩ := mayE_zero hx
  rw [mayE_iff]
  refine ⟨h0, by omega, ?_⟩
  rw [pm_PP] at g3 ⊢
  have := PP_mono h hl
  omega
theorem rv_nonneg {s : List Int} : (∀ i, 0 ≤ s.getD i 0) ↔ ∀ j, 0 ≤ rv s j := by
  constructor
  · intro h j; unfold rv; split
    · exact h _
    · omega
  · intro h i
    by_cases hi : i < s.length
    · rw [rv_at hi]; exact h _
    · simp [List.getD, List.getElem?_eq_none (show s.length ≤ i by omega)]
/-- The common shape of a shape and many. -/
def cov (c : List Int) (zss : List (List Int)) : List Int := zss.foldl bthL c
theorem cov_len (c : List Int) (zss : List (List Int)) (m : Nat) : (cov c zss).length ≤ m ↔ c.length ≤ m ∧ ∀ s ∈ zss, s.length ≤ m := by
  induction zss generalizing c with
  | nil => simp [cov]
  | cons s r ih =>
    show (cov (bthL c s) r).length ≤ m ↔ _
    rw [ih, bthL_len]; simp only [List.mem_cons, forall_eq_or_imp]
    constructor
    · rintro ⟨h1, h2⟩; exact ⟨by omega, by omega, h2⟩
    · rintro ⟨h1, h2, h3⟩; exact ⟨by omega, h3⟩
theorem cov_rv (c : List Int) (zss : List (List Int)) (j : Nat) (m : Int) : rv (cov c zss) j ≤ m ↔ rv c j ≤ m ∧ ∀ s ∈ zss, rv s j ≤ m := by
  induction zss generalizing c with
  | nil => simp [cov]
  | cons s r ih =>
    show rv (cov (bthL c s) r) j ≤ m ↔ _
    rw [ih, rv_bth]; simp only [List.mem_cons, forall_eq_or_imp]
    constructor
    · rintro ⟨h1, h2⟩; exact ⟨by omega, by omega, h2⟩
    · rintro ⟨h1, h2, h3⟩; exact ⟨by omega, h3⟩
theorem cov_eq {c d : List Int} {xs ys : List (List Int)} (h : ∀ s, s ∈ c :: xs ↔ s ∈ d :: ys) : cov c xs = cov d ys := by
  have hl : ∀ m, (cov c xs).length ≤ m ↔ (cov d ys).length ≤ m := fun m => by
    rw [cov_len, cov_len]
    have e1 : (c.length ≤ m ∧ ∀ s ∈ xs, s.length ≤ m) ↔ ∀ s ∈ c :: xs, s.length ≤ m := by simp
    have e2 : (d.length ≤ m ∧ ∀ s ∈ ys, s.length ≤ m) ↔ ∀ s ∈ d :: ys, s.length ≤ m := by simp
    rw [e1, e2]
    exact ⟨fun h1 s hs => h1 s ((h s).2 hs), fun h1 s hs => h1 s ((h s).1 hs)⟩
  refine rv_ext ?_ (fun j => ?_)
  · have h1 := (hl (cov d ys).length).2 (Nat.le_refl _)
    have h2 := (hl (cov c xs).length).1 (Nat.le_refl _)
    omega
  · have hr : ∀ m, rv (cov c xs) j ≤ m ↔ rv (cov d ys) j ≤ m := fun m => by
      rw [cov_rv, cov_rv]
      have e1 : (rv c j ≤ m ∧ ∀ s ∈ xs, rv s j ≤ m) ↔ ∀ s ∈ c :: xs, rv s j ≤ m := by simp
      have e2 : (rv d j ≤ m ∧ ∀ s ∈ ys, rv s j ≤ m) ↔ ∀ s ∈ d :: ys, rv s j ≤ m := by simp
      rw [e1, e2]
      exact ⟨fun h1 s hs => h1 s ((h s).2 hs), fun h1 s hs => h1 s ((h s).1 hs)⟩
    have h1 := (hr (rv (cov d ys) j)).2 (Int.le_refl _)
    have h2 := (hr (rv (cov c xs) j)).1 (Int.le_refl _)
    omega
theorem bth_nonneg {c s : List Int} (hc : ∀ i, 0 ≤ c.getD i 0) : ∀ i, 0 ≤ (bthL c s).getD i 0 := by
  rw [rv_nonneg] at *
  intro j; rw [rv_bth]; have := hc j; omega
theorem cov_up (c : List Int) (zss : List (List Int)) : c.length ≤ (cov c zss).length ∧ (∀ j, rv c j ≤ rv (cov c zss) j) :=
  ⟨((cov_len c zss _).1 (Nat.le_refl _)).1, fun j => ((cov_rv c zss j _).1 (Int.le_refl _)).1⟩
theorem cvGo_ok {c : List Int} {zss : List (List Int)} (hc : mayE c = 0) (hz : ∀ s ∈ zss, mayE s = 0) (h : mayE (cov c zss) = 0) : cvGo c zss = (cov c zss, 0) := by
  induction zss generalizing c with
  | nil => rfl
  | cons s r ih =>
    have h1 := hz s (by simp)
    have h2 : mayE (bthL c s) = 0 := by
      have := cov_up (bthL c s) r
      exact may_sub h this.1 (bth_nonneg (mayE_zero hc).1) this.2
    show (if mayE s = 0 then if mayE (bthL c s) = 0 then cvGo (bthL c s) r else _ else _) = _
    rw [if_pos h1, if_pos h2]
    exact ih h2 (fun t ht => hz t (by simp [ht])) h
theorem cvGo_inv {c : List Int} {zss : List (List Int)} (hc : mayE c = 0) (h : (cvGo c zss).2 = 0) : (∀ s ∈ zss, mayE s = 0) ∧ mayE (cov c zss) = 0 ∧ cvGo c zss = (cov c zss, 0) := by
  induction zss generalizing c with
  | nil => exact ⟨by simp, hc, rfl⟩
  | cons s r ih =>
    have e : cvGo c (s :: r) = if mayE s = 0 then if mayE (bthL c s) = 0 then cvGo (bthL c s) r else ([], 17) else ([], mayE s) := rfl
    rw [e] at h
    by_cases h1 : mayE s = 0
    · rw [if_pos h1] at h
      by_cases h2 : mayE (bthL c s) = 0
      · rw [if_pos h2] at h
        obtain ⟨i1, i2, i3⟩ := ih h2 h
        refine ⟨?_, i2, ?_⟩
        · intro t ht; simp only [List.mem_cons] at ht; rcases ht with rfl | ht
          · exact h1
          · exact i1 t ht
        · rw [e, if_pos h1, if_pos h2]; exact i3
      · rw [if_neg h2] at h; simp at h
    · rw [if_neg h1] at h; exact absurd h h1
theorem cvGo_err {c : List Int} {zss : List (List Int)} (h : (cvGo c zss).2 ≠ 0) : (cvGo c zss).1 = [] := by
  induction zss generalizing c with
  | nil => simp [cvGo] at h
  | cons s r ih =>
    have e : cvGo c (s :: r) = if mayE s = 0 then if mayE (bthL c s) = 0 then cvGo (bthL c s) r else ([], 17) else ([], mayE s) := rfl
    rw [e] at h ⊢
    split at h
    · split at h
      · rename_i h1 h2; rw [if_pos h1, if_pos h2]; exact ih h
      · rename_i h1 h2; rw [if_pos h1, if_neg h2]
    · rename_i h1; rw [if_neg h1]
theorem cvR_err {zss : List (List Int)} (h : (cvR zss).2 ≠ 0) : (cvR zss).1 = [] := by
  cases zss with
  | nil => rfl
  | cons s r =>
    have e : cvR (s :: r) = if mayE s = 0 then cvGo s r else ([], mayE s) := rfl
    rw [e] at h ⊢
    split at h
    · rename_i h1; rw [if_pos h1]; exact cvGo_err h
    · rename_i h1; rw [if_neg h1]
/-- Where the common shape of all is told: what is known of it. -/
structure CovIs (C : List Int) (zss : List (List Int)) : Prop where
  may : mayE C = 0
  all : ∀ s ∈ zss, mayE s = 0
  len : ∀ m, C.length ≤ m ↔ ∀ s ∈ zss, s.length ≤ m
  rv : ∀ j m, rv C j ≤ m ↔ ∀ s ∈ zss, rv s j ≤ m
theorem cvR_inv {zss : List (List Int)} (h : (cvR zss).2 = 0) : CovIs (cvR zss).1 zss ∧ (cvR zss.reverse) = ((cvR zss).1, 0) := by
  cases zss with
  | nil => simp [cvR] at h
  | cons s r =>
    have e : cvR (s :: r) = if mayE s = 0 then cvGo s r else ([], mayE s) := rfl
    have h1 : mayE s = 0 := by
      rw [e] at h
      by_cases h1 : mayE s = 0
      · exact h1
      · rw [if_neg h1] at h; exact h
    rw [e, if_pos h1] at h
    obtain ⟨i1, i2, i3⟩ := cvGo_inv h1 h
    have ec : cvR (s :: r) = (cov s r, 0) := by rw [e, if_pos h1, i3]
    rw [ec]
    have hall : ∀ t ∈ s :: r, mayE t = 0 := by
      intro t ht; simp only [List.mem_cons] at ht; rcases ht with rfl | ht
      · exact h1
      · exact i1 t ht
    refine ⟨⟨i2, hall, fun m => ?_, fun j m => ?_⟩, ?_⟩
    · show (cov s r).length ≤ m ↔ _
      rw [cov_len]; simp
    · show rv (cov s r) j ≤ m ↔ _
      rw [cov_rv]; simp
    · obtain ⟨d, ys, hd⟩ : ∃ d ys, (s :: r).reverse = d :: ys := by
        cases hh : (s :: r).reverse with
        | nil => simp at hh
        | cons d ys => exact ⟨d, ys, rfl⟩
      rw [hd]
      have hmem : ∀ t, t ∈ d :: ys ↔ t ∈ s :: r := fun t => by rw [← hd, List.mem_reverse]
      have hce : cov d ys = cov s r := cov_eq hmem
      have hd0 : mayE d = 0 := hall d ((hmem d).1 (by simp))
      show (if mayE d = 0 then cvGo d ys else _) = _
      rw [if_pos hd0, cvGo_ok hd0 (fun t ht => hall t ((hmem t).1 (by simp [ht]))) (by rw [hce]; exact i2), hce]
theorem cvR_again {C : List Int} {zss : List (List Int)} (h : CovIs C zss) {s : List Int} (hs : s ∈ zss) : cvR [C, s, C] = (C, 0) := by
  have hl := (h.len _).1 (Nat.le_refl _) s hs
  have hr : ∀ j, rv s j ≤ rv C j := fun j => (h.rv j _).1 (Int.le_refl _) s hs
  have e1 : bthL C s = C := by
    apply rv_ext
    · rw [bthL_len]; omega
    · intro j; rw [rv_bth]; have := hr j; omega
  have e2 : bthL C C = C := by
    apply rv_ext
    · rw [bthL_len]; omega
    · intro j; rw [rv_bth]; omega
  show (if mayE C = 0 then cvGo C [s, C] else _) = _
  rw [if_pos h.may]
  show (if mayE s = 0 then if mayE (bthL C s) = 0 then cvGo (bthL C s) [C] else _ else _) = _
  rw [if_pos (h.all s hs), e1, if_pos h.may]
  show (if mayE C = 0 then if mayE (bthL C C) = 0 then cvGo (bthL C C) [] else _ else _) = _
  rw [if_pos h.may, e2, if_pos h.may]
  rfl
/-- The longest of the first k; the most of the first k on an axis. -/
def lgN (zss : List (List Int)) : Nat → Nat
  | 0 => 0
  | k + 1 => max (lgN zss k) (zss.getD k []).length
def msN (zss : List (List Int)) (j : Nat) : Nat → Int
  | 0 => 0
  | k + 1 => max (msN zss j k) (rv (zss.getD k []) j)
theorem mem_getD {zss : List (List Int)} {i : Nat} (h : i < zss.length) : zss.getD i [] ∈ zss := by
  simp [List.getD, List.getElem?_eq_getElem h]
theorem mem_at {zss : List (List Int)} {s : List Int} (h : s ∈ zss) : ∃ i, i < zss.length ∧ zss.getD i [] = s := by
  obtain ⟨i, hi, rfl⟩ := List.getElem_of_mem h
  exact ⟨i, hi, by simp [List.getD, List.getElem?_eq_getElem hi]⟩
theorem lgN_le (zss : List (List Int)) (k m : Nat) : lgN zss k ≤ m ↔ ∀ i, i < k → (zss.getD i []).length ≤ m := by
  induction k with
  | zero => simp [lgN]
  | succ k ih =>
    simp only [lgN]
    constructor
    · intro h i hi
      by_cases e : i = k
      · subst e; omega
      · exact ih.1 (by omega) i (by omega)
    · intro h
      have h1 := ih.2 (fun i hi => h i (by omega))
      have h2 := h k (by omega)
      omega
theorem msN_le (zss : List (List Int)) (j k : Nat) (m : Int) : msN zss j k ≤ m ↔ 0 ≤ m ∧ ∀ i, i < k → rv (zss.getD i []) j ≤ m := by
  induction k with
  | zero => simp [msN]
  | succ k ih =>
    simp only [msN]
    constructor
    · intro h
      have h1 := ih.1 (by omega)
      refine ⟨h1.1, fun i hi => ?_⟩
      by_cases e : i = k
      · subst e; omega
      · exact h1.2 i (by omega)
    · rintro ⟨h0, h⟩
      have h1 := ih.2 ⟨h0, fun i hi => h i (by omega)⟩
      have h2 := h k (by omega)
      omega
theorem lg_end {C : List Int} {zss : List (List Int)} (h : CovIs C zss) : lgN zss zss.length = C.length := by
  have h1 : lgN zss zss.length ≤ C.length := (lgN_le _ _ _).2 (fun i hi => (h.len _).1 (Nat.le_refl _) _ (mem_getD hi))
  have h2 : C.length ≤ lgN zss zss.length := (h.len _).2 (fun s hs => by
    obtain ⟨i, hi, rfl⟩ := mem_at hs
    exact (lgN_le _ _ _).1 (Nat.le_refl _) i hi)
  omega
theorem ms_end {C : List Int} {zss : List (List Int)} (h : CovIs C zss) (h0 : 0 < zss.length) (j : Nat) : msN zss j zss.length = rv C j := by
  have hn : 0 ≤ rv C j := rv_nonneg.1 (mayE_zero h.may).1 j
  have h1 : msN zss j zss.length ≤ rv C j := (msN_le _ _ _ _).2 ⟨hn, fun i hi => (h.rv j _).1 (Int.le_refl _) _ (mem_getD hi)⟩
  have h2 : rv C j ≤ msN zss j zss.length := (h.rv j _).2 (fun s hs => by
    obtain ⟨i, hi, rfl⟩ := mem_at hs
    exact ((msN_le _ _ _ _).1 (Int.le_refl _)).2 i hi)
  omega
end Go.Proofs.Ytdmlldghelpijaa
