/- Parts of an array along its first axis, and two of them one behind the other: no program in sight. -/
import Derived.Test.YthackmkdicpdeaaGreatMoldBackP
namespace Go.Proofs.YthackmkdicpdeaaGreat
open Go.RowKit Go.Lib
set_option linter.unusedVariables false
set_option linter.unusedSimpArgs false
theorem may_head {x m : Int} {r : List Int} (h : mayE (m :: r) = 0) (h0 : 0 ≤ x) (h1 : x ≤ m ∨ x = 1) : mayE (x :: r) = 0 := by
  obtain ⟨g1, g2, g3⟩ := mayE_zero h
  refine mayE_from (fun i => ?_) (by simpa using g2) ?_
  · cases i with
    | zero => simpa using h0
    | succ i => have := g1 (i + 1); simpa using this
  · rw [pm_cons'] at g3 ⊢
    have h2 := pm_pos r
    have h3 : max x 1 * pm r ≤ max m 1 * pm r := Int.mul_le_mul_of_nonneg_right (by omega) (by omega)
    omega
theorem set_at0 {t : List Int} {c : Int} (h : 0 < t.length) : (t.set 0 c).getD 0 0 = c := by
  cases t with
  | nil => simp at h
  | cons x xs => simp
theorem set_at1 {t : List Int} {c : Int} {i : Nat} (h : 0 < i) : (t.set 0 c).getD i 0 = t.getD i 0 := by
  cases t with
  | nil => simp
  | cons x xs => cases i with
    | zero => omega
    | succ i => simp
theorem plN_h {x y : Int} {r t : List Int} : ∀ k, plN (x :: r) t k = plN (y :: r) t k
  | 0 => rfl
  | 1 => by simp [plN]
  | k + 2 => by
    have h := plN_h (x := x) (y := y) (r := r) (t := t) (k + 1)
    rw [plN, plN.eq_2 (y :: r), h]
    simp [List.getD]
theorem plN_set {x c : Int} {r t : List Int} (hl : t.length = r.length + 1) : ∀ k, k ≤ r.length → plN (x :: r) (t.set 0 c) (k + 1) = plN (x :: r) t (k + 1) + (c - t.getD 0 0) * pr (r.take k)
  | 0, _ => by
    have h0 : (t.set 0 c).getD 0 0 = c := set_at0 (by omega)
    rw [plN, plN.eq_2 (x :: r) t, h0]
    simp [plN, pr]
    omega
  | k + 1, hk => by
    have h := plN_set (x := x) (c := c) hl k (by omega)
    have h0 : (t.set 0 c).getD (k + 1) 0 = t.getD (k + 1) 0 := by simp [List.getD, List.getElem?_set]
    have h1 : (x :: r).getD (k + 1) 0 = r.getD k 0 := by simp [List.getD]
    rw [plN, plN.eq_2 (x :: r) t, h0, h, h1, pr_take_succ (by omega), Int.add_mul, Int.mul_assoc]
    omega
theorem ix_head {x : Int} {r : List Int} {k : Int} (h0 : 0 ≤ k) (h1 : k < x * pr r) (hp : 0 < pr r) : (ixL (x :: r) k).getD 0 0 = k / pr r := by
  rw [ixL_at (by simp)]
  show (k / pr r) % x = k / pr r
  exact Int.emod_eq_of_lt (Int.ediv_nonneg h0 (by omega)) (Int.ediv_lt_of_lt_mul hp h1)
/-- The first index moved by c: the place moves by c items. -/
theorem atF_sh {m x : Int} {r : List Int} (hm : mayE (m :: r) = 0) (hx : mayE (x :: r) = 0) {k : Nat} (hk : (k : Int) < pr (x :: r)) (c : Int) :
    atF (m :: r) ((ixL (x :: r) k).set 0 (k / pr r + c)) = if 0 ≤ k + c * pr r ∧ k + c * pr r < m * pr r then k + c * pr r else -1 := by
  have hpos := pos_all (mayE_zero hx).1 (by omega)
  have hP : 1 ≤ pr r := pr_drop_pos hpos 1
  have hk2 := hk
  rw [pr_cons] at hk2
  have hd : (k : Int) / pr r + c = (k + c * pr r) / pr r := by rw [Int.add_mul_ediv_right _ _ (by omega)]
  have hl : (ixL (x :: r) k).length = r.length + 1 := by rw [ixL_len]; rfl
  have hr : ∀ i, 0 < i → i < r.length + 1 → 0 ≤ ((ixL (x :: r) k).set 0 (k / pr r + c)).getD i 0 ∧ ((ixL (x :: r) k).set 0 (k / pr r + c)).getD i 0 < (m :: r).getD i 0 := fun i h1 h2 => by
    have e : ((ixL (x :: r) k).set 0 (k / pr r + c)).getD i 0 = (ixL (x :: r) k).getD i 0 := by
      simp only [List.getD, List.getElem?_set]; rw [if_neg (by omega)]
    rw [e]
    have h3 := ixL_rng (p := k) hpos i (by simpa using h2)
    have e2 : (m :: r).getD i 0 = (x :: r).getD i 0 := by cases i with
      | zero => omega
      | succ i => simp [List.getD]
    rw [e2]; exact h3
  have e0 : ((ixL (x :: r) k).set 0 (k / pr r + c)).getD 0 0 = k / pr r + c := set_at0 (by omega)
  by_cases h : 0 ≤ k + c * pr r ∧ k + c * pr r < m * pr r
  · rw [if_pos h]
    have hin : inR (m :: r) ((ixL (x :: r) k).set 0 (k / pr r + c)) (m :: r).length := fun i hi => by
      cases i with
      | zero =>
        rw [e0, hd]
        exact ⟨Int.ediv_nonneg h.1 (by omega), Int.ediv_lt_of_lt_mul (by omega) h.2⟩
      | succ i => exact hr (i + 1) (by omega) (by simpa using hi)
    rw [(atF_in hm (by simpa using hl) hin).1]
    show plN (m :: r) _ (r.length + 1) = _
    rw [plN_set hl r.length (Nat.le_refl _), plN_h (y := x), List.take_length, ix_head (by omega) hk2 (by omega)]
    have e3 := plN_ixL (p := k) hpos ⟨by omega, hk⟩
    have e4 : plN (x :: r) (ixL (x :: r) k) (r.length + 1) = k := e3
    rw [e4]
    congr 1
    congr 1
    omega
  · rw [if_neg h]
    have hin : ¬ inR (m :: r) ((ixL (x :: r) k).set 0 (k / pr r + c)) (m :: r).length := fun hin => by
      have h2 := hin 0 (by simp)
      rw [e0, hd] at h2
      apply h
      refine ⟨?_, ?_⟩
      · have := (Int.le_ediv_iff_mul_le (by omega : 0 < pr r)).1 h2.1
        omega
      · exact (Int.ediv_lt_iff_lt_mul (by omega : 0 < pr r)).1 h2.2
    have he : plE (m :: r) ((ixL (x :: r) k).set 0 (k / pr r + c)) = 13 := by
      unfold plE
      rw [if_pos hm, if_pos (by rw [List.length_set, hl]; rfl), if_neg hin]
    unfold atF
    rw [he, if_neg (by decide)]
theorem pk_sh {m x : Int} {r a : List Int} (hm : amE (m :: r) a = 0) (hx : mayE (x :: r) = 0) {k : Nat} (hk : (k : Int) < pr (x :: r)) (c : Int) :
    pkAt a (atF (m :: r) ((ixL (x :: r) k).set 0 (k / pr r + c))) = pkAt a (k + c * pr r) := by
  obtain ⟨hm1, hm2⟩ := amE_zero hm
  rw [atF_sh hm1 hx hk]
  rw [pr_cons] at hm2
  split
  · rfl
  · rename_i h
    unfold pkAt
    rw [if_neg (by omega)]
    split
    · rename_i h2
      rw [List.getD, List.getElem?_eq_none (by omega)]; rfl
    · rfl
/-- Atoms from place c on, k of them; zeros outside. -/
def shA (a : List Int) (c : Int) (k : Nat) : List Int := (List.range k).map fun (i : Nat) => pkAt a (i + c)
theorem shA_len (a : List Int) (c : Int) (k : Nat) : (shA a c k).length = k := by simp [shA]
theorem shA_at {a : List Int} {c : Int} {k i : Nat} (h : i < k) : (shA a c k).getD i 0 = pkAt a (i + c) := by simp [shA, List.getD, h]
theorem shA_two {a : List Int} {j l : Nat} (h : j + l = a.length) : shA a 0 j ++ shA a j l = a := by
  refine getD_ext (by simp [shA]; omega) fun p hp => ?_
  have hp' : p < j + l := by simpa [shA] using hp
  rw [getD_app, shA_len]
  split
  · rw [shA_at ‹_›, pkAt, if_pos (by omega)]; congr 1
  · rw [shA_at (by omega), pkAt, if_pos (by omega)]; congr 1; omega
theorem shA_take {a : List Int} {j : Nat} (h : j ≤ a.length) : shA a 0 j = a.take j := by
  refine getD_ext (by simp [shA]; omega) fun p hp => ?_
  have hp' : p < j := by simpa [shA] using hp
  rw [shA_at hp', pkAt, if_pos (by omega)]
  simp [List.getD, List.getElem?_take, hp']
theorem shA_drop {a : List Int} {j l : Nat} (h : j + l = a.length) : shA a j l = a.drop j := by
  refine getD_ext (by simp [shA]; omega) fun p hp => ?_
  have hp' : p < l := by simpa [shA] using hp
  rw [shA_at hp', pkAt, if_pos (by omega), show ((p : Int) + j).toNat = j + p by omega]
  simp [List.getD, List.getElem?_drop]
/-- One behind the other. -/
theorem beh_two {p q : Int} {r a b : List Int} (ha : amE (p :: r) a = 0) (hb : amE (q :: r) b = 0) (hm : mayE ((p + q) :: r) = 0) :
    beE (p :: r) (q :: r) = 0 ∧ beS (p :: r) (q :: r) = (p + q) :: r ∧ beA (p :: r) a (q :: r) b = a ++ b := by
  obtain ⟨ha1, ha2⟩ := amE_zero ha
  obtain ⟨hb1, hb2⟩ := amE_zero hb
  have hp0 : 0 ≤ p := by simpa using (mayE_zero ha1).1 0
  have hq0 : 0 ≤ q := by simpa using (mayE_zero hb1).1 0
  have e1 : ∀ x y : Int, bxs (x :: r) (y :: r) = x :: r := fun x y => if_neg (by simp)
  have e2 : ∀ (x y : Int) (c : List Int), bxa (x :: r) c (y :: r) = c := fun x y c => if_neg (by simp)
  have e3 : ∀ x y : Int, bK (x :: r) (y :: r) = r.length + 1 := fun x y => by simp [bK]
  have e4 : ∀ x : Int, bS (r.length + 1) (x :: r) = x :: r := fun x => by simp [bS]
  have e5 : bW (p :: r) (q :: r) = (p + q) :: r := by
    unfold bW
    refine getD_ext (by rw [updG_len]; simp) fun i hi => ?_
    rw [updG_len] at hi
    rw [updG_at hi, if_pos hi]
    unfold bwf
    cases i with
    | zero => simp
    | succ i => simp [List.getD]
  have e6 : bhW (p :: r) (q :: r) = (p + q) :: r := by unfold bhW; rw [e3, e4, e4, e5]
  have n0 : ¬ ((p :: r).length = 0 ∧ (q :: r).length = 0) := by simp
  have hpr : pr ((p + q) :: r) = a.length + b.length := by rw [pr_cons] at *; rw [Int.add_mul]; omega
  refine ⟨?_, ?_, ?_⟩
  · unfold beE bhE mdE; rw [if_neg n0, e1, e1, e6, if_pos hm]
  · unfold beS bhS mdS; rw [if_neg n0, e1, e1, e6, if_pos hm]
  · unfold beA bhA
    rw [if_neg n0, e1, e1, e2, e2, e6, if_pos hm, e3, e4, e4]
    unfold bAs
    rw [e5]
    refine getD_ext (by simp; omega) fun i hi => ?_
    have hi' : i < (pr ((p + q) :: r)).toNat := by simpa using hi
    have hk : (i : Int) < pr ((p + q) :: r) := by omega
    have hpos := pos_all (mayE_zero hm).1 (by omega)
    have hP : 1 ≤ pr r := pr_drop_pos hpos 1
    have hk2 := hk
    rw [pr_cons] at hk2
    have e7 : ((List.range (pr ((p + q) :: r)).toNat).map fun (i : Nat) => bV (p :: r) (q :: r) a b (ixL ((p + q) :: r) i)).getD i 0 = bV (p :: r) (q :: r) a b (ixL ((p + q) :: r) i) := by simp [List.getD, hi']
    rw [e7]
    unfold bV
    have e8 : (p :: r).getD 0 0 = p := by simp
    rw [e8, ix_head (by omega) hk2 (by omega), getD_app]
    rw [pr_cons] at ha2
    have hiff : (i : Int) / pr r < p ↔ i < p * pr r := Int.ediv_lt_iff_lt_mul (by omega)
    by_cases h : (i : Int) / pr r < p
    · rw [if_pos h]
      have h2 := hiff.1 h
      rw [if_pos (by omega)]
      have e9 : ixL ((p + q) :: r) i = (ixL ((p + q) :: r) i).set 0 (i / pr r + 0) := by
        rw [Int.add_zero, ← ix_head (by omega) hk2 (by omega)]
        refine getD_ext (by simp) fun j hj => ?_
        simp only [List.getD, List.getElem?_set]
        split
        · rename_i e; subst e; rw [if_pos hj]; simp [List.getElem?_eq_getElem hj]
        · rfl
      rw [e9, pk_sh ha hm hk 0, Int.zero_mul, Int.add_zero, pkAt, if_pos (by omega)]
      congr 1
    · rw [if_neg h]
      have h2 : ¬ ((i : Int) < p * pr r) := fun h3 => h (hiff.2 h3)
      rw [if_neg (by omega), show (i : Int) / pr r - p = i / pr r + (-p) by omega, pk_sh hb hm hk (-p), pkAt, Int.neg_mul, if_pos (by omega)]
      congr 1
      omega
theorem upd_head (f : Nat → Int) {t : List Int} (h : t.length ≠ 0) : updG f t 1 = t.set 0 (f 0) := by
  have h2 := updG_step (f := f) (t := t) (i := 0) (by omega)
  rw [updG_zero] at h2
  exact h2.symm
theorem tk_one {m : Int} {r a : List Int} (hm : amE (m :: r) a = 0) (n : Int) (hx : mayE (fa n :: r) = 0) :
    tkE [n] (m :: r) = 0 ∧ tkS [n] (m :: r) = fa n :: r ∧ tkA [n] (m :: r) a = shA a ((if n < 0 then m - fa n else 0) * pr r) (pr (fa n :: r)).toNat := by
  have e0 : tkY 1 (m :: r) = m :: r := if_neg (by simp)
  have e1 : tkRS [n] (m :: r) = fa n :: r := by
    show updG (tRf [n]) (tkY 1 (m :: r)) 1 = _
    rw [e0, upd_head _ (by simp)]
    rfl
  have e2 : tkOk 1 (m :: r) = true := by simp [tkOk]
  refine ⟨?_, ?_, ?_⟩
  · show (if tkOk 1 (m :: r) = true then mdE (tkRS [n] (m :: r)) else 11) = 0
    rw [e2, if_pos rfl, e1]; exact if_pos hx
  · show (if tkOk 1 (m :: r) = true then mdS (tkRS [n] (m :: r)) else []) = _
    rw [e2, if_pos rfl, e1]; exact if_pos hx
  · show (if tkOk 1 (m :: r) = true then pkA (tkRS [n] (m :: r)) a (tkF [n] (tkY 1 (m :: r)) (tkRS [n] (m :: r))) else []) = _
    rw [e2, if_pos rfl, e1, e0]
    unfold pkA
    rw [if_pos hx]
    unfold pkAs shA
    refine List.map_congr_left fun i hi => ?_
    have hi' : i < (pr (fa n :: r)).toNat := by simpa using hi
    have hk : (i : Int) < pr (fa n :: r) := by omega
    have hpos := pos_all (mayE_zero hx).1 (by omega)
    have hP : 1 ≤ pr r := pr_drop_pos hpos 1
    have hk2 := hk
    rw [pr_cons] at hk2
    show pkAt a (atF (m :: r) (updG (tkf [n] (m :: r) (fa n :: r) (ixL (fa n :: r) i)) (ixL (fa n :: r) i) 1)) = _
    rw [upd_head _ (by rw [ixL_len]; simp)]
    have e3 : tkf [n] (m :: r) (fa n :: r) (ixL (fa n :: r) i) 0 = i / pr r + (if n < 0 then m - fa n else 0) := by
      unfold tkf
      rw [ix_head (by omega) hk2 (by omega)]
      show (if n < 0 then (i : Int) / pr r + (m - fa n) else (i : Int) / pr r) = _
      split <;> omega
    rw [e3, pk_sh hm hx hk]
theorem dr_one {m : Int} {r a : List Int} (hm : amE (m :: r) a = 0) (n : Int) :
    drE [n] (m :: r) = 0 ∧ drS [n] (m :: r) = max 0 (m - fa n) :: r ∧ drA [n] (m :: r) a = shA a ((if 0 < n then fa n else 0) * pr r) (pr (max 0 (m - fa n) :: r)).toNat := by
  have hf := fa_bd n
  have hm0 : 0 ≤ m := by simpa using (mayE_zero (amE_zero hm).1).1 0
  have hx : mayE (max 0 (m - fa n) :: r) = 0 := may_head (amE_zero hm).1 (by omega) (by omega)
  generalize hz : max 0 (m - fa n) = x at hx ⊢
  have e0 : tkY 1 (m :: r) = m :: r := if_neg (by simp)
  have e1 : drRS [n] (m :: r) = x :: r := by
    show updG (dRf [n] (tkY 1 (m :: r))) (tkY 1 (m :: r)) 1 = _
    rw [e0, upd_head _ (by simp)]
    show max 0 (m - fa n) :: r = _
    rw [hz]
  have e2 : tkOk 1 (m :: r) = true := by simp [tkOk]
  refine ⟨?_, ?_, ?_⟩
  · show (if tkOk 1 (m :: r) = true then mdE (drRS [n] (m :: r)) else 11) = 0
    rw [e2, if_pos rfl, e1]; exact if_pos hx
  · show (if tkOk 1 (m :: r) = true then mdS (drRS [n] (m :: r)) else []) = _
    rw [e2, if_pos rfl, e1]; exact if_pos hx
  · show (if tkOk 1 (m :: r) = true then pkA (drRS [n] (m :: r)) a (drF [n] (tkY 1 (m :: r)) (drRS [n] (m :: r))) else []) = _
    rw [e2, if_pos rfl, e1, e0]
    unfold pkA
    rw [if_pos hx]
    unfold pkAs shA
    refine List.map_congr_left fun i hi => ?_
    have hi' : i < (pr (x :: r)).toNat := by simpa using hi
    have hk : (i : Int) < pr (x :: r) := by omega
    have hpos := pos_all (mayE_zero hx).1 (by omega)
    have hP : 1 ≤ pr r := pr_drop_pos hpos 1
    have hk2 := hk
    rw [pr_cons] at hk2
    show pkAt a (atF (m :: r) (updG (drf [n] (ixL (x :: r) i)) (ixL (x :: r) i) 1)) = _
    rw [upd_head _ (by rw [ixL_len]; simp)]
    have e3 : drf [n] (ixL (x :: r) i) 0 = i / pr r + (if 0 < n then fa n else 0) := by
      unfold drf
      rw [ix_head (by omega) hk2 (by omega)]
      show (if 0 < n then (i : Int) / pr r + fa n else (i : Int) / pr r) = _
      split <;> omega
    rw [e3, pk_sh hm hx hk]
/-- The first and the last item, itemized, and what is left. -/
theorem ends_plain {s a : List Int} (hm : amE s a = 0) (hl : s.length ≠ 0) (h0 : s.getD 0 0 ≠ 0) :
    mdE (1 :: s.tail) = 0 ∧ paE s a 1 = 0 ∧ paE s a 0 = 0 ∧ mdS (1 :: s.tail) = 1 :: s.tail ∧ amE (1 :: s.tail) (mdA (1 :: s.tail) (enA s a 0)) = 0 ∧ amE (1 :: s.tail) (mdA (1 :: s.tail) (enA s a (-1))) = 0 ∧ amE (paS s a 1) (paA s a 1) = 0 ∧ amE (paS s a 0) (paA s a 0) = 0 ∧
    beE (1 :: s.tail) (paS s a 1) = 0 ∧ beS (1 :: s.tail) (paS s a 1) = s ∧ beA (1 :: s.tail) (mdA (1 :: s.tail) (enA s a 0)) (paS s a 1) (paA s a 1) = a ∧
    beE (paS s a 0) (1 :: s.tail) = 0 ∧ beS (paS s a 0) (1 :: s.tail) = s ∧ beA (paS s a 0) (paA s a 0) (1 :: s.tail) (mdA (1 :: s.tail) (enA s a (-1))) = a ∧ itE s a = s.getD 0 0 ∧ amE s.tail (enA s a 0) = 0 ∧ amE s.tail (enA s a (-1)) = 0 := by
  cases s with
  | nil => simp at hl
  | cons m r =>
  obtain ⟨hm1, hm2⟩ := amE_zero hm
  have hm0 : 0 ≤ m := by simpa using (mayE_zero hm1).1 0
  have h0' : m ≠ 0 := by simpa using h0
  rw [pr_cons] at hm2
  have hr1 : mayE (1 :: r) = 0 := may_head hm1 (by omega) (.inr rfl)
  have hr0 : mayE r = 0 := (mayE_app (s := [1]) (t := r) hr1).2
  have hP := pr_nonneg hr0
  have e1 : itE (m :: r) a = m := by unfold itE; rw [if_pos hm, if_neg (by simp)]; simp
  have e2 : ∀ f, 0 ≤ f ∧ f ≤ 1 → ptE (m :: r) a f (m - 1) = 0 := fun f hf => by
    have : ltN (m :: r) = m := by simp [ltN, lsdL]
    unfold ptE
    rw [if_pos hm, this, if_neg (by omega)]
  have e3 : ltK (m :: r) = pr r := by simp [ltK, lsdL]
  have e4 : ∀ f, 0 ≤ f ∧ f ≤ 1 → paE (m :: r) a f = 0 ∧ paS (m :: r) a f = (m - 1) :: r ∧ paA (m :: r) a f = (a.drop (f * pr r).toNat).take ((m - 1) * pr r).toNat := fun f hf => by
    refine ⟨?_, ?_, ?_⟩
    · unfold paE; rw [e1, if_neg h0', e2 f hf]
    · unfold paS ptS; rw [e1, if_neg h0', if_pos (e2 f hf)]; simp [lsdL]
    · unfold paA ptA; rw [e1, if_neg h0', if_pos (e2 f hf), e3]
  obtain ⟨f1, f2, f3⟩ := e4 1 (by omega)
  obtain ⟨g1, g2, g3⟩ := e4 0 (by omega)
  have q1 : (m - 1) * pr r = m * pr r - pr r := by rw [Int.sub_mul, Int.one_mul]
  have q2 : pr r ≤ m * pr r := by
    have := Int.mul_le_mul_of_nonneg_right (show (1 : Int) ≤ m by omega) hP.1
    omega
  have e5 : mdA (1 :: r) (enA (m :: r) a 0) = a.take (pr r).toNat := by
    unfold mdA enA itemA itJ
    rw [if_pos hr1, e1, if_neg h0', if_neg (by omega)]
    simp
  have e5' : enA (m :: r) a 0 = a.take (pr r).toNat := by rw [← e5]; unfold mdA; rw [if_pos hr1]
  have q3 : ((m - 1).toNat * (pr r).toNat : Nat) = ((m - 1) * pr r).toNat := by
    rw [Int.toNat_mul (by omega) hP.1]
  have e6 : mdA (1 :: r) (enA (m :: r) a (-1)) = a.drop ((m - 1) * pr r).toNat := by
    unfold mdA enA itemA itJ
    rw [if_pos hr1, e1, if_neg h0', if_pos (by omega)]
    show (a.drop ((-1 + m).toNat * (pr r).toNat)).take (pr r).toNat = _
    rw [show (-1 + m : Int) = m - 1 by omega, q3, List.take_of_length_le (by simp; omega)]
  have e6' : enA (m :: r) a (-1) = a.drop ((m - 1) * pr r).toNat := by rw [← e6]; unfold mdA; rw [if_pos hr1]
  have e7 : paA (m :: r) a 1 = a.drop (pr r).toNat := by
    rw [f3, Int.one_mul, List.take_of_length_le (by simp; omega)]
  have e8 : paA (m :: r) a 0 = a.take ((m - 1) * pr r).toNat := by
    rw [g3, Int.zero_mul]; rfl
  have hr2 : mayE ((m - 1) :: r) = 0 := may_head hm1 (by omega) (.inl (by omega))
  have k1 : amE (1 :: r) (a.take (pr r).toNat) = 0 := by unfold amE; rw [if_pos hr1, if_pos (by rw [pr_cons]; simp; omega)]
  have k2 : amE (1 :: r) (a.drop ((m - 1) * pr r).toNat) = 0 := by unfold amE; rw [if_pos hr1, if_pos (by rw [pr_cons]; simp; omega)]
  have k3 : amE ((m - 1) :: r) (a.drop (pr r).toNat) = 0 := by unfold amE; rw [if_pos hr2, if_pos (by rw [pr_cons]; simp; omega)]
  have k4 : amE ((m - 1) :: r) (a.take ((m - 1) * pr r).toNat) = 0 := by unfold amE; rw [if_pos hr2, if_pos (by rw [pr_cons]; simp; omega)]
  have k5 : amE r (a.take (pr r).toNat) = 0 := by unfold amE; rw [if_pos hr0, if_pos (by simp; omega)]
  have k6 : amE r (a.drop ((m - 1) * pr r).toNat) = 0 := by unfold amE; rw [if_pos hr0, if_pos (by simp; omega)]
  have b1 := beh_two k1 k3 (by rw [show 1 + (m - 1) = m by omega]; exact hm1)
  have b2 := beh_two k4 k2 (by rw [show m - 1 + 1 = m by omega]; exact hm1)
  rw [show 1 + (m - 1) = m by omega, List.take_append_drop] at b1
  rw [show m - 1 + 1 = m by omega, List.take_append_drop] at b2
  simp only [List.tail_cons]
  rw [f2, g2, e5, e6, e7, e8, e5', e6']
  exact ⟨if_pos hr1, f1, g1, if_pos hr1, k1, k2, k3, k4, b1.1, b1.2.1, b1.2.2, b2.1, b2.2.1, b2.2.2, by rw [e1]; simp, k5, k6⟩
theorem am_one1 (n : Int) : amE [] [n] = 0 := by
  have h : mayE [] = 0 := by decide
  unfold amE
  rw [if_pos h, if_pos (by rfl)]
theorem shA_am {m x : Int} {r a : List Int} (hx : mayE (x :: r) = 0) (c : Int) : amE (x :: r) (shA a c (pr (x :: r)).toNat) = 0 := by
  have h := pr_nonneg hx
  unfold amE
  rw [if_pos hx, if_pos (by rw [shA_len]; omega)]
theorem fa_in {m n : Int} {r : List Int} (hm : mayE (m :: r) = 0) (h : -m ≤ n ∧ n ≤ m) : fa n = max n (-n) := by
  have hb := may_bd hm 0
  simp only [List.getD_cons_zero] at hb
  unfold fa
  rw [if_neg (by omega)]
theorem fa_out {m n : Int} {r : List Int} (hm : mayE (m :: r) = 0) (h : n < -m ∨ m < n) : m < fa n ∧ 0 ≤ m ∧ m ≤ 4096 := by
  have hb := may_bd hm 0
  simp only [List.getD_cons_zero] at hb
  unfold fa
  split <;> omega
/-- Taken and dropped within the array. -/
theorem cuts_in {s a : List Int} (hm : amE s a = 0) (hl : s.length ≠ 0) {n : Int} (hn : -(s.getD 0 0) ≤ n ∧ n ≤ s.getD 0 0) :
    tkE [n] s = 0 ∧ drE [n] s = 0 ∧ amE (tkS [n] s) (tkA [n] s a) = 0 ∧ amE (drS [n] s) (drA [n] s a) = 0 ∧
    (n < 0 → beE (drS [n] s) (tkS [n] s) = 0 ∧ beS (drS [n] s) (tkS [n] s) = s ∧ beA (drS [n] s) (drA [n] s a) (tkS [n] s) (tkA [n] s a) = a) ∧
    (¬ n < 0 → beE (tkS [n] s) (drS [n] s) = 0 ∧ beS (tkS [n] s) (drS [n] s) = s ∧ beA (tkS [n] s) (tkA [n] s a) (drS [n] s) (drA [n] s a) = a) := by
  cases s with
  | nil => simp at hl
  | cons m r =>
  simp only [List.getD_cons_zero] at hn
  obtain ⟨hm1, hm2⟩ := amE_zero hm
  have hf := fa_in hm1 hn
  have hP := pr_nonneg hm1
  rw [pr_cons] at hP hm2
  have hx : mayE (fa n :: r) = 0 := may_head hm1 (by omega) (.inl (by omega))
  have hy : mayE ((m - fa n) :: r) = 0 := may_head hm1 (by omega) (.inl (by omega))
  have hPx := pr_nonneg hx
  have hPy := pr_nonneg hy
  obtain ⟨t1, t2, t3⟩ := tk_one hm n hx
  obtain ⟨d1, d2, d3⟩ := dr_one hm n
  rw [show max 0 (m - fa n) = m - fa n by omega] at d2 d3
  have hA := shA_am (m := m) (a := a) hx ((if n < 0 then m - fa n else 0) * pr r)
  have hB := shA_am (m := m) (a := a) hy ((if 0 < n then fa n else 0) * pr r)
  rw [← t3] at hA
  rw [← d3] at hB
  have q1 : (m - fa n) * pr r = m * pr r - fa n * pr r := Int.sub_mul ..
  rw [pr_cons] at hPx hPy t3 d3
  refine ⟨t1, d1, by rw [t2]; exact hA, by rw [d2]; exact hB, fun h => ?_, fun h => ?_⟩
  · have b := beh_two hB hA (by rw [show m - fa n + fa n = m by omega]; exact hm1)
    rw [show m - fa n + fa n = m by omega] at b
    rw [t2, d2]
    refine ⟨b.1, b.2.1, b.2.2.trans ?_⟩
    rw [t3, d3, if_pos h, if_neg (by omega), Int.zero_mul, show (m - fa n) * pr r = (((m - fa n) * pr r).toNat : Int) by omega, Int.toNat_natCast]
    exact shA_two (by omega)
  · have b := beh_two hA hB (by rw [show fa n + (m - fa n) = m by omega]; exact hm1)
    rw [show fa n + (m - fa n) = m by omega] at b
    rw [t2, d2]
    refine ⟨b.1, b.2.1, b.2.2.trans ?_⟩
    have e : (if 0 < n then fa n else 0) * pr r = ((fa n * pr r).toNat : Int) := by
      by_cases h2 : 0 < n
      · rw [if_pos h2]; omega
      · rw [if_neg h2, show fa n = 0 by omega, Int.zero_mul]; rfl
    rw [t3, d3, if_neg h, Int.zero_mul, e]
    exact shA_two (by omega)
/-- Taken and dropped beyond it. -/
theorem cuts_out {s a : List Int} (hm : amE s a = 0) (hl : s.length ≠ 0) {n : Int} (hn : n < -(s.getD 0 0) ∨ s.getD 0 0 < n) :
    drE [n] s = 0 ∧ drA [n] s a = [] ∧ (tkE [n] s = 0 ∨ tkE [n] s = 17) ∧
    (tkE [n] s = 0 → a.length ≤ (tkA [n] s a).length ∧ (0 < n → ∀ i, i < (tkA [n] s a).length → (tkA [n] s a).getD i 0 = if i < a.length then a.getD i 0 else 0) ∧
      (n < 0 → ∀ i, i < (tkA [n] s a).length → (tkA [n] s a).getD i 0 = if (tkA [n] s a).length - a.length ≤ i then a.getD (i - ((tkA [n] s a).length - a.length)) 0 else 0)) := by
  cases s with
  | nil => simp at hl
  | cons m r =>
  simp only [List.getD_cons_zero] at hn
  obtain ⟨hm1, hm2⟩ := amE_zero hm
  obtain ⟨hf, hm0, hm4⟩ := fa_out hm1 hn
  rw [pr_cons] at hm2
  obtain ⟨d1, d2, d3⟩ := dr_one hm n
  rw [show max 0 (m - fa n) = 0 by omega, pr_cons, Int.zero_mul] at d3
  refine ⟨d1, by rw [d3]; simp [shA], ?_, fun h0 => ?_⟩
  · by_cases hx : mayE (fa n :: r) = 0
    · exact .inl (tk_one hm n hx).1
    · right
      have e0 : tkY 1 (m :: r) = m :: r := if_neg (by simp)
      have e1 : tkRS [n] (m :: r) = fa n :: r := by
        show updG (tRf [n]) (tkY 1 (m :: r)) 1 = _
        rw [e0, upd_head _ (by simp)]
        rfl
      have e2 : tkOk 1 (m :: r) = true := by simp [tkOk]
      show (if tkOk 1 (m :: r) = true then mdE (tkRS [n] (m :: r)) else 11) = 17
      rw [e2, if_pos rfl, e1]; exact if_neg hx
  · have hx : mayE (fa n :: r) = 0 := by
      by_cases hx : mayE (fa n :: r) = 0
      · exact hx
      · exfalso
        have e0 : tkY 1 (m :: r) = m :: r := if_neg (by simp)
        have e1 : tkRS [n] (m :: r) = fa n :: r := by
          show updG (tRf [n]) (tkY 1 (m :: r)) 1 = _
          rw [e0, upd_head _ (by simp)]
          rfl
        have e2 : tkOk 1 (m :: r) = true := by simp [tkOk]
        have : tkE [n] (m :: r) = 17 := by
          show (if tkOk 1 (m :: r) = true then mdE (tkRS [n] (m :: r)) else 11) = 17
          rw [e2, if_pos rfl, e1]; exact if_neg hx
        omega
    obtain ⟨t1, t2, t3⟩ := tk_one hm n hx
    have hPx := pr_nonneg hx
    have hr0 : mayE r = 0 := (mayE_app (s := [fa n]) (t := r) hx).2
    have hP := pr_nonneg hr0
    have q1 : (m - fa n) * pr r = m * pr r - fa n * pr r := Int.sub_mul ..
    have q2 : m * pr r ≤ fa n * pr r := Int.mul_le_mul_of_nonneg_right (by omega) hP.1
    rw [pr_cons] at t3 hPx
    rw [t3, shA_len]
    refine ⟨by omega, fun h i hi => ?_, fun h i hi => ?_⟩
    · rw [shA_at hi, if_neg (by omega), Int.zero_mul, Int.add_zero, pkAt, if_pos (by omega), Int.toNat_natCast]
      split
      · rfl
      · rw [List.getD, List.getElem?_eq_none (by omega)]; rfl
    · rw [shA_at hi, if_pos h, q1, pkAt]
      by_cases h2 : (fa n * pr r).toNat - a.length ≤ i
      · rw [if_pos (by omega), if_pos h2]
        congr 1
        omega
      · rw [if_neg (by omega), if_neg h2]
end Go.Proofs.YthackmkdicpdeaaGreat
