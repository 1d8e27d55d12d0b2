/- What atom's verbs tell: no program in sight. -/
import Derived.Test.YtdedbfbkakofgaaNumSpec
import Derived.Test.YtdedbfbkakofgaaShapeCut
namespace Go.Proofs.Ytdedbfbkakofgaa
open Go.RowKit
set_option linter.unusedVariables false
set_option linter.unusedSimpArgs false

theorem facV_rng (y : Int) : -9223372036854775808 ≤ facV y ∧ facV y ≤ 9223372036854775807 := by
  unfold facV; split
  · omega
  · exact val_bd _
theorem chV_rng (x y : Int) : -9223372036854775808 ≤ chV x y ∧ chV x y ≤ 9223372036854775807 := by
  unfold chV; split
  · omega
  · split
    · omega
    · exact val_bd _
theorem pwV_rng (x y : Int) : -9223372036854775808 ≤ pwV x y ∧ pwV x y ≤ 9223372036854775807 := by
  unfold pwV; split
  · omega
  · split
    · omega
    · split
      · omega
      · exact val_bd _
theorem bit_rng (b : Bool) : -9223372036854775808 ≤ bit b ∧ bit b ≤ 9223372036854775807 := by cases b <;> simp [bit]
theorem mo_rng (op y : Int) (hy : -9223372036854775808 ≤ y ∧ y ≤ 9223372036854775807) : -9223372036854775808 ≤ moV op y ∧ moV op y ≤ 9223372036854775807 := by
  unfold moV
  repeat' split
  all_goals first | exact hy | exact val_bd _ | exact facV_rng _ | omega | (unfold sgn; split <;> (try split) <;> omega) | (unfold halfV; split <;> omega)
theorem dy_rng (op x y : Int) (hx : -9223372036854775808 ≤ x ∧ x ≤ 9223372036854775807) (hy : -9223372036854775808 ≤ y ∧ y ≤ 9223372036854775807) : -9223372036854775808 ≤ dyV op x y ∧ dyV op x y ≤ 9223372036854775807 := by
  unfold dyV
  by_cases h1 : op = 1
  · rw [if_pos h1]; exact val_bd _
  rw [if_neg h1]
  by_cases h2 : op = 2
  · rw [if_pos h2]; exact val_bd _
  rw [if_neg h2]
  by_cases h3 : op = 3
  · rw [if_pos h3]; exact val_bd _
  rw [if_neg h3]
  by_cases h4 : op = 4
  · rw [if_pos h4]; split
    · omega
    · exact val_bd _
  rw [if_neg h4]
  by_cases h5 : op = 5
  · rw [if_pos h5]; split
    · exact hy
    · rename_i h; have h := fmod_spec y x h; omega
  rw [if_neg h5]
  by_cases h6 : op = 6
  · rw [if_pos h6]; omega
  rw [if_neg h6]
  by_cases h7 : op = 7
  · rw [if_pos h7]; omega
  rw [if_neg h7]
  by_cases h8 : op = 8
  · rw [if_pos h8]; exact bit_rng _
  rw [if_neg h8]
  by_cases h9 : op = 9
  · rw [if_pos h9]; exact bit_rng _
  rw [if_neg h9]
  by_cases h10 : op = 10
  · rw [if_pos h10]; exact bit_rng _
  rw [if_neg h10]
  by_cases h11 : op = 11
  · rw [if_pos h11]; exact bit_rng _
  rw [if_neg h11]
  by_cases h12 : op = 12
  · rw [if_pos h12]; exact bit_rng _
  rw [if_neg h12]
  by_cases h13 : op = 13
  · rw [if_pos h13]; exact bit_rng _
  rw [if_neg h13]
  by_cases h14 : op = 14
  · rw [if_pos h14]; exact val_bd _
  rw [if_neg h14]
  by_cases h15 : op = 15
  · rw [if_pos h15]; exact val_bd _
  rw [if_neg h15]
  by_cases h16 : op = 16
  · rw [if_pos h16]; split
    · exact bit_rng _
    · omega
  rw [if_neg h16]
  by_cases h17 : op = 17
  · rw [if_pos h17]; split
    · exact bit_rng _
    · omega
  rw [if_neg h17]
  by_cases h20 : op = 20
  · rw [if_pos h20]; exact pwV_rng _ _
  rw [if_neg h20]
  by_cases h21 : op = 21
  · rw [if_pos h21]; exact chV_rng _ _
  rw [if_neg h21]
  omega
theorem err_two (n : Int) : err n = 0 ∨ err n = 14 := by unfold err; split <;> simp
theorem dyE_len (op x y : Int) : dyE op x y ≠ 11 := by
  intro h
  unfold dyE at h
  have e1 := err_two (x + y)
  have e2 := err_two (x - y)
  have e3 := err_two (x * y)
  have e4 := err_two (x.fdiv y)
  have e5 := err_two (Nat.gcd x.natAbs y.natAbs)
  have e6 := err_two (Nat.lcm x.natAbs y.natAbs)
  have e7 : pwE x y ≠ 11 := by
    have := err_two (x ^ y.toNat)
    unfold pwE; repeat' split
    all_goals omega
  have e8 : chE x y ≠ 11 := by
    have := err_two (binom y.toNat x.toNat)
    unfold chE; repeat' split
    all_goals omega
  revert h
  repeat' split
  all_goals omega
/-- Has a verb that valence? -/
def has1 (op : Int) : Bool := decide (moE op 0 ≠ 1) && decide (moE op 0 ≠ 16)
def has2 (op : Int) : Bool := decide (dyE op 1 1 ≠ 1) && decide (dyE op 1 1 ≠ 16)
def hasV (op v : Int) : Bool := if v = 1 then has1 op else if v = 2 then has2 op else false
def refV (op v : Int) : Int := if hasV op v then 0 else if hasV op (3 - v) then 16 else 1
theorem hasV1 (op : Int) : hasV op 1 = has1 op := rfl
theorem hasV2 (op : Int) : hasV op 2 = has2 op := rfl
theorem refV_two (op v : Int) : (hasV op v = true → refV op v = 0) ∧ (hasV op v = false → refV op v = 16 ∨ refV op v = 1) := by
  unfold refV
  constructor
  · intro h; rw [h]; rfl
  · intro h; rw [h]
    simp only [Bool.false_eq_true, if_false]
    split <;> simp
/-- The first error of a row. -/
def firE : List Int → Int
  | [] => 0
  | e :: l => if e = 0 then firE l else e
theorem firE_yes {a : Int} (l : List Int) (h : a = 0) : firE (a :: l) = firE l := by simp only [firE, if_pos h]
theorem firE_no {a : Int} (l : List Int) (h : ¬ a = 0) : firE (a :: l) = a := by simp only [firE, if_neg h]
theorem firE_snoc (l : List Int) (e : Int) : firE (l ++ [e]) = if firE l = 0 then e else firE l := by
  induction l with
  | nil => show (if e = 0 then 0 else e) = if (0 : Int) = 0 then e else 0; rw [if_pos rfl]; split <;> simp_all
  | cons a l ih =>
    rw [List.cons_append]
    by_cases h : a = 0
    · rw [firE_yes _ h, firE_yes _ h]; exact ih
    · rw [firE_no _ h, firE_no _ h, if_neg h]
theorem firE_take {l : List Int} {k : Nat} (h : k < l.length) : firE (l.take (k + 1)) = if firE (l.take k) = 0 then l.getD k 0 else firE (l.take k) := by
  rw [take_snoc h, firE_snoc]
theorem firE_more (l m : List Int) (h : firE l ≠ 0) : firE (l ++ m) = firE l := by
  induction l with
  | nil => exact absurd rfl h
  | cons a l ih =>
    rw [List.cons_append]
    by_cases ha : a = 0
    · rw [firE_yes _ ha] at h ⊢; rw [firE_yes _ ha]; exact ih h
    · rw [firE_no _ ha, firE_no _ ha]
theorem firE_stop {l : List Int} {k : Nat} (h : firE (l.take k) ≠ 0) : firE l = firE (l.take k) := by
  have := firE_more (l.take k) (l.drop k) h
  rwa [List.take_append_drop] at this
theorem firE_at {l : List Int} {k : Nat} (h : k < l.length) (h0 : firE (l.take k) = 0) (hk : l.getD k 0 ≠ 0) : firE l = l.getD k 0 := by
  have h1 := firE_take h
  rw [if_pos h0] at h1
  rw [firE_stop (k := k + 1) (by rw [h1]; exact hk), h1]
/-- A row of n values by their place, filled up to k. -/
def filled (f : Nat → Int) (k n : Nat) : List Int := (List.range k).map f ++ List.replicate (n - k) 0
theorem filled_zero (f : Nat → Int) (n : Nat) : filled f 0 n = List.replicate n 0 := by simp [filled]
theorem filled_all (f : Nat → Int) (n : Nat) : filled f n n = (List.range n).map f := by simp [filled]
theorem filled_set (f : Nat → Int) {k n : Nat} (h : k < n) : (filled f k n).set k (f k) = filled f (k + 1) n := by
  unfold filled
  rw [List.set_append_right _ _ (by simp)]
  simp only [List.length_map, List.length_range, Nat.sub_self]
  obtain ⟨q, hq⟩ : ∃ q, n - k = q + 1 := ⟨n - k - 1, by omega⟩
  rw [hq, show n - (k + 1) = q by omega, List.replicate_succ, List.set_cons_zero, List.range_succ, List.map_append, List.append_assoc]
  rfl
theorem filled_rng (f : Nat → Int) (k n : Nat) (h : ∀ i, i < k → -9223372036854775808 ≤ f i ∧ f i ≤ 9223372036854775807) (i : Nat) : -9223372036854775808 ≤ (filled f k n).getD i 0 ∧ (filled f k n).getD i 0 ≤ 9223372036854775807 := by
  unfold filled
  rw [List.getD_eq_getElem?_getD]
  rcases Nat.lt_or_ge i k with h1 | h1
  · rw [List.getElem?_append_left (by simpa using h1)]
    simpa [h1] using h i h1
  · rw [List.getElem?_append_right (by simpa using h1), List.getElem?_replicate]
    split <;> simp
theorem range_map_getD (f : Nat → Int) {k n : Nat} (h : k < n) : ((List.range n).map f).getD k 0 = f k := by
  rw [List.getD_eq_getElem?_getD]; simp [h]
theorem range_map_take (f : Nat → Int) {k n : Nat} (h : k ≤ n) : ((List.range n).map f).take k = (List.range k).map f := by
  rw [← List.map_take, List.take_range, Nat.min_eq_left h]
/-- Values and errors of a monad, atom by atom. -/
def mnV (op : Int) (a : List Int) (i : Nat) : Int := moV op (a.getD i 0)
def mnE (op : Int) (a : List Int) (i : Nat) : Int := moE op (a.getD i 0)
def mnF (op : Int) (a : List Int) (k : Nat) : Int := firE ((List.range k).map (mnE op a))
/-- The errors up to a place: what stands there decides. -/
theorem fst_step (f : Nat → Int) (k : Nat) : firE ((List.range (k + 1)).map f) = if firE ((List.range k).map f) = 0 then f k else firE ((List.range k).map f) := by
  rw [List.range_succ, List.map_append, List.map_singleton, firE_snoc]
theorem fst_stop (f : Nat → Int) {k n : Nat} (h : k ≤ n) (h0 : firE ((List.range k).map f) ≠ 0) : firE ((List.range n).map f) = firE ((List.range k).map f) := by
  rw [← range_map_take f h] at h0 ⊢
  exact firE_stop h0
theorem fst_at (f : Nat → Int) {k n : Nat} (h : k < n) (h0 : firE ((List.range k).map f) = 0) (hk : f k ≠ 0) : firE ((List.range n).map f) = f k := by
  have h1 := fst_step f k
  rw [if_pos h0] at h1
  rw [fst_stop f (k := k + 1) h (by rw [h1]; exact hk), h1]
/-- What atom.Monad tells. -/
def amoE (op : Int) (s a : List Int) : Int := if amE s a ≠ 0 then 1 else if refV op 1 ≠ 0 then refV op 1 else firE ((List.range a.length).map (mnE op a))
def amoS (op : Int) (s a : List Int) : List Int := if amoE op s a = 0 then s else []
def amoA (op : Int) (s a : List Int) : List Int := if amoE op s a = 0 then (List.range a.length).map (mnV op a) else []
/-- Values and errors of a dyad, place by place, over n places. -/
def dnV (op : Int) (a b : List Int) (n i : Nat) : Int := dyV op (a.getD (i / (n / a.length)) 0) (b.getD (i / (n / b.length)) 0)
def dnE (op : Int) (a b : List Int) (n i : Nat) : Int := dyE op (a.getD (i / (n / a.length)) 0) (b.getD (i / (n / b.length)) 0)
/-- What atom.Dyad tells. -/
def adyN (s t : List Int) : Nat := (pr (agL s t)).toNat
def adyE (op : Int) (s a t b : List Int) : Int :=
  if amE s a ≠ 0 ∨ amE t b ≠ 0 then 1 else if refV op 2 ≠ 0 then refV op 2 else if agE s t ≠ 0 then agE s t else firE ((List.range (adyN s t)).map (dnE op a b (adyN s t)))
def adyS (op : Int) (s a t b : List Int) : List Int := if adyE op s a t b = 0 then agL s t else []
def adyA (op : Int) (s a t b : List Int) : List Int := if adyE op s a t b = 0 then (List.range (adyN s t)).map (dnV op a b (adyN s t)) else []
end Go.Proofs.Ytdedbfbkakofgaa
