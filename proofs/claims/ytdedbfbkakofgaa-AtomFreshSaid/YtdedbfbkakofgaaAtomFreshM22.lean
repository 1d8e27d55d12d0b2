/- What atom's verbs tell: no program in sight. Contracts of atom.Has and of why a verb is refused. Contract of atom.Monad. -/
import Derived.Test.YtdedbfbkakofgaaAtomFreshM20
import Derived.Test.YtdedbfbkakofgaaAtomFreshM16
import Derived.Test.YtdedbfbkakofgaaAtomFreshM21
import Derived.Test.YtdedbfbkakofgaaAtomFreshM6
namespace Go.Proofs.Ytdedbfbkakofgaa
open Go.RowKit
set_option linter.unusedVariables false
set_option linter.unusedSimpArgs false

theorem facV_rng (y : Int) : -9223372036854775808 ≤ facV y ∧ facV y ≤ 9223372036854775807 := by
  unfold facV; split
  · omega
  · exact val_bd _
theorem chV_rng (x y : Int) : -9223372036854775808 ≤ chV x y ∧ chV x y ≤ 9223372036854775807 := by
  unfold chV; split
  · omega
  · split
    · omega
    · exact val_bd _
theorem pwV_rng (x y : Int) : -9223372036854775808 ≤ pwV x y ∧ pwV x y ≤ 9223372036854775807 := by
  unfold pwV; split
  · omega
  · split
    · omega
    · split
      · omega
      · exact val_bd _
theorem bit_rng (b : Bool) : -9223372036854775808 ≤ bit b ∧ bit b ≤ 9223372036854775807 := by cases b <;> simp [bit]
theorem mo_rng (op y : Int) (hy : -9223372036854775808 ≤ y ∧ y ≤ 9223372036854775807) : -9223372036854775808 ≤ moV op y ∧ moV op y ≤ 9223372036854775807 := by
  unfold moV
  repeat' split
  all_goals first | exact hy | exact val_bd _ | exact facV_rng _ | omega | (unfold sgn; split <;> (try split) <;> omega) | (unfold halfV; split <;> omega)
theorem dy_rng (op x y : Int) (hx : -9223372036854775808 ≤ x ∧ x ≤ 9223372036854775807) (hy : -9223372036854775808 ≤ y ∧ y ≤ 9223372036854775807) : -9223372036854775808 ≤ dyV op x y ∧ dyV op x y ≤ 9223372036854775807 := by
  unfold dyV
  by_cases h1 : op = 1
  · rw [if_pos h1]; exact val_bd _
  rw [if_neg h1]
  by_cases h2 : op = 2
  · rw [if_pos h2]; exact val_bd _
  rw [if_neg h2]
  by_cases h3 : op = 3
  · rw [if_pos h3]; exact val_bd _
  rw [if_neg h3]
  by_cases h4 : op = 4
  · rw [if_pos h4]; split
    · omega
    · exact val_bd _
  rw [if_neg h4]
  by_cases h5 : op = 5
  · rw [if_pos h5]; split
    · exact hy
    · rename_i h; have h := fmod_spec y x h; omega
  rw [if_neg h5]
  by_cases h6 : op = 6
  · rw [if_pos h6]; omega
  rw [if_neg h6]
  by_cases h7 : op = 7
  · rw [if_pos h7]; omega
  rw [if_neg h7]
  by_cases h8 : op = 8
  · rw [if_pos h8]; exact bit_rng _
  rw [if_neg h8]
  by_cases h9 : op = 9
  · rw [if_pos h9]; exact bit_rng _
  rw [if_neg h9]
  by_cases h10 : op = 10
  · rw [if_pos h10]; exact bit_rng _
  rw [if_neg h10]
  by_cases h11 : op = 11
  · rw [if_pos h11]; exact bit_rng _
  rw [if_neg h11]
  by_cases h12 : op = 12
  · rw [if_pos h12]; exact bit_rng _
  rw [if_neg h12]
  by_cases h13 : op = 13
  · rw [if_pos h13]; exact bit_rng _
  rw [if_neg h13]
  by_cases h14 : op = 14
  · rw [if_pos h14]; exact val_bd _
  rw [if_neg h14]
  by_cases h15 : op = 15
  · rw [if_pos h15]; exact val_bd _
  rw [if_neg h15]
  by_cases h16 : op = 16
  · rw [if_pos h16]; split
    · exact bit_rng _
    · omega
  rw [if_neg h16]
  by_cases h17 : op = 17
  · rw [if_pos h17]; split
    · exact bit_rng _
    · omega
  rw [if_neg h17]
  by_cases h20 : op = 20
  · rw [if_pos h20]; exact pwV_rng _ _
  rw [if_neg h20]
  by_cases h21 : op = 21
  · rw [if_pos h21]; exact chV_rng _ _
  rw [if_neg h21]
  omega
theorem err_two (n : Int) : err n = 0 ∨ err n = 14 := by unfold err; split <;> simp
theorem dyE_len (op x y : Int) : dyE op x y ≠ 11 := by
  intro h
  unfold dyE at h
  have e1 := err_two (x + y)
  have e2 := err_two (x - y)
  have e3 := err_two (x * y)
  have e4 := err_two (x.fdiv y)
  have e5 := err_two (Nat.gcd x.natAbs y.natAbs)
  have e6 := err_two (Nat.lcm x.natAbs y.natAbs)
  have e7 : pwE x y ≠ 11 := by
    have := err_two (x ^ y.toNat)
    unfold pwE; repeat' split
    all_goals omega
  have e8 : chE x y ≠ 11 := by
    have := err_two (binom y.toNat x.toNat)
    unfold chE; repeat' split
    all_goals omega
  revert h
  repeat' split
  all_goals omega
/-- Has a verb that valence? -/
def has1 (op : Int) : Bool := decide (moE op 0 ≠ 1) && decide (moE op 0 ≠ 16)
def has2 (op : Int) : Bool := decide (dyE op 1 1 ≠ 1) && decide (dyE op 1 1 ≠ 16)
def hasV (op v : Int) : Bool := if v = 1 then has1 op else if v = 2 then has2 op else false
def refV (op v : Int) : Int := if hasV op v then 0 else if hasV op (3 - v) then 16 else 1
theorem hasV1 (op : Int) : hasV op 1 = has1 op := rfl
theorem hasV2 (op : Int) : hasV op 2 = has2 op := rfl
theorem refV_two (op v : Int) : (hasV op v = true → refV op v = 0) ∧ (hasV op v = false → refV op v = 16 ∨ refV op v = 1) := by
  unfold refV
  constructor
  · intro h; rw [h]; rfl
  · intro h; rw [h]
    simp only [Bool.false_eq_true, if_false]
    split <;> simp
/-- The first error of a row. -/
def firE : List Int → Int
  | [] => 0
  | e :: l => if e = 0 then firE l else e
theorem firE_yes {a : Int} (l : List Int) (h : a = 0) : firE (a :: l) = firE l := by simp only [firE, if_pos h]
theorem firE_no {a : Int} (l : List Int) (h : ¬ a = 0) : firE (a :: l) = a := by simp only [firE, if_neg h]
theorem firE_snoc (l : List Int) (e : Int) : firE (l ++ [e]) = if firE l = 0 then e else firE l := by
  induction l with
  | nil => show (if e = 0 then 0 else e) = if (0 : Int) = 0 then e else 0; rw [if_pos rfl]; split <;> simp_all
  | cons a l ih =>
    rw [List.cons_append]
    by_cases h : a = 0
    · rw [firE_yes _ h, firE_yes _ h]; exact ih
    · rw [firE_no _ h, firE_no _ h, if_neg h]
theorem firE_take {l : List Int} {k : Nat} (h : k < l.length) : firE (l.take (k + 1)) = if firE (l.take k) = 0 then l.getD k 0 else firE (l.take k) := by
  rw [take_snoc h, firE_snoc]
theorem firE_more (l m : List Int) (h : firE l ≠ 0) : firE (l ++ m) = firE l := by
  induction l with
  | nil => exact absurd rfl h
  | cons a l ih =>
    rw [List.cons_append]
    by_cases ha : a = 0
    · rw [firE_yes _ ha] at h ⊢; rw [firE_yes _ ha]; exact ih h
    · rw [firE_no _ ha, firE_no _ ha]
theorem firE_stop {l : List Int} {k : Nat} (h : firE (l.take k) ≠ 0) : firE l = firE (l.take k) := by
  have := firE_more (l.take k) (l.drop k) h
  rwa [List.take_append_drop] at this
theorem firE_at {l : List Int} {k : Nat} (h : k < l.length) (h0 : firE (l.take k) = 0) (hk : l.getD k 0 ≠ 0) : firE l = l.getD k 0 := by
  have h1 := firE_take h
  rw [if_pos h0] at h1
  rw [firE_stop (k := k + 1) (by rw [h1]; exact hk), h1]
/-- A row of n values by their place, filled up to k. -/
def filled (f : Nat → Int) (k n : Nat) : List Int := (List.range k).map f ++ List.replicate (n - k) 0
theorem filled_zero (f : Nat → Int) (n : Nat) : filled f 0 n = List.replicate n 0 := by simp [filled]
theorem filled_all (f : Nat → Int) (n : Nat) : filled f n n = (List.range n).map f := by simp [filled]
theorem filled_set (f : Nat → Int) {k n : Nat} (h : k < n) : (filled f k n).set k (f k) = filled f (k + 1) n := by
  unfold filled
  rw [List.set_append_right _ _ (by simp)]
  simp only [List.length_map, List.length_range, Nat.sub_self]
  obtain ⟨q, hq⟩ : ∃ q, n - k = q + 1 := ⟨n - k - 1, by omega⟩
  rw [hq, show n - (k + 1) = q by omega, List.replicate_succ, List.set_cons_zero, List.range_succ, List.map_append, List.append_assoc]
  rfl
theorem filled_rng (f : Nat → Int) (k n : Nat) (h : ∀ i, i < k → -9223372036854775808 ≤ f i ∧ f i ≤ 9223372036854775807) (i : Nat) : -9223372036854775808 ≤ (filled f k n).getD i 0 ∧ (filled f k n).getD i 0 ≤ 9223372036854775807 := by
  unfold filled
  rw [List.getD_eq_getElem?_getD]
  rcases Nat.lt_or_ge i k with h1 | h1
  · rw [List.getElem?_append_left (by simpa using h1)]
    simpa [h1] using h i h1
  · rw [List.getElem?_append_right (by simpa using h1), List.getElem?_replicate]
    split <;> simp
theorem range_map_getD (f : Nat → Int) {k n : Nat} (h : k < n) : ((List.range n).map f).getD k 0 = f k := by
  rw [List.getD_eq_getElem?_getD]; simp [h]
theorem range_map_take (f : Nat → Int) {k n : Nat} (h : k ≤ n) : ((List.range n).map f).take k = (List.range k).map f := by
  rw [← List.map_take, List.take_range, Nat.min_eq_left h]
/-- Values and errors of a monad, atom by atom. -/
def mnV (op : Int) (a : List Int) (i : Nat) : Int := moV op (a.getD i 0)
def mnE (op : Int) (a : List Int) (i : Nat) : Int := moE op (a.getD i 0)
def mnF (op : Int) (a : List Int) (k : Nat) : Int := firE ((List.range k).map (mnE op a))
/-- The errors up to a place: what stands there decides. -/
theorem fst_step (f : Nat → Int) (k : Nat) : firE ((List.range (k + 1)).map f) = if firE ((List.range k).map f) = 0 then f k else firE ((List.range k).map f) := by
  rw [List.range_succ, List.map_append, List.map_singleton, firE_snoc]
theorem fst_stop (f : Nat → Int) {k n : Nat} (h : k ≤ n) (h0 : firE ((List.range k).map f) ≠ 0) : firE ((List.range n).map f) = firE ((List.range k).map f) := by
  rw [← range_map_take f h] at h0 ⊢
  exact firE_stop h0
theorem fst_at (f : Nat → Int) {k n : Nat} (h : k < n) (h0 : firE ((List.range k).map f) = 0) (hk : f k ≠ 0) : firE ((List.range n).map f) = f k := by
  have h1 := fst_step f k
  rw [if_pos h0] at h1
  rw [fst_stop f (k := k + 1) h (by rw [h1]; exact hk), h1]
/-- What atom.Monad tells. -/
def amoE (op : Int) (s a : List Int) : Int := if amE s a ≠ 0 then 1 else if refV op 1 ≠ 0 then refV op 1 else firE ((List.range a.length).map (mnE op a))
def amoS (op : Int) (s a : List Int) : List Int := if amoE op s a = 0 then s else []
def amoA (op : Int) (s a : List Int) : List Int := if amoE op s a = 0 then (List.range a.length).map (mnV op a) else []
/-- Values and errors of a dyad, place by place, over n places. -/
def dnV (op : Int) (a b : List Int) (n i : Nat) : Int := dyV op (a.getD (i / (n / a.length)) 0) (b.getD (i / (n / b.length)) 0)
def dnE (op : Int) (a b : List Int) (n i : Nat) : Int := dyE op (a.getD (i / (n / a.length)) 0) (b.getD (i / (n / b.length)) 0)
/-- What atom.Dyad tells. -/
def adyN (s t : List Int) : Nat := (pr (agL s t)).toNat
def adyE (op : Int) (s a t b : List Int) : Int :=
  if amE s a ≠ 0 ∨ amE t b ≠ 0 then 1 else if refV op 2 ≠ 0 then refV op 2 else if agE s t ≠ 0 then agE s t else firE ((List.range (adyN s t)).map (dnE op a b (adyN s t)))
def adyS (op : Int) (s a t b : List Int) : List Int := if adyE op s a t b = 0 then agL s t else []
def adyA (op : Int) (s a t b : List Int) : List Int := if adyE op s a t b = 0 then (List.range (adyN s t)).map (dnV op a b (adyN s t)) else []
end Go.Proofs.Ytdedbfbkakofgaa

namespace Go.Proofs.Ytdedbfbkakofgaa
open Go.RowKit
set_option linter.unusedVariables false
set_option linter.unusedSimpArgs false
attribute [local go_sem] alloc_drewN setCell_drewN

set_option maxHeartbeats 400000 in
theorem has_one (op : Int) (w : World) : Calls Try.prog 31 #[.int .i64 op, .int .i64 1] w (Ret w (.bool (hasV op 1))) := by
  have C := Lib.hid (monad_any op 0 w (by omega))
  obtain ⟨e, HE⟩ : ∃ e, Hid (moE op 0 = e) := ⟨_, rfl⟩
  rw [HE.out] at C
  have HF : Hid (hasV op 1 = (decide (e ≠ 1) && decide (e ≠ 16))) := by show _ = _; rw [hasV1, has1, HE.out]
  rw [HF.out]
  go_enter Try.func31, Try.ntmps31
  go_wp2_with fail
  refine C.out.mono ?_; rintro e' w' ⟨rfl, n, rfl⟩
  by_cases h1 : e = 1
  · subst h1
    go_wp2
    go_ret
    exact Ret.mk _ (boolv (by simp))
  · have h1' : (e != 1) = true := by simpa using h1
    by_cases h2 : e = 16
    · subst h2
      go_wp2
      go_ret
      exact Ret.mk _ (boolv (by simp))
    · have h2' : (e != 16) = true := by simpa using h2
      go_wp2
      go_ret
      exact Ret.mk _ (boolv (by simp [h1, h2]))
set_option maxHeartbeats 400000 in
theorem has_two (op : Int) (w : World) : Calls Try.prog 31 #[.int .i64 op, .int .i64 2] w (Ret w (.bool (hasV op 2))) := by
  have C := Lib.hid (dyad_any op 1 1 w (by omega) (by omega))
  obtain ⟨e, HE⟩ : ∃ e, Hid (dyE op 1 1 = e) := ⟨_, rfl⟩
  rw [HE.out] at C
  have HF : Hid (hasV op 2 = (decide (e ≠ 1) && decide (e ≠ 16))) := by show _ = _; rw [hasV2, has2, HE.out]
  rw [HF.out]
  go_enter Try.func31, Try.ntmps31
  go_wp2_with fail
  refine C.out.mono ?_; rintro e' w' ⟨rfl, n, rfl⟩
  by_cases h1 : e = 1
  · subst h1
    go_wp2
    go_ret
    exact Ret.mk _ (boolv (by simp))
  · have h1' : (e != 1) = true := by simpa using h1
    by_cases h2 : e = 16
    · subst h2
      go_wp2
      go_ret
      exact Ret.mk _ (boolv (by simp))
    · have h2' : (e != 16) = true := by simpa using h2
      go_wp2
      go_ret
      exact Ret.mk _ (boolv (by simp [h1, h2]))
theorem has_else (op v : Int) (w : World) (h1 : v ≠ 1) (h2 : v ≠ 2) : Calls Try.prog 31 #[.int .i64 op, .int .i64 v] w (Ret w (.bool (hasV op v))) := by
  have HF : Hid (hasV op v = false) := by show _ = _; simp [hasV, h1, h2]
  rw [HF.out]
  have h1' : (v == 1) = false := by simpa using h1
  have h2' : (v == 2) = false := by simpa using h2
  have h1'' : (1 == v) = false := by simpa using Ne.symm h1
  have h2'' : (2 == v) = false := by simpa using Ne.symm h2
  go_enter Try.func31, Try.ntmps31
  go_wp2
  go_ret
  exact Ret.mk 0 rfl
theorem has_any (op v : Int) (w : World) : Calls Try.prog 31 #[.int .i64 op, .int .i64 v] w (Ret w (.bool (hasV op v))) := by
  by_cases h1 : v = 1
  · subst h1; exact has_one op w
  · by_cases h2 : v = 2
    · subst h2; exact has_two op w
    · exact has_else op v w h1 h2
set_option maxHeartbeats 400000 in
theorem refused_one (op : Int) (w : World) : Calls Try.prog 84 #[.int .i64 op, .int .i64 1] w (Ret w (.int .i64 (refV op 1))) := by
  have C1 := Lib.hid (has_any op 1 w)
  have C2 := Lib.hid (fun n => has_any op 2 (w.drewN n))
  obtain ⟨b, HB⟩ : ∃ b, Hid (hasV op 1 = b) := ⟨_, rfl⟩
  obtain ⟨c, HC⟩ : ∃ c, Hid (hasV op 2 = c) := ⟨_, rfl⟩
  rw [HB.out] at C1
  rw [HC.out] at C2
  have hf : refV op 1 = if b then 0 else if c then 16 else 1 := by rw [refV, HB.out, show (3 - 1 : Int) = 2 from rfl, HC.out]
  obtain ⟨r, HR⟩ : ∃ r, Hid (refV op 1 = r) := ⟨_, rfl⟩
  rw [HR.out] at hf ⊢
  cases b
  · cases c
    · have HF : Hid (1 = r) := by show _ = _; rw [hf]; rfl
      clear hf
      go_enter Try.func84, Try.ntmps84
      go_wp2_with fail
      refine C1.out.mono ?_; rintro e' w' ⟨rfl, n, rfl⟩
      go_wp2_with fail
      refine (C2.out n).mono ?_; rintro e' w' ⟨rfl, m, rfl⟩
      go_wp2
      go_ret
      exact Ret.mk _ (intv HF.out)
    · have HF : Hid (16 = r) := by show _ = _; rw [hf]; rfl
      clear hf
      go_enter Try.func84, Try.ntmps84
      go_wp2_with fail
      refine C1.out.mono ?_; rintro e' w' ⟨rfl, n, rfl⟩
      go_wp2_with fail
      refine (C2.out n).mono ?_; rintro e' w' ⟨rfl, m, rfl⟩
      go_wp2
      go_ret
      exact Ret.mk _ (intv HF.out)
  · have HF : Hid (0 = r) := by show _ = _; rw [hf]; rfl
    clear hf
    go_enter Try.func84, Try.ntmps84
    go_wp2_with fail
    refine C1.out.mono ?_; rintro e' w' ⟨rfl, n, rfl⟩
    go_wp2
    go_ret
    exact Ret.mk _ (intv HF.out)
set_option maxHeartbeats 400000 in
theorem refused_two (op : Int) (w : World) : Calls Try.prog 84 #[.int .i64 op, .int .i64 2] w (Ret w (.int .i64 (refV op 2))) := by
  have C1 := Lib.hid (has_any op 2 w)
  have C2 := Lib.hid (fun n => has_any op 1 (w.drewN n))
  obtain ⟨b, HB⟩ : ∃ b, Hid (hasV op 2 = b) := ⟨_, rfl⟩
  obtain ⟨c, HC⟩ : ∃ c, Hid (hasV op 1 = c) := ⟨_, rfl⟩
  rw [HB.out] at C1
  rw [HC.out] at C2
  have hf : refV op 2 = if b then 0 else if c then 16 else 1 := by rw [refV, HB.out, show (3 - 2 : Int) = 1 from rfl, HC.out]
  obtain ⟨r, HR⟩ : ∃ r, Hid (refV op 2 = r) := ⟨_, rfl⟩
  rw [HR.out] at hf ⊢
  cases b
  · cases c
    · have HF : Hid (1 = r) := by show _ = _; rw [hf]; rfl
      clear hf
      go_enter Try.func84, Try.ntmps84
      go_wp2_with fail
      refine C1.out.mono ?_; rintro e' w' ⟨rfl, n, rfl⟩
      go_wp2_with fail
      refine (C2.out n).mono ?_; rintro e' w' ⟨rfl, m, rfl⟩
      go_wp2
      go_ret
      exact Ret.mk _ (intv HF.out)
    · have HF : Hid (16 = r) := by show _ = _; rw [hf]; rfl
      clear hf
      go_enter Try.func84, Try.ntmps84
      go_wp2_with fail
      refine C1.out.mono ?_; rintro e' w' ⟨rfl, n, rfl⟩
      go_wp2_with fail
      refine (C2.out n).mono ?_; rintro e' w' ⟨rfl, m, rfl⟩
      go_wp2
      go_ret
      exact Ret.mk _ (intv HF.out)
  · have HF : Hid (0 = r) := by show _ = _; rw [hf]; rfl
    clear hf
    go_enter Try.func84, Try.ntmps84
    go_wp2_with fail
    refine C1.out.mono ?_; rintro e' w' ⟨rfl, n, rfl⟩
    go_wp2
    go_ret
    exact Ret.mk _ (intv HF.out)
end Go.Proofs.Ytdedbfbkakofgaa

namespace Go.Proofs.Ytdedbfbkakofgaa
open Go.RowKit Go.Lib
set_option linter.unusedVariables false
set_option linter.unusedSimpArgs false
attribute [local go_sem] alloc_drewN setCell_drewN

theorem mwork_any (op y : Int) {w : World} {b : Nat} (hb : w.cell? ⟨b, 0, none⟩ = some (.int .i64 op)) (hy : -9223372036854775808 ≤ y ∧ y ≤ 9223372036854775807) :
    Calls Try.prog 107 #[.int .i64 y, .pointer (some ⟨b, 0, none⟩)] w (Ret w (.tuple #[.int .i64 (moV op y), .int .i64 (moE op y)])) := by
  have C := Lib.hid (monad_any op y w hy)
  obtain ⟨v, HV⟩ : ∃ v, Hid (moV op y = v) := ⟨_, rfl⟩
  obtain ⟨e, HE⟩ : ∃ e, Hid (moE op y = e) := ⟨_, rfl⟩
  rw [HV.out, HE.out] at C ⊢
  clear hy
  go_enter Try.func107, Try.ntmps107
  go_wp2_with fail
  refine C.out.mono ?_; rintro e' w' ⟨rfl, n, rfl⟩
  go_wp2
  go_ret2
  exact Ret.mk _ rfl
theorem am_len {s a : List Int} (h : amE s a = 0) : a.length ≤ 4096 := by
  obtain ⟨h1, h2⟩ := amE_zero h
  obtain ⟨g1, g2, g3⟩ := mayE_zero h1
  have q3 := pr_le s g1 s.length
  rw [List.take_length] at q3
  omega
set_option maxRecDepth 100000 in
set_option maxHeartbeats 3200000 in
theorem amonad_any {w : World} {A : Ar} (hA : A.Is w) (op : Int) :
    Calls Try.prog 77 #[.int .i64 op, A.v] w (MadeE w (amoS op A.s A.a) (amoA op A.s A.a) (amoE op A.s A.a)) := by
  obtain ⟨sa, sn, sc, aa, an, ac, s, a⟩ := A
  simp only [Ar.v]
  obtain ⟨W, HWW⟩ : ∃ W, Hid (((w.alloc (.cells #[.int .i64 op] 3)).alloc (.cells #[.slice sa sn sc, .slice aa an ac] 55)).alloc (.cells #[.slice none 0 0, .slice none 0 0] 55) = W) := ⟨_, rfl⟩
  have hw : Below w.heap.size w W := by rw [← HWW.out]; exact abvia (abvia (abal _ _) (abal _ _)) (abal _ _)
  have hsz : W.heap.size = w.heap.size + 3 := by rw [← HWW.out]; simp
  have B0 : Box1 W w.heap.size (.int .i64 op) := by rw [← HWW.out]; exact ((Box1.new _ _ _).via (abal _ _)).via (abal _ _)
  have B1 : BoxA W (w.heap.size + 1) (.slice sa sn sc) (.slice aa an ac) := by rw [← HWW.out]; exact (by simpa using BoxA.new (w.alloc (.cells #[.int .i64 op] 3)) 55 (.slice sa sn sc) (.slice aa an ac) : BoxA _ (w.heap.size + 1) _ _).via (abal _ _)
  have B2 : BoxA W (w.heap.size + 2) (.slice none 0 0) (.slice none 0 0) := by rw [← HWW.out]; simpa using BoxA.new ((w.alloc (.cells #[.int .i64 op] 3)).alloc (.cells #[.slice sa sn sc, .slice aa an ac] 55)) 55 (.slice none 0 0) (.slice none 0 0)
  have hI := hA.via hw
  have M := Lib.hid (arrmay_any hI)
  have R := Lib.hid (fun w1 => refused_one op w1)
  have hlen : a.length = an := hA.ats.len
  have hrng := hA.ats.rng
  simp only [Ar.v] at M
  obtain ⟨me, HME⟩ : ∃ e, Hid (amE s a = e) := ⟨_, rfl⟩
  obtain ⟨re, HRE⟩ : ∃ e, Hid (refV op 1 = e) := ⟨_, rfl⟩
  obtain ⟨fe, HFE⟩ : ∃ e, Hid (amoE op s a = e) := ⟨_, rfl⟩
  obtain ⟨fs, HFS⟩ : ∃ e, Hid (amoS op s a = e) := ⟨_, rfl⟩
  obtain ⟨fa, HFA⟩ : ∃ e, Hid (amoA op s a = e) := ⟨_, rfl⟩
  rw [HFE.out, HFS.out, HFA.out]
  rw [HME.out] at M
  rw [HRE.out] at R
  have HW := Lib.hid hw
  have SZ := Lib.hid hsz
  have HB0 := Lib.hid B0
  have HB1 := Lib.hid B1
  have HB2 := Lib.hid B2
  have HI := Lib.hid hI
  have HLEN := Lib.hid hlen
  have HRNG := Lib.hid hrng
  clear hA hw hsz B0 B1 B2 hI hlen hrng
  go_enter Try.func77, Try.ntmps77
  go_wp2_with fail
  rw [HWW.out]
  refine M.out.mono ?_; rintro e w1 ⟨rfl, hb1⟩
  have HV1 := Lib.hid hb1
  clear hb1
  by_cases hme : me = 0
  · subst hme
    obtain ⟨x0, x1, x2⟩ := HB0.out.via HV1.out
    go_wp2_with fail
    refine (R.out w1).mono ?_; rintro e w2 ⟨rfl, n2, rfl⟩
    obtain ⟨w', HW'⟩ : ∃ w', Hid (w1.drewN n2 = w') := ⟨_, rfl⟩
    have HV : Hid (Below W.heap.size W w') := by show Below _ _ _; rw [← HW'.out]; exact abvia HV1.out (adrew _ _)
    rw [HW'.out]
    clear x0 x1 x2
    obtain ⟨j0, j1, j2, j3, j4⟩ := HB1.out.via HV.out
    obtain ⟨k0, k1, k2, k3, k4⟩ := HB2.out.via HV.out
    by_cases hre : re = 0
    · subst hre
      have hN : an ≤ 4096 := by rw [← HLEN.out]; exact am_len HME.out
      have hmk := fun w => mk_int64 an (by omega) w
      have HK1 := Lib.hid (HB1.out.via HV.out)
      have HK2 := Lib.hid (HB2.out.via HV.out)
      have HK0 := Lib.hid (HB0.out.via HV.out)
      have HI' := Lib.hid (HI.out.via HV.out)
      have HIS : Hid (∀ W1, Below w'.heap.size w' W1 → Ls W1 sa sn sc s) := fun W1 hB => (HI'.out.via hB).shp
      have HIA : Hid (∀ W1, Below w'.heap.size w' W1 → Ls W1 aa an ac a) := fun W1 hB => (HI'.out.via hB).ats
      have DD0 : Hid (Below w'.heap.size w' (w'.drew)) := adrew1 _
      have CA0 := Lib.hid (clone_any (HIS.out (w'.drew) DD0.out))
      have DD1 : Hid (Below w'.heap.size w' ((w'.alloc (.cells (Array.replicate an (.int .i64 0)) 2)).drew)) := abvia (abal _ _) (adrew1 _)
      have CA1 := Lib.hid (clone_any (HIS.out ((w'.alloc (.cells (Array.replicate an (.int .i64 0)) 2)).drew) DD1.out))
      have DD2 : Hid (Below w'.heap.size w' ((w'.alloc (.cells #[.slice none 0 0, .slice none 0 0] 55)).drew)) := abvia (abal _ _) (adrew1 _)
      have CA2 := Lib.hid (clone_any (HIS.out ((w'.alloc (.cells #[.slice none 0 0, .slice none 0 0] 55)).drew) DD2.out))
      have DD3 : Hid (Below w'.heap.size w' (((w'.alloc (.cells (Array.replicate an (.int .i64 0)) 2)).alloc (.cells #[.slice none 0 0, .slice none 0 0] 55)).drew)) := abvia (abvia (abal _ _) (abal _ _)) (adrew1 _)
      have CA3 := Lib.hid (clone_any (HIS.out (((w'.alloc (.cells (Array.replicate an (.int .i64 0)) 2)).alloc (.cells #[.slice none 0 0, .slice none 0 0] 55)).drew) DD3.out))
      have DD4 : Hid (Below w'.heap.size w' (((w'.alloc (.cells #[.slice none 0 0, .slice none 0 0] 55)).alloc (.cells (Array.replicate an (.int .i64 0)) 2)).drew)) := abvia (abvia (abal _ _) (abal _ _)) (adrew1 _)
      have CA4 := Lib.hid (clone_any (HIS.out (((w'.alloc (.cells #[.slice none 0 0, .slice none 0 0] 55)).alloc (.cells (Array.replicate an (.int .i64 0)) 2)).drew) DD4.out))
      clear k0 k1 k2 k3 k4 j2 j3 j4
      have ne1 : ¬ w'.heap.size = w.heap.size := by have h1 := SZ.out; have h2 := HV.out.size; omega
      have ne2 : ¬ w'.heap.size = w.heap.size + 1 := by have h1 := SZ.out; have h2 := HV.out.size; omega
      go_wp2_with fail
      go_cut [8] from 24 (fun v8 wx => ∃ b8 ao1 c1 g, v8 = .pointer (some ⟨b8, 0, none⟩) ∧ Hid (FillMid w' wx b8 sn ao1 c1 an g s (List.replicate an 0)))
      case first =>
        go_region_held3 (fun w'' => w''.cell? ⟨w.heap.size + 1, 0, none⟩ = some (.slice sa sn sc) ∧ w''.cell? ⟨w.heap.size + 1, 1, none⟩ = some (.slice aa an ac)) (go_keep)
          (first
          | (go_at_call 86; (with_reducible refine Calls.mono CA0.out ?_); rintro e w2 ⟨ao1, c1, rfl, hL1, hO1, hB1⟩; have HL1 := Lib.hid hL1; have HO1 := Lib.hid hO1; have HBQ := Lib.hid hB1; have ne3 : ¬ w2.heap.size = w.heap.size + 1 := (by have h1 := SZ.out; have h2 := HV.out.size; have h3 := hB1.size; simp at h3; omega); have ne4 : ¬ w2.heap.size = w.heap.size := (by have h1 := SZ.out; have h2 := HV.out.size; have h3 := hB1.size; simp at h3; omega); have hq := (HK1.out.via DD0.out).via hB1; obtain ⟨y0, y1, -, -, -⟩ := hq)
          | (go_at_call 86; (with_reducible refine Calls.mono CA1.out ?_); rintro e w2 ⟨ao1, c1, rfl, hL1, hO1, hB1⟩; have HL1 := Lib.hid hL1; have HO1 := Lib.hid hO1; have HBQ := Lib.hid hB1; have ne3 : ¬ w2.heap.size = w.heap.size + 1 := (by have h1 := SZ.out; have h2 := HV.out.size; have h3 := hB1.size; simp at h3; omega); have ne4 : ¬ w2.heap.size = w.heap.size := (by have h1 := SZ.out; have h2 := HV.out.size; have h3 := hB1.size; simp at h3; omega); have hq := (HK1.out.via DD1.out).via hB1; obtain ⟨y0, y1, -, -, -⟩ := hq)
          | (go_at_call 86; (with_reducible refine Calls.mono CA2.out ?_); rintro e w2 ⟨ao1, c1, rfl, hL1, hO1, hB1⟩; have HL1 := Lib.hid hL1; have HO1 := Lib.hid hO1; have HBQ := Lib.hid hB1; have ne3 : ¬ w2.heap.size = w.heap.size + 1 := (by have h1 := SZ.out; have h2 := HV.out.size; have h3 := hB1.size; simp at h3; omega); have ne4 : ¬ w2.heap.size = w.heap.size := (by have h1 := SZ.out; have h2 := HV.out.size; have h3 := hB1.size; simp at h3; omega); have hq := (HK1.out.via DD2.out).via hB1; obtain ⟨y0, y1, -, -, -⟩ := hq; have hbx : BoxA w2 (w'.heap.size) (.slice none 0 0) (.slice none 0 0) := BoxA.via (W := ((w'.alloc (.cells #[.slice none 0 0, .slice none 0 0] 55)).drew)) ⟨by simp [go_sem], by simp [go_sem], by simp [go_sem], by simp [go_sem], by simp; try omega⟩ hB1; have HBX := Lib.hid hbx; obtain ⟨k0, k1, k2, k3, k4⟩ := hbx)
          | (go_at_call 86; (with_reducible refine Calls.mono CA3.out ?_); rintro e w2 ⟨ao1, c1, rfl, hL1, hO1, hB1⟩; have HL1 := Lib.hid hL1; have HO1 := Lib.hid hO1; have HBQ := Lib.hid hB1; have ne3 : ¬ w2.heap.size = w.heap.size + 1 := (by have h1 := SZ.out; have h2 := HV.out.size; have h3 := hB1.size; simp at h3; omega); have ne4 : ¬ w2.heap.size = w.heap.size := (by have h1 := SZ.out; have h2 := HV.out.size; have h3 := hB1.size; simp at h3; omega); have hq := (HK1.out.via DD3.out).via hB1; obtain ⟨y0, y1, -, -, -⟩ := hq; have hbx : BoxA w2 (w'.heap.size + 1) (.slice none 0 0) (.slice none 0 0) := BoxA.via (W := (((w'.alloc (.cells (Array.replicate an (.int .i64 0)) 2)).alloc (.cells #[.slice none 0 0, .slice none 0 0] 55)).drew)) ⟨by simp [go_sem], by simp [go_sem], by simp [go_sem], by simp [go_sem], by simp; try omega⟩ hB1; have HBX := Lib.hid hbx; obtain ⟨k0, k1, k2, k3, k4⟩ := hbx)
          | (go_at_call 86; (with_reducible refine Calls.mono CA4.out ?_); rintro e w2 ⟨ao1, c1, rfl, hL1, hO1, hB1⟩; have HL1 := Lib.hid hL1; have HO1 := Lib.hid hO1; have HBQ := Lib.hid hB1; have ne3 : ¬ w2.heap.size = w.heap.size + 1 := (by have h1 := SZ.out; have h2 := HV.out.size; have h3 := hB1.size; simp at h3; omega); have ne4 : ¬ w2.heap.size = w.heap.size := (by have h1 := SZ.out; have h2 := HV.out.size; have h3 := hB1.size; simp at h3; omega); have hq := (HK1.out.via DD4.out).via hB1; obtain ⟨y0, y1, -, -, -⟩ := hq; have hbx : BoxA w2 (w'.heap.size) (.slice none 0 0) (.slice none 0 0) := BoxA.via (W := (((w'.alloc (.cells #[.slice none 0 0, .slice none 0 0] 55)).alloc (.cells (Array.replicate an (.int .i64 0)) 2)).drew)) ⟨by simp [go_sem], by simp [go_sem], by simp [go_sem], by simp [go_sem], by simp; try omega⟩ hB1; have HBX := Lib.hid hbx; obtain ⟨k0, k1, k2, k3, k4⟩ := hbx)
          )
        all_goals go_wp2_with fail
        all_goals go_meet
        all_goals first
          | exact ⟨_, _, _, _, rfl, fm_135 (by omega) HL1.out HO1.out HBQ.out⟩
          | exact ⟨_, _, _, _, rfl, fm_153 (by omega) HL1.out HO1.out HBQ.out⟩
          | exact ⟨_, _, _, _, rfl, fm_315 (by omega) HL1.out HO1.out HBQ.out⟩
          | exact ⟨_, _, _, _, rfl, fm_351 (by omega) HL1.out HO1.out HBQ.out HBX.out⟩
          | exact ⟨_, _, _, _, rfl, fm_513 (by omega) HL1.out HO1.out HBQ.out HBX.out⟩
          | exact ⟨_, _, _, _, rfl, fm_531 (by omega) HL1.out HO1.out HBQ.out HBX.out⟩
      case rest =>
        obtain ⟨b8, ao1, c1, g, rfl, HM0⟩ := hcut
        have HM : Hid (FillMid w' wc b8 sn ao1 c1 an g s (filled (mnV op a) 0 an)) := by rw [filled_zero]; exact HM0
        clear HM0
        clear CA0 CA1 CA2 CA3 CA4 DD0 DD1 DD2 DD3 DD4 hmk j0 j1
        obtain ⟨j0, j1, j2, j3, j4⟩ := HK1.out.via HM.out.below
        go_wp2_with fail
        go_loopw [35] (fun i wr => ∃ k : Nat, k ≤ an ∧ i = .int .i64 k ∧ Hid (FillMid w' wr b8 sn ao1 c1 an g s (filled (mnV op a) k an)) ∧ Hid (firE ((List.range k).map (mnE op a)) = 0)) (fun i _ => an - (RowKit.intOf i).toNat)
        case atStart => exact ⟨0, Nat.zero_le _, rfl, HM, rfl⟩
        case round =>
          obtain ⟨k, hk, rfl, HR, HF0⟩ := hrel
          clear j0 j1 j2 j3 j4
          by_cases hlt : k < an
          · have hlt' : (k : Int) < an := by omega
            obtain ⟨ba, oa, rfl, hca⟩ := (HIA.out wr HR.out.below).at (by omega)
            have d1 := hca k hlt
            clear hca
            obtain ⟨x, HX⟩ : ∃ x, Hid (a.getD k 0 = x) := ⟨_, rfl⟩
            rw [HX.out] at d1
            have CW := Lib.hid (mwork_any op x (HK0.out.via HR.out.below).c0 (by rw [← HX.out]; exact HRNG.out k))
            obtain ⟨z, HZ⟩ : ∃ v, Hid (moV op x = v) := ⟨_, rfl⟩
            obtain ⟨ee, HEE⟩ : ∃ v, Hid (moE op x = v) := ⟨_, rfl⟩
            rw [HZ.out, HEE.out] at CW
            have HMV : Hid (mnV op a k = z) := by show _ = _; rw [mnV, HX.out, HZ.out]
            have HME2 : Hid (mnE op a k = ee) := by show _ = _; rw [mnE, HX.out, HEE.out]
            go_wp2_with fail
            refine CW.out.mono ?_; rintro e w3 ⟨rfl, n3, rfl⟩
            obtain ⟨w4, HW4⟩ : ∃ w4, Hid (wr.drewN n3 = w4) := ⟨_, rfl⟩
            have HM4 : Hid (FillMid w' w4 b8 sn ao1 c1 an g s (filled (mnV op a) k an)) := by rw [← HW4.out]; exact HR.out.next (adrew _ _)
            rw [HW4.out]
            clear d1
            obtain ⟨k0, k1, k2, k3, k4⟩ := HM4.out.box
            obtain ⟨l0, l1, l2, l3, l4⟩ := HK2.out.via HM4.out.below
            by_cases hee : ee = 0
            · subst hee
              have d1 : ∃ v, w4.cell? ⟨g, k, none⟩ = some v := by
                rw [HM4.out.O2.cellAt k (by omega)]
                exact ⟨_, List.getElem?_eq_getElem (by simp [filled]; omega)⟩
              obtain ⟨v0, d1⟩ := d1
              have d2 := HM4.out.O2.frozenAt k
              have hput := HM4.out.put (k := k) z
              rw [← HMV.out, filled_set _ hlt, HMV.out] at hput
              have HP := Lib.hid hput
              have HF1 : Hid (firE ((List.range (k + 1)).map (mnE op a)) = 0) := by show _ = _; rw [fst_step, if_pos HF0.out, HME2.out]
              clear hput l0 l1 l2 l3 l4
              go_wp2
              go_roundw
              case rel => exact ⟨k + 1, by omega, by go_num, HP, HF1⟩
              case measure => simp [RowKit.intOf]; omega
            · have hee' : (ee != 0) = true := by simpa using hee
              have h1 : fe = ee := by rw [← HFE.out]; simp only [amoE, HME.out, HRE.out, HLEN.out, ne_eq, not_true_eq_false, if_false]; rw [fst_at _ hlt HF0.out (by rw [HME2.out]; exact hee), HME2.out]
              have h2 : fs = [] := by rw [← HFS.out]; simp [amoS, HFE.out, h1, hee]
              have h3 : fa = [] := by rw [← HFA.out]; simp [amoA, HFE.out, h1, hee]
              subst h1 h2 h3
              have HN := Lib.hid (made_nil (w := w) (w' := (w4.setCell ⟨w.heap.size + 2, 0, none⟩ (.slice none 0 0)).setCell ⟨w.heap.size + 2, 1, none⟩ (.slice none 0 0)) fe (((abvia HW.out (abvia HV.out HM4.out.below)).setCell (by dsimp only; omega) _).setCell (by dsimp only; omega) _))
              go_wp2
              exact bodyPost_ret (v := .tuple #[.agg #[.slice none 0 0, .slice none 0 0], .int .i64 fe]) (by simp [results, Try.results77, go_sem, *]) rfl HN.out
          · obtain rfl : k = an := by omega
            have hge : (k : Int) ≤ k := Int.le_refl _
            obtain ⟨k0, k1, k2, k3, k4⟩ := HR.out.box
            obtain ⟨l0, l1, l2, l3, l4⟩ := HK2.out.via HR.out.below
            have h1 : fe = 0 := by rw [← HFE.out]; simp only [amoE, HME.out, HRE.out, HLEN.out, ne_eq, not_true_eq_false, if_false]; exact HF0.out
            have h2 : fs = s := by rw [← HFS.out]; simp [amoS, HFE.out, h1]
            have h3 : fa = filled (mnV op a) k k := by rw [← HFA.out, filled_all]; simp [amoA, HFE.out, h1, HLEN.out]
            subst h1 h2 h3
            have HN := Lib.hid (made_mid HR.out (abvia HW.out HV.out) (b := w.heap.size + 2) (by have h1 := SZ.out; have h2 := HV.out.size; omega) (by omega) (by omega) (filled_rng _ _ _ fun i hi => mo_rng op _ (HRNG.out i)) (.slice ao1 sn c1) (.slice (some ⟨g, 0, none⟩) k k))
            go_wp2
            exact bodyPost_ret (v := .tuple #[.agg #[.slice ao1 sn c1, .slice (some ⟨g, 0, none⟩) k k], .int .i64 0]) (by simp [results, Try.results77, go_sem, *]) rfl HN.out
    · have hre' : (re != 0) = true := by simpa using hre
      have h1 : fe = re := by rw [← HFE.out]; simp [amoE, HME.out, HRE.out, hre]
      have h2 : fs = [] := by rw [← HFS.out]; simp [amoS, HFE.out, h1, hre]
      have h3 : fa = [] := by rw [← HFA.out]; simp [amoA, HFE.out, h1, hre]
      subst h1 h2 h3
      go_wp2
      exact bodyPost_ret (v := .tuple #[.agg #[.slice none 0 0, .slice none 0 0], .int .i64 fe]) (by simp [results, Try.results77, go_sem, *]) rfl (made_nil _ (((abvia HW.out HV.out).setCell (by dsimp only; omega) _).setCell (by dsimp only; omega) _))
  · have hme' : (me != 0) = true := by simpa using hme
    have h1 : fe = 1 := by rw [← HFE.out]; simp [amoE, HME.out, hme]
    have h2 : fs = [] := by rw [← HFS.out]; simp [amoS, HFE.out, h1]
    have h3 : fa = [] := by rw [← HFA.out]; simp [amoA, HFE.out, h1]
    subst h1 h2 h3
    obtain ⟨k0, k1, k2, k3, k4⟩ := HB2.out.via HV1.out
    go_wp2
    exact bodyPost_ret (v := .tuple #[.agg #[.slice none 0 0, .slice none 0 0], .int .i64 1]) (by simp [results, Try.results77, go_sem, *]) rfl (made_nil _ (((abvia HW.out HV1.out).setCell (by dsimp only; omega) _).setCell (by dsimp only; omega) _))
end Go.Proofs.Ytdedbfbkakofgaa
