/- Contracts of slices.Equal at int and int64. Contracts of cmp.Compare, cmp.Or, slices.Compare at int and int64. Contracts of cmp.Or, arr.Same, arr.Compare and of the law's own Eq. Contracts of shape.May, shape.count, shape.Size. Contracts of shape.Size, arr.May, arr.Items. -/
import Derived.Test.YthackmkdicpdeaaMem
import Derived.StillTailTactics
namespace Go.Proofs.Ythackmkdicpdeaa
open Go.RowKit
set_option linter.unusedVariables false
set_option linter.unusedSimpArgs false

theorem list_eq_of {xs ys : List Int} {n k : Nat} (hx : xs.length = n) (hy : ys.length = n) (h : ∀ i, i < k → xs.getD i 0 = ys.getD i 0) (hk : n ≤ k) : xs = ys := by
  apply List.ext_getElem (by omega)
  intro i h1 h2
  have := h i (by omega)
  simpa [List.getD, h1, h2] using this
set_option maxHeartbeats 800000 in
theorem equal_any {w : World} {a1 a2 : Option Addr} {n1 c1 n2 c2 : Nat} {xs ys : List Int} (h1 : Ls w a1 n1 c1 xs) (h2 : Ls w a2 n2 c2 ys) :
    Calls Try.prog 96 #[.slice a1 n1 c1, .slice a2 n2 c2] w (Ret w (.bool (decide (xs = ys)))) := by
  have l1 := h1.len
  have l2 := h2.len
  have g1 := h1.big
  have g2 := h2.big
  by_cases hn : n1 = n2
  · subst hn
    have HL1 := Lib.hid l1
    have HL2 := Lib.hid l2
    have hd : decide (n1 = n1) = true := by simp
    have he : ((n1 : Int) != n1) = false := by simp
    have H1 := Lib.hid h1
    have H2 := Lib.hid h2
    clear h1 h2 l1 l2 hd
    obtain ⟨r, HR⟩ : ∃ r, Hid (decide (xs = ys) = r) := ⟨_, rfl⟩
    rw [HR.out]
    go_enter Try.func96, Try.ntmps96
    go_wp2
    go_loopw [13] (fun i wr => ∃ k : Nat, k ≤ n1 ∧ i = .int .i64 k ∧ Hid (∀ j, j < k → xs.getD j 0 = ys.getD j 0) ∧ ∃ q, wr = w.drewN q) (fun i _ => n1 - (intOf i).toNat)
    case atStart => exact ⟨0, Nat.zero_le _, rfl, fun j hj => absurd hj (by omega), 0, rfl⟩
    case round =>
      obtain ⟨k, hk, rfl, hs, q, rfl⟩ := hrel
      by_cases hlt : k < n1
      · have hlt' : (k : Int) < n1 := by omega
        obtain ⟨b1, o1, rfl, hc1⟩ := H1.out.at (by omega)
        obtain ⟨b2, o2, rfl, hc2⟩ := H2.out.at (by omega)
        have d1 := hc1 k hlt
        have d2 := hc2 k hlt
        clear hc1 hc2
        obtain ⟨x, HX⟩ : ∃ x, Hid (xs.getD k 0 = x) := ⟨_, rfl⟩
        obtain ⟨y, HY⟩ : ∃ y, Hid (ys.getD k 0 = y) := ⟨_, rfl⟩
        rw [HX.out] at d1
        rw [HY.out] at d2
        by_cases hxy : x = y
        · subst hxy
          have hs' : Hid (∀ j, j < k + 1 → xs.getD j 0 = ys.getD j 0) := by
            intro j hj
            by_cases e : j = k
            · subst e; rw [HX.out, HY.out]
            · exact hs.out j (by omega)
          go_wp2
          go_quiet (fail)
          go_wp2
          go_roundw
          case rel => exact ⟨k + 1, by omega, by go_num, hs', _, rfl⟩
          case measure => simp [intOf]; omega
        · have hne : (x != y) = true := by simpa using hxy
          have hr : Hid (r = false) := by
            show r = false
            rw [← HR.out]
            simp only [decide_eq_false_iff_not]
            intro h
            exact hxy (by rw [← HX.out, ← HY.out, h])
          go_wp2
          go_quiet (fail)
          go_wp2
          go_ret
          exact Ret.via rfl _ (boolv hr.out.symm)
      · have hr : Hid (r = true) := by
          show r = true
          rw [← HR.out]
          simp only [decide_eq_true_eq]
          exact list_eq_of HL1.out HL2.out hs.out (by omega)
        have hge : (n1 : Int) ≤ k := by omega
        go_wp2
        go_ret
        exact Ret.mk _ (boolv hr.out.symm)
  · have hr : decide (xs = ys) = false := by simp; intro h; subst h; omega
    rw [hr]
    have hne : ((n1 : Int) != n2) = true := by simp; omega
    have hne' : (n1 != n2) = true := by simp; omega
    clear hr h1 h2 l1 l2
    go_enter Try.func96, Try.ntmps96
    go_wp2
    go_ret
    exact Ret.mk0 rfl
end Go.Proofs.Ythackmkdicpdeaa
namespace Go.Proofs.Ythackmkdicpdeaa
open Go.RowKit
set_option linter.unusedVariables false
set_option linter.unusedSimpArgs false

def cmpI (a b : Int) : Int := if a < b then -1 else if b < a then 1 else 0
theorem cmpI_lt {a b : Int} (h : a < b) : cmpI a b = -1 := by simp [cmpI, h]
theorem cmpI_gt {a b : Int} (h : b < a) : cmpI a b = 1 := by simp [cmpI, h]; omega
theorem cmpI_eq (a : Int) : cmpI a a = 0 := by simp [cmpI]
theorem cmpI_zero {a b : Int} : cmpI a b = 0 ↔ a = b := by
  unfold cmpI; split
  · constructor <;> intro h <;> omega
  · split
    · constructor <;> intro h <;> omega
    · constructor <;> intro h <;> omega
def cmpL : List Int → List Int → Int
  | [], [] => 0
  | [], _ :: _ => -1
  | _ :: _, [] => 1
  | x :: xs, y :: ys => if x < y then -1 else if y < x then 1 else cmpL xs ys
theorem cmpL_step {xs ys : List Int} {k : Nat} (h1 : k < xs.length) (h2 : k < ys.length) :
    cmpL (xs.drop k) (ys.drop k) = if xs.getD k 0 < ys.getD k 0 then -1 else if ys.getD k 0 < xs.getD k 0 then 1 else cmpL (xs.drop (k + 1)) (ys.drop (k + 1)) := by
  rw [List.drop_eq_getElem_cons h1, List.drop_eq_getElem_cons h2]
  simp only [List.getD, List.getElem?_eq_getElem h1, List.getElem?_eq_getElem h2, Option.getD_some]
  rfl
theorem cmpL_long {xs ys : List Int} {k : Nat} (h1 : k < xs.length) (h2 : ys.length ≤ k) : cmpL (xs.drop k) (ys.drop k) = 1 := by
  rw [List.drop_eq_getElem_cons h1, List.drop_eq_nil_of_le h2]; rfl
theorem cmpL_end {xs ys : List Int} {k : Nat} (h1 : xs.length ≤ k) : cmpL (xs.drop k) (ys.drop k) = if k < ys.length then -1 else 0 := by
  rw [List.drop_eq_nil_of_le h1]
  by_cases h : k < ys.length
  · rw [if_pos h, List.drop_eq_getElem_cons h]; rfl
  · rw [if_neg h, List.drop_eq_nil_of_le (by omega)]; rfl
end Go.Proofs.Ythackmkdicpdeaa
namespace Go.Proofs.Ythackmkdicpdeaa
open Go.RowKit
set_option linter.unusedVariables false
set_option linter.unusedSimpArgs false
attribute [local go_sem] alloc_drewN setCell_drewN

def orL : List Int → Int
  | [] => 0
  | x :: xs => if x = 0 then orL xs else x
theorem orL_step {xs : List Int} {k : Nat} (h : k < xs.length) : orL (xs.drop k) = if xs.getD k 0 = 0 then orL (xs.drop (k + 1)) else xs.getD k 0 := by
  rw [List.drop_eq_getElem_cons h]
  simp only [List.getD, List.getElem?_eq_getElem h, Option.getD_some]
  rfl
/-- An array: two slices, its shape and its atoms. -/
structure Ar where
  (sa : Option Addr)
  (sn sc : Nat)
  (aa : Option Addr)
  (an ac : Nat)
  (s a : List Int)
def Ar.v (A : Ar) : Value := .agg #[.slice A.sa A.sn A.sc, .slice A.aa A.an A.ac]
structure Ar.Is (A : Ar) (w : World) : Prop where
  shp : Ls w A.sa A.sn A.sc A.s
  ats : Ls w A.aa A.an A.ac A.a
theorem Ar.Is.below {A : Ar} {w w' : World} (h : A.Is w) {B : Nat} (hb : Below B w w') (hB : w.heap.size ≤ B) : A.Is w' := ⟨h.shp.below hb hB, h.ats.below hb hB⟩
theorem below_two (w : World) (A B : Array Value) (t u : TypeId) (n : Nat) : Below w.heap.size w (((w.alloc (.cells A t)).alloc (.cells B u)).drewN n) :=
  below_drewN (((Below.refl _ _).alloc (Nat.le_refl _) _).alloc (by simp) _) n
theorem cmpI_bd (a b : Int) : -1 ≤ cmpI a b ∧ cmpI a b ≤ 1 := by
  unfold cmpI; split
  · omega
  · split <;> omega
theorem cmpL_bd : ∀ xs ys : List Int, -1 ≤ cmpL xs ys ∧ cmpL xs ys ≤ 1
  | [], [] => by simp [cmpL]
  | [], _ :: _ => by simp [cmpL]
  | _ :: _, [] => by simp [cmpL]
  | x :: xs, y :: ys => by
    unfold cmpL; split
    · omega
    · split
      · omega
      · exact cmpL_bd xs ys
theorem ls_new3 (W : World) {x y z : Int} (hx : -1 ≤ x ∧ x ≤ 1) (hy : -1 ≤ y ∧ y ≤ 1) (hz : -1 ≤ z ∧ z ≤ 1) :
    Ls (W.alloc (.cells #[.int .i64 x, .int .i64 y, .int .i64 z] 3)) (some ⟨W.heap.size, 0, none⟩) 3 3 [x, y, z] := by
  refine ⟨rfl, by omega, by omega, by simp [maxLen], fun _ => ⟨W.heap.size, 0, rfl, by simp, fun i hi => ?_⟩, fun i => ?_⟩
  · rw [World.cell?_alloc_at _ _ _ _ rfl]
    match i, hi with
    | 0, _ => rfl
    | 1, _ => rfl
    | 2, _ => rfl
  · match i with
    | 0 => exact ⟨by show _ ≤ x; omega, by show x ≤ _; omega⟩
    | 1 => exact ⟨by show _ ≤ y; omega, by show y ≤ _; omega⟩
    | 2 => exact ⟨by show _ ≤ z; omega, by show z ≤ _; omega⟩
    | i + 3 => exact ⟨by simp [List.getD], by simp [List.getD]⟩
def cmpA (A B : Ar) : Int := orL [cmpI A.sn B.sn, cmpL A.s B.s, cmpL A.a B.a]
end Go.Proofs.Ythackmkdicpdeaa
namespace Go.Proofs.Ythackmkdicpdeaa
open Go.RowKit
set_option linter.unusedVariables false
set_option linter.unusedSimpArgs false

/-- The product of all lengths, a length of 0 counted as 1; the product of all lengths. -/
def pm (s : List Int) : Int := s.foldl (fun n k => n * max k 1) 1
def pr (s : List Int) : Int := s.foldl (fun n k => n * k) 1
/-- What May tells of a shape. -/
def mayE (s : List Int) : Int := if s.any (fun k => decide (k < 0)) then 1 else if 8 < s.length then 17 else if 4096 < pm s then 17 else 0
theorem take_snoc {s : List Int} {k : Nat} (h : k < s.length) : s.take (k + 1) = s.take k ++ [s.getD k 0] := by
  rw [List.take_succ_eq_append_getElem h]; simp [List.getD, List.getElem?_eq_getElem h]
theorem pm_snoc {s : List Int} {k : Nat} (h : k < s.length) : pm (s.take (k + 1)) = pm (s.take k) * max (s.getD k 0) 1 := by
  rw [take_snoc h]; simp [pm]
theorem pr_snoc {s : List Int} {k : Nat} (h : k < s.length) : pr (s.take (k + 1)) = pr (s.take k) * s.getD k 0 := by
  rw [take_snoc h]; simp [pr]
theorem le_mul1 {a b : Int} (ha : 1 ≤ a) (hb : 1 ≤ b) : a ≤ a * b ∧ b ≤ a * b := by
  have h1 : a * 1 ≤ a * b := Int.mul_le_mul_of_nonneg_left hb (by omega)
  have h2 : 1 * b ≤ a * b := Int.mul_le_mul_of_nonneg_right ha (by omega)
  omega
theorem pm_up (s : List Int) (k : Nat) : 1 ≤ pm (s.take k) ∧ pm (s.take k) ≤ pm (s.take (k + 1)) ∧ s.getD k 0 ≤ pm (s.take (k + 1)) := by
  induction k with
  | zero =>
    by_cases h : 0 < s.length
    · rw [pm_snoc h]; simp only [List.take_zero]; have : pm [] = 1 := rfl; rw [this]; omega
    · have : s = [] := List.eq_nil_of_length_eq_zero (by omega)
      subst this; simp [pm]
  | succ k ih =>
    have h1 : 1 ≤ pm (s.take (k + 1)) := by omega
    by_cases h : k + 1 < s.length
    · rw [pm_snoc h]
      have := le_mul1 h1 (show 1 ≤ max (s.getD (k + 1) 0) 1 by omega)
      omega
    · rw [List.take_of_length_le (show s.length ≤ k + 1 + 1 by omega)]
      have e : s.take (k + 1) = s := List.take_of_length_le (by omega)
      rw [e] at h1 ⊢
      have : s.getD (k + 1) 0 = 0 := by simp [List.getD, List.getElem?_eq_none (show s.length ≤ k + 1 by omega)]
      omega
theorem pm_mono (s : List Int) {j k : Nat} (h : j ≤ k) : pm (s.take j) ≤ pm (s.take k) := by
  induction h with
  | refl => omega
  | step _ ih => exact Int.le_trans ih (pm_up s _).2.1
theorem pm_all (s : List Int) (k : Nat) : pm (s.take k) ≤ pm s := by
  by_cases h : k ≤ s.length
  · have := pm_mono s h; rwa [List.take_length] at this
  · rw [List.take_of_length_le (by omega)]; omega
theorem pr_le (s : List Int) (h : ∀ i, 0 ≤ s.getD i 0) (k : Nat) : 0 ≤ pr (s.take k) ∧ pr (s.take k) ≤ pm (s.take k) := by
  induction k with
  | zero => simp [pr, pm]
  | succ k ih =>
    by_cases hk : k < s.length
    · rw [pr_snoc hk, pm_snoc hk]
      have h0 := h k
      refine ⟨Int.mul_nonneg ih.1 h0, Int.mul_le_mul ih.2 (by omega) h0 (by have := (pm_up s k).1; omega)⟩
    · rw [List.take_of_length_le (show s.length ≤ k + 1 by omega)]
      rw [List.take_of_length_le (show s.length ≤ k by omega)] at ih
      exact ih
theorem any_neg_iff {s : List Int} : s.any (fun k => decide (k < 0)) = true ↔ ∃ i, i < s.length ∧ s.getD i 0 < 0 := by
  rw [List.any_eq_true]
  constructor
  · rintro ⟨x, hx, h⟩
    obtain ⟨i, hi, rfl⟩ := List.getElem_of_mem hx
    exact ⟨i, hi, by simpa [List.getD, List.getElem?_eq_getElem hi] using h⟩
  · rintro ⟨i, hi, h⟩
    exact ⟨s[i], List.getElem_mem hi, by simpa [List.getD, List.getElem?_eq_getElem hi] using h⟩
theorem mayE_neg {s : List Int} (h : s.any (fun k => decide (k < 0)) = true) : mayE s = 1 := by simp only [mayE, h, if_true]
theorem mayE_long {s : List Int} (h : s.any (fun k => decide (k < 0)) = false) (h2 : 8 < s.length) : mayE s = 17 := by simp [mayE, h, h2]
theorem mayE_big {s : List Int} (h : s.any (fun k => decide (k < 0)) = false) (h2 : 4096 < pm s) : mayE s = 17 := by simp [mayE, h, h2]
theorem mayE_ok {s : List Int} (h : s.any (fun k => decide (k < 0)) = false) (h1 : ¬ 8 < s.length) (h2 : ¬ 4096 < pm s) : mayE s = 0 := by simp [mayE, h, h1, h2]
theorem mayE_zero {s : List Int} (h : mayE s = 0) : (∀ i, 0 ≤ s.getD i 0) ∧ s.length ≤ 8 ∧ pm s ≤ 4096 := by
  cases hn : s.any (fun k => decide (k < 0))
  · by_cases h1 : 8 < s.length
    · rw [mayE_long hn h1] at h; omega
    · by_cases h2 : 4096 < pm s
      · rw [mayE_big hn h2] at h; omega
      · refine ⟨fun i => ?_, by omega, by omega⟩
        by_cases hi : i < s.length
        · rcases Int.lt_or_le (s.getD i 0) 0 with h3 | h3
          · exact absurd (any_neg_iff.2 ⟨i, hi, h3⟩) (by rw [hn]; simp)
          · exact h3
        · simp [List.getD, List.getElem?_eq_none (show s.length ≤ i by omega)]
  · rw [mayE_neg hn] at h; omega
theorem mayE_cases (s : List Int) : mayE s = 0 ∨ mayE s = 1 ∨ mayE s = 17 := by
  unfold mayE; split
  · simp
  · split
    · simp
    · split <;> simp

def NegAt (w : World) (s : List Int) (e : Ending) (w' : World) : Prop := ∃ r : Int, (r < 9223372036854775807 ∧ -2 < r) ∧ Hid ((0 ≤ r) = (s.any (fun k => decide (k < 0)) = true)) ∧ RetS w (.int .i64 r) e w'
set_option maxHeartbeats 400000 in
theorem indexfunc_any {w : World} {ao : Option Addr} {n c : Nat} {s : List Int} (h : Ls w ao n c s) (fv : Value) (hfv : fv = .func (.func 86) #[] #[]) :
    Calls Try.prog 97 #[.slice ao n c, fv] w (NegAt w s) := by
  subst hfv
  have l1 := Lib.hid h.len
  have g1 := h.big
  have H := Lib.hid h
  clear h
  go_enter Try.func97, Try.ntmps97
  go_wp2
  go_loop [8] (fun i => ∃ k : Nat, k ≤ n ∧ i = .int .i64 k ∧ Hid (∀ j, j < k → 0 ≤ s.getD j 0)) (fun i => n - (intOf i).toNat)
  case atStart => exact ⟨0, Nat.zero_le _, rfl, fun j hj => absurd hj (by omega)⟩
  case round =>
    obtain ⟨k, hk, rfl, hs⟩ := hrel
    by_cases hlt : k < n
    · have hlt' : (k : Int) < n := by omega
      obtain ⟨b1, o1, rfl, hc1⟩ := H.out.at (by omega)
      have d1 := hc1 k hlt
      clear hc1
      obtain ⟨x, HX⟩ : ∃ x, Hid (s.getD k 0 = x) := ⟨_, rfl⟩
      rw [HX.out] at d1
      by_cases hx : x < 0
      · have HF : Hid ((0 ≤ (k : Int)) = (s.any (fun k => decide (k < 0)) = true)) := by
          show _ = _
          apply propext
          exact ⟨fun _ => any_neg_iff.2 ⟨k, by rw [l1.out]; exact hlt, by rw [HX.out]; exact hx⟩, fun _ => by omega⟩
        have hd := decide_eq_true hx
        go_wp2
        go_ret
        exact ⟨(k : Int), by omega, HF, RetS.mk rfl⟩
      · have hs' : Hid (∀ j, j < k + 1 → 0 ≤ s.getD j 0) := by
          intro j hj
          by_cases e : j = k
          · subst e; rw [HX.out]; omega
          · exact hs.out j (by omega)
        have hd := decide_eq_false hx
        go_wp2
        go_round
        case rel => exact ⟨k + 1, by omega, by go_num, hs'⟩
        case measure => simp [intOf]; omega
    · have hge : (n : Int) ≤ k := by omega
      have HF : Hid ((0 ≤ (-1 : Int)) = (s.any (fun k => decide (k < 0)) = true)) := by
        show _ = _
        apply propext
        refine ⟨fun h => absurd h (by omega), fun h => ?_⟩
        obtain ⟨i, hi, h2⟩ := any_neg_iff.1 h
        have := hs.out i (by have := l1.out; omega)
        omega
      go_wp2
      go_ret
      exact ⟨-1, by omega, HF, RetS.mk rfl⟩
set_option maxHeartbeats 400000 in
theorem contains_any {w : World} {ao : Option Addr} {n c : Nat} {s : List Int} (h : Ls w ao n c s) :
    Calls Try.prog 85 #[.slice ao n c, .func (.func 86) #[] #[]] w (RetS w (.bool (s.any (fun k => decide (k < 0))))) := by
  have A := Lib.hid (indexfunc_any h _ rfl)
  clear h
  go_enter Try.func85, Try.ntmps85
  go_wp2_with fail
  refine A.out.mono ?_; rintro e w' ⟨r, hr, HF, rfl, rfl⟩
  have HD : Hid (decide (0 ≤ r) = s.any (fun k => decide (k < 0))) := by
    show _ = _
    have := HF.out
    cases h : s.any (fun k => decide (k < 0))
    · rw [h] at this; simpa using this
    · rw [h] at this; simpa using this
  go_wp2
  go_ret
  exact RetS.mk (boolv HD.out)
set_option maxHeartbeats 400000 in
theorem may_any {w : World} {ao : Option Addr} {n c : Nat} {s : List Int} (h : Ls w ao n c s) :
    Calls Try.prog 66 #[.slice ao n c] w (RetS w (.int .i64 (mayE s))) := by
  have l1 := Lib.hid h.len
  have g1 := h.big
  have H := Lib.hid h
  have A := Lib.hid (contains_any h)
  clear h
  obtain ⟨r, HR⟩ : ∃ r, Hid (mayE s = r) := ⟨_, rfl⟩
  rw [HR.out]
  cases hn : s.any (fun k => decide (k < 0))
  · rw [hn] at A
    by_cases h8 : 8 < n
    · have HF : Hid (r = 17) := by show _ = _; rw [← HR.out]; exact mayE_long hn (by rw [l1.out]; exact h8)
      have h8' : (8 : Int) < n := by omega
      clear hn
      go_enter Try.func66, Try.ntmps66
      go_wp2_with fail
      refine A.out.mono ?_; rintro e w' ⟨rfl, rfl⟩
      go_wp2
      go_ret
      exact RetS.mk (intv HF.out.symm)
    · have HN := Lib.hid hn
      have h8' : (n : Int) ≤ 8 := by omega
      clear hn
      go_enter Try.func66, Try.ntmps66
      go_wp2_with fail
      refine A.out.mono ?_; rintro e w' ⟨rfl, rfl⟩
      go_wp2
      go_loop [3, 13] (fun p i => ∃ (k : Nat) (m : Int), k ≤ n ∧ i = .int .i64 k ∧ p = .int .i64 m ∧ Hid (m = pm (s.take k)) ∧ 1 ≤ m ∧ m ≤ 4096) (fun _ i => n - (intOf i).toNat)
      case atStart => exact ⟨0, 1, Nat.zero_le _, rfl, rfl, rfl, by omega, by omega⟩
      case round =>
        obtain ⟨k, m, hk, rfl, rfl, hm, hm1, hm2⟩ := hrel
        by_cases hlt : k < n
        · have hlt' : (k : Int) < n := by omega
          obtain ⟨b1, o1, rfl, hc1⟩ := H.out.at (by omega)
          have d1 := hc1 k hlt
          clear hc1
          have hu := pm_up s k
          have hall := pm_all s (k + 1)
          have hsn := pm_snoc (s := s) (k := k) (by rw [l1.out]; exact hlt)
          rw [← hm.out] at hsn hu
          obtain ⟨x, HX⟩ : ∃ x, Hid (s.getD k 0 = x) := ⟨_, rfl⟩
          rw [HX.out] at d1 hu hsn
          by_cases hx : 4096 < x
          · have HF : Hid (r = 17) := by show _ = _; rw [← HR.out]; exact mayE_big HN.out (by omega)
            clear hu hall hsn
            go_wp2
            go_ret
            exact RetS.mk (intv HF.out.symm)
          · rcases (show (x < 1 ∧ max x 1 = 1) ∨ (1 ≤ x ∧ max x 1 = x) by omega) with ⟨q, e⟩ | ⟨q, e⟩
            · have hm' : Hid (m = pm (s.take (k + 1))) := by show _ = _; rw [hsn, e]; omega
              clear hu hall hsn e
              go_wp2
              go_round
              case rel => exact ⟨k + 1, m, by omega, by go_num, by go_num, hm', by omega, by omega⟩
              case measure => simp [intOf]; omega
            · obtain ⟨y, HY⟩ : ∃ y, Hid (m * x = y) := ⟨_, rfl⟩
              have hyb : y ≤ 16777216 ∧ 1 ≤ y := by
                have h1 : m * x ≤ 4096 * 4096 := Int.mul_le_mul hm2 (by omega) (by omega) (by omega)
                have h2 := le_mul1 hm1 q
                rw [HY.out] at h1 h2
                omega
              have hw : wrap64 (m * x) = y := by rw [HY.out]; exact IntWalk.wrap64_in _ (by omega)
              rw [e, HY.out] at hsn
              clear e
              by_cases hy : 4096 < y
              · have HF : Hid (r = 17) := by show _ = _; rw [← HR.out]; exact mayE_big HN.out (by omega)
                clear hu hall hsn
                go_wp2
                go_ret
                exact RetS.mk (intv HF.out.symm)
              · have hm' : Hid (y = pm (s.take (k + 1))) := hsn.symm
                clear hu hall hsn
                go_wp2
                go_round
                case rel => exact ⟨k + 1, y, by omega, by go_num, intv hw, hm', by omega, by omega⟩
                case measure => simp [intOf]; omega
        · have hge : (n : Int) ≤ k := by omega
          have HF : Hid (r = 0) := by
            show _ = _
            rw [← HR.out]
            have e : s.take k = s := List.take_of_length_le (by rw [l1.out]; omega)
            have h1 := hm.out
            rw [e] at h1
            exact mayE_ok HN.out (by rw [l1.out]; omega) (by omega)
          go_wp2
          go_ret
          exact RetS.mk (intv HF.out.symm)
  · rw [hn] at A
    have HF : Hid (r = 1) := by show _ = _; rw [← HR.out]; exact mayE_neg hn
    clear hn
    go_enter Try.func66, Try.ntmps66
    go_wp2_with fail
    refine A.out.mono ?_; rintro e w' ⟨rfl, rfl⟩
    go_wp2
    go_ret
    exact RetS.mk (intv HF.out.symm)
set_option maxHeartbeats 400000 in
theorem count_any {w : World} {ao : Option Addr} {n c : Nat} {s : List Int} (h : Ls w ao n c s) (hm : mayE s = 0) :
    Calls Try.prog 87 #[.slice ao n c] w (RetS w (.int .i64 (pr s))) := by
  have l1 := Lib.hid h.len
  have g1 := h.big
  have H := Lib.hid h
  obtain ⟨m1, m2, m3⟩ := mayE_zero hm
  have M1 := Lib.hid m1
  have M3 := Lib.hid m3
  clear h m1 m2 m3 hm
  obtain ⟨r, HR⟩ : ∃ r, Hid (pr s = r) := ⟨_, rfl⟩
  rw [HR.out]
  go_enter Try.func87, Try.ntmps87
  go_wp2
  go_loop [3, 8] (fun p i => ∃ (k : Nat) (m : Int), k ≤ n ∧ i = .int .i64 k ∧ p = .int .i64 m ∧ Hid (m = pr (s.take k)) ∧ 0 ≤ m ∧ m ≤ 4096) (fun _ i => n - (intOf i).toNat)
  case atStart => exact ⟨0, 1, Nat.zero_le _, rfl, rfl, rfl, by omega, by omega⟩
  case round =>
    obtain ⟨k, m, hk, rfl, rfl, hm, hm1, hm2⟩ := hrel
    by_cases hlt : k < n
    · have hlt' : (k : Int) < n := by omega
      obtain ⟨b1, o1, rfl, hc1⟩ := H.out.at (by omega)
      have d1 := hc1 k hlt
      clear hc1
      have hu := pr_le s M1.out (k + 1)
      have hall := pm_all s (k + 1)
      have hall2 := M3.out
      have hsn := pr_snoc (s := s) (k := k) (by rw [l1.out]; exact hlt)
      rw [← hm.out] at hsn
      obtain ⟨x, HX⟩ : ∃ x, Hid (s.getD k 0 = x) := ⟨_, rfl⟩
      rw [HX.out] at d1 hsn
      obtain ⟨y, HY⟩ : ∃ y, Hid (m * x = y) := ⟨_, rfl⟩
      have hyb : y ≤ 4096 ∧ 0 ≤ y := by rw [HY.out] at hsn; omega
      have hw : wrap64 (m * x) = y := by rw [HY.out]; exact IntWalk.wrap64_in _ (by omega)
      rw [HY.out] at hsn
      have hm' : Hid (y = pr (s.take (k + 1))) := hsn.symm
      clear hu hall hsn hall2
      go_wp2
      go_round
      case rel => exact ⟨k + 1, y, by omega, by go_num, intv hw, hm', by omega, by omega⟩
      case measure => simp [intOf]; omega
    · have hge : (n : Int) ≤ k := by omega
      have HF : Hid (m = r) := by
        show _ = _
        have e : s.take k = s := List.take_of_length_le (by rw [l1.out]; omega)
        rw [← HR.out, hm.out, e]
      go_wp2
      go_ret
      exact RetS.mk (intv HF.out)
end Go.Proofs.Ythackmkdicpdeaa
namespace Go.Proofs.Ythackmkdicpdeaa
open Go.RowKit
set_option linter.unusedVariables false
set_option linter.unusedSimpArgs false
attribute [local go_sem] alloc_drewN setCell_drewN

/-- What Size tells of a shape's places. -/
def szE (s : List Int) : Int := if mayE s = 0 then pr s else 0
theorem mayE_bd (s : List Int) : 0 ≤ mayE s ∧ mayE s ≤ 17 := by rcases mayE_cases s with h | h | h <;> omega
theorem szE_bd (s : List Int) : 0 ≤ szE s ∧ szE s ≤ 4096 := by
  unfold szE; split
  · rename_i h
    obtain ⟨a, b, c⟩ := mayE_zero h
    have := pr_le s a s.length
    rw [List.take_length] at this
    omega
  · omega
set_option maxHeartbeats 400000 in
theorem size_any {w : World} {ao : Option Addr} {n c : Nat} {s : List Int} (h : Ls w ao n c s) :
    Calls Try.prog 67 #[.slice ao n c] w (RetS w (.tuple #[.int .i64 (szE s), .int .i64 (mayE s)])) := by
  have A := Lib.hid (may_any h)
  obtain ⟨e, HE⟩ : ∃ e, Hid (mayE s = e) := ⟨_, rfl⟩
  rw [HE.out] at A ⊢
  by_cases he : e = 0
  · subst he
    have C := Lib.hid (count_any h HE.out)
    have HZ : Hid (szE s = pr s) := by show _ = _; simp [szE, HE.out]
    rw [HZ.out]
    clear h
    go_enter Try.func67, Try.ntmps67
    go_wp2_with fail
    refine A.out.mono ?_; rintro e w' ⟨rfl, rfl⟩
    go_wp2_with fail
    refine C.out.mono ?_; rintro e w' ⟨rfl, rfl⟩
    go_wp2
    go_ret2
    exact RetS.mk rfl
  · have he' : (e != 0) = true := by simpa using he
    have HZ : Hid (szE s = 0) := by show _ = _; simp [szE, HE.out, he]
    rw [HZ.out]
    clear h
    go_enter Try.func67, Try.ntmps67
    go_wp2_with fail
    refine A.out.mono ?_; rintro e w' ⟨rfl, rfl⟩
    go_wp2
    go_ret2
    exact RetS.mk rfl

/-- What arr.May tells of an array; its items. -/
def amE (s a : List Int) : Int := if mayE s = 0 then if pr s = a.length then 0 else 1 else mayE s
def itE (s a : List Int) : Int := if amE s a = 0 then if s.length = 0 then 1 else s.getD 0 0 else 0
theorem below_one (w : World) (A : Array Value) (t : TypeId) (n : Nat) : Below w.heap.size w ((w.alloc (.cells A t)).drewN n) :=
  below_drewN ((Below.refl _ _).alloc (Nat.le_refl _) _) n
set_option maxHeartbeats 400000 in
theorem arrmay_any {w : World} {A : Ar} (hA : A.Is w) :
    Calls Try.prog 59 #[A.v] w (RetB w (.int .i64 (amE A.s A.a))) := by
  obtain ⟨sa, sn, sc, aa, an, ac, s, a⟩ := A
  obtain ⟨h1, h2⟩ := hA
  simp only [Ar.v] at *
  have hw : Below w.heap.size w (w.alloc (.cells #[.slice sa sn sc, .slice aa an ac] 45)) := below_one _ _ _ 0
  have S := Lib.hid (size_any (h1.below hw (Nat.le_refl _)))
  have HW := Lib.hid hw
  have l2 := h2.len
  obtain ⟨e, HE⟩ : ∃ e, Hid (mayE s = e) := ⟨_, rfl⟩
  obtain ⟨z, HZ⟩ : ∃ z, Hid (szE s = z) := ⟨_, rfl⟩
  rw [HE.out, HZ.out] at S
  obtain ⟨r, HR⟩ : ∃ r, Hid (amE s a = r) := ⟨_, rfl⟩
  rw [HR.out]
  by_cases he : e = 0
  · subst he
    have hz : z = pr s := by rw [← HZ.out]; simp [szE, HE.out]
    by_cases hn : z = an
    · have HF : Hid (r = 0) := by show _ = _; rw [← HR.out]; simp [amE, HE.out, ← hz, hn, l2]
      have hq : (z != (an : Int)) = false := by simpa using hn
      clear h1 h2 hw l2 hz hn
      go_enter Try.func59, Try.ntmps59
      go_wp2_with fail
      refine S.out.mono ?_; rintro e w' ⟨rfl, rfl⟩
      go_wp2
      go_ret
      exact RetB.mk (intv HF.out.symm) HW.out
    · have HF : Hid (r = 1) := by show _ = _; rw [← HR.out]; simp [amE, HE.out, ← hz, hn, l2]
      have hq : (z != (an : Int)) = true := by simpa using hn
      clear h1 h2 hw l2 hz hn
      go_enter Try.func59, Try.ntmps59
      go_wp2_with fail
      refine S.out.mono ?_; rintro e w' ⟨rfl, rfl⟩
      go_wp2
      go_ret
      exact RetB.mk (intv HF.out.symm) HW.out
  · have he' : (e == 0) = false := by simpa using he
    have HF : Hid (r = e) := by show _ = _; rw [← HR.out]; simp [amE, HE.out, he]
    clear h1 h2 hw l2 he
    go_enter Try.func59, Try.ntmps59
    go_wp2_with fail
    refine S.out.mono ?_; rintro e w' ⟨rfl, rfl⟩
    go_wp2
    go_ret
    exact RetB.mk (intv HF.out.symm) HW.out
end Go.Proofs.Ythackmkdicpdeaa
