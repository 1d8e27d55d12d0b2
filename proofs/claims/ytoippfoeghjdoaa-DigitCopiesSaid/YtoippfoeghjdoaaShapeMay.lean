/- Contracts of shape.May, shape.count, shape.Size. -/
import Derived.Test.YtoippfoeghjdoaaMem
namespace Go.Proofs.Ytoippfoeghjdoaa
open Go.RowKit
set_option linter.unusedVariables false
set_option linter.unusedSimpArgs false

/-- The product of all lengths, a length of 0 counted as 1; the product of all lengths. -/
def pm (s : List Int) : Int := s.foldl (fun n k => n * max k 1) 1
def pr (s : List Int) : Int := s.foldl (fun n k => n * k) 1
/-- What May tells of a shape. -/
def mayE (s : List Int) : Int := if s.any (fun k => decide (k < 0)) then 1 else if 8 < s.length then 17 else if 4096 < pm s then 17 else 0
theorem take_snoc {s : List Int} {k : Nat} (h : k < s.length) : s.take (k + 1) = s.take k ++ [s.getD k 0] := by
  rw [List.take_succ_eq_append_getElem h]; simp [List.getD, List.getElem?_eq_getElem h]
theorem pm_snoc {s : List Int} {k : Nat} (h : k < s.length) : pm (s.take (k + 1)) = pm (s.take k) * max (s.getD k 0) 1 := by
  rw [take_snoc h]; simp [pm]
theorem pr_snoc {s : List Int} {k : Nat} (h : k < s.length) : pr (s.take (k + 1)) = pr (s.take k) * s.getD k 0 := by
  rw [take_snoc h]; simp [pr]
theorem le_mul1 {a b : Int} (ha : 1 ≤ a) (hb : 1 ≤ b) : a ≤ a * b ∧ b ≤ a * b := by
  have h1 : a * 1 ≤ a * b := Int.mul_le_mul_of_nonneg_left hb (by omega)
  have h2 : 1 * b ≤ a * b := Int.mul_le_mul_of_nonneg_right ha (by omega)
  omega
theorem pm_up (s : List Int) (k : Nat) : 1 ≤ pm (s.take k) ∧ pm (s.take k) ≤ pm (s.take (k + 1)) ∧ s.getD k 0 ≤ pm (s.take (k + 1)) := by
  induction k with
  | zero =>
    by_cases h : 0 < s.length
    · rw [pm_snoc h]; simp only [List.take_zero]; have : pm [] = 1 := rfl; rw [this]; omega
    · have : s = [] := List.eq_nil_of_length_eq_zero (by omega)
      subst this; simp [pm]
  | succ k ih =>
    have h1 : 1 ≤ pm (s.take (k + 1)) := by omega
    by_cases h : k + 1 < s.length
    · rw [pm_snoc h]
      have := le_mul1 h1 (show 1 ≤ max (s.getD (k + 1) 0) 1 by omega)
      omega
    · rw [List.take_of_length_le (show s.length ≤ k + 1 + 1 by omega)]
      have e : s.take (k + 1) = s := List.take_of_length_le (by omega)
      rw [e] at h1 ⊢
      have : s.getD (k + 1) 0 = 0 := by simp [List.getD, List.getElem?_eq_none (show s.length ≤ k + 1 by omega)]
      omega
theorem pm_mono (s : List Int) {j k : Nat} (h : j ≤ k) : pm (s.take j) ≤ pm (s.take k) := by
  induction h with
  | refl => omega
  | step _ ih => exact Int.le_trans ih (pm_up s _).2.1
theorem pm_all (s : List Int) (k : Nat) : pm (s.take k) ≤ pm s := by
  by_cases h : k ≤ s.length
  · have := pm_mono s h; rwa [List.take_length] at this
  · rw [List.take_of_length_le (by omega)]; omega
theorem pr_le (s : List Int) (h : ∀ i, 0 ≤ s.getD i 0) (k : Nat) : 0 ≤ pr (s.take k) ∧ pr (s.take k) ≤ pm (s.take k) := by
  induction k with
  | zero => simp [pr, pm]
  | succ k ih =>
    by_cases hk : k < s.length
    · rw [pr_snoc hk, pm_snoc hk]
      have h0 := h k
      refine ⟨Int.mul_nonneg ih.1 h0, Int.mul_le_mul ih.2 (by omega) h0 (by have := (pm_up s k).1; omega)⟩
    · rw [List.take_of_length_le (show s.length ≤ k + 1 by omega)]
      rw [List.take_of_length_le (show s.length ≤ k by omega)] at ih
      exact ih
theorem any_neg_iff {s : List Int} : s.any (fun k => decide (k < 0)) = true ↔ ∃ i, i < s.length ∧ s.getD i 0 < 0 := by
  rw [List.any_eq_true]
  constructor
  · rintro ⟨x, hx, h⟩
    obtain ⟨i, hi, rfl⟩ := List.getElem_of_mem hx
    exact ⟨i, hi, by simpa [List.getD, List.getElem?_eq_getElem hi] using h⟩
  · rintro ⟨i, hi, h⟩
    exact ⟨s[i], List.getElem_mem hi, by simpa [List.getD, List.getElem?_eq_getElem hi] using h⟩
theorem mayE_neg {s : List Int} (h : s.any (fun k => decide (k < 0)) = true) : mayE s = 1 := by simp only [mayE, h, if_true]
theorem mayE_long {s : List Int} (h : s.any (fun k => decide (k < 0)) = false) (h2 : 8 < s.length) : mayE s = 17 := by simp [mayE, h, h2]
theorem mayE_big {s : List Int} (h : s.any (fun k => decide (k < 0)) = false) (h2 : 4096 < pm s) : mayE s = 17 := by simp [mayE, h, h2]
theorem mayE_ok {s : List Int} (h : s.any (fun k => decide (k < 0)) = false) (h1 : ¬ 8 < s.length) (h2 : ¬ 4096 < pm s) : mayE s = 0 := by simp [mayE, h, h1, h2]
theorem mayE_zero {s : List Int} (h : mayE s = 0) : (∀ i, 0 ≤ s.getD i 0) ∧ s.length ≤ 8 ∧ pm s ≤ 4096 := by
  cases hn : s.any (fun k => decide (k < 0))
  · by_cases h1 : 8 < s.length
    · rw [mayE_long hn h1] at h; omega
    · by_cases h2 : 4096 < pm s
      · rw [mayE_big hn h2] at h; omega
      · refine ⟨fun i => ?_, by omega, by omega⟩
        by_cases hi : i < s.length
        · rcases Int.lt_or_le (s.getD i 0) 0 with h3 | h3
          · exact absurd (any_neg_iff.2 ⟨i, hi, h3⟩) (by rw [hn]; simp)
          · exact h3
        · simp [List.getD, List.getElem?_eq_none (show s.length ≤ i by omega)]
  · rw [mayE_neg hn] at h; omega
theorem mayE_cases (s : List Int) : mayE s = 0 ∨ mayE s = 1 ∨ mayE s = 17 := by
  unfold mayE; split
  · simp
  · split
    · simp
    · split <;> simp

def NegAt (w : World) (s : List Int) (e : Ending) (w' : World) : Prop := ∃ r : Int, (r < 9223372036854775807 ∧ -2 < r) ∧ Hid ((0 ≤ r) = (s.any (fun k => decide (k < 0)) = true)) ∧ RetS w (.int .i64 r) e w'
set_option maxHeartbeats 400000 in
theorem indexfunc_any {w : World} {ao : Option Addr} {n c : Nat} {s : List Int} (h : Ls w ao n c s) (fv : Value) (hfv : fv = .func (.func 74) #[] #[]) :
    Calls Try.prog 96 #[.slice ao n c, fv] w (NegAt w s) := by
  subst hfv
  have l1 := Lib.hid h.len
  have g1 := h.big
  have H := Lib.hid h
  clear h
  go_enter Try.func96, Try.ntmps96
  go_wp2
  go_loop [8] (fun i => ∃ k : Nat, k ≤ n ∧ i = .int .i64 k ∧ Hid (∀ j, j < k → 0 ≤ s.getD j 0)) (fun i => n - (intOf i).toNat)
  case atStart => exact ⟨0, Nat.zero_le _, rfl, fun j hj => absurd hj (by omega)⟩
  case round =>
    obtain ⟨k, hk, rfl, hs⟩ := hrel
    by_cases hlt : k < n
    · have hlt' : (k : Int) < n := by omega
      obtain ⟨b1, o1, rfl, hc1⟩ := H.out.at (by omega)
      have d1 := hc1 k hlt
      clear hc1
      obtain ⟨x, HX⟩ : ∃ x, Hid (s.getD k 0 = x) := ⟨_, rfl⟩
      rw [HX.out] at d1
      by_cases hx : x < 0
      · have HF : Hid ((0 ≤ (k : Int)) = (s.any (fun k => decide (k < 0)) = true)) := by
          show _ = _
          apply propext
          exact ⟨fun _ => any_neg_iff.2 ⟨k, by rw [l1.out]; exact hlt, by rw [HX.out]; exact hx⟩, fun _ => by omega⟩
        have hd := decide_eq_true hx
        go_wp2
        go_ret
        exact ⟨(k : Int), by omega, HF, RetS.mk rfl⟩
      · have hs' : Hid (∀ j, j < k + 1 → 0 ≤ s.getD j 0) := by
          intro j hj
          by_cases e : j = k
          · subst e; rw [HX.out]; omega
          · exact hs.out j (by omega)
        have hd := decide_eq_false hx
        go_wp2
        go_round
        case rel => exact ⟨k + 1, by omega, by go_num, hs'⟩
        case measure => simp [intOf]; omega
    · have hge : (n : Int) ≤ k := by omega
      have HF : Hid ((0 ≤ (-1 : Int)) = (s.any (fun k => decide (k < 0)) = true)) := by
        show _ = _
        apply propext
        refine ⟨fun h => absurd h (by omega), fun h => ?_⟩
        obtain ⟨i, hi, h2⟩ := any_neg_iff.1 h
        have := hs.out i (by have := l1.out; omega)
        omega
      go_wp2
      go_ret
      exact ⟨-1, by omega, HF, RetS.mk rfl⟩
set_option maxHeartbeats 400000 in
theorem contains_any {w : World} {ao : Option Addr} {n c : Nat} {s : List Int} (h : Ls w ao n c s) :
    Calls Try.prog 73 #[.slice ao n c, .func (.func 74) #[] #[]] w (RetS w (.bool (s.any (fun k => decide (k < 0))))) := by
  have A := Lib.hid (indexfunc_any h _ rfl)
  clear h
  go_enter Try.func73, Try.ntmps73
  go_wp2_with fail
  refine A.out.mono ?_; rintro e w' ⟨r, hr, HF, rfl, rfl⟩
  have HD : Hid (decide (0 ≤ r) = s.any (fun k => decide (k < 0))) := by
    show _ = _
    have := HF.out
    cases h : s.any (fun k => decide (k < 0))
    · rw [h] at this; simpa using this
    · rw [h] at this; simpa using this
  go_wp2
  go_ret
  exact RetS.mk (boolv HD.out)
set_option maxHeartbeats 400000 in
theorem may_any {w : World} {ao : Option Addr} {n c : Nat} {s : List Int} (h : Ls w ao n c s) :
    Calls Try.prog 48 #[.slice ao n c] w (RetS w (.int .i64 (mayE s))) := by
  have l1 := Lib.hid h.len
  have g1 := h.big
  have H := Lib.hid h
  have A := Lib.hid (contains_any h)
  clear h
  obtain ⟨r, HR⟩ : ∃ r, Hid (mayE s = r) := ⟨_, rfl⟩
  rw [HR.out]
  cases hn : s.any (fun k => decide (k < 0))
  · rw [hn] at A
    by_cases h8 : 8 < n
    · have HF : Hid (r = 17) := by show _ = _; rw [← HR.out]; exact mayE_long hn (by rw [l1.out]; exact h8)
      have h8' : (8 : Int) < n := by omega
      clear hn
      go_enter Try.func48, Try.ntmps48
      go_wp2_with fail
      refine A.out.mono ?_; rintro e w' ⟨rfl, rfl⟩
      go_wp2
      go_ret
      exact RetS.mk (intv HF.out.symm)
    · have HN := Lib.hid hn
      have h8' : (n : Int) ≤ 8 := by omega
      clear hn
      go_enter Try.func48, Try.ntmps48
      go_wp2_with fail
      refine A.out.mono ?_; rintro e w' ⟨rfl, rfl⟩
      go_wp2
      go_loop [3, 13] (fun p i => ∃ (k : Nat) (m : Int), k ≤ n ∧ i = .int .i64 k ∧ p = .int .i64 m ∧ Hid (m = pm (s.take k)) ∧ 1 ≤ m ∧ m ≤ 4096) (fun _ i => n - (intOf i).toNat)
      case atStart => exact ⟨0, 1, Nat.zero_le _, rfl, rfl, rfl, by omega, by omega⟩
      case round =>
        obtain ⟨k, m, hk, rfl, rfl, hm, hm1, hm2⟩ := hrel
        by_cases hlt : k < n
        · have hlt' : (k : Int) < n := by omega
          obtain ⟨b1, o1, rfl, hc1⟩ := H.out.at (by omega)
          have d1 := hc1 k hlt
          clear hc1
          have hu := pm_up s k
          have hall := pm_all s (k + 1)
          have hsn := pm_snoc (s := s) (k := k) (by rw [l1.out]; exact hlt)
          rw [← hm.out] at hsn hu
          obtain ⟨x, HX⟩ : ∃ x, Hid (s.getD k 0 = x) := ⟨_, rfl⟩
          rw [HX.out] at d1 hu hsn
          by_cases hx : 4096 < x
          · have HF : Hid (r = 17) := by show _ = _; rw [← HR.out]; exact mayE_big HN.out (by omega)
            clear hu hall hsn
            go_wp2
            go_ret
            exact RetS.mk (intv HF.out.symm)
          · rcases (show (x < 1 ∧ max x 1 = 1) ∨ (1 ≤ x ∧ max x 1 = x) by omega) with ⟨q, e⟩ | ⟨q, e⟩
            · have hm' : Hid (m = pm (s.take (k + 1))) := by show _ = _; rw [hsn, e]; omega
              clear hu hall hsn e
              go_wp2
              go_round
              case rel => exact ⟨k + 1, m, by omega, by go_num, by go_num, hm', by omega, by omega⟩
              case measure => simp [intOf]; omega
            · obtain ⟨y, HY⟩ : ∃ y, Hid (m * x = y) := ⟨_, rfl⟩
              have hyb : y ≤ 16777216 ∧ 1 ≤ y := by
                have h1 : m * x ≤ 4096 * 4096 := Int.mul_le_mul hm2 (by omega) (by omega) (by omega)
                have h2 := le_mul1 hm1 q
                rw [HY.out] at h1 h2
                omega
              have hw : wrap64 (m * x) = y := by rw [HY.out]; exact IntWalk.wrap64_in _ (by omega)
              rw [e, HY.out] at hsn
              clear e
              by_cases hy : 4096 < y
              · have HF : Hid (r = 17) := by show _ = _; rw [← HR.out]; exact mayE_big HN.out (by omega)
                clear hu hall hsn
                go_wp2
                go_ret
                exact RetS.mk (intv HF.out.symm)
              · have hm' : Hid (y = pm (s.take (k + 1))) := hsn.symm
                clear hu hall hsn
                go_wp2
                go_round
                case rel => exact ⟨k + 1, y, by omega, by go_num, intv hw, hm', by omega, by omega⟩
                case measure => simp [intOf]; omega
        · have hge : (n : Int) ≤ k := by omega
          have HF : Hid (r = 0) := by
            show _ = _
            rw [← HR.out]
            have e : s.take k = s := List.take_of_length_le (by rw [l1.out]; omega)
            have h1 := hm.out
            rw [e] at h1
            exact mayE_ok HN.out (by rw [l1.out]; omega) (by omega)
          go_wp2
          go_ret
          exact RetS.mk (intv HF.out.symm)
  · rw [hn] at A
    have HF : Hid (r = 1) := by show _ = _; rw [← HR.out]; exact mayE_neg hn
    clear hn
    go_enter Try.func48, Try.ntmps48
    go_wp2_with fail
    refine A.out.mono ?_; rintro e w' ⟨rfl, rfl⟩
    go_wp2
    go_ret
    exact RetS.mk (intv HF.out.symm)
set_option maxHeartbeats 400000 in
theorem count_any {w : World} {ao : Option Addr} {n c : Nat} {s : List Int} (h : Ls w ao n c s) (hm : mayE s = 0) :
    Calls Try.prog 49 #[.slice ao n c] w (RetS w (.int .i64 (pr s))) := by
  have l1 := Lib.hid h.len
  have g1 := h.big
  have H := Lib.hid h
  obtain ⟨m1, m2, m3⟩ := mayE_zero hm
  have M1 := Lib.hid m1
  have M3 := Lib.hid m3
  clear h m1 m2 m3 hm
  obtain ⟨r, HR⟩ : ∃ r, Hid (pr s = r) := ⟨_, rfl⟩
  rw [HR.out]
  go_enter Try.func49, Try.ntmps49
  go_wp2
  go_loop [3, 8] (fun p i => ∃ (k : Nat) (m : Int), k ≤ n ∧ i = .int .i64 k ∧ p = .int .i64 m ∧ Hid (m = pr (s.take k)) ∧ 0 ≤ m ∧ m ≤ 4096) (fun _ i => n - (intOf i).toNat)
  case atStart => exact ⟨0, 1, Nat.zero_le _, rfl, rfl, rfl, by omega, by omega⟩
  case round =>
    obtain ⟨k, m, hk, rfl, rfl, hm, hm1, hm2⟩ := hrel
    by_cases hlt : k < n
    · have hlt' : (k : Int) < n := by omega
      obtain ⟨b1, o1, rfl, hc1⟩ := H.out.at (by omega)
      have d1 := hc1 k hlt
      clear hc1
      have hu := pr_le s M1.out (k + 1)
      have hall := pm_all s (k + 1)
      have hall2 := M3.out
      have hsn := pr_snoc (s := s) (k := k) (by rw [l1.out]; exact hlt)
      rw [← hm.out] at hsn
      obtain ⟨x, HX⟩ : ∃ x, Hid (s.getD k 0 = x) := ⟨_, rfl⟩
      rw [HX.out] at d1 hsn
      obtain ⟨y, HY⟩ : ∃ y, Hid (m * x = y) := ⟨_, rfl⟩
      have hyb : y ≤ 4096 ∧ 0 ≤ y := by rw [HY.out] at hsn; omega
      have hw : wrap64 (m * x) = y := by rw [HY.out]; exact IntWalk.wrap64_in _ (by omega)
      rw [HY.out] at hsn
      have hm' : Hid (y = pr (s.take (k + 1))) := hsn.symm
      clear hu hall hsn hall2
      go_wp2
      go_round
      case rel => exact ⟨k + 1, y, by omega, by go_num, intv hw, hm', by omega, by omega⟩
      case measure => simp [intOf]; omega
    · have hge : (n : Int) ≤ k := by omega
      have HF : Hid (m = r) := by
        show _ = _
        have e : s.take k = s := List.take_of_length_le (by rw [l1.out]; omega)
        rw [← HR.out, hm.out, e]
      go_wp2
      go_ret
      exact RetS.mk (intv HF.out)
end Go.Proofs.Ytoippfoeghjdoaa
