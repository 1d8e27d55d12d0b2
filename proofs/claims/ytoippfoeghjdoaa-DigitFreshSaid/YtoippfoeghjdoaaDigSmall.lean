/- Contracts of digit's small functions: Has, mine, size, and of slices.ContainsFunc at []int64. -/
import Derived.Test.YtoippfoeghjdoaaNumDiv
import Derived.Test.YtoippfoeghjdoaaArrMay
import Derived.Test.YtoippfoeghjdoaaSep3
namespace Go.Proofs.Ytoippfoeghjdoaa
open Go.RowKit Go.Lib
set_option linter.unusedVariables false
set_option linter.unusedSimpArgs false
attribute [local go_sem] alloc_drewN setCell_drewN
/-- Which valences a verb of layer 8 has. -/
def dHas (op v : Int) : Bool := if op = 34 ∨ op = 43 then decide (v = 1) else if op = 22 then decide (v = 2) else if op = 39 ∨ op = 40 then decide (v = 1 ∨ v = 2) else false
def dMine (op : Int) : Bool := decide (op = 34 ∨ op = 43 ∨ op = 22 ∨ op = 39 ∨ op = 40)
theorem dMine_eq (op : Int) : (dHas op 1 || dHas op 2) = dMine op := by
  unfold dHas dMine
  by_cases h1 : op = 34 ∨ op = 43
  · rcases h1 with rfl | rfl <;> simp
  · by_cases h2 : op = 22
    · subst h2; simp
    · by_cases h3 : op = 39 ∨ op = 40
      · rcases h3 with rfl | rfl <;> simp
      · rw [if_neg h1, if_neg h1, if_neg h2, if_neg h2, if_neg h3, if_neg h3]
        symm
        simp only [Bool.or_false, decide_eq_false_iff_not]
        omega
set_option maxHeartbeats 400000 in
theorem dhas_any (op v : Int) (w : World) : Calls Try.prog 26 #[.int .i64 op, .int .i64 v] w (RetS w (.bool (dHas op v))) := by
  have q1 : (v == 1) = decide (v = 1) := by by_cases h : v = 1 <;> simp [h]
  have q2 : (v == 2) = decide (v = 2) := by by_cases h : v = 2 <;> simp [h]
  by_cases h1 : op = 34
  · subst h1
    have HF : Hid (dHas 34 v = (v == 1)) := by show _ = _; rw [q1]; simp [dHas]
    rw [HF.out]
    go_enter Try.func26, Try.ntmps26
    go_wp2
    go_ret
    exact RetS.mk rfl
  by_cases h2 : op = 43
  · subst h2
    have HF : Hid (dHas 43 v = (v == 1)) := by show _ = _; rw [q1]; simp [dHas]
    rw [HF.out]
    go_enter Try.func26, Try.ntmps26
    go_wp2
    go_ret
    exact RetS.mk rfl
  by_cases h3 : op = 22
  · subst h3
    have HF : Hid (dHas 22 v = (v == 2)) := by show _ = _; rw [q2]; simp [dHas]
    rw [HF.out]
    go_enter Try.func26, Try.ntmps26
    go_wp2
    go_ret
    exact RetS.mk rfl
  by_cases h4 : op = 39 ∨ op = 40
  · have HF : Hid (dHas op v = decide (v = 1 ∨ v = 2)) := by show _ = _; rcases h4 with rfl | rfl <;> simp [dHas]
    rw [HF.out]
    rcases h4 with rfl | rfl
    all_goals
      by_cases hv : v = 1
      · subst hv
        go_enter Try.func26, Try.ntmps26
        go_wp2
        go_ret
        exact RetS.mk (boolv (by simp))
      · have e1 : (v == 1) = false := by simpa using hv
        have HG : Hid ((v == 2) = decide (v = 1 ∨ v = 2)) := by show _ = _; rw [q2]; simp [hv]
        clear q1 q2 HF
        go_enter Try.func26, Try.ntmps26
        go_wp2
        go_ret
        exact RetS.mk (boolv HG.out)
  · have HF : Hid (dHas op v = false) := by show _ = _; unfold dHas; rw [if_neg (by omega), if_neg h3, if_neg h4]
    rw [HF.out]
    have e1 : (op == 34) = false := by simpa using h1
    have e2 : (op == 43) = false := by simpa using h2
    have e3 : (op == 22) = false := by simpa using h3
    have e4 : (op == 39) = false := by simp; omega
    have e5 : (op == 40) = false := by simp; omega
    clear h1 h2 h3 h4 q1 q2
    go_enter Try.func26, Try.ntmps26
    go_wp2
    go_ret
    exact RetS.mk rfl
set_option maxHeartbeats 400000 in
theorem dmine_any (op : Int) (w : World) : Calls Try.prog 42 #[.int .i64 op] w (RetS w (.bool (dMine op))) := by
  have C1 := Lib.hid (dhas_any op 1 w)
  have C2 := Lib.hid (dhas_any op 2 w)
  have HM := Lib.hid (dMine_eq op)
  obtain ⟨b1, B1⟩ : ∃ z, Hid (dHas op 1 = z) := ⟨_, rfl⟩
  obtain ⟨b2, B2⟩ : ∃ z, Hid (dHas op 2 = z) := ⟨_, rfl⟩
  rw [B1.out] at C1 HM
  rw [B2.out] at C2 HM
  rw [← HM.out]
  cases b1
  · go_enter Try.func42, Try.ntmps42
    go_wp2_with fail
    refine C1.out.mono ?_; rintro e w' ⟨rfl, rfl⟩
    go_wp2_with fail
    refine C2.out.mono ?_; rintro e w' ⟨rfl, rfl⟩
    go_wp2
    go_ret
    exact RetS.mk (boolv (by simp))
  · go_enter Try.func42, Try.ntmps42
    go_wp2_with fail
    refine C1.out.mono ?_; rintro e w' ⟨rfl, rfl⟩
    go_wp2
    go_ret
    exact RetS.mk (boolv (by simp))
set_option maxHeartbeats 400000 in
theorem dsize_any (a : Int) (w : World) (ha : -9223372036854775808 ≤ a ∧ a ≤ 9223372036854775807) :
    Calls Try.prog 63 #[.int .i64 a] w (RetS w (.int .u64 (a.natAbs : Int))) := by
  by_cases h : a < 0
  · have HW := Lib.hid (whole_neg ha h)
    clear ha
    go_enter Try.func63, Try.ntmps63
    go_wp2
    go_ret
    exact RetS.mk (one_ HW.out)
  · have HW := Lib.hid (whole_pos ha (by omega))
    clear ha
    go_enter Try.func63, Try.ntmps63
    go_wp2
    go_ret
    exact RetS.mk (one_ HW.out)
set_option maxHeartbeats 400000 in
theorem indexneg_w {w : World} {ao : Option Addr} {n c : Nat} {s : List Int} (h : Ls w ao n c s) (fv : Value) (hfv : fv = .func (.func 67) #[] #[]) :
    Calls Try.prog 95 #[.slice ao n c, fv] w (NegAt w s) := by
  subst hfv
  have l1 := Lib.hid h.len
  have g1 := h.big
  have H := Lib.hid h
  clear h
  go_enter Try.func95, Try.ntmps95
  go_wp2
  go_loop [8] (fun i => ∃ k : Nat, k ≤ n ∧ i = .int .i64 k ∧ Hid (∀ j, j < k → 0 ≤ s.getD j 0)) (fun i => n - (RowKit.intOf i).toNat)
  case atStart => exact ⟨0, Nat.zero_le _, rfl, fun j hj => absurd hj (by omega)⟩
  case round =>
    obtain ⟨k, hk, rfl, hs⟩ := hrel
    by_cases hlt : k < n
    · have hlt' : (k : Int) < n := by omega
      obtain ⟨b1, o1, rfl, hc1⟩ := H.out.at (by omega)
      have d1 := hc1 k hlt
      clear hc1
      obtain ⟨x, HX⟩ : ∃ x, Hid (s.getD k 0 = x) := ⟨_, rfl⟩
      rw [HX.out] at d1
      by_cases hx : x < 0
      · have HF : Hid ((0 ≤ (k : Int)) = (s.any (fun k => decide (k < 0)) = true)) := by
          show _ = _
          apply propext
          exact ⟨fun _ => any_neg_iff.2 ⟨k, by rw [l1.out]; exact hlt, by rw [HX.out]; exact hx⟩, fun _ => by omega⟩
        have hd := decide_eq_true hx
        go_wp2
        go_ret
        exact ⟨(k : Int), by omega, HF, RetS.mk rfl⟩
      · have hs' : Hid (∀ j, j < k + 1 → 0 ≤ s.getD j 0) := by
          intro j hj
          by_cases e : j = k
          · subst e; rw [HX.out]; omega
          · exact hs.out j (by omega)
        have hd := decide_eq_false hx
        go_wp2
        go_round
        case rel => exact ⟨k + 1, by omega, by go_num, hs'⟩
        case measure => simp [RowKit.intOf]; omega
    · have hge : (n : Int) ≤ k := by omega
      have HF : Hid ((0 ≤ (-1 : Int)) = (s.any (fun k => decide (k < 0)) = true)) := by
        show _ = _
        apply propext
        refine ⟨fun h => absurd h (by omega), fun h => ?_⟩
        obtain ⟨i, hi, h2⟩ := any_neg_iff.1 h
        have := hs.out i (by have := l1.out; omega)
        omega
      go_wp2
      go_ret
      exact ⟨-1, by omega, HF, RetS.mk rfl⟩
set_option maxHeartbeats 400000 in
theorem containsneg_w {w : World} {ao : Option Addr} {n c : Nat} {s : List Int} (h : Ls w ao n c s) :
    Calls Try.prog 66 #[.slice ao n c, .func (.func 67) #[] #[]] w (RetS w (.bool (s.any (fun k => decide (k < 0))))) := by
  have A := Lib.hid (indexneg_w h _ rfl)
  clear h
  go_enter Try.func66, Try.ntmps66
  go_wp2_with fail
  refine A.out.mono ?_; rintro e w' ⟨r, hr, HF, rfl, rfl⟩
  have HD : Hid (decide (0 ≤ r) = s.any (fun k => decide (k < 0))) := by
    show _ = _
    have := HF.out
    cases h : s.any (fun k => decide (k < 0))
    · rw [h] at this; simpa using this
    · rw [h] at this; simpa using this
  go_wp2
  go_ret
  exact RetS.mk (boolv HD.out)
set_option maxHeartbeats 400000 in
theorem indexneg_c {w : World} {ao : Option Addr} {n c : Nat} {s : List Int} (h : Ls w ao n c s) (fv : Value) (hfv : fv = .func (.func 75) #[] #[]) :
    Calls Try.prog 95 #[.slice ao n c, fv] w (NegAt w s) := by
  subst hfv
  have l1 := Lib.hid h.len
  have g1 := h.big
  have H := Lib.hid h
  clear h
  go_enter Try.func95, Try.ntmps95
  go_wp2
  go_loop [8] (fun i => ∃ k : Nat, k ≤ n ∧ i = .int .i64 k ∧ Hid (∀ j, j < k → 0 ≤ s.getD j 0)) (fun i => n - (RowKit.intOf i).toNat)
  case atStart => exact ⟨0, Nat.zero_le _, rfl, fun j hj => absurd hj (by omega)⟩
  case round =>
    obtain ⟨k, hk, rfl, hs⟩ := hrel
    by_cases hlt : k < n
    · have hlt' : (k : Int) < n := by omega
      obtain ⟨b1, o1, rfl, hc1⟩ := H.out.at (by omega)
      have d1 := hc1 k hlt
      clear hc1
      obtain ⟨x, HX⟩ : ∃ x, Hid (s.getD k 0 = x) := ⟨_, rfl⟩
      rw [HX.out] at d1
      by_cases hx : x < 0
      · have HF : Hid ((0 ≤ (k : Int)) = (s.any (fun k => decide (k < 0)) = true)) := by
          show _ = _
          apply propext
          exact ⟨fun _ => any_neg_iff.2 ⟨k, by rw [l1.out]; exact hlt, by rw [HX.out]; exact hx⟩, fun _ => by omega⟩
        have hd := decide_eq_true hx
        go_wp2
        go_ret
        exact ⟨(k : Int), by omega, HF, RetS.mk rfl⟩
      · have hs' : Hid (∀ j, j < k + 1 → 0 ≤ s.getD j 0) := by
          intro j hj
          by_cases e : j = k
          · subst e; rw [HX.out]; omega
          · exact hs.out j (by omega)
        have hd := decide_eq_false hx
        go_wp2
        go_round
        case rel => exact ⟨k + 1, by omega, by go_num, hs'⟩
        case measure => simp [RowKit.intOf]; omega
    · have hge : (n : Int) ≤ k := by omega
      have HF : Hid ((0 ≤ (-1 : Int)) = (s.any (fun k => decide (k < 0)) = true)) := by
        show _ = _
        apply propext
        refine ⟨fun h => absurd h (by omega), fun h => ?_⟩
        obtain ⟨i, hi, h2⟩ := any_neg_iff.1 h
        have := hs.out i (by have := l1.out; omega)
        omega
      go_wp2
      go_ret
      exact ⟨-1, by omega, HF, RetS.mk rfl⟩
set_option maxHeartbeats 400000 in
theorem containsneg_c {w : World} {ao : Option Addr} {n c : Nat} {s : List Int} (h : Ls w ao n c s) :
    Calls Try.prog 66 #[.slice ao n c, .func (.func 75) #[] #[]] w (RetS w (.bool (s.any (fun k => decide (k < 0))))) := by
  have A := Lib.hid (indexneg_c h _ rfl)
  clear h
  go_enter Try.func66, Try.ntmps66
  go_wp2_with fail
  refine A.out.mono ?_; rintro e w' ⟨r, hr, HF, rfl, rfl⟩
  have HD : Hid (decide (0 ≤ r) = s.any (fun k => decide (k < 0))) := by
    show _ = _
    have := HF.out
    cases h : s.any (fun k => decide (k < 0))
    · rw [h] at this; simpa using this
    · rw [h] at this; simpa using this
  go_wp2
  go_ret
  exact RetS.mk (boolv HD.out)
end Go.Proofs.Ytoippfoeghjdoaa
