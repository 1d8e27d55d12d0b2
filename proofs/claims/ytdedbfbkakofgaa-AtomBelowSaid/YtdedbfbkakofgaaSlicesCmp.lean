/- Contracts of cmp.Compare, cmp.Or, slices.Compare at int and int64. -/
import Derived.Test.YtdedbfbkakofgaaMem
namespace Go.Proofs.Ytdedbfbkakofgaa
open Go.RowKit
set_option linter.unusedVariables false
set_option linter.unusedSimpArgs false

def cmpI (a b : Int) : Int := if a < b then -1 else if b < a then 1 else 0
theorem cmpI_lt {a b : Int} (h : a < b) : cmpI a b = -1 := by simp [cmpI, h]
theorem cmpI_gt {a b : Int} (h : b < a) : cmpI a b = 1 := by simp [cmpI, h]; omega
theorem cmpI_eq (a : Int) : cmpI a a = 0 := by simp [cmpI]
theorem cmpI_zero {a b : Int} : cmpI a b = 0 ↔ a = b := by
  unfold cmpI; split
  · constructor <;> intro h <;> omega
  · split
    · constructor <;> intro h <;> omega
    · constructor <;> intro h <;> omega
def cmpL : List Int → List Int → Int
  | [], [] => 0
  | [], _ :: _ => -1
  | _ :: _, [] => 1
  | x :: xs, y :: ys => if x < y then -1 else if y < x then 1 else cmpL xs ys
theorem cmpL_step {xs ys : List Int} {k : Nat} (h1 : k < xs.length) (h2 : k < ys.length) :
    cmpL (xs.drop k) (ys.drop k) = if xs.getD k 0 < ys.getD k 0 then -1 else if ys.getD k 0 < xs.getD k 0 then 1 else cmpL (xs.drop (k + 1)) (ys.drop (k + 1)) := by
  rw [List.drop_eq_getElem_cons h1, List.drop_eq_getElem_cons h2]
  simp only [List.getD, List.getElem?_eq_getElem h1, List.getElem?_eq_getElem h2, Option.getD_some]
  rfl
theorem cmpL_long {xs ys : List Int} {k : Nat} (h1 : k < xs.length) (h2 : ys.length ≤ k) : cmpL (xs.drop k) (ys.drop k) = 1 := by
  rw [List.drop_eq_getElem_cons h1, List.drop_eq_nil_of_le h2]; rfl
theorem cmpL_end {xs ys : List Int} {k : Nat} (h1 : xs.length ≤ k) : cmpL (xs.drop k) (ys.drop k) = if k < ys.length then -1 else 0 := by
  rw [List.drop_eq_nil_of_le h1]
  by_cases h : k < ys.length
  · rw [if_pos h, List.drop_eq_getElem_cons h]; rfl
  · rw [if_neg h, List.drop_eq_nil_of_le (by omega)]; rfl
set_option maxHeartbeats 400000 in
theorem compare_any (a b : Int) (w : World) : Calls Try.prog 102 #[.int .i64 a, .int .i64 b] w (RetS w (.int .i64 (cmpI a b))) := by
  rcases (show a < b ∨ a = b ∨ b < a by omega) with h | rfl | h
  · rw [cmpI_lt h]
    go_enter Try.func102, Try.ntmps102
    go_wp2
    go_ret
    exact RetS.mk rfl
  · rw [cmpI_eq]
    go_enter Try.func102, Try.ntmps102
    go_wp2
    go_ret
    exact RetS.mk rfl
  · rw [cmpI_gt h]
    go_enter Try.func102, Try.ntmps102
    go_wp2
    go_ret
    exact RetS.mk rfl
set_option maxHeartbeats 400000 in
theorem compare6_any (a b : Int) (w : World) : Calls Try.prog 129 #[.int .i64 a, .int .i64 b] w (RetS w (.int .i64 (cmpI a b))) := by
  rcases (show a < b ∨ a = b ∨ b < a by omega) with h | rfl | h
  · rw [cmpI_lt h]
    go_enter Try.func129, Try.ntmps129
    go_wp2
    go_ret
    exact RetS.mk rfl
  · rw [cmpI_eq]
    go_enter Try.func129, Try.ntmps129
    go_wp2
    go_ret
    exact RetS.mk rfl
  · rw [cmpI_gt h]
    go_enter Try.func129, Try.ntmps129
    go_wp2
    go_ret
    exact RetS.mk rfl
set_option maxHeartbeats 800000 in
theorem scompare_any {w : World} {a1 a2 : Option Addr} {n1 c1 n2 c2 : Nat} {xs ys : List Int} (h1 : Ls w a1 n1 c1 xs) (h2 : Ls w a2 n2 c2 ys) :
    Calls Try.prog 103 #[.slice a1 n1 c1, .slice a2 n2 c2] w (RetS w (.int .i64 (cmpL xs ys))) := by
  have l1 := Lib.hid h1.len
  have l2 := Lib.hid h2.len
  have g1 := h1.big
  have g2 := h2.big
  have H1 := Lib.hid h1
  have H2 := Lib.hid h2
  clear h1 h2
  obtain ⟨r, HR⟩ : ∃ r, Hid (cmpL xs ys = r) := ⟨_, rfl⟩
  rw [HR.out]
  go_enter Try.func103, Try.ntmps103
  go_wp2
  go_loop [11] (fun i => ∃ k : Nat, k ≤ n1 ∧ k ≤ n2 ∧ i = .int .i64 k ∧ Hid (cmpL (xs.drop k) (ys.drop k) = r)) (fun i => n1 - (intOf i).toNat)
  case atStart => exact ⟨0, Nat.zero_le _, Nat.zero_le _, rfl, HR⟩
  case round =>
    obtain ⟨k, hk1, hk2, rfl, hs⟩ := hrel
    by_cases hlt : k < n1
    · have hlt' : (k : Int) < n1 := by omega
      obtain ⟨b1, o1, rfl, hc1⟩ := H1.out.at (by omega)
      have d1 := hc1 k hlt
      clear hc1
      obtain ⟨x, HX⟩ : ∃ x, Hid (xs.getD k 0 = x) := ⟨_, rfl⟩
      rw [HX.out] at d1
      by_cases hge : k < n2
      · have hge' : (k : Int) < n2 := by omega
        obtain ⟨b2, o2, rfl, hc2⟩ := H2.out.at (by omega)
        have d2 := hc2 k hge
        clear hc2
        obtain ⟨y, HY⟩ : ∃ y, Hid (ys.getD k 0 = y) := ⟨_, rfl⟩
        rw [HY.out] at d2
        have hst := cmpL_step (xs := xs) (ys := ys) (k := k) (by rw [l1.out]; exact hlt) (by rw [l2.out]; exact hge)
        rw [hs.out, HX.out, HY.out] at hst
        have HST := Lib.hid hst
        clear hst
        have A := Lib.hid (fun w => compare_any x y w)
        rcases (show x < y ∨ x = y ∨ y < x by omega) with h | rfl | h
        · have HF : Hid (r = -1) := by show _ = _; rw [HST.out, if_pos h]
          rw [cmpI_lt h] at A
          go_wp2_with fail
          refine (A.out _).mono ?_; rintro e w' ⟨rfl, rfl⟩
          go_wp2
          go_ret
          exact RetS.mk (intv HF.out.symm)
        · have HF : Hid (cmpL (xs.drop (k + 1)) (ys.drop (k + 1)) = r) := by show _ = _; rw [HST.out, if_neg (by omega), if_neg (by omega)]
          rw [cmpI_eq] at A
          go_wp2_with fail
          refine (A.out _).mono ?_; rintro e w' ⟨rfl, rfl⟩
          go_wp2
          go_round
          case rel => exact ⟨k + 1, by omega, by omega, by go_num, HF⟩
          case measure => simp [intOf]; omega
        · have HF : Hid (r = 1) := by show _ = _; rw [HST.out, if_neg (by omega), if_pos h]
          rw [cmpI_gt h] at A
          go_wp2_with fail
          refine (A.out _).mono ?_; rintro e w' ⟨rfl, rfl⟩
          go_wp2
          go_ret
          exact RetS.mk (intv HF.out.symm)
      · have hge' : (n2 : Int) ≤ k := by omega
        have HF : Hid (r = 1) := by show _ = _; rw [← hs.out]; exact cmpL_long (by rw [l1.out]; exact hlt) (by rw [l2.out]; omega)
        go_wp2
        go_ret
        exact RetS.mk (intv HF.out.symm)
    · have hkn : k = n1 := by omega
      subst hkn
      have HF : Hid (r = if k < n2 then -1 else 0) := by show _ = _; rw [← hs.out, cmpL_end (by rw [l1.out]; omega), l2.out]
      by_cases hge : k < n2
      · have HF2 : Hid (r = -1) := by show _ = _; rw [HF.out, if_pos hge]
        have hd : decide (k < n2) = true := by simpa using hge
        go_wp2
        go_ret
        exact RetS.mk (intv HF2.out.symm)
      · have HF2 : Hid (r = 0) := by show _ = _; rw [HF.out, if_neg hge]
        have hd : decide (k < n2) = false := by simp; omega
        have hge' : (n2 : Int) ≤ k := by omega
        go_wp2
        go_ret
        exact RetS.mk (intv HF2.out.symm)
set_option maxHeartbeats 800000 in
theorem scompare6_any {w : World} {a1 a2 : Option Addr} {n1 c1 n2 c2 : Nat} {xs ys : List Int} (h1 : Ls w a1 n1 c1 xs) (h2 : Ls w a2 n2 c2 ys) :
    Calls Try.prog 104 #[.slice a1 n1 c1, .slice a2 n2 c2] w (RetS w (.int .i64 (cmpL xs ys))) := by
  have l1 := Lib.hid h1.len
  have l2 := Lib.hid h2.len
  have g1 := h1.big
  have g2 := h2.big
  have H1 := Lib.hid h1
  have H2 := Lib.hid h2
  clear h1 h2
  obtain ⟨r, HR⟩ : ∃ r, Hid (cmpL xs ys = r) := ⟨_, rfl⟩
  rw [HR.out]
  go_enter Try.func104, Try.ntmps104
  go_wp2
  go_loop [11] (fun i => ∃ k : Nat, k ≤ n1 ∧ k ≤ n2 ∧ i = .int .i64 k ∧ Hid (cmpL (xs.drop k) (ys.drop k) = r)) (fun i => n1 - (intOf i).toNat)
  case atStart => exact ⟨0, Nat.zero_le _, Nat.zero_le _, rfl, HR⟩
  case round =>
    obtain ⟨k, hk1, hk2, rfl, hs⟩ := hrel
    by_cases hlt : k < n1
    · have hlt' : (k : Int) < n1 := by omega
      obtain ⟨b1, o1, rfl, hc1⟩ := H1.out.at (by omega)
      have d1 := hc1 k hlt
      clear hc1
      obtain ⟨x, HX⟩ : ∃ x, Hid (xs.getD k 0 = x) := ⟨_, rfl⟩
      rw [HX.out] at d1
      by_cases hge : k < n2
      · have hge' : (k : Int) < n2 := by omega
        obtain ⟨b2, o2, rfl, hc2⟩ := H2.out.at (by omega)
        have d2 := hc2 k hge
        clear hc2
        obtain ⟨y, HY⟩ : ∃ y, Hid (ys.getD k 0 = y) := ⟨_, rfl⟩
        rw [HY.out] at d2
        have hst := cmpL_step (xs := xs) (ys := ys) (k := k) (by rw [l1.out]; exact hlt) (by rw [l2.out]; exact hge)
        rw [hs.out, HX.out, HY.out] at hst
        have HST := Lib.hid hst
        clear hst
        have A := Lib.hid (fun w => compare6_any x y w)
        rcases (show x < y ∨ x = y ∨ y < x by omega) with h | rfl | h
        · have HF : Hid (r = -1) := by show _ = _; rw [HST.out, if_pos h]
          rw [cmpI_lt h] at A
          go_wp2_with fail
          refine (A.out _).mono ?_; rintro e w' ⟨rfl, rfl⟩
          go_wp2
          go_ret
          exact RetS.mk (intv HF.out.symm)
        · have HF : Hid (cmpL (xs.drop (k + 1)) (ys.drop (k + 1)) = r) := by show _ = _; rw [HST.out, if_neg (by omega), if_neg (by omega)]
          rw [cmpI_eq] at A
          go_wp2_with fail
          refine (A.out _).mono ?_; rintro e w' ⟨rfl, rfl⟩
          go_wp2
          go_round
          case rel => exact ⟨k + 1, by omega, by omega, by go_num, HF⟩
          case measure => simp [intOf]; omega
        · have HF : Hid (r = 1) := by show _ = _; rw [HST.out, if_neg (by omega), if_pos h]
          rw [cmpI_gt h] at A
          go_wp2_with fail
          refine (A.out _).mono ?_; rintro e w' ⟨rfl, rfl⟩
          go_wp2
          go_ret
          exact RetS.mk (intv HF.out.symm)
      · have hge' : (n2 : Int) ≤ k := by omega
        have HF : Hid (r = 1) := by show _ = _; rw [← hs.out]; exact cmpL_long (by rw [l1.out]; exact hlt) (by rw [l2.out]; omega)
        go_wp2
        go_ret
        exact RetS.mk (intv HF.out.symm)
    · have hkn : k = n1 := by omega
      subst hkn
      have HF : Hid (r = if k < n2 then -1 else 0) := by show _ = _; rw [← hs.out, cmpL_end (by rw [l1.out]; omega), l2.out]
      by_cases hge : k < n2
      · have HF2 : Hid (r = -1) := by show _ = _; rw [HF.out, if_pos hge]
        have hd : decide (k < n2) = true := by simpa using hge
        go_wp2
        go_ret
        exact RetS.mk (intv HF2.out.symm)
      · have HF2 : Hid (r = 0) := by show _ = _; rw [HF.out, if_neg hge]
        have hd : decide (k < n2) = false := by simp; omega
        have hge' : (n2 : Int) ≤ k := by omega
        go_wp2
        go_ret
        exact RetS.mk (intv HF2.out.symm)
end Go.Proofs.Ytdedbfbkakofgaa
