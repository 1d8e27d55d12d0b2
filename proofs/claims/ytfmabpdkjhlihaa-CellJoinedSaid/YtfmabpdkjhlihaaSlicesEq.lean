/- Contracts of slices.Equal at int and int64. -/
import Derived.Test.YtfmabpdkjhlihaaMem
namespace Go.Proofs.Ytfmabpdkjhlihaa
open Go.RowKit
set_option linter.unusedVariables false
set_option linter.unusedSimpArgs false

theorem list_eq_of {xs ys : List Int} {n k : Nat} (hx : xs.length = n) (hy : ys.length = n) (h : ∀ i, i < k → xs.getD i 0 = ys.getD i 0) (hk : n ≤ k) : xs = ys := by
  apply List.ext_getElem (by omega)
  intro i h1 h2
  have := h i (by omega)
  simpa [List.getD, h1, h2] using this
set_option maxHeartbeats 800000 in
theorem equal_any {w : World} {a1 a2 : Option Addr} {n1 c1 n2 c2 : Nat} {xs ys : List Int} (h1 : Ls w a1 n1 c1 xs) (h2 : Ls w a2 n2 c2 ys) :
    Calls Try.prog 82 #[.slice a1 n1 c1, .slice a2 n2 c2] w (Ret w (.bool (decide (xs = ys)))) := by
  have l1 := h1.len
  have l2 := h2.len
  have g1 := h1.big
  have g2 := h2.big
  by_cases hn : n1 = n2
  · subst hn
    have HL1 := Lib.hid l1
    have HL2 := Lib.hid l2
    have hd : decide (n1 = n1) = true := by simp
    have he : ((n1 : Int) != n1) = false := by simp
    have H1 := Lib.hid h1
    have H2 := Lib.hid h2
    clear h1 h2 l1 l2 hd
    obtain ⟨r, HR⟩ : ∃ r, Hid (decide (xs = ys) = r) := ⟨_, rfl⟩
    rw [HR.out]
    go_enter Try.func82, Try.ntmps82
    go_wp2
    go_loopw [13] (fun i wr => ∃ k : Nat, k ≤ n1 ∧ i = .int .i64 k ∧ Hid (∀ j, j < k → xs.getD j 0 = ys.getD j 0) ∧ ∃ q, wr = w.drewN q) (fun i _ => n1 - (intOf i).toNat)
    case atStart => exact ⟨0, Nat.zero_le _, rfl, fun j hj => absurd hj (by omega), 0, rfl⟩
    case round =>
      obtain ⟨k, hk, rfl, hs, q, rfl⟩ := hrel
      by_cases hlt : k < n1
      · have hlt' : (k : Int) < n1 := by omega
        obtain ⟨b1, o1, rfl, hc1⟩ := H1.out.at (by omega)
        obtain ⟨b2, o2, rfl, hc2⟩ := H2.out.at (by omega)
        have d1 := hc1 k hlt
        have d2 := hc2 k hlt
        clear hc1 hc2
        obtain ⟨x, HX⟩ : ∃ x, Hid (xs.getD k 0 = x) := ⟨_, rfl⟩
        obtain ⟨y, HY⟩ : ∃ y, Hid (ys.getD k 0 = y) := ⟨_, rfl⟩
        rw [HX.out] at d1
        rw [HY.out] at d2
        by_cases hxy : x = y
        · subst hxy
          have hs' : Hid (∀ j, j < k + 1 → xs.getD j 0 = ys.getD j 0) := by
            intro j hj
            by_cases e : j = k
            · subst e; rw [HX.out, HY.out]
            · exact hs.out j (by omega)
          go_wp2
          go_quiet (fail)
          go_wp2
          go_roundw
          case rel => exact ⟨k + 1, by omega, by go_num, hs', _, rfl⟩
          case measure => simp [intOf]; omega
        · have hne : (x != y) = true := by simpa using hxy
          have hr : Hid (r = false) := by
            show r = false
            rw [← HR.out]
            simp only [decide_eq_false_iff_not]
            intro h
            exact hxy (by rw [← HX.out, ← HY.out, h])
          go_wp2
          go_quiet (fail)
          go_wp2
          go_ret
          exact Ret.via rfl _ (boolv hr.out.symm)
      · have hr : Hid (r = true) := by
          show r = true
          rw [← HR.out]
          simp only [decide_eq_true_eq]
          exact list_eq_of HL1.out HL2.out hs.out (by omega)
        have hge : (n1 : Int) ≤ k := by omega
        go_wp2
        go_ret
        exact Ret.mk _ (boolv hr.out.symm)
  · have hr : decide (xs = ys) = false := by simp; intro h; subst h; omega
    rw [hr]
    have hne : ((n1 : Int) != n2) = true := by simp; omega
    have hne' : (n1 != n2) = true := by simp; omega
    clear hr h1 h2 l1 l2
    go_enter Try.func82, Try.ntmps82
    go_wp2
    go_ret
    exact Ret.mk0 rfl
end Go.Proofs.Ytfmabpdkjhlihaa
