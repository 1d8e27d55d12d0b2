/- Contracts of abacuslaw2.EqInts, shape.Place. -/
import Derived.Test.YtoippfoeghjdoaaArrFill
namespace Go.Proofs.Ytoippfoeghjdoaa
open Go.RowKit Go.Lib
set_option linter.unusedVariables false
set_option linter.unusedSimpArgs false
attribute [local go_sem] alloc_drewN setCell_drewN

set_option maxHeartbeats 800000 in
theorem eqints_any {w : World} {a1 a2 : Option Addr} {n1 c1 n2 c2 : Nat} {s t : List Int} (h1 : Ls w a1 n1 c1 s) (h2 : Ls w a2 n2 c2 t) :
    Calls Try.prog 34 #[.slice a1 n1 c1, .slice a2 n2 c2] w (Ret w (.bool (decide (s = t)))) := by
  have l1 := h1.len
  have l2 := h2.len
  have g1 := h1.big
  obtain ⟨r, HR⟩ : ∃ r, Hid (decide (s = t) = r) := ⟨_, rfl⟩
  rw [HR.out]
  by_cases hst : ¬ n1 = n2
  · have hr : Hid (r = false) := by
      show r = false
      rw [← HR.out]; simp only [decide_eq_false_iff_not]
      rintro rfl; omega
    have hne : ((n1 : Int) != n2) = true := by simp; omega
    have hne' : (n1 != n2) = true := by simp; omega
    clear l1 l2 h1 h2 hst
    go_enter Try.func34, Try.ntmps34
    go_wp2
    go_ret
    exact Ret.mk0 (boolv hr.out.symm)
  have hst' : n1 = n2 := by omega
  subst hst'
  have H1 := Lib.hid h1
  have H2 := Lib.hid h2
  have L1 := Lib.hid l1
  have L2 := Lib.hid l2
  have q1 : ((n1 : Int) != n1) = false := by simp
  clear h1 h2 l1 l2 hst
  go_enter Try.func34, Try.ntmps34
  go_wp2
  clear q1
  go_loopw [5] (fun i wr => ∃ k : Nat, k ≤ n1 ∧ i = .int .i64 k ∧ Hid (∀ j, j < k → s.getD j 0 = t.getD j 0) ∧ ∃ q, wr = w.drewN q) (fun i _ => n1 - (RowKit.intOf i).toNat)
  case atStart => exact ⟨0, Nat.zero_le _, rfl, fun j hj => absurd hj (by omega), 0, rfl⟩
  case round =>
    obtain ⟨k, hk, rfl, hs, q, rfl⟩ := hrel
    by_cases hlt : k < n1
    · have hlt' : (k : Int) < n1 := by omega
      obtain ⟨b1, o1, rfl, hc1⟩ := H1.out.at (by omega)
      obtain ⟨b2, o2, rfl, hc2⟩ := H2.out.at (by omega)
      have d1 := hc1 k hlt
      have d2 := hc2 k hlt
      clear hc1 hc2
      obtain ⟨x, HX⟩ : ∃ x, Hid (s.getD k 0 = x) := ⟨_, rfl⟩
      obtain ⟨y, HY⟩ : ∃ y, Hid (t.getD k 0 = y) := ⟨_, rfl⟩
      rw [HX.out] at d1
      rw [HY.out] at d2
      by_cases hxy : x = y
      · subst hxy
        have hs' : Hid (∀ j, j < k + 1 → s.getD j 0 = t.getD j 0) := by
          intro j hj
          by_cases e : j = k
          · subst e; rw [HX.out, HY.out]
          · exact hs.out j (by omega)
        go_wp2
        go_quiet (fail)
        go_wp2
        go_roundw
        case rel => exact ⟨k + 1, by omega, by go_num, hs', _, rfl⟩
        case measure => simp [RowKit.intOf]; omega
      · have hne : (x != y) = true := by simpa using hxy
        have hr : Hid (r = false) := by
          show r = false
          rw [← HR.out]
          simp only [decide_eq_false_iff_not]
          intro h
          exact hxy (by rw [← HX.out, ← HY.out, h])
        go_wp2
        go_quiet (fail)
        go_wp2
        go_ret
        exact ⟨congrArg Ending.returned (boolv hr.out.symm), _, World.drewN_drewN _ _ _⟩
    · have hr : Hid (r = true) := by
        show r = true
        rw [← HR.out]
        simp only [decide_eq_true_eq]
        exact list_eq_of L1.out L2.out hs.out (by omega)
      have hge : (n1 : Int) ≤ k := by omega
      go_wp2
      go_ret
      exact Ret.mk _ (boolv hr.out.symm)
/-- The number of the place with the first k indices. -/
def plN (s a : List Int) : Nat → Int
  | 0 => 0
  | k + 1 => plN s a k * s.getD k 0 + a.getD k 0
/-- The first k indices lie in the shape. -/
def inR (s a : List Int) (k : Nat) : Prop := ∀ i, i < k → 0 ≤ a.getD i 0 ∧ a.getD i 0 < s.getD i 0
instance (s a : List Int) (k : Nat) : Decidable (inR s a k) := by unfold inR; infer_instance
theorem plN_bd {s a : List Int} (hs : ∀ i, 0 ≤ s.getD i 0) {k : Nat} (hk : k ≤ s.length) (h : inR s a k) : 0 ≤ plN s a k ∧ plN s a k < pr (s.take k) := by
  induction k with
  | zero => simp [plN, pr]
  | succ k ih =>
    obtain ⟨h1, h2⟩ := ih (by omega) (fun i hi => h i (by omega))
    obtain ⟨h3, h4⟩ := h k (by omega)
    rw [pr_snoc (by omega)]
    simp only [plN]
    have h5 : 0 ≤ plN s a k * s.getD k 0 := Int.mul_nonneg h1 (hs k)
    have h6 : (plN s a k + 1) * s.getD k 0 ≤ pr (s.take k) * s.getD k 0 := Int.mul_le_mul_of_nonneg_right (by omega) (hs k)
    rw [Int.add_mul, Int.one_mul] at h6
    omega
def plV (s a : List Int) : Int := if mayE s = 0 ∧ a.length = s.length ∧ inR s a s.length then plN s a s.length else 0
def plE (s a : List Int) : Int := if mayE s = 0 then if a.length = s.length then if inR s a s.length then 0 else 13 else 12 else mayE s
set_option maxRecDepth 100000 in
set_option maxHeartbeats 800000 in
theorem place_any {w : World} {a1 a2 : Option Addr} {n1 c1 n2 c2 : Nat} {s t : List Int} (h1 : Ls w a1 n1 c1 s) (h2 : Ls w a2 n2 c2 t) :
    Calls Try.prog 65 #[.slice a1 n1 c1, .slice a2 n2 c2] w (RetS w (.tuple #[.int .i64 (plV s t), .int .i64 (plE s t)])) := by
  have CM := Lib.hid (may_any h1)
  obtain ⟨v, HV⟩ : ∃ v, Hid (plV s t = v) := ⟨_, rfl⟩
  obtain ⟨e, HE⟩ : ∃ v, Hid (plE s t = v) := ⟨_, rfl⟩
  rw [HV.out, HE.out]
  by_cases hm : ¬ mayE s = 0
  · obtain rfl : v = 0 := by rw [← HV.out]; simp [plV, hm]
    obtain rfl : e = mayE s := by rw [← HE.out]; simp [plE, hm]
    obtain ⟨e, he⟩ : ∃ v, mayE s = v := ⟨_, rfl⟩
    rw [he] at CM hm ⊢
    have hm' : (e != 0) = true := by simpa using hm
    clear h1 h2 HE HV he hm
    go_enter Try.func65, Try.ntmps65
    go_wp2_with fail
    refine CM.out.mono ?_; rintro e' w' ⟨rfl, rfl⟩
    go_wp2
    go_ret2
    exact RetS.mk rfl
  have hm : mayE s = 0 := by simpa using hm
  rw [hm] at CM
  have l1 := h1.len
  have l2 := h2.len
  by_cases hl : ¬ t.length = s.length
  · obtain rfl : v = 0 := by rw [← HV.out]; simp [plV, hl]
    obtain rfl : e = 12 := by rw [← HE.out]; simp [plE, hm, hl]
    have hne : ((n2 : Int) != n1) = true := by simp; omega
    have hne' : (n2 != n1) = true := by simp; omega
    clear h1 h2 HE HV hm l1 l2 hl
    go_enter Try.func65, Try.ntmps65
    go_wp2_with fail
    refine CM.out.mono ?_; rintro e' w' ⟨rfl, rfl⟩
    go_wp2
    go_ret2
    exact RetS.mk rfl
  have hl : t.length = s.length := by simpa using hl
  obtain rfl : n2 = n1 := by omega
  obtain ⟨g1, g2, g3⟩ := mayE_zero hm
  have HG1 := Lib.hid g1
  have HG3 := Lib.hid g3
  have H1 := Lib.hid h1
  have H2 := Lib.hid h2
  have L1 := Lib.hid l1
  have HM := Lib.hid hm
  have HL := Lib.hid hl
  have hb : n2 ≤ 8 := by omega
  have q1 : ((n2 : Int) != n2) = false := by simp
  have q2 : (n2 != n2) = false := by simp
  clear h1 h2 g1 g2 g3 l1 l2 hm hl
  go_enter Try.func65, Try.ntmps65
  go_wp2_with fail
  refine CM.out.mono ?_; rintro e' w' ⟨rfl, rfl⟩
  go_wp2_with fail
  go_loopw [7, 22] (fun p i wr => ∃ (k : Nat) (P : Int), k ≤ n2 ∧ i = .int .i64 k ∧ p = .int .i64 P ∧ Hid (plN s t k = P) ∧ Hid (inR s t k) ∧ wr = w') (fun _ i _ => n2 - (RowKit.intOf i).toNat)
  case atStart => exact ⟨0, 0, Nat.zero_le _, rfl, rfl, rfl, fun i hi => absurd hi (by omega), rfl⟩
  case round =>
    obtain ⟨k, P, hk, rfl, rfl, HP, HI, hwr⟩ := hrel
    have hwr' := hwr.symm
    subst hwr'
    by_cases hlt : k < n2
    · have hlt' : (k : Int) < n2 := by omega
      obtain ⟨b1, o1, rfl, hc1⟩ := H1.out.at (by omega)
      obtain ⟨b2, o2, rfl, hc2⟩ := H2.out.at (by omega)
      have d1 := hc1 k hlt
      have d2 := hc2 k hlt
      clear hc1 hc2
      have hr1 := H1.out.rng k
      have hbd := plN_bd HG1.out (k := k) (by rw [L1.out]; omega) HI.out
      have hp1 := pr_le s HG1.out k
      have hp2 := pm_all s k
      have hp3 := pr_le s HG1.out (k + 1)
      have hp4 := pm_all s (k + 1)
      have hp5 := (pm_up s k).2.2
      have hg0 := HG1.out k
      have hbd2 : (t.getD k 0 < s.getD k 0 ∧ 0 ≤ t.getD k 0) → 0 ≤ P * s.getD k 0 ∧ P * s.getD k 0 + t.getD k 0 < pr (s.take (k + 1)) := by
        rintro ⟨h3, h4⟩
        have h := plN_bd HG1.out (k := k + 1) (by rw [L1.out]; omega) (fun i hi => by
          by_cases e : i = k
          · subst e; exact ⟨h4, h3⟩
          · exact HI.out i (by omega))
        simp only [plN, HP.out] at h
        have h5 : 0 ≤ plN s t k * s.getD k 0 := Int.mul_nonneg hbd.1 hg0
        rw [HP.out] at h5
        exact ⟨h5, h.2⟩
      obtain ⟨x, HX⟩ : ∃ x, Hid (s.getD k 0 = x) := ⟨_, rfl⟩
      obtain ⟨y, HY⟩ : ∃ y, Hid (t.getD k 0 = y) := ⟨_, rfl⟩
      rw [HX.out] at d1
      rw [HY.out] at d2
      rw [HX.out, HY.out] at hbd2
      have hg3 := HG3.out
      by_cases hy : 0 ≤ y ∧ y < x
      · obtain ⟨hy1, hy2⟩ := hy
        obtain ⟨hz1, hz2⟩ := hbd2 ⟨hy2, hy1⟩
        have z1 : IntKind.i64.wrap (P * x) = P * x := IntWalk.i64_in _ (by omega)
        have z2 : IntKind.i64.wrap (P * x + y) = P * x + y := IntWalk.i64_in _ (by omega)
        have HP2 : Hid (plN s t (k + 1) = P * x + y) := by show _ = _; simp only [plN, HP.out, HX.out, HY.out]
        have HI2 : Hid (inR s t (k + 1)) := fun i hi => by
          by_cases e : i = k
          · subst e; rw [HX.out, HY.out]; exact ⟨hy1, hy2⟩
          · exact HI.out i (by omega)
        have y1 : decide (y < 0) = false := by simpa using hy1
        have y2 : decide (x ≤ y) = false := by simpa using hy2
        clear hbd hp1 hp2 hp3 hp4 hp5 hg0 hbd2 hg3 hr1 hz1 hz2
        go_wp2
        go_roundw
        case rel => exact ⟨k + 1, _, by omega, by go_num, rfl, HP2, HI2, by first | rfl | trivial⟩
        case measure => simp [RowKit.intOf]; omega
      · have hni : ¬ inR s t s.length := fun h => by
          have h3 := h k (by rw [L1.out]; exact hlt)
          rw [HX.out, HY.out] at h3
          exact hy h3
        obtain rfl : v = 0 := by rw [← HV.out]; simp [plV, hni]
        obtain rfl : e = 13 := by rw [← HE.out]; simp [plE, HM.out, HL.out, hni]
        clear hbd hp1 hp2 hp3 hp4 hp5 hg0 hbd2 hg3 hr1 hni
        by_cases hy0 : y < 0
        · go_wp2
          go_ret2
          exact RetS.mk rfl
        · have hyx : x ≤ y := by omega
          go_wp2
          go_ret2
          exact RetS.mk rfl
    · obtain rfl : k = n2 := by omega
      have hge : (k : Int) ≤ k := Int.le_refl _
      have hI := HI.out
      rw [← L1.out] at hI
      have hP := HP.out
      rw [← L1.out] at hP
      obtain rfl : v = P := by rw [← HV.out, ← hP]; simp [plV, HM.out, HL.out, hI]
      obtain rfl : e = 0 := by rw [← HE.out]; simp [plE, HM.out, HL.out, hI]
      clear hI hP
      go_wp2
      go_ret2
      exact RetS.mk rfl
end Go.Proofs.Ytoippfoeghjdoaa
