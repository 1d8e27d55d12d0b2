/- Contracts of abacuslaw4's EqAtoms, Eq. -/
import Derived.Test.YthackmkdicpdeaaSep3
import Derived.Test.YthackmkdicpdeaaShapeCover
import Derived.Test.YthackmkdicpdeaaShapeBegun
namespace Go.Proofs.Ythackmkdicpdeaa
open Go.RowKit Go.Lib
set_option linter.unusedVariables false
set_option linter.unusedSimpArgs false
attribute [local go_sem] alloc_drewN setCell_drewN
set_option maxHeartbeats 800000 in
theorem eqatoms4_any {w : World} {a1 a2 : Option Addr} {n1 c1 n2 c2 : Nat} {s t : List Int} (h1 : Ls w a1 n1 c1 s) (h2 : Ls w a2 n2 c2 t) :
    Calls Try.prog 28 #[.slice a1 n1 c1, .slice a2 n2 c2] w (Ret w (.bool (decide (s = t)))) := by
  have l1 := h1.len
  have l2 := h2.len
  have g1 := h1.big
  obtain ⟨r, HR⟩ : ∃ r, Hid (decide (s = t) = r) := ⟨_, rfl⟩
  rw [HR.out]
  by_cases hst : ¬ n1 = n2
  · have hr : Hid (r = false) := by
      show r = false
      rw [← HR.out]; simp only [decide_eq_false_iff_not]
      rintro rfl; omega
    have hne : ((n1 : Int) != n2) = true := by simp; omega
    have hne' : (n1 != n2) = true := by simp; omega
    clear l1 l2 h1 h2 hst
    go_enter Try.func28, Try.ntmps28
    go_wp2
    go_ret
    exact Ret.mk0 (boolv hr.out.symm)
  have hst' : n1 = n2 := by omega
  subst hst'
  have H1 := Lib.hid h1
  have H2 := Lib.hid h2
  have L1 := Lib.hid l1
  have L2 := Lib.hid l2
  have q1 : ((n1 : Int) != n1) = false := by simp
  clear h1 h2 l1 l2 hst
  go_enter Try.func28, Try.ntmps28
  go_wp2
  clear q1
  go_loopw [5] (fun i wr => ∃ k : Nat, k ≤ n1 ∧ i = .int .i64 k ∧ Hid (∀ j, j < k → s.getD j 0 = t.getD j 0) ∧ ∃ q, wr = w.drewN q) (fun i _ => n1 - (RowKit.intOf i).toNat)
  case atStart => exact ⟨0, Nat.zero_le _, rfl, fun j hj => absurd hj (by omega), 0, rfl⟩
  case round =>
    obtain ⟨k, hk, rfl, hs, q, rfl⟩ := hrel
    by_cases hlt : k < n1
    · have hlt' : (k : Int) < n1 := by omega
      obtain ⟨b1, o1, rfl, hc1⟩ := H1.out.at (by omega)
      obtain ⟨b2, o2, rfl, hc2⟩ := H2.out.at (by omega)
      have d1 := hc1 k hlt
      have d2 := hc2 k hlt
      clear hc1 hc2
      obtain ⟨x, HX⟩ : ∃ x, Hid (s.getD k 0 = x) := ⟨_, rfl⟩
      obtain ⟨y, HY⟩ : ∃ y, Hid (t.getD k 0 = y) := ⟨_, rfl⟩
      rw [HX.out] at d1
      rw [HY.out] at d2
      by_cases hxy : x = y
      · subst hxy
        have hs' : Hid (∀ j, j < k + 1 → s.getD j 0 = t.getD j 0) := by
          intro j hj
          by_cases e : j = k
          · subst e; rw [HX.out, HY.out]
          · exact hs.out j (by omega)
        go_wp2
        go_quiet (fail)
        go_wp2
        go_roundw
        case rel => exact ⟨k + 1, by omega, by go_num, hs', _, rfl⟩
        case measure => simp [RowKit.intOf]; omega
      · have hne : (x != y) = true := by simpa using hxy
        have hr : Hid (r = false) := by
          show r = false
          rw [← HR.out]
          simp only [decide_eq_false_iff_not]
          intro h
          exact hxy (by rw [← HX.out, ← HY.out, h])
        go_wp2
        go_quiet (fail)
        go_wp2
        go_ret
        exact ⟨congrArg Ending.returned (boolv hr.out.symm), _, World.drewN_drewN _ _ _⟩
    · have hr : Hid (r = true) := by
        show r = true
        rw [← HR.out]
        simp only [decide_eq_true_eq]
        exact list_eq_of L1.out L2.out hs.out (by omega)
      have hge : (n1 : Int) ≤ k := by omega
      go_wp2
      go_ret
      exact Ret.mk _ (boolv hr.out.symm)
theorem Ret.below {w w' : World} {v : Value} {e : Ending} (h : Ret w v e w') : e = .returned v ∧ Below w.heap.size w w' := by
  obtain ⟨h1, n, rfl⟩ := h; exact ⟨h1, adrew _ _⟩
set_option maxRecDepth 100000 in
set_option maxHeartbeats 1600000 in
theorem eq4_any {w : World} {A B : Ar} (hA : A.Is w) (hB : B.Is w) : Calls Try.prog 30 #[A.v, B.v] w (RetB w (.bool (decide (A.s = B.s ∧ A.a = B.a)))) := by
  obtain ⟨sa, sn, sc, aa, an, ac, s, a⟩ := A
  obtain ⟨ta, tn, tc, ba, bn, bc, t, b⟩ := B
  simp only [Ar.v]
  obtain ⟨W, HW⟩ : ∃ z, Hid ((w.alloc (.cells #[.slice sa sn sc, .slice aa an ac] 45)).alloc (.cells #[.slice ta tn tc, .slice ba bn bc] 45) = z) := ⟨_, rfl⟩
  have h1 := ((Sp.start Non w).alloc 45 2 1 #[.slice sa sn sc, .slice aa an ac] rfl (by decide)).alloc 45 2 1 #[.slice ta tn tc, .slice ba bn bc] rfl (by decide)
  rw [HW.out] at h1
  have H1_ := h1
  try simp only [List.cons_append, List.nil_append, List.set_cons_zero, List.set_cons_succ, List.map_cons, List.map_nil, List.getD_cons_zero, List.getD_cons_succ, World.size_alloc] at H1_
  have H1 := Lib.hid H1_
  clear H1_
  have HA := Lib.hid hA
  have HB := Lib.hid hB
  have C1 := Lib.hid (eqints_any (hA.shp.below H1.out.belowN (Nat.le_refl _)) (hB.shp.below H1.out.belowN (Nat.le_refl _)))
  simp only at C1
  obtain ⟨R, HR⟩ : ∃ z, Hid (decide (s = t ∧ a = b) = z) := ⟨_, rfl⟩
  rw [HR.out]
  have x0 := H1.out.cell (i := 0) rfl 0 _ rfl
  have x1 := H1.out.cell (i := 1) rfl 0 _ rfl
  clear hA hB h1
  by_cases hs : s = t
  · have HR2 : Hid (decide (a = b) = R) := by show _ = _; rw [← HR.out]; simp [hs]
    rw [decide_eq_true hs] at C1
    clear hs
    go_enter Try.func30, Try.ntmps30
    go_wp2_with fail
    rw [HW.out]
    refine C1.out.mono ?_; rintro e w2 hr; obtain ⟨rfl, hb2⟩ := hr.below
    have H2_ := H1.out.via hb2
    try simp only [List.cons_append, List.nil_append, List.set_cons_zero, List.set_cons_succ, List.map_cons, List.map_nil, List.getD_cons_zero, List.getD_cons_succ, World.size_alloc] at H2_
    have H2 := Lib.hid H2_
    clear H2_
    clear hr hb2 x0 x1
    have x0 := H2.out.cell (i := 0) rfl 1 _ rfl
    have x1 := H2.out.cell (i := 1) rfl 1 _ rfl
    have C2 := Lib.hid (eqatoms4_any (HA.out.ats.below H2.out.belowN (Nat.le_refl _)) (HB.out.ats.below H2.out.belowN (Nat.le_refl _)))
    simp only at C2
    rw [HR2.out] at C2
    go_wp2_with fail
    refine C2.out.mono ?_; rintro e w3 hr; obtain ⟨rfl, hb3⟩ := hr.below
    have HF := Lib.hid (RetB.mk (v := .bool R) (v' := .bool R) rfl (H2.out.via hb3).belowN)
    clear hr hb3
    go_wp2
    go_ret
    exact HF.out
  · have hR : R = false := by rw [← HR.out]; simp [hs]
    rw [decide_eq_false hs] at C1
    subst hR
    clear hs
    go_enter Try.func30, Try.ntmps30
    go_wp2_with fail
    rw [HW.out]
    refine C1.out.mono ?_; rintro e w2 hr; obtain ⟨rfl, hb2⟩ := hr.below
    have HF := Lib.hid (RetB.mk (v := .bool false) (v' := .bool false) rfl (H1.out.via hb2).belowN)
    clear hr hb2
    go_wp2
    go_ret
    exact HF.out
end Go.Proofs.Ythackmkdicpdeaa
