/- Contract of abacuslaw4's EqAll: slices of arrays compared. -/
import Derived.Test.YthackmkdicpdeaaEq4
import Derived.Deep.RegionLaw
namespace Go.Proofs.Ythackmkdicpdeaa
open Go.RowKit Go.Lib
set_option linter.unusedVariables false
set_option linter.unusedSimpArgs false
attribute [local go_sem] alloc_drewN setCell_drewN
theorem map_eq_iff {As Bs : List Ar} {n : Nat} (h1 : As.length = n) (h2 : Bs.length = n) : (∀ i, i < n → ∀ A B, As[i]? = some A → Bs[i]? = some B → A.s = B.s ∧ A.a = B.a) ↔ As.map Ar.sa2 = Bs.map Ar.sa2 := by
  constructor
  · intro h
    apply List.ext_getElem (by simp [h1, h2])
    intro i q1 q2
    simp only [List.length_map] at q1 q2
    have := h i (by omega) As[i] Bs[i] (List.getElem?_eq_getElem q1) (List.getElem?_eq_getElem q2)
    simp [Ar.sa2, this.1, this.2]
  · intro h i hi A B hA hB
    have e : (As.map Ar.sa2)[i]? = (Bs.map Ar.sa2)[i]? := by rw [h]
    rw [List.getElem?_map, List.getElem?_map, hA, hB] at e
    simp [Ar.sa2] at e
    exact e
set_option maxRecDepth 100000 in
set_option maxHeartbeats 1600000 in
theorem eqall4_any {w : World} {ao bo : Option Addr} {n c m d : Nat} {As Bs : List Ar} (hA : Ars w ao n c As) (hB : Ars w bo m d Bs) : Calls Try.prog 11 #[.slice ao n c, .slice bo m d] w (RetB w (.bool (decide (As.map Ar.sa2 = Bs.map Ar.sa2)))) := by
  have hl1 := hA.len
  have hl2 := hB.len
  have ht := hA.top
  have hc := hA.cap
  unfold maxLen at ht
  obtain ⟨R, HR⟩ : ∃ z, Hid (decide (As.map Ar.sa2 = Bs.map Ar.sa2) = z) := ⟨_, rfl⟩
  rw [HR.out]
  have HA := Lib.hid hA
  have HB := Lib.hid hB
  by_cases hnm : n = m
  · subst hnm
    have HI := Lib.hid (map_eq_iff hl1 hl2)
    have HLL := Lib.hid (And.intro hl1 hl2)
    clear hA hB hl1 hl2
    go_enter Try.func11, Try.ntmps11
    go_wp2_with fail
    go_loopw [5] (fun v wr => ∃ k : Nat, k ≤ n ∧ v = .int .i64 k ∧ Hid ((∀ i, i < k → ∀ A B, As[i]? = some A → Bs[i]? = some B → A.s = B.s ∧ A.a = B.a) ∧ Below w.heap.size w wr)) (fun v _ => n - (RowKit.intOf v).toNat)
    case atStart => exact ⟨0, by omega, rfl, ⟨fun i hi => absurd hi (by omega), Below.refl _ _⟩⟩
    case round =>
      obtain ⟨k, hk, rfl, HO⟩ := hrel
      by_cases hlt : k < n
      · obtain ⟨⟨sa, sn, sc, aa, an, ac, s, a⟩, hAi⟩ : ∃ B, As[k]? = some B := ⟨As[k]'(by have := HLL.out.1; omega), List.getElem?_eq_getElem _⟩
        obtain ⟨⟨ta, tn, tc, ba, bn, bc, t, b⟩, hBi⟩ : ∃ B, Bs[k]? = some B := ⟨Bs[k]'(by have := HLL.out.2; omega), List.getElem?_eq_getElem _⟩
        have hbw : Below w.heap.size w wr.drew := HO.out.2.drew
        obtain ⟨g1, o1, q1, l1, c1⟩ := HA.out.mem (by omega)
        obtain ⟨g2, o2, q2, l2, c2⟩ := HB.out.mem (by omega)
        subst q1 q2
        have a0 : wr.drew.cell? ⟨g1, o1 + k * 2, none⟩ = _ := (hbw.cell (p := ⟨g1, o1 + k * 2, none⟩) l1).trans (c1 k _ hAi).1
        have a1 : wr.drew.cell? ⟨g1, o1 + k * 2 + 1, none⟩ = _ := (hbw.cell (p := ⟨g1, o1 + k * 2 + 1, none⟩) l1).trans (c1 k _ hAi).2
        have b0 : wr.drew.cell? ⟨g2, o2 + k * 2, none⟩ = _ := (hbw.cell (p := ⟨g2, o2 + k * 2, none⟩) l2).trans (c2 k _ hBi).1
        have b1 : wr.drew.cell? ⟨g2, o2 + k * 2 + 1, none⟩ = _ := (hbw.cell (p := ⟨g2, o2 + k * 2 + 1, none⟩) l2).trans (c2 k _ hBi).2
        simp only at a0 a1 b0 b1
        have CE := Lib.hid (eq4_any ((HA.out.all k _ hAi).below hbw (Nat.le_refl _)) ((HB.out.all k _ hBi).below hbw (Nat.le_refl _)))
        simp only [Ar.v] at CE
        have hlt' : (k : Int) < n := by omega
        have HAB := Lib.hid (And.intro hAi hBi)
        have HBW := Lib.hid hbw
        clear hAi hBi hbw c1 c2 l1 l2
        by_cases he : s = t ∧ a = b
        · rw [decide_eq_true he] at CE
          have HN : Hid (∀ i, i < k + 1 → ∀ A B, As[i]? = some A → Bs[i]? = some B → A.s = B.s ∧ A.a = B.a) := by
            intro i hi A B h1 h2
            by_cases e : i = k
            · subst e
              rw [HAB.out.1] at h1
              rw [HAB.out.2] at h2
              cases h1
              cases h2
              exact he
            · exact HO.out.1 i (by omega) A B h1 h2
          clear he
          go_wp2_with fail
          go_region_law (first
            | (go_simp; go_at_call 30; refine CE.out.mono ?_; rintro e w5 ⟨rfl, hb5⟩))
          all_goals
            have HN5 : Hid (Below w.heap.size w w5) := HBW.out.trans (hb5.mono HBW.out.size)
            clear hb5
            go_wp2
            go_roundw
            case rel => exact ⟨k + 1, by omega, by go_num, ⟨HN.out, HN5.out⟩⟩
            case measure => simp [RowKit.intOf]; omega
        · have hR : R = false := by
            rw [← HR.out]
            simp only [decide_eq_false_iff_not]
            intro h
            exact he (HI.out.2 h k hlt _ _ HAB.out.1 HAB.out.2)
          rw [decide_eq_false he] at CE
          subst hR
          clear he
          go_wp2_with fail
          go_region_law (first
            | (go_simp; go_at_call 30; refine CE.out.mono ?_; rintro e w5 ⟨rfl, hb5⟩))
          all_goals
            have HF := Lib.hid (RetB.mk (w := w) (v := .bool false) (v' := .bool false) rfl (HBW.out.trans (hb5.mono HBW.out.size)))
            clear hb5
            go_wp2
            go_ret
            exact HF.out
      · have hge : ¬ ((k : Int) < n) := by omega
        obtain rfl : k = n := by omega
        have hR : R = true := by rw [← HR.out]; exact decide_eq_true (HI.out.1 HO.out.1)
        subst hR
        have HF := Lib.hid (RetB.mk (w := w) (v := .bool true) (v' := .bool true) rfl HO.out.2)
        go_wp2
        go_ret
        exact HF.out
  · have hR : R = false := by
      rw [← HR.out]
      simp only [decide_eq_false_iff_not]
      intro h
      have := congrArg List.length h
      simp [hl1, hl2] at this
      exact hnm this
    subst hR
    have q0 : ((n : Int) != m) = true := by simp; omega
    have q1 : (n != m) = true := by simp; omega
    clear hA hB hl1 hl2 hnm
    go_enter Try.func11, Try.ntmps11
    go_wp2
    go_ret
    exact RetB.mk rfl (Below.refl _ _)
end Go.Proofs.Ythackmkdicpdeaa
