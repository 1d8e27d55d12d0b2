/- Contract of abacuslaw8's may. -/
import Derived.Test.YtoippfoeghjdoaaDigLaws
namespace Go.Proofs.Ytoippfoeghjdoaa
open Go.RowKit Go.Lib
set_option linter.unusedVariables false
set_option linter.unusedSimpArgs false
attribute [local go_sem] alloc_drewN setCell_drewN
set_option maxHeartbeats 800000 in
theorem may8_any {w : World} {Y : Ar} (hY : Y.Is w) : Calls Try.prog 25 #[Y.v] w (RetB w (.bool (decide (amE Y.s Y.a = 0)))) := by
  obtain ⟨ta, tn, tc, ba, bn, bc, t, b⟩ := Y
  simp only [Ar.v]
  have H0 := (Sp.start Non w).alloc 38 2 1 #[.slice ta tn tc, .slice ba bn bc] rfl (by decide)
  obtain ⟨W, HW⟩ : ∃ z, Hid (w.alloc (.cells #[.slice ta tn tc, .slice ba bn bc] 38) = z) := ⟨_, rfl⟩
  rw [HW.out] at H0
  obtain ⟨g, HG⟩ : ∃ z, Hid (w.heap.size = z) := ⟨_, rfl⟩
  have H1_ := H0
  try simp only [List.cons_append, List.nil_append, List.set_cons_zero, List.set_cons_succ, List.map_cons, List.map_nil, List.getD_cons_zero, List.getD_cons_succ, World.size_alloc] at H1_
  have H1 := Lib.hid H1_
  clear H1_
  rw [HG.out] at H1
  have C := Lib.hid (size_any (hY.shp.below H1.out.belowN (Nat.le_refl _)))
  simp only at C
  have y0 := H1.out.cell (i := 0) rfl 0 _ rfl
  have y1 := H1.out.cell (i := 0) rfl 1 _ rfl
  have hbl : b.length = bn := hY.ats.len
  have HB := Lib.hid H1.out.belowN
  have HF : Hid (decide (amE t b = 0) = (decide (mayE t = 0) && decide (szE t = bn))) := by
    show _ = _
    unfold amE szE
    by_cases h : mayE t = 0
    · by_cases h2 : pr t = bn
      · simp [h, h2, hbl]
      · simp [h, h2, hbl]
    · simp [h]
  rw [HF.out]
  obtain ⟨m, HM⟩ : ∃ z, Hid (mayE t = z) := ⟨_, rfl⟩
  obtain ⟨sz, HS⟩ : ∃ z, Hid (szE t = z) := ⟨_, rfl⟩
  rw [HM.out, HS.out] at C ⊢
  clear hY H0 H1 hbl HF
  by_cases hm : m = 0
  · have q0 : (m == 0) = true := by simpa using hm
    by_cases h2 : sz = bn
    · have q1 : (sz == (bn : Int)) = true := by simpa using h2
      have e : (decide (m = 0) && decide (sz = (bn : Int))) = true := by simp [hm, h2]
      rw [e]
      clear hm h2
      go_enter Try.func25, Try.ntmps25
      go_wp2_with fail
      rw [HW.out, HG.out]
      refine C.out.mono ?_; rintro e w' ⟨rfl, hw'⟩
      have hw'' := hw'.symm
      subst hw''
      go_wp2
      go_ret
      exact RetB.mk rfl HB.out
    · have q1 : (sz == (bn : Int)) = false := by simpa using h2
      have e : (decide (m = 0) && decide (sz = (bn : Int))) = false := by simp [hm, h2]
      rw [e]
      clear hm h2
      go_enter Try.func25, Try.ntmps25
      go_wp2_with fail
      rw [HW.out, HG.out]
      refine C.out.mono ?_; rintro e w' ⟨rfl, hw'⟩
      have hw'' := hw'.symm
      subst hw''
      go_wp2
      go_ret
      exact RetB.mk rfl HB.out
  · have q0 : (m == 0) = false := by simpa using hm
    have e : (decide (m = 0) && decide (sz = (bn : Int))) = false := by simp [hm]
    rw [e]
    clear hm
    go_enter Try.func25, Try.ntmps25
    go_wp2_with fail
    rw [HW.out, HG.out]
    refine C.out.mono ?_; rintro e w' ⟨rfl, hw'⟩
    have hw'' := hw'.symm
    subst hw''
    go_wp2
    go_ret
    exact RetB.mk rfl HB.out
end Go.Proofs.Ytoippfoeghjdoaa
