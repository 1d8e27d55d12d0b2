/- Contracts of the document's Place, Rank, Split, Agree (abacusref2). -/
import Derived.Test.YtoippfoeghjdoaaShapeBegun
import Derived.Test.YtoippfoeghjdoaaShapeCover
import Derived.Test.YtoippfoeghjdoaaMerge
namespace Go.Proofs.Ytoippfoeghjdoaa
open Go.RowKit Go.Lib
set_option linter.unusedVariables false
set_option linter.unusedSimpArgs false
attribute [local go_sem] alloc_drewN setCell_drewN

set_option maxRecDepth 100000 in
set_option maxHeartbeats 1600000 in
theorem rplace_any {w : World} {a1 a2 : Option Addr} {n1 c1 n2 c2 : Nat} {s t : List Int} (h1 : Ls w a1 n1 c1 s) (h2 : Ls w a2 n2 c2 t) :
    Calls Try.prog 85 #[.slice a1 n1 c1, .slice a2 n2 c2] w (RetB w (.tuple #[.int .i64 (plV s t), .int .i64 (plE s t)])) := by
  have CM := Lib.hid (rmay_any h1)
  obtain ⟨v, HV⟩ : ∃ v, Hid (plV s t = v) := ⟨_, rfl⟩
  obtain ⟨e, HE⟩ : ∃ v, Hid (plE s t = v) := ⟨_, rfl⟩
  rw [HV.out, HE.out]
  by_cases hm : ¬ mayE s = 0
  · obtain rfl : v = 0 := by rw [← HV.out]; simp [plV, hm]
    obtain rfl : e = mayE s := by rw [← HE.out]; simp [plE, hm]
    obtain ⟨e, he⟩ : ∃ v, mayE s = v := ⟨_, rfl⟩
    rw [he] at CM hm ⊢
    have hm' : (e != 0) = true := by simpa using hm
    clear h1 h2 HE HV he hm
    go_enter Try.func85, Try.ntmps85
    go_wp2_with fail
    refine CM.out.mono ?_; rintro e' w' ⟨rfl, rfl⟩
    go_wp2
    go_ret2
    exact RetB.mk rfl (Below.refl _ _)
  have hm : mayE s = 0 := by simpa using hm
  rw [hm] at CM
  have l1 := h1.len
  have l2 := h2.len
  by_cases hl : ¬ t.length = s.length
  · obtain rfl : v = 0 := by rw [← HV.out]; simp [plV, hl]
    obtain rfl : e = 12 := by rw [← HE.out]; simp [plE, hm, hl]
    have hne : ((n2 : Int) != n1) = true := by simp; omega
    have hne' : (n2 != n1) = true := by simp; omega
    clear h1 h2 HE HV hm l1 l2 hl
    go_enter Try.func85, Try.ntmps85
    go_wp2_with fail
    refine CM.out.mono ?_; rintro e' w' ⟨rfl, rfl⟩
    go_wp2
    go_ret2
    exact RetB.mk rfl (Below.refl _ _)
  have hl : t.length = s.length := by simpa using hl
  obtain rfl : n2 = n1 := by omega
  obtain ⟨g1, g2, g3⟩ := mayE_zero hm
  have HG1 := Lib.hid g1
  have HG3 := Lib.hid g3
  have H1 := Lib.hid h1
  have H2 := Lib.hid h2
  have L1 := Lib.hid l1
  have HM := Lib.hid hm
  have HL := Lib.hid hl
  have hb : n2 ≤ 8 := by omega
  have q1 : ((n2 : Int) != n2) = false := by simp
  have q2 : (n2 != n2) = false := by simp
  clear h1 h2 g1 g2 g3 l1 l2 hm hl
  go_enter Try.func85, Try.ntmps85
  go_wp2_with fail
  refine CM.out.mono ?_; rintro e' w' ⟨rfl, hw'⟩
  have hw'' := hw'.symm
  subst hw''
  go_wp2_with fail
  go_loopw [7, 8] (fun p i wr => ∃ (k : Nat) (P : Int), k ≤ n2 ∧ i = .int .i64 k ∧ p = .int .i64 P ∧ Hid (plN s t k = P) ∧ Hid (inR s t k) ∧ Hid (Below w.heap.size w wr)) (fun _ i _ => n2 - (RowKit.intOf i).toNat)
  case atStart => exact ⟨0, 0, Nat.zero_le _, rfl, rfl, rfl, fun i hi => absurd hi (by omega), Below.refl _ _⟩
  case round =>
    obtain ⟨k, P, hk, rfl, rfl, HP, HI, HB⟩ := hrel
    by_cases hlt : k < n2
    · have hlt' : (k : Int) < n2 := by omega
      obtain ⟨b1, o1, rfl, hc1⟩ := (H1.out.via HB.out).at (by omega)
      obtain ⟨b2, o2, rfl, hc2⟩ := (H2.out.via HB.out).at (by omega)
      have d1 := hc1 k hlt
      have d2 := hc2 k hlt
      clear hc1 hc2
      have hr1 := H1.out.rng k
      have hbd := plN_bd HG1.out (k := k) (by rw [L1.out]; omega) HI.out
      have hp1 := pr_le s HG1.out k
      have hp2 := pm_all s k
      have hp3 := pr_le s HG1.out (k + 1)
      have hp4 := pm_all s (k + 1)
      have hp5 := (pm_up s k).2.2
      have hg0 := HG1.out k
      have hbd2 : (t.getD k 0 < s.getD k 0 ∧ 0 ≤ t.getD k 0) → 0 ≤ P * s.getD k 0 ∧ P * s.getD k 0 + t.getD k 0 < pr (s.take (k + 1)) := by
        rintro ⟨h3, h4⟩
        have h := plN_bd HG1.out (k := k + 1) (by rw [L1.out]; omega) (fun i hi => by
          by_cases e : i = k
          · subst e; exact ⟨h4, h3⟩
          · exact HI.out i (by omega))
        simp only [plN, HP.out] at h
        have h5 : 0 ≤ plN s t k * s.getD k 0 := Int.mul_nonneg hbd.1 hg0
        rw [HP.out] at h5
        exact ⟨h5, h.2⟩
      obtain ⟨x, HX⟩ : ∃ x, Hid (s.getD k 0 = x) := ⟨_, rfl⟩
      obtain ⟨y, HY⟩ : ∃ y, Hid (t.getD k 0 = y) := ⟨_, rfl⟩
      rw [HX.out] at d1
      rw [HY.out] at d2
      rw [HX.out, HY.out] at hbd2
      have hg3 := HG3.out
      by_cases hy : 0 ≤ y ∧ y < x
      · obtain ⟨hy1, hy2⟩ := hy
        obtain ⟨hz1, hz2⟩ := hbd2 ⟨hy2, hy1⟩
        have z1 : IntKind.i64.wrap (P * x) = P * x := IntWalk.i64_in _ (by omega)
        have z2 : IntKind.i64.wrap (P * x + y) = P * x + y := IntWalk.i64_in _ (by omega)
        have HP2 : Hid (plN s t (k + 1) = P * x + y) := by show _ = _; simp only [plN, HP.out, HX.out, HY.out]
        have HI2 : Hid (inR s t (k + 1)) := fun i hi => by
          by_cases e : i = k
          · subst e; rw [HX.out, HY.out]; exact ⟨hy1, hy2⟩
          · exact HI.out i (by omega)
        have y1 : decide (y < 0) = false := by simpa using hy1
        have y2 : decide (x ≤ y) = false := by simpa using hy2
        clear hbd hp1 hp2 hp3 hp4 hp5 hg0 hbd2 hg3 hr1 hz1 hz2 hy1 hy2
        go_wp2_with fail
        go_quiet (fail)
        have HB1 : Hid (Below w.heap.size w (wr.drewN nq)) := abvia HB.out (adrew wr nq)
        obtain ⟨W1, hW1⟩ : ∃ z, wr.drewN nq = z := ⟨_, rfl⟩
        have d1' : W1.cell? ⟨b1, o1 + k, none⟩ = some (.int .i64 x) := by rw [← hW1]; exact d1
        have d2' : W1.cell? ⟨b2, o2 + k, none⟩ = some (.int .i64 y) := by rw [← hW1]; exact d2
        rw [hW1] at HB1 ⊢
        clear d1 d2 hW1
        go_wp2_with fail
        go_quiet (fail)
        have HB2 : Hid (Below w.heap.size w (W1.drewN nq)) := abvia HB1.out (adrew W1 nq)
        go_wp2
        go_roundw
        case rel => exact ⟨k + 1, _, by omega, by go_num, rfl, HP2, HI2, HB2⟩
        case measure => simp [RowKit.intOf]; omega
      · have hni : ¬ inR s t s.length := fun h => by
          have h3 := h k (by rw [L1.out]; exact hlt)
          rw [HX.out, HY.out] at h3
          exact hy h3
        obtain rfl : v = 0 := by rw [← HV.out]; simp [plV, hni]
        obtain rfl : e = 13 := by rw [← HE.out]; simp [plE, HM.out, HL.out, hni]
        clear hbd hp1 hp2 hp3 hp4 hp5 hg0 hbd2 hg3 hr1 hni
        by_cases hy0 : y < 0
        · have y1 : decide (y < 0) = true := by simpa using hy0
          clear hy hy0
          go_wp2_with fail
          go_quiet (fail)
          have HB1 : Hid (Below w.heap.size w (wr.drewN nq)) := abvia HB.out (adrew wr nq)
          go_wp2
          go_ret2
          exact RetB.mk rfl HB1.out
        · have hyx : x ≤ y := by omega
          have y1 : decide (y < 0) = false := by simpa using hy0
          have y2 : decide (x ≤ y) = true := by simpa using hyx
          clear hy hy0 hyx
          go_wp2_with fail
          go_quiet (fail)
          have HB1 : Hid (Below w.heap.size w (wr.drewN nq)) := abvia HB.out (adrew wr nq)
          go_wp2
          go_ret2
          exact RetB.mk rfl HB1.out
    · obtain rfl : k = n2 := by omega
      have hge : (k : Int) ≤ k := Int.le_refl _
      have hI := HI.out
      rw [← L1.out] at hI
      have hP := HP.out
      rw [← L1.out] at hP
      obtain rfl : v = P := by rw [← HV.out, ← hP]; simp [plV, HM.out, HL.out, hI]
      obtain rfl : e = 0 := by rw [← HE.out]; simp [plE, HM.out, HL.out, hI]
      clear hI hP
      go_wp2
      go_ret2
      exact RetB.mk rfl HB.out
/-- How many lengths are the cell's. -/
def rkR (k : Nat) (r : Int) : Int := if (k : Int) ≤ r then k else if 0 ≤ r then r else if r < -(k : Int) then 0 else k + r
theorem rkR_sp (k : Nat) (r : Int) : (k : Int) - rkR k r = (spN k r : Nat) := by
  unfold rkR spN
  by_cases h1 : (k : Int) ≤ r
  · rw [if_pos h1, if_neg (show ¬ r < 0 by omega)]; omega
  · rw [if_neg h1]
    by_cases h2 : 0 ≤ r
    · rw [if_pos h2, if_neg (show ¬ r < 0 by omega)]; omega
    · rw [if_neg h2, if_pos (show r < 0 by omega)]
      by_cases h3 : r < -(k : Int)
      · rw [if_pos h3, if_neg (show ¬ -(k : Int) ≤ r by omega)]; omega
      · rw [if_neg h3, if_pos (show -(k : Int) ≤ r by omega)]; omega
theorem grown_below2 {w w' : World} (h : w.grownBy w' none) : Below w.heap.size w w' := ⟨h.os, h.tape, h.output, h.size, fun k hk => h.block k hk (by simp)⟩
end Go.Proofs.Ytoippfoeghjdoaa
