/- Contracts of the document's Place, Rank, Split, Agree (abacusref2). -/
import Derived.Test.YthackmkdicpdeaaShapeBegun
import Derived.Test.YthackmkdicpdeaaShapeCover
import Derived.Test.YthackmkdicpdeaaMerge
namespace Go.Proofs.Ythackmkdicpdeaa
open Go.RowKit Go.Lib
set_option linter.unusedVariables false
set_option linter.unusedSimpArgs false
attribute [local go_sem] alloc_drewN setCell_drewN

set_option maxRecDepth 100000 in
set_option maxHeartbeats 1600000 in
theorem rplace_any {w : World} {a1 a2 : Option Addr} {n1 c1 n2 c2 : Nat} {s t : List Int} (h1 : Ls w a1 n1 c1 s) (h2 : Ls w a2 n2 c2 t) :
    Calls Try.prog 94 #[.slice a1 n1 c1, .slice a2 n2 c2] w (RetB w (.tuple #[.int .i64 (plV s t), .int .i64 (plE s t)])) := by
  have CM := Lib.hid (rmay_any h1)
  obtain ⟨v, HV⟩ : ∃ v, Hid (plV s t = v) := ⟨_, rfl⟩
  obtain ⟨e, HE⟩ : ∃ v, Hid (plE s t = v) := ⟨_, rfl⟩
  rw [HV.out, HE.out]
  by_cases hm : ¬ mayE s = 0
  · obtain rfl : v = 0 := by rw [← HV.out]; simp [plV, hm]
    obtain rfl : e = mayE s := by rw [← HE.out]; simp [plE, hm]
    obtain ⟨e, he⟩ : ∃ v, mayE s = v := ⟨_, rfl⟩
    rw [he] at CM hm ⊢
    have hm' : (e != 0) = true := by simpa using hm
    clear h1 h2 HE HV he hm
    go_enter Try.func94, Try.ntmps94
    go_wp2_with fail
    refine CM.out.mono ?_; rintro e' w' ⟨rfl, rfl⟩
    go_wp2
    go_ret2
    exact RetB.mk rfl (Below.refl _ _)
  have hm : mayE s = 0 := by simpa using hm
  rw [hm] at CM
  have l1 := h1.len
  have l2 := h2.len
  by_cases hl : ¬ t.length = s.length
  · obtain rfl : v = 0 := by rw [← HV.out]; simp [plV, hl]
    obtain rfl : e = 12 := by rw [← HE.out]; simp [plE, hm, hl]
    have hne : ((n2 : Int) != n1) = true := by simp; omega
    have hne' : (n2 != n1) = true := by simp; omega
    clear h1 h2 HE HV hm l1 l2 hl
    go_enter Try.func94, Try.ntmps94
    go_wp2_with fail
    refine CM.out.mono ?_; rintro e' w' ⟨rfl, rfl⟩
    go_wp2
    go_ret2
    exact RetB.mk rfl (Below.refl _ _)
  have hl : t.length = s.length := by simpa using hl
  obtain rfl : n2 = n1 := by omega
  obtain ⟨g1, g2, g3⟩ := mayE_zero hm
  have HG1 := Lib.hid g1
  have HG3 := Lib.hid g3
  have H1 := Lib.hid h1
  have H2 := Lib.hid h2
  have L1 := Lib.hid l1
  have HM := Lib.hid hm
  have HL := Lib.hid hl
  have hb : n2 ≤ 8 := by omega
  have q1 : ((n2 : Int) != n2) = false := by simp
  have q2 : (n2 != n2) = false := by simp
  clear h1 h2 g1 g2 g3 l1 l2 hm hl
  go_enter Try.func94, Try.ntmps94
  go_wp2_with fail
  refine CM.out.mono ?_; rintro e' w' ⟨rfl, hw'⟩
  have hw'' := hw'.symm
  subst hw''
  go_wp2_with fail
  go_loopw [7, 8] (fun p i wr => ∃ (k : Nat) (P : Int), k ≤ n2 ∧ i = .int .i64 k ∧ p = .int .i64 P ∧ Hid (plN s t k = P) ∧ Hid (inR s t k) ∧ Hid (Below w.heap.size w wr)) (fun _ i _ => n2 - (RowKit.intOf i).toNat)
  case atStart => exact ⟨0, 0, Nat.zero_le _, rfl, rfl, rfl, fun i hi => absurd hi (by omega), Below.refl _ _⟩
  case round =>
    obtain ⟨k, P, hk, rfl, rfl, HP, HI, HB⟩ := hrel
    by_cases hlt : k < n2
    · have hlt' : (k : Int) < n2 := by omega
      obtain ⟨b1, o1, rfl, hc1⟩ := (H1.out.via HB.out).at (by omega)
      obtain ⟨b2, o2, rfl, hc2⟩ := (H2.out.via HB.out).at (by omega)
      have d1 := hc1 k hlt
      have d2 := hc2 k hlt
      clear hc1 hc2
      have hr1 := H1.out.rng k
      have hbd := plN_bd HG1.out (k := k) (by rw [L1.out]; omega) HI.out
      have hp1 := pr_le s HG1.out k
      have hp2 := pm_all s k
      have hp3 := pr_le s HG1.out (k + 1)
      have hp4 := pm_all s (k + 1)
      have hp5 := (pm_up s k).2.2
      have hg0 := HG1.out k
      have hbd2 : (t.getD k 0 < s.getD k 0 ∧ 0 ≤ t.getD k 0) → 0 ≤ P * s.getD k 0 ∧ P * s.getD k 0 + t.getD k 0 < pr (s.take (k + 1)) := by
        rintro ⟨h3, h4⟩
        have h := plN_bd HG1.out (k := k + 1) (by rw [L1.out]; omega) (fun i hi => by
          by_cases e : i = k
          · subst e; exact ⟨h4, h3⟩
          · exact HI.out i (by omega))
        simp only [plN, HP.out] at h
        have h5 : 0 ≤ plN s t k * s.getD k 0 := Int.mul_nonneg hbd.1 hg0
        rw [HP.out] at h5
        exact ⟨h5, h.2⟩
      obtain ⟨x, HX⟩ : ∃ x, Hid (s.getD k 0 = x) := ⟨_, rfl⟩
      obtain ⟨y, HY⟩ : ∃ y, Hid (t.getD k 0 = y) := ⟨_, rfl⟩
      rw [HX.out] at d1
      rw [HY.out] at d2
      rw [HX.out, HY.out] at hbd2
      have hg3 := HG3.out
      by_cases hy : 0 ≤ y ∧ y < x
      · obtain ⟨hy1, hy2⟩ := hy
        obtain ⟨hz1, hz2⟩ := hbd2 ⟨hy2, hy1⟩
        have z1 : IntKind.i64.wrap (P * x) = P * x := IntWalk.i64_in _ (by omega)
        have z2 : IntKind.i64.wrap (P * x + y) = P * x + y := IntWalk.i64_in _ (by omega)
        have HP2 : Hid (plN s t (k + 1) = P * x + y) := by show _ = _; simp only [plN, HP.out, HX.out, HY.out]
        have HI2 : Hid (inR s t (k + 1)) := fun i hi => by
          by_cases e : i = k
          · subst e; rw [HX.out, HY.out]; exact ⟨hy1, hy2⟩
          · exact HI.out i (by omega)
        have y1 : decide (y < 0) = false := by simpa using hy1
        have y2 : decide (x ≤ y) = false := by simpa using hy2
        clear hbd hp1 hp2 hp3 hp4 hp5 hg0 hbd2 hg3 hr1 hz1 hz2 hy1 hy2
        go_wp2_with fail
        go_quiet (fail)
        have HB1 : Hid (Below w.heap.size w (wr.drewN nq)) := abvia HB.out (adrew wr nq)
        obtain ⟨W1, hW1⟩ : ∃ z, wr.drewN nq = z := ⟨_, rfl⟩
        have d1' : W1.cell? ⟨b1, o1 + k, none⟩ = some (.int .i64 x) := by rw [← hW1]; exact d1
        have d2' : W1.cell? ⟨b2, o2 + k, none⟩ = some (.int .i64 y) := by rw [← hW1]; exact d2
        rw [hW1] at HB1 ⊢
        clear d1 d2 hW1
        go_wp2_with fail
        go_quiet (fail)
        have HB2 : Hid (Below w.heap.size w (W1.drewN nq)) := abvia HB1.out (adrew W1 nq)
        go_wp2
        go_roundw
        case rel => exact ⟨k + 1, _, by omega, by go_num, rfl, HP2, HI2, HB2⟩
        case measure => simp [RowKit.intOf]; omega
      · have hni : ¬ inR s t s.length := fun h => by
          have h3 := h k (by rw [L1.out]; exact hlt)
          rw [HX.out, HY.out] at h3
          exact hy h3
        obtain rfl : v = 0 := by rw [← HV.out]; simp [plV, hni]
        obtain rfl : e = 13 := by rw [← HE.out]; simp [plE, HM.out, HL.out, hni]
        clear hbd hp1 hp2 hp3 hp4 hp5 hg0 hbd2 hg3 hr1 hni
        by_cases hy0 : y < 0
        · have y1 : decide (y < 0) = true := by simpa using hy0
          clear hy hy0
          go_wp2_with fail
          go_quiet (fail)
          have HB1 : Hid (Below w.heap.size w (wr.drewN nq)) := abvia HB.out (adrew wr nq)
          go_wp2
          go_ret2
          exact RetB.mk rfl HB1.out
        · have hyx : x ≤ y := by omega
          have y1 : decide (y < 0) = false := by simpa using hy0
          have y2 : decide (x ≤ y) = true := by simpa using hyx
          clear hy hy0 hyx
          go_wp2_with fail
          go_quiet (fail)
          have HB1 : Hid (Below w.heap.size w (wr.drewN nq)) := abvia HB.out (adrew wr nq)
          go_wp2
          go_ret2
          exact RetB.mk rfl HB1.out
    · obtain rfl : k = n2 := by omega
      have hge : (k : Int) ≤ k := Int.le_refl _
      have hI := HI.out
      rw [← L1.out] at hI
      have hP := HP.out
      rw [← L1.out] at hP
      obtain rfl : v = P := by rw [← HV.out, ← hP]; simp [plV, HM.out, HL.out, hI]
      obtain rfl : e = 0 := by rw [← HE.out]; simp [plE, HM.out, HL.out, hI]
      clear hI hP
      go_wp2
      go_ret2
      exact RetB.mk rfl HB.out
/-- How many lengths are the cell's. -/
def rkR (k : Nat) (r : Int) : Int := if (k : Int) ≤ r then k else if 0 ≤ r then r else if r < -(k : Int) then 0 else k + r
theorem rkR_sp (k : Nat) (r : Int) : (k : Int) - rkR k r = (spN k r : Nat) := by
  unfold rkR spN
  by_cases h1 : (k : Int) ≤ r
  · rw [if_pos h1, if_neg (show ¬ r < 0 by omega)]; omega
  · rw [if_neg h1]
    by_cases h2 : 0 ≤ r
    · rw [if_pos h2, if_neg (show ¬ r < 0 by omega)]; omega
    · rw [if_neg h2, if_pos (show r < 0 by omega)]
      by_cases h3 : r < -(k : Int)
      · rw [if_pos h3, if_neg (show ¬ -(k : Int) ≤ r by omega)]; omega
      · rw [if_neg h3, if_pos (show -(k : Int) ≤ r by omega)]; omega
set_option maxHeartbeats 800000 in
theorem rrank_any (k : Nat) (hk : k ≤ 17592186044416) (r : Int) (hr : -9223372036854775808 ≤ r ∧ r ≤ 9223372036854775807) (w : World) : Calls Try.prog 95 #[.int .i64 k, .int .i64 r] w (RetS w (.int .i64 (rkR k r))) := by
  have z1 : IntKind.i64.wrap (-(k : Int)) = -(k : Int) := IntWalk.i64_in _ (by omega)
  by_cases h1 : (k : Int) ≤ r
  · rw [show rkR k r = k by simp [rkR, h1]]
    clear hr hk
    go_enter Try.func95, Try.ntmps95
    go_wp2
    go_ret
    exact RetS.mk rfl
  · by_cases h2 : 0 ≤ r
    · rw [show rkR k r = r by simp [rkR, h1, h2]]
      clear hr hk
      go_enter Try.func95, Try.ntmps95
      go_wp2
      go_ret
      exact RetS.mk rfl
    · by_cases h3 : r < -(k : Int)
      · rw [show rkR k r = 0 by simp [rkR, h1, h2, h3]]
        clear hr hk
        go_enter Try.func95, Try.ntmps95
        go_wp2
        go_ret
        exact RetS.mk rfl
      · rw [show rkR k r = k + r by simp [rkR, h1, h2, h3]]
        have z2 : IntKind.i64.wrap ((k : Int) + r) = k + r := IntWalk.i64_in _ (by omega)
        clear hr hk
        go_enter Try.func95, Try.ntmps95
        go_wp2
        go_ret
        exact RetS.mk rfl
theorem grown_below2 {w w' : World} (h : w.grownBy w' none) : Below w.heap.size w w' := ⟨h.os, h.tape, h.output, h.size, fun k hk => h.block k hk (by simp)⟩
set_option maxRecDepth 100000 in
set_option maxHeartbeats 1600000 in
theorem ragree_any {w : World} {a1 a2 : Option Addr} {n1 c1 n2 c2 : Nat} {s t : List Int} (h1 : Ls w a1 n1 c1 s) (h2 : Ls w a2 n2 c2 t) :
    Calls Try.prog 83 #[.slice a1 n1 c1, .slice a2 n2 c2] w (MadeS w (agL s t) (agE s t)) := by
  have hl1 := h1.len
  have hl2 := h2.len
  have g1 := h1.big
  have g2 := h2.big
  have H1 := Lib.hid h1
  have H2 := Lib.hid h2
  obtain ⟨i0, hi0, hz0, hz1, hz2⟩ := info_parts (P := Try.prog) (e := 3) (z := .int .i64 0) (size := 1) (bytes := 8) (by kernel_rfl)
  have HL1 := Lib.hid hl1
  have HL2 := Lib.hid hl2
  clear h1 h2 hl1 hl2
  go_enter Try.func83, Try.ntmps83
  go_wp2_with fail
  go_loopw [6] (fun i wr => ∃ k : Nat, k ≤ n1 ∧ k ≤ n2 ∧ i = .int .i64 k ∧ Hid (∀ j, j < k → s.getD j 0 = t.getD j 0) ∧ Hid (Below w.heap.size w wr)) (fun i _ => n1 - (RowKit.intOf i).toNat)
  case atStart => exact ⟨0, Nat.zero_le _, Nat.zero_le _, rfl, fun j hj => absurd hj (by omega), Below.refl _ _⟩
  case round =>
    obtain ⟨k, hk1, hk2, rfl, HE, HB⟩ := hrel
    have tk : ∀ (x y : List Int) (n : Nat), x.length = n → n ≤ y.length → (∀ j, j < n → x.getD j 0 = y.getD j 0) → y.take n = x := by
      intro x y n hx hy he
      apply List.ext_getElem (by rw [List.length_take]; omega)
      intro j hj1 hj2
      have h := he j (by omega)
      rw [List.getElem_take]
      simp only [List.getD, List.getElem?_eq_getElem hj2, List.getElem?_eq_getElem (show j < y.length by omega), Option.getD_some] at h
      exact h.symm
    have TK := Lib.hid tk
    clear tk
    by_cases hlt1 : k < n1
    · have hlt1' : (k : Int) < n1 := by omega
      by_cases hlt2 : k < n2
      · have hlt2' : (k : Int) < n2 := by omega
        obtain ⟨b1, o1, rfl, hc1⟩ := (H1.out.via HB.out).at (by omega)
        obtain ⟨b2, o2, rfl, hc2⟩ := (H2.out.via HB.out).at (by omega)
        have d1 := hc1 k hlt1
        have d2 := hc2 k hlt2
        clear hc1 hc2
        obtain ⟨x, HX⟩ : ∃ x, Hid (s.getD k 0 = x) := ⟨_, rfl⟩
        obtain ⟨y, HY⟩ : ∃ y, Hid (t.getD k 0 = y) := ⟨_, rfl⟩
        rw [HX.out] at d1
        rw [HY.out] at d2
        by_cases hxy : x = y
        · subst hxy
          have hb : (x != x) = false := by simp
          have HE2 : Hid (∀ j, j < k + 1 → s.getD j 0 = t.getD j 0) := fun j hj => by
            by_cases e : j = k
            · subst e; rw [HX.out, HY.out]
            · exact HE.out j (by omega)
          go_wp2_with fail
          go_quiet (fail)
          have HB1 : Hid (Below w.heap.size w (wr.drewN nq)) := abvia HB.out (adrew wr nq)
          go_wp2
          go_roundw
          case rel => exact ⟨k + 1, by omega, by omega, by go_num, HE2, HB1⟩
          case measure => simp [RowKit.intOf]; omega
        · have hb : (x != y) = true := by simpa using hxy
          have eL : agL s t = [] := by
            unfold agL
            split
            · rw [if_neg]
              intro h
              have := congrArg (fun l => l.getD k 0) h
              simp only [List.getD, List.getElem?_take] at this
              rw [if_pos (by rw [HL1.out]; exact hlt1)] at this
              have h1 := HX.out
              have h2 := HY.out
              simp only [List.getD] at h1 h2
              rw [h1, h2] at this
              exact hxy this.symm
            · rw [if_neg]
              intro h
              have := congrArg (fun l => l.getD k 0) h
              simp only [List.getD, List.getElem?_take] at this
              rw [if_pos (by rw [HL2.out]; exact hlt2)] at this
              have h1 := HX.out
              have h2 := HY.out
              simp only [List.getD] at h1 h2
              rw [h1, h2] at this
              exact hxy this
          have eE : agE s t = 11 := by
            unfold agE
            split
            · rw [if_neg]
              intro h
              have := congrArg (fun l => l.getD k 0) h
              simp only [List.getD, List.getElem?_take] at this
              rw [if_pos (by rw [HL1.out]; exact hlt1)] at this
              have h1 := HX.out
              have h2 := HY.out
              simp only [List.getD] at h1 h2
              rw [h1, h2] at this
              exact hxy this.symm
            · rw [if_neg]
              intro h
              have := congrArg (fun l => l.getD k 0) h
              simp only [List.getD, List.getElem?_take] at this
              rw [if_pos (by rw [HL2.out]; exact hlt2)] at this
              have h1 := HX.out
              have h2 := HY.out
              simp only [List.getD] at h1 h2
              rw [h1, h2] at this
              exact hxy this
          have HF : Hid (∀ q, MadeS w (agL s t) (agE s t) (.returned (.tuple #[.slice none 0 0, .int .i64 11])) (wr.drewN q)) := fun q => by
            rw [eL, eE]; exact MadeS.nil _ (abvia HB.out (adrew wr q))
          clear hxy eL eE
          go_wp2_with fail
          go_quiet (fail)
          go_wp2
          go_ret2
          exact HF.out _
      · obtain rfl : k = n2 := by omega
        have hge2 : (k : Int) ≤ k := Int.le_refl _
        have hf : s.take k = t := TK.out t s k HL2.out (by rw [HL1.out]; omega) (fun j hj => (HE.out j hj).symm)
        have eL : agL s t = s := by unfold agL; rw [HL1.out, HL2.out, if_neg (by omega), if_pos hf]
        have eE : agE s t = 0 := by unfold agE; rw [HL1.out, HL2.out, if_neg (by omega), if_pos hf]
        have hgt : (k : Int) < n1 := hlt1'
        have HLW := Lib.hid (H1.out.via HB.out)
        have hbd : n1 * 8 ≤ 140737488355328 := by omega
        have HEL := Lib.hid (And.intro eL eE)
        clear hf eL eE
        go_wp2_with (at_builtin; refine wpList_append_loc _ rfl _ _ 25 rfl wr.heap.size 3 i0 Try.underlying25 hi0 hz0 hz1 hz2 _ 0 [] rfl (World.ownsRow_nil _ _ _ _) rfl HLW.out (by omega) (Nat.le_refl _) ?_)
        intro bo d w2 ho hg hl hn
        have HF : Hid (MadeS w (agL s t) (agE s t) (.returned (.tuple #[.slice bo n1 d, .int .i64 0])) w2) := by
          rw [HEL.out.1, HEL.out.2]
          exact ⟨_, _, _, rfl, ls_of_own ho H1.out.big H1.out.rng, own_mono ho HB.out.size, abvia HB.out (grown_below2 hg)⟩
        clear ho hg hl hn
        go_wp2
        go_ret2
        exact HF.out
    · obtain rfl : k = n1 := by omega
      have hge1 : (k : Int) ≤ k := Int.le_refl _
      have hng : ¬ (n2 : Int) < k := by omega
      have hf : t.take k = s := TK.out s t k HL1.out (by rw [HL2.out]; omega) (fun j hj => HE.out j hj)
      have eL : agL s t = t := by
        unfold agL
        rw [HL1.out, HL2.out]
        by_cases e : k < n2
        · rw [if_pos e, if_pos hf]
        · have e2 : n2 = k := by omega
          have e3 : t = s := by rw [← hf, List.take_of_length_le (by rw [HL2.out]; omega)]
          rw [if_neg e, if_pos (by rw [e3, List.take_of_length_le (by rw [HL1.out]; omega)]), e3]
      have eE : agE s t = 0 := by
        unfold agE
        rw [HL1.out, HL2.out]
        by_cases e : k < n2
        · rw [if_pos e, if_pos hf]
        · have e2 : n2 = k := by omega
          have e3 : t = s := by rw [← hf, List.take_of_length_le (by rw [HL2.out]; omega)]
          rw [if_neg e, if_pos (by rw [e3, List.take_of_length_le (by rw [HL1.out]; omega)])]
      have HLW := Lib.hid (H2.out.via HB.out)
      have HEL := Lib.hid (And.intro eL eE)
      clear hf eL eE
      go_wp2_with (at_builtin; refine wpList_append_loc _ rfl _ _ 25 rfl wr.heap.size 3 i0 Try.underlying25 hi0 hz0 hz1 hz2 _ 0 [] rfl (World.ownsRow_nil _ _ _ _) rfl HLW.out (by omega) (Nat.le_refl _) ?_)
      intro bo d w2 ho hg hl hn
      have HF : Hid (MadeS w (agL s t) (agE s t) (.returned (.tuple #[.slice bo n2 d, .int .i64 0])) w2) := by
        rw [HEL.out.1, HEL.out.2]
        exact ⟨_, _, _, rfl, ls_of_own ho H2.out.big H2.out.rng, own_mono ho HB.out.size, abvia HB.out (grown_below2 hg)⟩
      clear ho hg hl hn
      go_wp2
      go_ret2
      exact HF.out
end Go.Proofs.Ythackmkdicpdeaa
