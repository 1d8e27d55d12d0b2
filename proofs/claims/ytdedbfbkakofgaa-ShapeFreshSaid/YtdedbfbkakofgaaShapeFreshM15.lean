/- Contracts of the document's Place, Rank, Split, Agree (abacusref2). Contracts of the document's Split, both, Cover (abacusref2). -/
import Derived.Test.YtdedbfbkakofgaaShapeFreshM14
import Derived.Test.YtdedbfbkakofgaaShapeFreshM11
import Derived.Test.YtdedbfbkakofgaaShapeFreshM8
namespace Go.Proofs.Ytdedbfbkakofgaa
open Go.RowKit Go.Lib
set_option linter.unusedVariables false
set_option linter.unusedSimpArgs false
attribute [local go_sem] alloc_drewN setCell_drewN

set_option maxRecDepth 100000 in
set_option maxHeartbeats 1600000 in
theorem rplace_any {w : World} {a1 a2 : Option Addr} {n1 c1 n2 c2 : Nat} {s t : List Int} (h1 : Ls w a1 n1 c1 s) (h2 : Ls w a2 n2 c2 t) :
    Calls Try.prog 54 #[.slice a1 n1 c1, .slice a2 n2 c2] w (RetB w (.tuple #[.int .i64 (plV s t), .int .i64 (plE s t)])) := by
  have CM := Lib.hid (rmay_any h1)
  obtain ⟨v, HV⟩ : ∃ v, Hid (plV s t = v) := ⟨_, rfl⟩
  obtain ⟨e, HE⟩ : ∃ v, Hid (plE s t = v) := ⟨_, rfl⟩
  rw [HV.out, HE.out]
  by_cases hm : ¬ mayE s = 0
  · obtain rfl : v = 0 := by rw [← HV.out]; simp [plV, hm]
    obtain rfl : e = mayE s := by rw [← HE.out]; simp [plE, hm]
    obtain ⟨e, he⟩ : ∃ v, mayE s = v := ⟨_, rfl⟩
    rw [he] at CM hm ⊢
    have hm' : (e != 0) = true := by simpa using hm
    clear h1 h2 HE HV he hm
    go_enter Try.func54, Try.ntmps54
    go_wp2_with fail
    refine CM.out.mono ?_; rintro e' w' ⟨rfl, rfl⟩
    go_wp2
    go_ret2
    exact RetB.mk rfl (Below.refl _ _)
  have hm : mayE s = 0 := by simpa using hm
  rw [hm] at CM
  have l1 := h1.len
  have l2 := h2.len
  by_cases hl : ¬ t.length = s.length
  · obtain rfl : v = 0 := by rw [← HV.out]; simp [plV, hl]
    obtain rfl : e = 12 := by rw [← HE.out]; simp [plE, hm, hl]
    have hne : ((n2 : Int) != n1) = true := by simp; omega
    have hne' : (n2 != n1) = true := by simp; omega
    clear h1 h2 HE HV hm l1 l2 hl
    go_enter Try.func54, Try.ntmps54
    go_wp2_with fail
    refine CM.out.mono ?_; rintro e' w' ⟨rfl, rfl⟩
    go_wp2
    go_ret2
    exact RetB.mk rfl (Below.refl _ _)
  have hl : t.length = s.length := by simpa using hl
  obtain rfl : n2 = n1 := by omega
  obtain ⟨g1, g2, g3⟩ := mayE_zero hm
  have HG1 := Lib.hid g1
  have HG3 := Lib.hid g3
  have H1 := Lib.hid h1
  have H2 := Lib.hid h2
  have L1 := Lib.hid l1
  have HM := Lib.hid hm
  have HL := Lib.hid hl
  have hb : n2 ≤ 8 := by omega
  have q1 : ((n2 : Int) != n2) = false := by simp
  have q2 : (n2 != n2) = false := by simp
  clear h1 h2 g1 g2 g3 l1 l2 hm hl
  go_enter Try.func54, Try.ntmps54
  go_wp2_with fail
  refine CM.out.mono ?_; rintro e' w' ⟨rfl, hw'⟩
  have hw'' := hw'.symm
  subst hw''
  go_wp2_with fail
  go_loopw [7, 8] (fun p i wr => ∃ (k : Nat) (P : Int), k ≤ n2 ∧ i = .int .i64 k ∧ p = .int .i64 P ∧ Hid (plN s t k = P) ∧ Hid (inR s t k) ∧ Hid (Below w.heap.size w wr)) (fun _ i _ => n2 - (RowKit.intOf i).toNat)
  case atStart => exact ⟨0, 0, Nat.zero_le _, rfl, rfl, rfl, fun i hi => absurd hi (by omega), Below.refl _ _⟩
  case round =>
    obtain ⟨k, P, hk, rfl, rfl, HP, HI, HB⟩ := hrel
    by_cases hlt : k < n2
    · have hlt' : (k : Int) < n2 := by omega
      obtain ⟨b1, o1, rfl, hc1⟩ := (H1.out.via HB.out).at (by omega)
      obtain ⟨b2, o2, rfl, hc2⟩ := (H2.out.via HB.out).at (by omega)
      have d1 := hc1 k hlt
      have d2 := hc2 k hlt
      clear hc1 hc2
      have hr1 := H1.out.rng k
      have hbd := plN_bd HG1.out (k := k) (by rw [L1.out]; omega) HI.out
      have hp1 := pr_le s HG1.out k
      have hp2 := pm_all s k
      have hp3 := pr_le s HG1.out (k + 1)
      have hp4 := pm_all s (k + 1)
      have hp5 := (pm_up s k).2.2
      have hg0 := HG1.out k
      have hbd2 : (t.getD k 0 < s.getD k 0 ∧ 0 ≤ t.getD k 0) → 0 ≤ P * s.getD k 0 ∧ P * s.getD k 0 + t.getD k 0 < pr (s.take (k + 1)) := by
        rintro ⟨h3, h4⟩
        have h := plN_bd HG1.out (k := k + 1) (by rw [L1.out]; omega) (fun i hi => by
          by_cases e : i = k
          · subst e; exact ⟨h4, h3⟩
          · exact HI.out i (by omega))
        simp only [plN, HP.out] at h
        have h5 : 0 ≤ plN s t k * s.getD k 0 := Int.mul_nonneg hbd.1 hg0
        rw [HP.out] at h5
        exact ⟨h5, h.2⟩
      obtain ⟨x, HX⟩ : ∃ x, Hid (s.getD k 0 = x) := ⟨_, rfl⟩
      obtain ⟨y, HY⟩ : ∃ y, Hid (t.getD k 0 = y) := ⟨_, rfl⟩
      rw [HX.out] at d1
      rw [HY.out] at d2
      rw [HX.out, HY.out] at hbd2
      have hg3 := HG3.out
      by_cases hy : 0 ≤ y ∧ y < x
      · obtain ⟨hy1, hy2⟩ := hy
        obtain ⟨hz1, hz2⟩ := hbd2 ⟨hy2, hy1⟩
        have z1 : IntKind.i64.wrap (P * x) = P * x := IntWalk.i64_in _ (by omega)
        have z2 : IntKind.i64.wrap (P * x + y) = P * x + y := IntWalk.i64_in _ (by omega)
        have HP2 : Hid (plN s t (k + 1) = P * x + y) := by show _ = _; simp only [plN, HP.out, HX.out, HY.out]
        have HI2 : Hid (inR s t (k + 1)) := fun i hi => by
          by_cases e : i = k
          · subst e; rw [HX.out, HY.out]; exact ⟨hy1, hy2⟩
          · exact HI.out i (by omega)
        have y1 : decide (y < 0) = false := by simpa using hy1
        have y2 : decide (x ≤ y) = false := by simpa using hy2
        clear hbd hp1 hp2 hp3 hp4 hp5 hg0 hbd2 hg3 hr1 hz1 hz2 hy1 hy2
        go_wp2_with fail
        go_quiet (fail)
        have HB1 : Hid (Below w.heap.size w (wr.drewN nq)) := abvia HB.out (adrew wr nq)
        obtain ⟨W1, hW1⟩ : ∃ z, wr.drewN nq = z := ⟨_, rfl⟩
        have d1' : W1.cell? ⟨b1, o1 + k, none⟩ = some (.int .i64 x) := by rw [← hW1]; exact d1
        have d2' : W1.cell? ⟨b2, o2 + k, none⟩ = some (.int .i64 y) := by rw [← hW1]; exact d2
        rw [hW1] at HB1 ⊢
        clear d1 d2 hW1
        go_wp2_with fail
        go_quiet (fail)
        have HB2 : Hid (Below w.heap.size w (W1.drewN nq)) := abvia HB1.out (adrew W1 nq)
        go_wp2
        go_roundw
        case rel => exact ⟨k + 1, _, by omega, by go_num, rfl, HP2, HI2, HB2⟩
        case measure => simp [RowKit.intOf]; omega
      · have hni : ¬ inR s t s.length := fun h => by
          have h3 := h k (by rw [L1.out]; exact hlt)
          rw [HX.out, HY.out] at h3
          exact hy h3
        obtain rfl : v = 0 := by rw [← HV.out]; simp [plV, hni]
        obtain rfl : e = 13 := by rw [← HE.out]; simp [plE, HM.out, HL.out, hni]
        clear hbd hp1 hp2 hp3 hp4 hp5 hg0 hbd2 hg3 hr1 hni
        by_cases hy0 : y < 0
        · have y1 : decide (y < 0) = true := by simpa using hy0
          clear hy hy0
          go_wp2_with fail
          go_quiet (fail)
          have HB1 : Hid (Below w.heap.size w (wr.drewN nq)) := abvia HB.out (adrew wr nq)
          go_wp2
          go_ret2
          exact RetB.mk rfl HB1.out
        · have hyx : x ≤ y := by omega
          have y1 : decide (y < 0) = false := by simpa using hy0
          have y2 : decide (x ≤ y) = true := by simpa using hyx
          clear hy hy0 hyx
          go_wp2_with fail
          go_quiet (fail)
          have HB1 : Hid (Below w.heap.size w (wr.drewN nq)) := abvia HB.out (adrew wr nq)
          go_wp2
          go_ret2
          exact RetB.mk rfl HB1.out
    · obtain rfl : k = n2 := by omega
      have hge : (k : Int) ≤ k := Int.le_refl _
      have hI := HI.out
      rw [← L1.out] at hI
      have hP := HP.out
      rw [← L1.out] at hP
      obtain rfl : v = P := by rw [← HV.out, ← hP]; simp [plV, HM.out, HL.out, hI]
      obtain rfl : e = 0 := by rw [← HE.out]; simp [plE, HM.out, HL.out, hI]
      clear hI hP
      go_wp2
      go_ret2
      exact RetB.mk rfl HB.out
/-- How many lengths are the cell's. -/
def rkR (k : Nat) (r : Int) : Int := if (k : Int) ≤ r then k else if 0 ≤ r then r else if r < -(k : Int) then 0 else k + r
theorem rkR_sp (k : Nat) (r : Int) : (k : Int) - rkR k r = (spN k r : Nat) := by
  unfold rkR spN
  by_cases h1 : (k : Int) ≤ r
  · rw [if_pos h1, if_neg (show ¬ r < 0 by omega)]; omega
  · rw [if_neg h1]
    by_cases h2 : 0 ≤ r
    · rw [if_pos h2, if_neg (show ¬ r < 0 by omega)]; omega
    · rw [if_neg h2, if_pos (show r < 0 by omega)]
      by_cases h3 : r < -(k : Int)
      · rw [if_pos h3, if_neg (show ¬ -(k : Int) ≤ r by omega)]; omega
      · rw [if_neg h3, if_pos (show -(k : Int) ≤ r by omega)]; omega
set_option maxHeartbeats 800000 in
theorem rrank_any (k : Nat) (hk : k ≤ 17592186044416) (r : Int) (hr : -9223372036854775808 ≤ r ∧ r ≤ 9223372036854775807) (w : World) : Calls Try.prog 98 #[.int .i64 k, .int .i64 r] w (RetS w (.int .i64 (rkR k r))) := by
  have z1 : IntKind.i64.wrap (-(k : Int)) = -(k : Int) := IntWalk.i64_in _ (by omega)
  by_cases h1 : (k : Int) ≤ r
  · rw [show rkR k r = k by simp [rkR, h1]]
    clear hr hk
    go_enter Try.func98, Try.ntmps98
    go_wp2
    go_ret
    exact RetS.mk rfl
  · by_cases h2 : 0 ≤ r
    · rw [show rkR k r = r by simp [rkR, h1, h2]]
      clear hr hk
      go_enter Try.func98, Try.ntmps98
      go_wp2
      go_ret
      exact RetS.mk rfl
    · by_cases h3 : r < -(k : Int)
      · rw [show rkR k r = 0 by simp [rkR, h1, h2, h3]]
        clear hr hk
        go_enter Try.func98, Try.ntmps98
        go_wp2
        go_ret
        exact RetS.mk rfl
      · rw [show rkR k r = k + r by simp [rkR, h1, h2, h3]]
        have z2 : IntKind.i64.wrap ((k : Int) + r) = k + r := IntWalk.i64_in _ (by omega)
        clear hr hk
        go_enter Try.func98, Try.ntmps98
        go_wp2
        go_ret
        exact RetS.mk rfl
theorem grown_below2 {w w' : World} (h : w.grownBy w' none) : Below w.heap.size w w' := ⟨h.os, h.tape, h.output, h.size, fun k hk => h.block k hk (by simp)⟩
set_option maxRecDepth 100000 in
set_option maxHeartbeats 1600000 in
theorem ragree_any {w : World} {a1 a2 : Option Addr} {n1 c1 n2 c2 : Nat} {s t : List Int} (h1 : Ls w a1 n1 c1 s) (h2 : Ls w a2 n2 c2 t) :
    Calls Try.prog 57 #[.slice a1 n1 c1, .slice a2 n2 c2] w (MadeS w (agL s t) (agE s t)) := by
  have hl1 := h1.len
  have hl2 := h2.len
  have g1 := h1.big
  have g2 := h2.big
  have H1 := Lib.hid h1
  have H2 := Lib.hid h2
  obtain ⟨i0, hi0, hz0, hz1, hz2⟩ := info_parts (P := Try.prog) (e := 3) (z := .int .i64 0) (size := 1) (bytes := 8) (by kernel_rfl)
  have HL1 := Lib.hid hl1
  have HL2 := Lib.hid hl2
  clear h1 h2 hl1 hl2
  go_enter Try.func57, Try.ntmps57
  go_wp2_with fail
  go_loopw [6] (fun i wr => ∃ k : Nat, k ≤ n1 ∧ k ≤ n2 ∧ i = .int .i64 k ∧ Hid (∀ j, j < k → s.getD j 0 = t.getD j 0) ∧ Hid (Below w.heap.size w wr)) (fun i _ => n1 - (RowKit.intOf i).toNat)
  case atStart => exact ⟨0, Nat.zero_le _, Nat.zero_le _, rfl, fun j hj => absurd hj (by omega), Below.refl _ _⟩
  case round =>
    obtain ⟨k, hk1, hk2, rfl, HE, HB⟩ := hrel
    have tk : ∀ (x y : List Int) (n : Nat), x.length = n → n ≤ y.length → (∀ j, j < n → x.getD j 0 = y.getD j 0) → y.take n = x := by
      intro x y n hx hy he
      apply List.ext_getElem (by rw [List.length_take]; omega)
      intro j hj1 hj2
      have h := he j (by omega)
      rw [List.getElem_take]
      simp only [List.getD, List.getElem?_eq_getElem hj2, List.getElem?_eq_getElem (show j < y.length by omega), Option.getD_some] at h
      exact h.symm
    have TK := Lib.hid tk
    clear tk
    by_cases hlt1 : k < n1
    · have hlt1' : (k : Int) < n1 := by omega
      by_cases hlt2 : k < n2
      · have hlt2' : (k : Int) < n2 := by omega
        obtain ⟨b1, o1, rfl, hc1⟩ := (H1.out.via HB.out).at (by omega)
        obtain ⟨b2, o2, rfl, hc2⟩ := (H2.out.via HB.out).at (by omega)
        have d1 := hc1 k hlt1
        have d2 := hc2 k hlt2
        clear hc1 hc2
        obtain ⟨x, HX⟩ : ∃ x, Hid (s.getD k 0 = x) := ⟨_, rfl⟩
        obtain ⟨y, HY⟩ : ∃ y, Hid (t.getD k 0 = y) := ⟨_, rfl⟩
        rw [HX.out] at d1
        rw [HY.out] at d2
        by_cases hxy : x = y
        · subst hxy
          have hb : (x != x) = false := by simp
          have HE2 : Hid (∀ j, j < k + 1 → s.getD j 0 = t.getD j 0) := fun j hj => by
            by_cases e : j = k
            · subst e; rw [HX.out, HY.out]
            · exact HE.out j (by omega)
          go_wp2_with fail
          go_quiet (fail)
          have HB1 : Hid (Below w.heap.size w (wr.drewN nq)) := abvia HB.out (adrew wr nq)
          go_wp2
          go_roundw
          case rel => exact ⟨k + 1, by omega, by omega, by go_num, HE2, HB1⟩
          case measure => simp [RowKit.intOf]; omega
        · have hb : (x != y) = true := by simpa using hxy
          have eL : agL s t = [] := by
            unfold agL
            split
            · rw [if_neg]
              intro h
              have := congrArg (fun l => l.getD k 0) h
              simp only [List.getD, List.getElem?_take] at this
              rw [if_pos (by rw [HL1.out]; exact hlt1)] at this
              have h1 := HX.out
              have h2 := HY.out
              simp only [List.getD] at h1 h2
              rw [h1, h2] at this
              exact hxy this.symm
            · rw [if_neg]
              intro h
              have := congrArg (fun l => l.getD k 0) h
              simp only [List.getD, List.getElem?_take] at this
              rw [if_pos (by rw [HL2.out]; exact hlt2)] at this
              have h1 := HX.out
              have h2 := HY.out
              simp only [List.getD] at h1 h2
              rw [h1, h2] at this
              exact hxy this
          have eE : agE s t = 11 := by
            unfold agE
            split
            · rw [if_neg]
              intro h
              have := congrArg (fun l => l.getD k 0) h
              simp only [List.getD, List.getElem?_take] at this
              rw [if_pos (by rw [HL1.out]; exact hlt1)] at this
              have h1 := HX.out
              have h2 := HY.out
              simp only [List.getD] at h1 h2
              rw [h1, h2] at this
              exact hxy this.symm
            · rw [if_neg]
              intro h
              have := congrArg (fun l => l.getD k 0) h
              simp only [List.getD, List.getElem?_take] at this
              rw [if_pos (by rw [HL2.out]; exact hlt2)] at this
              have h1 := HX.out
              have h2 := HY.out
              simp only [List.getD] at h1 h2
              rw [h1, h2] at this
              exact hxy this
          have HF : Hid (∀ q, MadeS w (agL s t) (agE s t) (.returned (.tuple #[.slice none 0 0, .int .i64 11])) (wr.drewN q)) := fun q => by
            rw [eL, eE]; exact MadeS.nil _ (abvia HB.out (adrew wr q))
          clear hxy eL eE
          go_wp2_with fail
          go_quiet (fail)
          go_wp2
          go_ret2
          exact HF.out _
      · obtain rfl : k = n2 := by omega
        have hge2 : (k : Int) ≤ k := Int.le_refl _
        have hf : s.take k = t := TK.out t s k HL2.out (by rw [HL1.out]; omega) (fun j hj => (HE.out j hj).symm)
        have eL : agL s t = s := by unfold agL; rw [HL1.out, HL2.out, if_neg (by omega), if_pos hf]
        have eE : agE s t = 0 := by unfold agE; rw [HL1.out, HL2.out, if_neg (by omega), if_pos hf]
        have hgt : (k : Int) < n1 := hlt1'
        have HLW := Lib.hid (H1.out.via HB.out)
        have hbd : n1 * 8 ≤ 140737488355328 := by omega
        have HEL := Lib.hid (And.intro eL eE)
        clear hf eL eE
        go_wp2_with (at_builtin; refine wpList_append_loc _ rfl _ _ 25 rfl wr.heap.size 3 i0 Try.underlying25 hi0 hz0 hz1 hz2 _ 0 [] rfl (World.ownsRow_nil _ _ _ _) rfl HLW.out (by omega) (Nat.le_refl _) ?_)
        intro bo d w2 ho hg hl hn
        have HF : Hid (MadeS w (agL s t) (agE s t) (.returned (.tuple #[.slice bo n1 d, .int .i64 0])) w2) := by
          rw [HEL.out.1, HEL.out.2]
          exact ⟨_, _, _, rfl, ls_of_own ho H1.out.big H1.out.rng, own_mono ho HB.out.size, abvia HB.out (grown_below2 hg)⟩
        clear ho hg hl hn
        go_wp2
        go_ret2
        exact HF.out
    · obtain rfl : k = n1 := by omega
      have hge1 : (k : Int) ≤ k := Int.le_refl _
      have hng : ¬ (n2 : Int) < k := by omega
      have hf : t.take k = s := TK.out s t k HL1.out (by rw [HL2.out]; omega) (fun j hj => HE.out j hj)
      have eL : agL s t = t := by
        unfold agL
        rw [HL1.out, HL2.out]
        by_cases e : k < n2
        · rw [if_pos e, if_pos hf]
        · have e2 : n2 = k := by omega
          have e3 : t = s := by rw [← hf, List.take_of_length_le (by rw [HL2.out]; omega)]
          rw [if_neg e, if_pos (by rw [e3, List.take_of_length_le (by rw [HL1.out]; omega)]), e3]
      have eE : agE s t = 0 := by
        unfold agE
        rw [HL1.out, HL2.out]
        by_cases e : k < n2
        · rw [if_pos e, if_pos hf]
        · have e2 : n2 = k := by omega
          have e3 : t = s := by rw [← hf, List.take_of_length_le (by rw [HL2.out]; omega)]
          rw [if_neg e, if_pos (by rw [e3, List.take_of_length_le (by rw [HL1.out]; omega)])]
      have HLW := Lib.hid (H2.out.via HB.out)
      have HEL := Lib.hid (And.intro eL eE)
      clear hf eL eE
      go_wp2_with (at_builtin; refine wpList_append_loc _ rfl _ _ 25 rfl wr.heap.size 3 i0 Try.underlying25 hi0 hz0 hz1 hz2 _ 0 [] rfl (World.ownsRow_nil _ _ _ _) rfl HLW.out (by omega) (Nat.le_refl _) ?_)
      intro bo d w2 ho hg hl hn
      have HF : Hid (MadeS w (agL s t) (agE s t) (.returned (.tuple #[.slice bo n2 d, .int .i64 0])) w2) := by
        rw [HEL.out.1, HEL.out.2]
        exact ⟨_, _, _, rfl, ls_of_own ho H2.out.big H2.out.rng, own_mono ho HB.out.size, abvia HB.out (grown_below2 hg)⟩
      clear ho hg hl hn
      go_wp2
      go_ret2
      exact HF.out
end Go.Proofs.Ytdedbfbkakofgaa

namespace Go.Proofs.Ytdedbfbkakofgaa
open Go.RowKit Go.Lib
set_option linter.unusedVariables false
set_option linter.unusedSimpArgs false
attribute [local go_sem] alloc_drewN setCell_drewN

theorem spN_le (n : Nat) (r : Int) : spN n r ≤ n := by unfold spN; split <;> (try split) <;> omega
set_option maxRecDepth 100000 in
set_option maxHeartbeats 800000 in
theorem rsplit_any {w : World} {ao : Option Addr} {n c : Nat} {s : List Int} (h : Ls w ao n c s) (r : Int) (hr : -9223372036854775808 ≤ r ∧ r ≤ 9223372036854775807) :
    Calls Try.prog 56 #[.slice ao n c, .int .i64 r] w (MadeLL w (s.take (spN n r)) (s.drop (spN n r))) := by
  have hc1 := h.cap
  have hl := h.len
  have g1 := h.big
  have g3 := h.top
  unfold maxLen at g3
  have CR := Lib.hid (rrank_any n (by omega) r hr w)
  have hrk := rkR_sp n r
  have hqn := spN_le n r
  obtain ⟨rk, HRK⟩ : ∃ z, Hid (rkR n r = z) := ⟨_, rfl⟩
  obtain ⟨q, HQ⟩ : ∃ z, Hid (spN n r = z) := ⟨_, rfl⟩
  rw [HRK.out] at CR hrk
  rw [HQ.out] at hrk hqn
  rw [HQ.out]
  have z1 : IntKind.i64.wrap ((n : Int) - rk) = q := by rw [hrk]; exact IntWalk.i64_in _ (by omega)
  have y0 : (0 : Int) ≤ q := by omega
  have y1 : (q : Int) ≤ c := by omega
  have y2 : (q : Int) ≤ n := by omega
  have y3 : (n : Int) ≤ c := by omega
  have y4 : (n : Int) - q = (n - q : Nat) := by omega
  obtain ⟨i0, hi0, hz0, hz1, hz2⟩ := info_parts (P := Try.prog) (e := 3) (z := .int .i64 0) (size := 1) (bytes := 8) (by kernel_rfl)
  have HT : Hid (Ls w.drew ao q c (s.take q)) := (h.take hqn).drew 1
  have b1 : q * 8 ≤ 140737488355328 := by omega
  have b2 : (n - q) * 8 ≤ 140737488355328 := by omega
  have HL := Lib.hid hl
  clear hr hrk hl
  by_cases hcq : c = q
  · have HE : Hid (s.drop q = []) := by show _ = _; exact List.drop_of_length_le (by rw [HL.out]; omega)
    have hz9 : q - q = 0 := Nat.sub_self q
    obtain rfl : n = q := by omega
    subst hcq
    have b3 : 0 * 8 ≤ 140737488355328 := by omega
    have z9 : IntKind.i64.wrap (0 : Int) = 0 := IntWalk.i64_in _ (by omega)
    clear h
    go_enter Try.func56, Try.ntmps56
    go_wp2_with fail
    refine CR.out.mono ?_; rintro e w1 ⟨rfl, rfl⟩
    go_wp2_with fail
    go_region_held3 (fun _ => True) (trivial)
      (first
      | ((refine step_append_loc0 _ (by rfl) _ _ 25 (by rfl) _ 3 i0 Try.underlying25 hi0 hz0 hz1 hz2 _ (by rfl) (World.ownsRow_nil _ _ _ _) (by rfl) HT.out b1 (Nat.le_refl _) ?_); intro d1 e1 w3 ho1 hg1 hl1 hn1)
      | ((refine step_append_loc0 _ (by rfl) _ _ 25 (by rfl) w3.heap.size 3 i0 Try.underlying25 hi0 hz0 hz1 hz2 _ (by rfl) (World.ownsRow_nil _ _ _ _) (by rfl) (Ls.zero _ _ (Nat.zero_le _ : 0 ≤ maxLen)) b3 (Nat.le_refl _) ?_); intro d2 e2 w4 ho2 hg2 hl2 hn2))
    have HF : Hid (MadeLL w1 (s.take c) (s.drop c) (.returned (.tuple #[.slice d1 c e1, .slice d2 0 e2])) w4) := mll (grown_below2 hg1) ho1 (ls_of_own ho1 g1 HT.out.rng) (grown_below2 hg2) ho2 (ls_of_own ho2 (by omega) (Ls.zero w1 none (Nat.zero_le _ : 0 ≤ maxLen)).rng) rfl HE.out
    clear ho1 hg1 hl1 hn1 ho2 hg2 hl2 hn2
    go_wp2
    go_ret2
    exact HF.out
  · have y5 : ¬ c = q := hcq
    have HD := Lib.hid (fun wx (hb : Below w.heap.size w wx) => (h.cutA q (n - q) (by omega)).below hb (Nat.le_refl _))
    have HE : Hid (s.drop q = (s.drop q).take (n - q)) := by show _ = _; rw [List.take_of_length_le]; rw [List.length_drop, HL.out]; omega
    have HI := Lib.hid h
    clear h
    go_enter Try.func56, Try.ntmps56
    go_wp2_with fail
    refine CR.out.mono ?_; rintro e w1 ⟨rfl, rfl⟩
    go_wp2_with fail
    go_region_held3 (fun _ => True) (trivial)
      (first
      | ((refine step_append_loc0 _ (by rfl) _ _ 25 (by rfl) _ 3 i0 Try.underlying25 hi0 hz0 hz1 hz2 _ (by rfl) (World.ownsRow_nil _ _ _ _) (by rfl) HT.out b1 (Nat.le_refl _) ?_); intro d1 e1 w3 ho1 hg1 hl1 hn1; have hC1 := abvia (adrew1 _) (grown_below2 hg1))
      | ((refine step_append_loc0 _ (by rfl) _ _ 25 (by rfl) w3.heap.size 3 i0 Try.underlying25 hi0 hz0 hz1 hz2 _ (by rfl) (World.ownsRow_nil _ _ _ _) (by rfl) (HD.out w3 hC1) b2 (Nat.le_refl _) ?_); intro d2 e2 w4 ho2 hg2 hl2 hn2))
    have HF : Hid (MadeLL w1 (s.take q) (s.drop q) (.returned (.tuple #[.slice d1 q e1, .slice d2 (n - q) e2])) w4) := mll (grown_below2 hg1) ho1 (ls_of_own ho1 HT.out.big HT.out.rng) (grown_below2 hg2) ho2 (ls_of_own ho2 (by omega) (HD.out w1 (Below.refl _ _)).rng) rfl HE.out
    clear ho1 hg1 hl1 hn1 ho2 hg2 hl2 hn2
    go_wp2
    go_ret2
    exact HF.out
set_option maxRecDepth 100000 in
set_option maxHeartbeats 1600000 in
theorem rboth_any {w : World} {a1 a2 : Option Addr} {n1 c1 n2 c2 : Nat} {s t : List Int} (h1 : Ls w a1 n1 c1 s) (h2 : Ls w a2 n2 c2 t) (hb1 : n1 ≤ 1000000) (hb2 : n2 ≤ 1000000) :
    Calls Try.prog 99 #[.slice a1 n1 c1, .slice a2 n2 c2] w (MadeL w (bthL s t)) := by
  have hl1 := h1.len
  have hl2 := h2.len
  obtain ⟨N, hN⟩ : ∃ N, N = max n1 n2 := ⟨_, rfl⟩
  have hNb : N ≤ 1000000 := by omega
  have hmk := fun w => mk_int N hNb w
  have z1 : max (n1 : Int) n2 = N := by omega
  have hLN : N = (bthL s t).length := by rw [bthL_len, hl1, hl2, hN]
  have hg : ∀ k, k < N → (bthL s t).getD k 0 = max (frL s N k) (frL t N k) := fun k hk => by
    have e : max s.length t.length = N := by rw [hl1, hl2, hN]
    simp [bthL, List.getD, e, hk]
  obtain ⟨W, HWW⟩ : ∃ W, Hid (w.alloc (.cells (Array.replicate N (.int .i64 0)) 3) = W) := ⟨_, rfl⟩
  have hw : Below w.heap.size w W := by rw [← HWW.out]; exact abal _ _
  have hO := own_zeros w 3 N w.heap.size hNb (Nat.le_refl _)
  rw [HWW.out] at hO
  have HO0 := Lib.hid hO
  have HW := Lib.hid hw
  have HG := Lib.hid hg
  have HLN := Lib.hid hLN
  have H1 := Lib.hid h1
  have H2 := Lib.hid h2
  have HL1 := Lib.hid hl1
  have HL2 := Lib.hid hl2
  have hn1 : n1 ≤ N := by omega
  have hn2 : n2 ≤ N := by omega
  have z2 : IntKind.i64.wrap ((N : Int) - n1) = (N - n1 : Nat) := by rw [show (N : Int) - n1 = (N - n1 : Nat) by omega]; exact IntWalk.i64_in _ (by omega)
  have z3 : IntKind.i64.wrap ((N : Int) - n2) = (N - n2 : Nat) := by rw [show (N : Int) - n2 = (N - n2 : Nat) by omega]; exact IntWalk.i64_in _ (by omega)
  have HNN := Lib.hid hN
  clear h1 h2 hO hw hg hLN hl1 hl2 hN
  go_enter Try.func99, Try.ntmps99
  go_wp2_with fail
  rw [HWW.out]
  go_loopw [7, 8, 9] (fun i x y wr => ∃ k : Nat, k ≤ N ∧ i = .int .i64 k ∧ Hid (wr.ownsRow w.heap.size 3 1 (.slice (some ⟨w.heap.size, 0, none⟩) N N) N (((bthL s t).take k ++ List.replicate (N - k) (0 : Int)).map (Value.int .i64))) ∧ Hid (Below w.heap.size w wr)) (fun i _ _ _ => N - (RowKit.intOf i).toNat)
  case atStart => exact ⟨0, Nat.zero_le _, rfl, by simpa using HO0, HW⟩
  case round =>
    obtain ⟨k, hk, rfl, HO, HB⟩ := hrel
    by_cases hlt : k < N
    · have hlt' : (k : Int) < N := by omega
      have d2 : ∃ v, wr.cell? ⟨w.heap.size, k, none⟩ = some v := by
        rw [HO.out.cellAt k (by omega)]
        exact ⟨_, List.getElem?_eq_getElem (by have := HO.out.1; rw [this]; omega)⟩
      obtain ⟨v0, d2⟩ := d2
      have d3 := HO.out.frozenAt k
      have HO2 := Lib.hid ((HO.out.stored k (.int .i64 ((bthL s t).getD k 0))).1)
      rw [← List.map_set, set_take HLN.out hlt, HG.out k hlt] at HO2
      have HB2 := Lib.hid (HB.out.setCell (show w.heap.size ≤ (⟨w.heap.size, k, none⟩ : Addr).block from Nat.le_refl _) (.int .i64 (max (frL s N k) (frL t N k))))
      obtain ⟨x, HX1⟩ : ∃ x, Hid (frL s N k = x) := ⟨_, rfl⟩
      obtain ⟨y, HY1⟩ : ∃ y, Hid (frL t N k = y) := ⟨_, rfl⟩
      rw [HX1.out, HY1.out] at HO2 HB2
      have z4 : IntKind.i64.wrap ((k : Int) - N) = (k : Int) - N := IntWalk.i64_in _ (by omega)
      have hx := HX1.out
      have hy := HY1.out
      unfold frL at hx hy
      rw [HL1.out] at hx
      rw [HL2.out] at hy
      by_cases hcase01 : (k < N - n1) ∧ (¬ k < N - n2)
      · obtain ⟨hu, hv⟩ := hcase01
        rw [if_pos hu] at hx
        rw [if_neg hv] at hy
        have e1 : ¬ ((N - n1 : Nat) : Int) ≤ k := by omega
        obtain rfl : x = 1 := hx.symm
        have e2 : ((N - n2 : Nat) : Int) ≤ k := by omega
        obtain ⟨by', oy, rfl, hcy⟩ := (H2.out.via HB.out).at (by omega)
        have dy := hcy (k - (N - n2)) (by omega)
        rw [hy] at dy
        have z7 : IntKind.i64.wrap ((k : Int) - N + n2) = (k - (N - n2) : Nat) := by rw [show (k : Int) - N + n2 = (k - (N - n2) : Nat) by omega]; exact IntWalk.i64_in _ (by omega)
        have z8 : ((k - (N - n2) : Nat) : Int) < n2 := by omega
        obtain ⟨K2, HK2⟩ : ∃ z, k - (N - n2) = z := ⟨_, rfl⟩
        rw [HK2] at dy z7 z8
        clear hx hy hu hv
        clear hcy HK2
        go_wp2
        go_roundw
        case rel => exact ⟨k + 1, by omega, by go_num, HO2, HB2⟩
        case measure => simp [RowKit.intOf]; omega
      by_cases hcase10 : (¬ k < N - n1) ∧ (k < N - n2)
      · obtain ⟨hu, hv⟩ := hcase10
        rw [if_neg hu] at hx
        rw [if_pos hv] at hy
        have e1 : ((N - n1 : Nat) : Int) ≤ k := by omega
        obtain ⟨bx, ox, rfl, hcx⟩ := (H1.out.via HB.out).at (by omega)
        have dx := hcx (k - (N - n1)) (by omega)
        rw [hx] at dx
        have z5 : IntKind.i64.wrap ((k : Int) - N + n1) = (k - (N - n1) : Nat) := by rw [show (k : Int) - N + n1 = (k - (N - n1) : Nat) by omega]; exact IntWalk.i64_in _ (by omega)
        have z6 : ((k - (N - n1) : Nat) : Int) < n1 := by omega
        obtain ⟨K1, HK1⟩ : ∃ z, k - (N - n1) = z := ⟨_, rfl⟩
        rw [HK1] at dx z5 z6
        have e2 : ¬ ((N - n2 : Nat) : Int) ≤ k := by omega
        obtain rfl : y = 1 := hy.symm
        clear hx hy hu hv
        clear hcx HK1
        go_wp2
        go_roundw
        case rel => exact ⟨k + 1, by omega, by go_num, HO2, HB2⟩
        case measure => simp [RowKit.intOf]; omega
      by_cases hcase11 : (¬ k < N - n1) ∧ (¬ k < N - n2)
      · obtain ⟨hu, hv⟩ := hcase11
        rw [if_neg hu] at hx
        rw [if_neg hv] at hy
        have e1 : ((N - n1 : Nat) : Int) ≤ k := by omega
        obtain ⟨bx, ox, rfl, hcx⟩ := (H1.out.via HB.out).at (by omega)
        have dx := hcx (k - (N - n1)) (by omega)
        rw [hx] at dx
        have z5 : IntKind.i64.wrap ((k : Int) - N + n1) = (k - (N - n1) : Nat) := by rw [show (k : Int) - N + n1 = (k - (N - n1) : Nat) by omega]; exact IntWalk.i64_in _ (by omega)
        have z6 : ((k - (N - n1) : Nat) : Int) < n1 := by omega
        obtain ⟨K1, HK1⟩ : ∃ z, k - (N - n1) = z := ⟨_, rfl⟩
        rw [HK1] at dx z5 z6
        have e2 : ((N - n2 : Nat) : Int) ≤ k := by omega
        obtain ⟨by', oy, rfl, hcy⟩ := (H2.out.via HB.out).at (by omega)
        have dy := hcy (k - (N - n2)) (by omega)
        rw [hy] at dy
        have z7 : IntKind.i64.wrap ((k : Int) - N + n2) = (k - (N - n2) : Nat) := by rw [show (k : Int) - N + n2 = (k - (N - n2) : Nat) by omega]; exact IntWalk.i64_in _ (by omega)
        have z8 : ((k - (N - n2) : Nat) : Int) < n2 := by omega
        obtain ⟨K2, HK2⟩ : ∃ z, k - (N - n2) = z := ⟨_, rfl⟩
        rw [HK2] at dy z7 z8
        clear hx hy hu hv
        clear hcx HK1
        clear hcy HK2
        go_wp2
        go_roundw
        case rel => exact ⟨k + 1, by omega, by go_num, HO2, HB2⟩
        case measure => simp [RowKit.intOf]; omega
      have hN := HNN.out
      exfalso
      omega
    · obtain rfl : k = N := by omega
      have hge : (k : Int) ≤ k := Int.le_refl _
      have hout := HO.out
      rw [Nat.sub_self, List.replicate_zero, List.append_nil, List.take_of_length_le (by rw [← HLN.out]; omega)] at hout
      have HF : Hid (MadeL w (bthL s t) (.returned (.slice (some ⟨w.heap.size, 0, none⟩) k k)) wr) := by
        exact ⟨_, _, _, rfl, ls_of_own hout (by omega) (bthL_rng H1.out.rng H2.out.rng), hout, HB.out⟩
      clear hout
      go_wp2
      go_ret
      exact HF.out
theorem bth_17 {s t : List Int} (hs : mayE s = 0) (ht : mayE t = 0) (h : mayE (bthL s t) ≠ 0) : mayE (bthL s t) = 17 := by
  obtain ⟨g1, -, -⟩ := mayE_zero hs
  obtain ⟨g2, -, -⟩ := mayE_zero ht
  rcases mayE_cases (bthL s t) with h1 | h1 | h1
  · exact absurd h1 h
  · exfalso
    unfold mayE at h1
    split at h1
    · rename_i hn
      obtain ⟨i, hi, hlt⟩ := any_neg_iff.1 hn
      rw [bthL_len] at hi
      have e : (bthL s t).getD i 0 = max (frL s (max s.length t.length) i) (frL t (max s.length t.length) i) := by simp [bthL, List.getD, hi]
      rw [e] at hlt
      have h3 : 0 ≤ frL s (max s.length t.length) i := by
        unfold frL; split
        · omega
        · exact g1 _
      omega
    · split at h1
      · omega
      · split at h1 <;> omega
  · exact h1
set_option maxRecDepth 100000 in
set_option maxHeartbeats 1600000 in
theorem rcover_any {w : World} {ao : Option Addr} {n c : Nat} {zss : List (List Int)} (h : Lss w ao n c zss) :
    Calls Try.prog 59 #[.slice ao n c] w (MadeS w (cvR zss).1 (cvR zss).2) := by
  have hl := h.len
  have g1 := h.big
  obtain ⟨R, HR⟩ : ∃ R, Hid (cvR zss = R) := ⟨_, rfl⟩
  rw [HR.out]
  by_cases h0 : n = 0
  · subst h0
    obtain rfl : R = ([], 1) := by rw [← HR.out, List.eq_nil_of_length_eq_zero hl]; rfl
    clear h hl HR
    go_enter Try.func59, Try.ntmps59
    go_wp2
    go_ret2
    exact MadeS.nil _ (Below.refl _ _)
  have hn0 : ((n : Int) == 0) = false := by simp; omega
  have hn1 : (n == 0) = false := by simp; omega
  have H := Lib.hid h
  have HL := Lib.hid hl
  obtain ⟨i0, hi0, hz0, hz1, hz2⟩ := info_parts (P := Try.prog) (e := 3) (z := .int .i64 0) (size := 1) (bytes := 8) (by kernel_rfl)
  clear h hl
  go_enter Try.func59, Try.ntmps59
  go_wp2_with fail
  go_loopw [4, 5, 6] (fun v i e wr => ∃ (k : Nat) (co : Option Addr) (cn cc : Nat), k ≤ n ∧ i = .int .i64 k ∧ v = .slice co cn cc ∧ Hid (k = 0 → v = .slice none 0 0) ∧ Hid (Below w.heap.size w wr) ∧ Hid (0 < k → ∃ cl, Ls wr co cn cc cl ∧ wr.ownsRow w.heap.size 3 1 (.slice co cn cc) cn (cl.map (Value.int .i64)) ∧ mayE cl = 0 ∧ cvGo cl (zss.drop k) = R)) (fun _ i _ _ => n - (RowKit.intOf i).toNat)
  case atStart => exact ⟨0, none, 0, 0, Nat.zero_le _, rfl, rfl, fun _ => rfl, Below.refl _ _, fun h => absurd h (by omega)⟩
  case round =>
    obtain ⟨k, co, cn, cc, hk, rfl, rfl, HV0, HB, HC⟩ := hrel
    by_cases hlt : k < n
    · have hlt' : (k : Int) < n := by omega
      obtain ⟨b, off, rfl, hlb, hcs⟩ := (H.out.below HB.out (Nat.le_refl _)).mem (by omega)
      obtain ⟨ai, ni, ci, d1, hs⟩ := hcs k hlt
      have CM := Lib.hid (rmay_any hs)
      obtain ⟨s, HS⟩ : ∃ s, Hid (zss.getD k [] = s) := ⟨_, rfl⟩
      rw [HS.out] at CM hs
      have HLS := Lib.hid hs
      clear hcs hlb hs
      by_cases hm : ¬ mayE s = 0
      · have hR : R = ([], mayE s) := by
          by_cases hk0 : 0 < k
          · obtain ⟨cl, -, -, -, h4⟩ := HC.out hk0
            rw [← h4, cvGo_step (by rw [HL.out]; exact hlt), HS.out, if_neg hm]
          · obtain rfl : k = 0 := by omega
            rw [← HR.out, cvR_step (by rw [HL.out]; exact hlt), HS.out, if_neg hm]
        subst hR
        obtain ⟨e, HE⟩ : ∃ e, Hid (mayE s = e) := ⟨_, rfl⟩
        rw [HE.out] at CM hm
        have hm' : (e != 0) = true := by simpa using hm
        have HF : Hid (MadeS w [] (mayE s) (.returned (.tuple #[.slice none 0 0, .int .i64 e])) wr) := by rw [HE.out]; exact MadeS.nil _ HB.out
        clear hm
        go_wp2_with fail
        refine CM.out.mono ?_; rintro e' w' ⟨rfl, hw'⟩
        have hw'' := hw'.symm
        subst hw''
        go_wp2
        go_ret2
        exact HF.out
      have hm : mayE s = 0 := by simpa using hm
      rw [hm] at CM
      by_cases hk0 : ¬ 0 < k
      · obtain rfl : k = 0 := by omega
        rw [Nat.add_zero] at d1
        have hv0 := HV0.out rfl
        simp only [Value.slice.injEq] at hv0
        obtain ⟨rfl, rfl, rfl⟩ := hv0
        have HR2 : Hid (cvGo s (zss.drop 1) = R) := by show _ = _; rw [← HR.out, cvR_step (by rw [HL.out]; exact hlt), HS.out, if_pos hm]
        have HMS := Lib.hid hm
        have hbd : ni * 8 ≤ 140737488355328 := by have := HLS.out.big; omega
        clear hm hk0
        go_wp2_with fail
        refine CM.out.mono ?_; rintro e' w' ⟨rfl, hw'⟩
        have hw'' := hw'.symm
        subst hw''
        go_wp2_with (at_builtin; refine wpList_append_loc _ rfl _ _ 25 rfl wr.heap.size 3 i0 Try.underlying25 hi0 hz0 hz1 hz2 _ 0 [] rfl (World.ownsRow_nil _ _ _ _) rfl HLS.out (by omega) (Nat.le_refl _) ?_)
        intro bo d w2 ho hg hl hn
        have hL2 := ls_of_own ho HLS.out.big HLS.out.rng
        have CM2 := Lib.hid (rmay_any hL2)
        rw [HMS.out] at CM2
        have HB2 : Hid (Below w.heap.size w w2) := abvia HB.out (grown_below2 hg)
        have HC2 : Hid (0 < 0 + 1 → ∃ cl, Ls w2 bo ni d cl ∧ w2.ownsRow w.heap.size 3 1 (.slice bo ni d) ni (cl.map (Value.int .i64)) ∧ mayE cl = 0 ∧ cvGo cl (zss.drop (0 + 1)) = R) := fun _ => ⟨s, hL2, own_mono ho HB.out.size, HMS.out, HR2.out⟩
        clear hL2 ho hg hl hn
        go_wp2_with fail
        refine CM2.out.mono ?_; rintro e' w' ⟨rfl, hw'⟩
        have hw'' := hw'.symm
        subst hw''
        go_wp2
        go_roundw
        case rel => exact ⟨0 + 1, bo, ni, d, by omega, by go_num, rfl, fun h => absurd h (by omega), HB2, HC2⟩
        case measure => simp [RowKit.intOf]; omega
      have hk0 : 0 < k := by omega
      obtain ⟨cl, hcl1, hcl2, hcl3, hcl4⟩ := HC.out hk0
      have hk1 : ((k : Int) == 0) = false := by simp; omega
      have hk2 : (k == 0) = false := by simp; omega
      have hstep := cvGo_step (c := cl) (zss := zss) (k := k) (by rw [HL.out]; exact hlt)
      rw [hcl4, HS.out, if_pos hm] at hstep
      have hb1 := (mayE_zero hcl3).2.1
      have hb2 := (mayE_zero hm).2.1
      have H17 := Lib.hid (fun h => bth_17 hcl3 hm h)
      have CB := Lib.hid (rboth_any hcl1 HLS.out (by have := hcl1.len; omega) (by have := HLS.out.len; omega))
      clear hcl1 hcl2 hcl3 hcl4 hb1 hb2 hm hk0
      by_cases hq : mayE (bthL cl s) = 0
      · rw [if_pos hq] at hstep
        have HST := Lib.hid hstep
        have HQ := Lib.hid hq
        clear hstep hq
        go_wp2_with fail
        refine CM.out.mono ?_; rintro e' w' ⟨rfl, hw'⟩
        have hw'' := hw'.symm
        subst hw''
        go_wp2_with fail
        refine CB.out.mono ?_; rintro e' w2 ⟨co2, cn2, cc2, rfl, hL2, hO2, hB2⟩
        have CM2 := Lib.hid (rmay_any hL2)
        rw [HQ.out] at CM2
        have HB2 : Hid (Below w.heap.size w w2) := HB.out.trans (hB2.mono HB.out.size)
        have HC2 : Hid (0 < k + 1 → ∃ cl, Ls w2 co2 cn2 cc2 cl ∧ w2.ownsRow w.heap.size 3 1 (.slice co2 cn2 cc2) cn2 (cl.map (Value.int .i64)) ∧ mayE cl = 0 ∧ cvGo cl (zss.drop (k + 1)) = R) := fun _ => ⟨_, hL2, own_mono hO2 HB.out.size, HQ.out, HST.out.symm⟩
        clear hL2 hO2 hB2
        go_wp2_with fail
        refine CM2.out.mono ?_; rintro e' w' ⟨rfl, hw'⟩
        have hw'' := hw'.symm
        subst hw''
        go_wp2
        go_roundw
        case rel => exact ⟨k + 1, co2, cn2, cc2, by omega, by go_num, rfl, fun h => absurd h (by omega), HB2, HC2⟩
        case measure => simp [RowKit.intOf]; omega
      · rw [if_neg hq] at hstep
        subst hstep
        have hq17 := H17.out hq
        clear hq
        go_wp2_with fail
        refine CM.out.mono ?_; rintro e' w' ⟨rfl, hw'⟩
        have hw'' := hw'.symm
        subst hw''
        go_wp2_with fail
        refine CB.out.mono ?_; rintro e' w2 ⟨co2, cn2, cc2, rfl, hL2, hO2, hB2⟩
        have CM2 := Lib.hid (rmay_any hL2)
        rw [hq17] at CM2
        have HF : Hid (MadeS w [] 17 (.returned (.tuple #[.slice none 0 0, .int .i64 17])) w2) := MadeS.nil _ (HB.out.trans (hB2.mono HB.out.size))
        clear hL2 hO2 hB2 hq17
        go_wp2_with fail
        refine CM2.out.mono ?_; rintro e' w' ⟨rfl, hw'⟩
        have hw'' := hw'.symm
        subst hw''
        go_wp2
        go_ret2
        exact HF.out
    · obtain rfl : k = n := by omega
      have hge : (k : Int) ≤ k := Int.le_refl _
      obtain ⟨cl, hcl1, hcl2, hcl3, hcl4⟩ := HC.out (by omega)
      obtain rfl : R = (cl, 0) := by rw [← hcl4, List.drop_of_length_le (by rw [HL.out]; omega)]; rfl
      have HF : Hid (MadeS w cl 0 (.returned (.tuple #[.slice co cn cc, .int .i64 0])) wr) := ⟨_, _, _, rfl, hcl1, hcl2, HB.out⟩
      clear hcl1 hcl2 hcl3 hcl4
      go_wp2
      go_ret2
      exact HF.out
end Go.Proofs.Ytdedbfbkakofgaa
