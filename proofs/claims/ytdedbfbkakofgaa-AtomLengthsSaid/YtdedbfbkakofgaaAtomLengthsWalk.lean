/- AtomLengths: the walk of the statement's function. -/
import Derived.Test.YtdedbfbkakofgaaAtomBegun
import Derived.Test.YtdedbfbkakofgaaAtomLenPlain
namespace Go.Proofs.Ytdedbfbkakofgaa
open Go.RowKit Go.Lib
set_option linter.unusedVariables false
set_option linter.unusedSimpArgs false
attribute [local go_sem] alloc_drewN setCell_drewN

set_option maxRecDepth 100000 in
set_option maxHeartbeats 6400000 in
theorem walkAtomLengths {w : World} {op : Int} (hop : -9223372036854775808 ≤ op ∧ op ≤ 9223372036854775807) {X : Ar} (hX : X.Is w) {Y : Ar} (hY : Y.Is w) :
    Calls Try.prog 8 #[.int .i64 op, X.v, Y.v] w (RetB w (.bool true)) := by
  obtain ⟨sa, sn, sc, aa, an, ac, s, a⟩ := X
  obtain ⟨ta, tn, tc, ba, bn, bc, t, b⟩ := Y
  simp only [Ar.v]
  obtain ⟨W, HWW⟩ : ∃ W, Hid ((w.alloc (.cells #[.slice sa sn sc, .slice aa an ac] 55)).alloc (.cells #[.slice ta tn tc, .slice ba bn bc] 55) = W) := ⟨_, rfl⟩
  have hw : Below w.heap.size w W := by rw [← HWW.out]; exact abvia (abal _ _) (abal _ _)
  have BX : BoxA W w.heap.size (.slice sa sn sc) (.slice aa an ac) := by rw [← HWW.out]; exact (BoxA.new _ _ _ _).via (abal _ _)
  have BY : BoxA W (w.heap.size + 1) (.slice ta tn tc) (.slice ba bn bc) := by rw [← HWW.out]; simpa using BoxA.new (w.alloc (.cells #[.slice sa sn sc, .slice aa an ac] 55)) 55 (.slice ta tn tc) (.slice ba bn bc)
  have hIX := hX.via hw
  have hIY := hY.via hw
  have BG := Lib.hid (begun5_any W)
  have CY := Lib.hid (fun w1 (hb : Below W.heap.size W w1) => arrmay_any (hIY.via hb))
  have CX := Lib.hid (fun w1 (hb : Below W.heap.size W w1) => arrmay_any (hIX.via hb))
  have CD := Lib.hid (fun w1 (hb : Below W.heap.size W w1) => adyad_any (hIX.via hb) (hIY.via hb) op)
  have CH2 := Lib.hid (fun w1 => has_any op 2 w1)
  simp only [Ar.v] at CX CY CD
  obtain ⟨mx, HMX⟩ : ∃ z, Hid (amE s a = z) := ⟨_, rfl⟩
  obtain ⟨my, HMY⟩ : ∃ z, Hid (amE t b = z) := ⟨_, rfl⟩
  obtain ⟨g2, HG2⟩ : ∃ z, Hid (hasV op 2 = z) := ⟨_, rfl⟩
  obtain ⟨de, HDE⟩ : ∃ z, Hid (adyE op s a t b = z) := ⟨_, rfl⟩
  obtain ⟨ds, HDS⟩ : ∃ z, Hid (adyS op s a t b = z) := ⟨_, rfl⟩
  obtain ⟨da, HDA⟩ : ∃ z, Hid (adyA op s a t b = z) := ⟨_, rfl⟩
  rw [HMX.out] at CX
  rw [HMY.out] at CY
  rw [HG2.out] at CH2
  rw [HDE.out, HDS.out, HDA.out] at CD
  have HW := Lib.hid hw
  have IX := Lib.hid hIX
  have IY := Lib.hid hIY
  have X1 := Lib.hid BX
  have Y1 := Lib.hid BY
  have LX := Lib.hid hX.shp.len
  have LY := Lib.hid hY.shp.len
  have LA := Lib.hid hX.ats.len
  have LB := Lib.hid hY.ats.len
  have gx := hX.shp.big
  have gy := hY.shp.big
  simp only at LX LY LA LB gx gy
  have HV0 : Hid (Below W.heap.size W W) := Below.refl _ _
  clear hX hY hIX hIY hw BX BY
  go_enter Try.func8, Try.ntmps8
  go_wp2_with fail
  rw [HWW.out]
  refine (BG.out).mono ?_; rintro e w1 ⟨rfl, hbq⟩
  have HV1 := Lib.hid (abvia HV0.out hbq)
  clear hbq
  go_wp2_with fail
  refine (CH2.out w1).mono ?_; rintro e w2 ⟨rfl, nq, hwq⟩
  have HV2 : Hid (Below W.heap.size W w2) := by show Below _ _ _; rw [hwq]; exact abvia HV1.out (adrew _ _)
  clear hwq
  cases g2
  · simp only [Bool.not_false]
    go_wp2
    go_ret
    exact RetB.mk rfl (abvia HW.out HV2.out)
  simp only [Bool.not_true]
  try clear x0 x1
  obtain ⟨x0, x1, -, -, -⟩ := X1.out.via HV2.out
  try clear y0 y1
  obtain ⟨y0, y1, -, -, -⟩ := Y1.out.via HV2.out
  go_wp2_with fail
  refine (CX.out w2 HV2.out).mono ?_; rintro e w3 ⟨rfl, hbq⟩
  have HV3 := Lib.hid (abvia HV2.out hbq)
  clear hbq
  try clear x0 x1
  obtain ⟨x0, x1, -, -, -⟩ := X1.out.via HV3.out
  try clear y0 y1
  obtain ⟨y0, y1, -, -, -⟩ := Y1.out.via HV3.out
  by_cases hmx : mx = 0
  case neg =>
    have hmx' : (mx != 0) = true := by simpa using hmx
    go_wp2
    go_ret
    exact RetB.mk rfl (abvia HW.out HV3.out)
  subst hmx
  go_wp2_with fail
  refine (CY.out w3 HV3.out).mono ?_; rintro e w4 ⟨rfl, hbq⟩
  have HV4 := Lib.hid (abvia HV3.out hbq)
  clear hbq
  by_cases hmy : my = 0
  case neg =>
    have hmy' : (my != 0) = true := by simpa using hmy
    go_wp2
    go_ret
    exact RetB.mk rfl (abvia HW.out HV4.out)
  subst hmy
  try clear x0 x1
  obtain ⟨x0, x1, -, -, -⟩ := X1.out.via HV4.out
  try clear y0 y1
  obtain ⟨y0, y1, -, -, -⟩ := Y1.out.via HV4.out
  go_wp2_with fail
  go_loopw [7, 8] (fun g i wr => ∃ k : Nat, k ≤ sn ∧ k ≤ tn ∧ g = .bool (alB s t k) ∧ i = .int .i64 k ∧ Hid (Below W.heap.size W wr)) (fun _ i _ => sn - (RowKit.intOf i).toNat)
  case atStart => exact ⟨0, Nat.zero_le _, Nat.zero_le _, by rw [alB_zero], rfl, HV4⟩
  case round =>
    obtain ⟨k, hk1, hk2, rfl, rfl, HVR⟩ := hrel
    try clear x0 x1
    obtain ⟨x0, x1, -, -, -⟩ := X1.out.via HVR.out
    try clear y0 y1
    obtain ⟨y0, y1, -, -, -⟩ := Y1.out.via HVR.out
    by_cases hgo : k < sn ∧ k < tn
    · obtain ⟨h1, h2⟩ := hgo
      have h1' : (k : Int) < sn := by omega
      have h2' : (k : Int) < tn := by omega
      obtain ⟨oa, fa1, rfl, hca⟩ := (IX.out.via HVR.out).shp.at (show 0 < sn by omega)
      obtain ⟨ob, fb1, rfl, hcb⟩ := (IY.out.via HVR.out).shp.at (show 0 < tn by omega)
      have d1 := hca k h1
      have d2 := hcb k h2
      clear hca hcb
      simp only at d1 d2
      have HS := Lib.hid (alB_succ (s := s) (t := t) (k := k) (by rw [LX.out]; exact h1) (by rw [LY.out]; exact h2))
      obtain ⟨p, HP⟩ : ∃ z, Hid (s.getD k 0 = z) := ⟨_, rfl⟩
      obtain ⟨q, HQ⟩ : ∃ z, Hid (t.getD k 0 = z) := ⟨_, rfl⟩
      obtain ⟨g, HG⟩ : ∃ z, Hid (alB s t k = z) := ⟨_, rfl⟩
      rw [HP.out] at d1
      rw [HQ.out] at d2
      rw [HP.out, HQ.out, HG.out] at HS
      rw [HG.out]
      cases g
      · simp only [Bool.false_and] at HS
        go_wp2_with fail
        go_quiet (fail)
        have HVZ : Hid (Below W.heap.size W (wr.drewN nq)) := abvia HVR.out (adrew _ _)
        go_wp2
        go_roundw
        case rel => exact ⟨k + 1, by omega, by omega, by rw [HS.out], by go_num, HVZ⟩
        case measure => simp [RowKit.intOf]; omega
      · simp only [Bool.true_and] at HS
        by_cases hpq : p = q
        · subst hpq
          simp only [decide_true] at HS
          have hb : (p == p) = true := by simp
          go_wp2_with fail
          go_quiet (fail)
          have HVZ : Hid (Below W.heap.size W (wr.drewN nq)) := abvia HVR.out (adrew _ _)
          go_wp2
          go_roundw
          case rel => exact ⟨k + 1, by omega, by omega, by rw [HS.out], by go_num, HVZ⟩
          case measure => simp [RowKit.intOf]; omega
        · rw [decide_eq_false hpq] at HS
          have hb : (p == q) = false := by simpa using hpq
          go_wp2_with fail
          go_quiet (fail)
          have HVZ : Hid (Below W.heap.size W (wr.drewN nq)) := abvia HVR.out (adrew _ _)
          go_wp2
          go_roundw
          case rel => exact ⟨k + 1, by omega, by omega, by rw [HS.out], by go_num, HVZ⟩
          case measure => simp [RowKit.intOf]; omega
    · have HE := Lib.hid (alB_end (s := s) (t := t) (k := k) (by rw [LX.out]; exact hk1) (by rw [LY.out]; exact hk2) (by rw [LX.out, LY.out]; omega))
      have HBAD := Lib.hid (fun h => ady_bad HMX.out HMY.out ((refV_two op 2).1 HG2.out) (s := s) (t := t) h)
      have HOK := Lib.hid (fun h => ady_ok HMX.out HMY.out ((refV_two op 2).1 HG2.out) (s := s) (t := t) h)
      rw [HDE.out, HDS.out, HDA.out] at HBAD HOK
      rw [LX.out, LY.out, LA.out, LB.out] at HOK
      rw [HE.out]
      have HZ : Hid (∀ w5, Below W.heap.size W w5 → Below w.heap.size w w5) := fun w5 hb => abvia HW.out hb
      have HXS := Lib.hid (fun w1 (hb : Below W.heap.size W w1) => (IX.out.via hb).shp)
      have HYS := Lib.hid (fun w1 (hb : Below W.heap.size W w1) => (IY.out.via hb).shp)
      rcases (show ((sn : Int) ≤ k ∧ (sn : Int) < tn) ∨ ((sn : Int) ≤ k ∧ (tn : Int) ≤ sn) ∨ ((k : Int) < sn ∧ (tn : Int) ≤ k ∧ (tn : Int) ≤ sn) by omega) with ⟨hx1, hlo'⟩ | ⟨hx1, hlo'⟩ | ⟨hx1, hx2, hlo'⟩
      · by_cases hag : agE s t = 0
        · rw [decide_eq_true hag]
          obtain ⟨he1, he2, he3⟩ := HOK.out hag
          clear hag HBAD HOK HE hgo
          have hde : (de == 11) = false := by simpa using he1
          rw [if_pos (show sn < tn by omega)] at he2 he3
          have HE2 := Lib.hid he2
          have HE3 := Lib.hid he3
          clear he1 he2 he3
          go_wp2_with fail
          refine (CD.out wr HVR.out).mono ?_; rintro e w5 ⟨⟨sa5, sn5, sc5, aa5, an5, ac5, s5, a5⟩, rfl, hI5, hs5, ha5, -, hbq⟩
          simp only at hs5 ha5
          have hs5' := hs5.symm
          have ha5' := ha5.symm
          subst hs5' ha5'
          simp only [Ar.v]
          obtain ⟨W5, HW5⟩ : ∃ z, Hid (w5.alloc (.cells #[.slice sa5 sn5 sc5, .slice aa5 an5 ac5] 55) = z) := ⟨_, rfl⟩
          have hal : Below w5.heap.size w5 W5 := by rw [← HW5.out]; exact abal _ _
          have X5 : Hid (BoxA W5 w5.heap.size (.slice sa5 sn5 sc5) (.slice aa5 an5 ac5)) := by rw [← HW5.out]; exact BoxA.new _ _ _ _
          have I5 := Lib.hid (hI5.via hal)
          have HV5 := Lib.hid (abvia HVR.out (abvia hbq hal))
          clear hI5 hbq hal
          try clear x0 x1
          obtain ⟨x0, x1, -, -, -⟩ := X1.out.via HV5.out
          try clear y0 y1
          obtain ⟨y0, y1, -, -, -⟩ := Y1.out.via HV5.out
          have g1 : (w5.alloc (.cells #[.slice sa5 sn5 sc5, .slice aa5 an5 ac5] 55)).cell? ⟨w.heap.size, 1, none⟩ = some (.slice aa an ac) := by rw [HW5.out]; exact x1
          have g2 : (w5.alloc (.cells #[.slice sa5 sn5 sc5, .slice aa5 an5 ac5] 55)).cell? ⟨w.heap.size + 1, 1, none⟩ = some (.slice ba bn bc) := by rw [HW5.out]; exact y1
          clear x0 x1 y0 y1
          have CM := Lib.hid (fun w1 (hb : Below W5.heap.size W5 w1) => arrmay_any (I5.out.via hb))
          have CE1 := Lib.hid (eq_any (w := W5) (A := ⟨sa5, sn5, sc5, aa5, an5, ac5, ds, da⟩) (B := ⟨ta, tn, tc, none, 0, 0, t, []⟩) I5.out ⟨HYS.out W5 HV5.out, Ls.zero _ _ (Nat.zero_le _)⟩)
          have CE2 := Lib.hid (eq_any (w := W5) (A := ⟨sa5, sn5, sc5, none, 0, 0, ds, []⟩) (B := ⟨ta, tn, tc, none, 0, 0, t, []⟩) ⟨I5.out.shp, Ls.zero _ _ (Nat.zero_le _)⟩ ⟨HYS.out W5 HV5.out, Ls.zero _ _ (Nat.zero_le _)⟩)
          simp only [Ar.v] at CM CE1 CE2
          by_cases hemp : an = 0 ∨ bn = 0
          · obtain ⟨e1, e2, e3⟩ := HE2.out hemp
            have e1' := e1.symm; have e2' := e2.symm; have e3' := e3.symm
            subst e1' e2' e3'
            simp only [and_self, decide_true] at CE1
            clear e1 e2 e3
            rcases (show an = 0 ∨ (0 < an ∧ bn = 0) by omega) with e4 | ⟨e4, e5⟩
            · subst e4
              clear hemp
              go_wp2_with fail
              rw [HW5.out]
              refine (CE1.out).mono ?_; rintro e w6 ⟨rfl, hbq⟩
              have HV6 := Lib.hid (abvia HV5.out hbq)
              clear hbq
              go_wp2
              go_ret
              exact RetB.mk rfl (HZ.out _ HV6.out)
            · subst e5
              clear hemp
              have e6 : ((an : Int) == 0) = false := by simp; omega
              have e7 : (an == 0) = false := by simp; omega
              go_wp2_with fail
              rw [HW5.out]
              refine (CE1.out).mono ?_; rintro e w6 ⟨rfl, hbq⟩
              have HV6 := Lib.hid (abvia HV5.out hbq)
              clear hbq
              go_wp2
              go_ret
              exact RetB.mk rfl (HZ.out _ HV6.out)
          · have e6 : ((an : Int) == 0) = false := by simp; omega
            have e7 : (an == 0) = false := by simp; omega
            have e8 : ((bn : Int) == 0) = false := by simp; omega
            have e9 : (bn == 0) = false := by simp; omega
            clear hemp HE2
            by_cases hd0 : de = 0
            · obtain ⟨e2, e3⟩ := HE3.out hd0
              subst hd0
              have e2' := e2.symm
              subst e2'
              simp only [and_self, decide_true, e3] at CE2 CM
              clear e2 e3
              go_wp2_with fail
              rw [HW5.out]
              refine CE2.out.mono ?_; rintro e w6 ⟨rfl, hbq⟩
              have HB6 := Lib.hid hbq
              have HV6 := Lib.hid (abvia HV5.out hbq)
              clear hbq g1 g2
              obtain ⟨k0, k1, k2, k3, k4⟩ := X5.out.via HB6.out
              go_wp2_with fail
              refine (CM.out w6 HB6.out).mono ?_; rintro e w7 ⟨rfl, hbq⟩
              have HV7 := Lib.hid (abvia HV6.out hbq)
              clear hbq
              go_wp2
              go_ret
              exact RetB.mk rfl (HZ.out _ HV7.out)
            · have hd1 : (de == 0) = false := by simpa using hd0
              have hd2 : (de != 0) = true := by simpa using hd0
              have HV6 : Hid (Below W.heap.size W (w5.alloc (.cells #[.slice sa5 sn5 sc5, .slice aa5 an5 ac5] 55))) := by rw [HW5.out]; exact HV5
              go_wp2
              go_ret
              exact RetB.mk rfl (HZ.out _ HV6.out)
        · rw [decide_eq_false hag]
          obtain ⟨he1, he2, he3⟩ := HBAD.out hag
          have e1' := he1.symm; have e2' := he2.symm; have e3' := he3.symm
          subst e1' e2' e3'
          clear hag HBAD HOK HE hgo he1 he2 he3
          go_wp2_with fail
          refine (CD.out wr HVR.out).mono ?_; rintro e w5 ⟨⟨sa5, sn5, sc5, aa5, an5, ac5, s5, a5⟩, rfl, hI5, hs5, ha5, -, hbq⟩
          simp only at hs5 ha5
          subst hs5 ha5
          simp only [Ar.v]
          obtain ⟨W5, HW5⟩ : ∃ z, Hid (w5.alloc (.cells #[.slice sa5 sn5 sc5, .slice aa5 an5 ac5] 55) = z) := ⟨_, rfl⟩
          have hal : Below w5.heap.size w5 W5 := by rw [← HW5.out]; exact abal _ _
          have X5 : Hid (BoxA W5 w5.heap.size (.slice sa5 sn5 sc5) (.slice aa5 an5 ac5)) := by rw [← HW5.out]; exact BoxA.new _ _ _ _
          have HV5 := Lib.hid (abvia HVR.out (abvia hbq hal))
          have CE1 := Lib.hid (eq_any (w := W5) (A := ⟨sa5, sn5, sc5, aa5, an5, ac5, [], []⟩) (B := ⟨none, 0, 0, none, 0, 0, [], []⟩) (hI5.via hal) (Ar.is_nil _))
          simp only [Ar.v, and_self, decide_true] at CE1
          clear hI5 hbq hal
          go_wp2_with fail
          rw [HW5.out]
          refine (CE1.out).mono ?_; rintro e w6 ⟨rfl, hbq⟩
          have HV6 := Lib.hid (abvia HV5.out hbq)
          clear hbq
          go_wp2
          go_ret
          exact RetB.mk rfl (HZ.out _ HV6.out)
      · by_cases hag : agE s t = 0
        · rw [decide_eq_true hag]
          obtain ⟨he1, he2, he3⟩ := HOK.out hag
          clear hag HBAD HOK HE hgo
          have hde : (de == 11) = false := by simpa using he1
          rw [if_neg (show ¬ sn < tn by omega)] at he2 he3
          have HE2 := Lib.hid he2
          have HE3 := Lib.hid he3
          clear he1 he2 he3
          go_wp2_with fail
          refine (CD.out wr HVR.out).mono ?_; rintro e w5 ⟨⟨sa5, sn5, sc5, aa5, an5, ac5, s5, a5⟩, rfl, hI5, hs5, ha5, -, hbq⟩
          simp only at hs5 ha5
          have hs5' := hs5.symm
          have ha5' := ha5.symm
          subst hs5' ha5'
          simp only [Ar.v]
          obtain ⟨W5, HW5⟩ : ∃ z, Hid (w5.alloc (.cells #[.slice sa5 sn5 sc5, .slice aa5 an5 ac5] 55) = z) := ⟨_, rfl⟩
          have hal : Below w5.heap.size w5 W5 := by rw [← HW5.out]; exact abal _ _
          have X5 : Hid (BoxA W5 w5.heap.size (.slice sa5 sn5 sc5) (.slice aa5 an5 ac5)) := by rw [← HW5.out]; exact BoxA.new _ _ _ _
          have I5 := Lib.hid (hI5.via hal)
          have HV5 := Lib.hid (abvia HVR.out (abvia hbq hal))
          clear hI5 hbq hal
          try clear x0 x1
          obtain ⟨x0, x1, -, -, -⟩ := X1.out.via HV5.out
          try clear y0 y1
          obtain ⟨y0, y1, -, -, -⟩ := Y1.out.via HV5.out
          have g1 : (w5.alloc (.cells #[.slice sa5 sn5 sc5, .slice aa5 an5 ac5] 55)).cell? ⟨w.heap.size, 1, none⟩ = some (.slice aa an ac) := by rw [HW5.out]; exact x1
          have g2 : (w5.alloc (.cells #[.slice sa5 sn5 sc5, .slice aa5 an5 ac5] 55)).cell? ⟨w.heap.size + 1, 1, none⟩ = some (.slice ba bn bc) := by rw [HW5.out]; exact y1
          clear x0 x1 y0 y1
          have CM := Lib.hid (fun w1 (hb : Below W5.heap.size W5 w1) => arrmay_any (I5.out.via hb))
          have CE1 := Lib.hid (eq_any (w := W5) (A := ⟨sa5, sn5, sc5, aa5, an5, ac5, ds, da⟩) (B := ⟨sa, sn, sc, none, 0, 0, s, []⟩) I5.out ⟨HXS.out W5 HV5.out, Ls.zero _ _ (Nat.zero_le _)⟩)
          have CE2 := Lib.hid (eq_any (w := W5) (A := ⟨sa5, sn5, sc5, none, 0, 0, ds, []⟩) (B := ⟨sa, sn, sc, none, 0, 0, s, []⟩) ⟨I5.out.shp, Ls.zero _ _ (Nat.zero_le _)⟩ ⟨HXS.out W5 HV5.out, Ls.zero _ _ (Nat.zero_le _)⟩)
          simp only [Ar.v] at CM CE1 CE2
          by_cases hemp : an = 0 ∨ bn = 0
          · obtain ⟨e1, e2, e3⟩ := HE2.out hemp
            have e1' := e1.symm; have e2' := e2.symm; have e3' := e3.symm
            subst e1' e2' e3'
            simp only [and_self, decide_true] at CE1
            clear e1 e2 e3
            rcases (show an = 0 ∨ (0 < an ∧ bn = 0) by omega) with e4 | ⟨e4, e5⟩
            · subst e4
              clear hemp
              go_wp2_with fail
              rw [HW5.out]
              refine (CE1.out).mono ?_; rintro e w6 ⟨rfl, hbq⟩
              have HV6 := Lib.hid (abvia HV5.out hbq)
              clear hbq
              go_wp2
              go_ret
              exact RetB.mk rfl (HZ.out _ HV6.out)
            · subst e5
              clear hemp
              have e6 : ((an : Int) == 0) = false := by simp; omega
              have e7 : (an == 0) = false := by simp; omega
              go_wp2_with fail
              rw [HW5.out]
              refine (CE1.out).mono ?_; rintro e w6 ⟨rfl, hbq⟩
              have HV6 := Lib.hid (abvia HV5.out hbq)
              clear hbq
              go_wp2
              go_ret
              exact RetB.mk rfl (HZ.out _ HV6.out)
          · have e6 : ((an : Int) == 0) = false := by simp; omega
            have e7 : (an == 0) = false := by simp; omega
            have e8 : ((bn : Int) == 0) = false := by simp; omega
            have e9 : (bn == 0) = false := by simp; omega
            clear hemp HE2
            by_cases hd0 : de = 0
            · obtain ⟨e2, e3⟩ := HE3.out hd0
              subst hd0
              have e2' := e2.symm
              subst e2'
              simp only [and_self, decide_true, e3] at CE2 CM
              clear e2 e3
              go_wp2_with fail
              rw [HW5.out]
              refine CE2.out.mono ?_; rintro e w6 ⟨rfl, hbq⟩
              have HB6 := Lib.hid hbq
              have HV6 := Lib.hid (abvia HV5.out hbq)
              clear hbq g1 g2
              obtain ⟨k0, k1, k2, k3, k4⟩ := X5.out.via HB6.out
              go_wp2_with fail
              refine (CM.out w6 HB6.out).mono ?_; rintro e w7 ⟨rfl, hbq⟩
              have HV7 := Lib.hid (abvia HV6.out hbq)
              clear hbq
              go_wp2
              go_ret
              exact RetB.mk rfl (HZ.out _ HV7.out)
            · have hd1 : (de == 0) = false := by simpa using hd0
              have hd2 : (de != 0) = true := by simpa using hd0
              have HV6 : Hid (Below W.heap.size W (w5.alloc (.cells #[.slice sa5 sn5 sc5, .slice aa5 an5 ac5] 55))) := by rw [HW5.out]; exact HV5
              go_wp2
              go_ret
              exact RetB.mk rfl (HZ.out _ HV6.out)
        · rw [decide_eq_false hag]
          obtain ⟨he1, he2, he3⟩ := HBAD.out hag
          have e1' := he1.symm; have e2' := he2.symm; have e3' := he3.symm
          subst e1' e2' e3'
          clear hag HBAD HOK HE hgo he1 he2 he3
          go_wp2_with fail
          refine (CD.out wr HVR.out).mono ?_; rintro e w5 ⟨⟨sa5, sn5, sc5, aa5, an5, ac5, s5, a5⟩, rfl, hI5, hs5, ha5, -, hbq⟩
          simp only at hs5 ha5
          subst hs5 ha5
          simp only [Ar.v]
          obtain ⟨W5, HW5⟩ : ∃ z, Hid (w5.alloc (.cells #[.slice sa5 sn5 sc5, .slice aa5 an5 ac5] 55) = z) := ⟨_, rfl⟩
          have hal : Below w5.heap.size w5 W5 := by rw [← HW5.out]; exact abal _ _
          have X5 : Hid (BoxA W5 w5.heap.size (.slice sa5 sn5 sc5) (.slice aa5 an5 ac5)) := by rw [← HW5.out]; exact BoxA.new _ _ _ _
          have HV5 := Lib.hid (abvia HVR.out (abvia hbq hal))
          have CE1 := Lib.hid (eq_any (w := W5) (A := ⟨sa5, sn5, sc5, aa5, an5, ac5, [], []⟩) (B := ⟨none, 0, 0, none, 0, 0, [], []⟩) (hI5.via hal) (Ar.is_nil _))
          simp only [Ar.v, and_self, decide_true] at CE1
          clear hI5 hbq hal
          go_wp2_with fail
          rw [HW5.out]
          refine (CE1.out).mono ?_; rintro e w6 ⟨rfl, hbq⟩
          have HV6 := Lib.hid (abvia HV5.out hbq)
          clear hbq
          go_wp2
          go_ret
          exact RetB.mk rfl (HZ.out _ HV6.out)
      · by_cases hag : agE s t = 0
        · rw [decide_eq_true hag]
          obtain ⟨he1, he2, he3⟩ := HOK.out hag
          clear hag HBAD HOK HE hgo
          have hde : (de == 11) = false := by simpa using he1
          rw [if_neg (show ¬ sn < tn by omega)] at he2 he3
          have HE2 := Lib.hid he2
          have HE3 := Lib.hid he3
          clear he1 he2 he3
          go_wp2_with fail
          refine (CD.out wr HVR.out).mono ?_; rintro e w5 ⟨⟨sa5, sn5, sc5, aa5, an5, ac5, s5, a5⟩, rfl, hI5, hs5, ha5, -, hbq⟩
          simp only at hs5 ha5
          have hs5' := hs5.symm
          have ha5' := ha5.symm
          subst hs5' ha5'
          simp only [Ar.v]
          obtain ⟨W5, HW5⟩ : ∃ z, Hid (w5.alloc (.cells #[.slice sa5 sn5 sc5, .slice aa5 an5 ac5] 55) = z) := ⟨_, rfl⟩
          have hal : Below w5.heap.size w5 W5 := by rw [← HW5.out]; exact abal _ _
          have X5 : Hid (BoxA W5 w5.heap.size (.slice sa5 sn5 sc5) (.slice aa5 an5 ac5)) := by rw [← HW5.out]; exact BoxA.new _ _ _ _
          have I5 := Lib.hid (hI5.via hal)
          have HV5 := Lib.hid (abvia HVR.out (abvia hbq hal))
          clear hI5 hbq hal
          try clear x0 x1
          obtain ⟨x0, x1, -, -, -⟩ := X1.out.via HV5.out
          try clear y0 y1
          obtain ⟨y0, y1, -, -, -⟩ := Y1.out.via HV5.out
          have g1 : (w5.alloc (.cells #[.slice sa5 sn5 sc5, .slice aa5 an5 ac5] 55)).cell? ⟨w.heap.size, 1, none⟩ = some (.slice aa an ac) := by rw [HW5.out]; exact x1
          have g2 : (w5.alloc (.cells #[.slice sa5 sn5 sc5, .slice aa5 an5 ac5] 55)).cell? ⟨w.heap.size + 1, 1, none⟩ = some (.slice ba bn bc) := by rw [HW5.out]; exact y1
          clear x0 x1 y0 y1
          have CM := Lib.hid (fun w1 (hb : Below W5.heap.size W5 w1) => arrmay_any (I5.out.via hb))
          have CE1 := Lib.hid (eq_any (w := W5) (A := ⟨sa5, sn5, sc5, aa5, an5, ac5, ds, da⟩) (B := ⟨sa, sn, sc, none, 0, 0, s, []⟩) I5.out ⟨HXS.out W5 HV5.out, Ls.zero _ _ (Nat.zero_le _)⟩)
          have CE2 := Lib.hid (eq_any (w := W5) (A := ⟨sa5, sn5, sc5, none, 0, 0, ds, []⟩) (B := ⟨sa, sn, sc, none, 0, 0, s, []⟩) ⟨I5.out.shp, Ls.zero _ _ (Nat.zero_le _)⟩ ⟨HXS.out W5 HV5.out, Ls.zero _ _ (Nat.zero_le _)⟩)
          simp only [Ar.v] at CM CE1 CE2
          by_cases hemp : an = 0 ∨ bn = 0
          · obtain ⟨e1, e2, e3⟩ := HE2.out hemp
            have e1' := e1.symm; have e2' := e2.symm; have e3' := e3.symm
            subst e1' e2' e3'
            simp only [and_self, decide_true] at CE1
            clear e1 e2 e3
            rcases (show an = 0 ∨ (0 < an ∧ bn = 0) by omega) with e4 | ⟨e4, e5⟩
            · subst e4
              clear hemp
              go_wp2_with fail
              rw [HW5.out]
              refine (CE1.out).mono ?_; rintro e w6 ⟨rfl, hbq⟩
              have HV6 := Lib.hid (abvia HV5.out hbq)
              clear hbq
              go_wp2
              go_ret
              exact RetB.mk rfl (HZ.out _ HV6.out)
            · subst e5
              clear hemp
              have e6 : ((an : Int) == 0) = false := by simp; omega
              have e7 : (an == 0) = false := by simp; omega
              go_wp2_with fail
              rw [HW5.out]
              refine (CE1.out).mono ?_; rintro e w6 ⟨rfl, hbq⟩
              have HV6 := Lib.hid (abvia HV5.out hbq)
              clear hbq
              go_wp2
              go_ret
              exact RetB.mk rfl (HZ.out _ HV6.out)
          · have e6 : ((an : Int) == 0) = false := by simp; omega
            have e7 : (an == 0) = false := by simp; omega
            have e8 : ((bn : Int) == 0) = false := by simp; omega
            have e9 : (bn == 0) = false := by simp; omega
            clear hemp HE2
            by_cases hd0 : de = 0
            · obtain ⟨e2, e3⟩ := HE3.out hd0
              subst hd0
              have e2' := e2.symm
              subst e2'
              simp only [and_self, decide_true, e3] at CE2 CM
              clear e2 e3
              go_wp2_with fail
              rw [HW5.out]
              refine CE2.out.mono ?_; rintro e w6 ⟨rfl, hbq⟩
              have HB6 := Lib.hid hbq
              have HV6 := Lib.hid (abvia HV5.out hbq)
              clear hbq g1 g2
              obtain ⟨k0, k1, k2, k3, k4⟩ := X5.out.via HB6.out
              go_wp2_with fail
              refine (CM.out w6 HB6.out).mono ?_; rintro e w7 ⟨rfl, hbq⟩
              have HV7 := Lib.hid (abvia HV6.out hbq)
              clear hbq
              go_wp2
              go_ret
              exact RetB.mk rfl (HZ.out _ HV7.out)
            · have hd1 : (de == 0) = false := by simpa using hd0
              have hd2 : (de != 0) = true := by simpa using hd0
              have HV6 : Hid (Below W.heap.size W (w5.alloc (.cells #[.slice sa5 sn5 sc5, .slice aa5 an5 ac5] 55))) := by rw [HW5.out]; exact HV5
              go_wp2
              go_ret
              exact RetB.mk rfl (HZ.out _ HV6.out)
        · rw [decide_eq_false hag]
          obtain ⟨he1, he2, he3⟩ := HBAD.out hag
          have e1' := he1.symm; have e2' := he2.symm; have e3' := he3.symm
          subst e1' e2' e3'
          clear hag HBAD HOK HE hgo he1 he2 he3
          go_wp2_with fail
          refine (CD.out wr HVR.out).mono ?_; rintro e w5 ⟨⟨sa5, sn5, sc5, aa5, an5, ac5, s5, a5⟩, rfl, hI5, hs5, ha5, -, hbq⟩
          simp only at hs5 ha5
          subst hs5 ha5
          simp only [Ar.v]
          obtain ⟨W5, HW5⟩ : ∃ z, Hid (w5.alloc (.cells #[.slice sa5 sn5 sc5, .slice aa5 an5 ac5] 55) = z) := ⟨_, rfl⟩
          have hal : Below w5.heap.size w5 W5 := by rw [← HW5.out]; exact abal _ _
          have X5 : Hid (BoxA W5 w5.heap.size (.slice sa5 sn5 sc5) (.slice aa5 an5 ac5)) := by rw [← HW5.out]; exact BoxA.new _ _ _ _
          have HV5 := Lib.hid (abvia HVR.out (abvia hbq hal))
          have CE1 := Lib.hid (eq_any (w := W5) (A := ⟨sa5, sn5, sc5, aa5, an5, ac5, [], []⟩) (B := ⟨none, 0, 0, none, 0, 0, [], []⟩) (hI5.via hal) (Ar.is_nil _))
          simp only [Ar.v, and_self, decide_true] at CE1
          clear hI5 hbq hal
          go_wp2_with fail
          rw [HW5.out]
          refine (CE1.out).mono ?_; rintro e w6 ⟨rfl, hbq⟩
          have HV6 := Lib.hid (abvia HV5.out hbq)
          clear hbq
          go_wp2
          go_ret
          exact RetB.mk rfl (HZ.out _ HV6.out)
end Go.Proofs.Ytdedbfbkakofgaa
