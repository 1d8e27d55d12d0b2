/- Contract of atom.Dyad. -/
import Derived.Test.YtdedbfbkakofgaaAtomMonad
import Derived.Test.YtdedbfbkakofgaaAtomDyadPlain
namespace Go.Proofs.Ytdedbfbkakofgaa
open Go.RowKit Go.Lib
set_option linter.unusedVariables false
set_option linter.unusedSimpArgs false
attribute [local go_sem] alloc_drewN setCell_drewN

theorem dwork_any (op x y : Int) {w : World} {b : Nat} (hb : w.cell? ⟨b, 0, none⟩ = some (.int .i64 op)) (hx : -9223372036854775808 ≤ x ∧ x ≤ 9223372036854775807) (hy : -9223372036854775808 ≤ y ∧ y ≤ 9223372036854775807) :
    Calls Try.prog 85 #[.int .i64 x, .int .i64 y, .pointer (some ⟨b, 0, none⟩)] w (Ret w (.tuple #[.int .i64 (dyV op x y), .int .i64 (dyE op x y)])) := by
  have C := Lib.hid (dyad_any op x y w hx hy)
  obtain ⟨v, HV⟩ : ∃ v, Hid (dyV op x y = v) := ⟨_, rfl⟩
  obtain ⟨e, HE⟩ : ∃ e, Hid (dyE op x y = e) := ⟨_, rfl⟩
  rw [HV.out, HE.out] at C ⊢
  clear hx hy
  go_enter Try.func85, Try.ntmps85
  go_wp2_with fail
  refine C.out.mono ?_; rintro e' w' ⟨rfl, n, rfl⟩
  go_wp2
  go_ret2
  exact Ret.mk _ rfl
set_option maxRecDepth 100000 in
set_option maxHeartbeats 3200000 in
theorem adyad_any {w : World} {X Y : Ar} (hX : X.Is w) (hY : Y.Is w) (op : Int) :
    Calls Try.prog 38 #[.int .i64 op, X.v, Y.v] w (MadeE w (adyS op X.s X.a Y.s Y.a) (adyA op X.s X.a Y.s Y.a) (adyE op X.s X.a Y.s Y.a)) := by
  obtain ⟨sa, sn, sc, aa, an, ac, s, a⟩ := X
  obtain ⟨ta, tn, tc, ba, bn, bc, t, b⟩ := Y
  simp only [Ar.v]
  obtain ⟨W, HWW⟩ : ∃ W, Hid ((((w.alloc (.cells #[.int .i64 op] 3)).alloc (.cells #[.slice sa sn sc, .slice aa an ac] 55)).alloc (.cells #[.slice ta tn tc, .slice ba bn bc] 55)).alloc (.cells #[.slice none 0 0, .slice none 0 0] 55) = W) := ⟨_, rfl⟩
  have hw : Below w.heap.size w W := by rw [← HWW.out]; exact abvia (abvia (abvia (abal _ _) (abal _ _)) (abal _ _)) (abal _ _)
  have hsz : W.heap.size = w.heap.size + 4 := by rw [← HWW.out]; simp
  have B0 : Box1 W w.heap.size (.int .i64 op) := by rw [← HWW.out]; exact (((Box1.new _ _ _).via (abal _ _)).via (abal _ _)).via (abal _ _)
  have B1 : BoxA W (w.heap.size + 1) (.slice sa sn sc) (.slice aa an ac) := by rw [← HWW.out]; exact ((by simpa using BoxA.new (w.alloc (.cells #[.int .i64 op] 3)) 55 (.slice sa sn sc) (.slice aa an ac) : BoxA _ (w.heap.size + 1) _ _).via (abal _ _)).via (abal _ _)
  have B2 : BoxA W (w.heap.size + 1 + 1) (.slice ta tn tc) (.slice ba bn bc) := by rw [← HWW.out]; exact (by simpa using BoxA.new ((w.alloc (.cells #[.int .i64 op] 3)).alloc (.cells #[.slice sa sn sc, .slice aa an ac] 55)) 55 (.slice ta tn tc) (.slice ba bn bc) : BoxA _ (w.heap.size + 1 + 1) _ _).via (abal _ _)
  have B3 : BoxA W (w.heap.size + 1 + 1 + 1) (.slice none 0 0) (.slice none 0 0) := by rw [← HWW.out]; simpa using BoxA.new (((w.alloc (.cells #[.int .i64 op] 3)).alloc (.cells #[.slice sa sn sc, .slice aa an ac] 55)).alloc (.cells #[.slice ta tn tc, .slice ba bn bc] 55)) 55 (.slice none 0 0) (.slice none 0 0)
  have hIX := hX.via hw
  have hIY := hY.via hw
  have MX := Lib.hid (arrmay_any hIX)
  have MY := Lib.hid (fun w1 (hb : Below W.heap.size W w1) => arrmay_any (hIY.via hb))
  have R := Lib.hid (fun w1 => refused_two op w1)
  have AG := Lib.hid (fun w1 (hb : Below W.heap.size W w1) => agree_any (hIX.via hb).shp (hIY.via hb).shp)
  have hl1 : a.length = an := hX.ats.len
  have hl2 : b.length = bn := hY.ats.len
  have HR1 := Lib.hid hX.ats.rng
  have HR2 := Lib.hid hY.ats.rng
  simp only [Ar.v] at MX MY
  obtain ⟨me, HME⟩ : ∃ e, Hid (amE s a = e) := ⟨_, rfl⟩
  obtain ⟨me2, HME2⟩ : ∃ e, Hid (amE t b = e) := ⟨_, rfl⟩
  obtain ⟨re, HRE⟩ : ∃ e, Hid (refV op 2 = e) := ⟨_, rfl⟩
  obtain ⟨ge, HGE⟩ : ∃ e, Hid (agE s t = e) := ⟨_, rfl⟩
  obtain ⟨gl, HGL⟩ : ∃ e, Hid (agL s t = e) := ⟨_, rfl⟩
  obtain ⟨fe, HFE⟩ : ∃ e, Hid (adyE op s a t b = e) := ⟨_, rfl⟩
  obtain ⟨fs, HFS⟩ : ∃ e, Hid (adyS op s a t b = e) := ⟨_, rfl⟩
  obtain ⟨fa, HFA⟩ : ∃ e, Hid (adyA op s a t b = e) := ⟨_, rfl⟩
  rw [HFE.out, HFS.out, HFA.out]
  rw [HME.out] at MX
  rw [HME2.out] at MY
  rw [HRE.out] at R
  rw [HGE.out, HGL.out] at AG
  have HNIL : Hid (fe ≠ 0 → [] = fs ∧ [] = fa) := fun h => ⟨by rw [← HFS.out, adyS, HFE.out, if_neg h], by rw [← HFA.out, adyA, HFE.out, if_neg h]⟩
  have HW := Lib.hid hw
  have SZ := Lib.hid hsz
  have HB0 := Lib.hid B0
  have HB1 := Lib.hid B1
  have HB2 := Lib.hid B2
  have HB3 := Lib.hid B3
  have HIX := Lib.hid hIX
  have HIY := Lib.hid hIY
  have HL1 := Lib.hid hl1
  have HL2 := Lib.hid hl2
  clear hX hY hw hsz B0 B1 B2 B3 hIX hIY hl1 hl2
  have END : Hid (∀ w1, Below W.heap.size W w1 → ∀ e : Int, MadeE w [] [] e (.returned (.tuple #[.agg #[.slice none 0 0, .slice none 0 0], .int .i64 e])) ((w1.setCell ⟨w.heap.size + 1 + 1 + 1, 0, none⟩ (.slice none 0 0)).setCell ⟨w.heap.size + 1 + 1 + 1, 1, none⟩ (.slice none 0 0))) := fun w1 hb e =>
    made_nil e (((abvia HW.out hb).setCell (by dsimp only; omega) _).setCell (by dsimp only; omega) _)
  go_enter Try.func38, Try.ntmps38
  go_wp2_with fail
  rw [HWW.out]
  refine MX.out.mono ?_; rintro e w1 ⟨rfl, hb1⟩
  have HV1 := Lib.hid hb1
  clear hb1
  by_cases hme : me = 0
  · subst hme
    obtain ⟨y0, y1, -, -, -⟩ := HB2.out.via HV1.out
    go_wp2_with fail
    refine (MY.out w1 HV1.out).mono ?_; rintro e w2 ⟨rfl, hb2⟩
    have HV2 := Lib.hid (abvia HV1.out hb2)
    clear hb2 y0 y1
    by_cases hme2 : me2 = 0
    · subst hme2
      obtain ⟨z0, -, -⟩ := HB0.out.via HV2.out
      go_wp2_with fail
      refine (R.out w2).mono ?_; rintro e w3 ⟨rfl, n3, rfl⟩
      obtain ⟨w4, HW4⟩ : ∃ w4, Hid (w2.drewN n3 = w4) := ⟨_, rfl⟩
      have HV4 : Hid (Below W.heap.size W w4) := by show Below _ _ _; rw [← HW4.out]; exact abvia HV2.out (adrew _ _)
      rw [HW4.out]
      clear z0
      by_cases hre : re = 0
      · subst hre
        obtain ⟨x0, x1, -, -, -⟩ := HB1.out.via HV4.out
        obtain ⟨y0, y1, -, -, -⟩ := HB2.out.via HV4.out
        go_wp2_with fail
        refine (AG.out w4 HV4.out).mono ?_; rintro e w5 ⟨go, gn, gc, rfl, hLG, hOG, hBG⟩
        have HLG := Lib.hid hLG
        have HOG := Lib.hid hOG
        have HBG := Lib.hid hBG
        have HV5 := Lib.hid (abvia HV4.out hBG)
        clear hLG hOG hBG x0 x1 y0 y1
        by_cases hge : ge = 0
        · subst hge
          obtain ⟨p1, p2, p3, p4⟩ := dy_place HME.out HME2.out HGE.out
          rw [HGL.out] at p1 p2
          obtain ⟨N, HN⟩ : ∃ N, Hid (adyN s t = N) := ⟨_, rfl⟩
          rw [HN.out] at p1 p3 p4
          rw [HL1.out, HL2.out] at p4
          have CS := Lib.hid (size_any HLG.out)
          rw [show szE gl = N by rw [szE, if_pos p2, p1], p2] at CS
          have HP4 := Lib.hid p4
          clear p1 p2 p4
          have hmk := fun w => mk_int64 N (by omega) w
          go_wp2_with fail
          refine CS.out.mono ?_; rintro e w6 ⟨rfl, hw6⟩
          have hw6' := hw6.symm
          subst hw6'
          obtain ⟨W6, HW6⟩ : ∃ W6, Hid ((w5.alloc (.cells (Array.replicate N (.int .i64 0)) 2)).alloc (.cells #[.slice go gn gc, .slice (some ⟨w5.heap.size, 0, none⟩) N N] 55) = W6) := ⟨_, rfl⟩
          have HM : Hid (FillMid w4 W6 (w5.heap.size + 1) gn go gc N w5.heap.size gl (filled (dnV op a b N) 0 N)) := by
            show FillMid _ _ _ _ _ _ _ _ _ _
            rw [filled_zero, ← HW6.out]; exact fm_own (by omega) HLG.out HOG.out HBG.out
          obtain ⟨k0, k1, k2, k3, k4⟩ := HM.out.box
          clear CS
          go_wp2_with fail
          rw [HW6.out]
          go_loopw [58] (fun i wr => ∃ k : Nat, k ≤ N ∧ i = .int .i64 k ∧ Hid (FillMid w4 wr (w5.heap.size + 1) gn go gc N w5.heap.size gl (filled (dnV op a b N) k N)) ∧ Hid (firE ((List.range k).map (dnE op a b N)) = 0)) (fun i _ => N - (RowKit.intOf i).toNat)
          case atStart => exact ⟨0, Nat.zero_le _, rfl, HM, rfl⟩
          case round =>
            obtain ⟨k, hk, rfl, HR, HF0⟩ := hrel
            clear k0 k1 k2 k3 k4 hmk
            have HVR : Hid (Below W.heap.size W wr) := abvia HV4.out HR.out.below
            by_cases hlt : k < N
            · have hlt' : (k : Int) < N := by omega
              obtain ⟨m1, m2, ⟨q1, q2, q3, q4⟩, q5, q6, q7, q8⟩ := HP4.out k hlt
              obtain ⟨oa, fa1, rfl, hca⟩ := (HIX.out.via HVR.out).ats.at q1
              obtain ⟨ob, fb1, rfl, hcb⟩ := (HIY.out.via HVR.out).ats.at q5
              have d1 := hca (k / m1) q4
              have d2 := hcb (k / m2) q8
              clear hca hcb
              have HJ1 : Hid (k / m1 = k / (N / a.length)) := by show _ = _; rw [HL1.out, q3]
              have HJ2 : Hid (k / m2 = k / (N / b.length)) := by show _ = _; rw [HL2.out, q7]
              obtain ⟨j1, hj1⟩ : ∃ j, k / m1 = j := ⟨_, rfl⟩
              obtain ⟨j2, hj2⟩ : ∃ j, k / m2 = j := ⟨_, rfl⟩
              have e1 : (N : Int).tdiv an = m1 := by rw [Int.tdiv_eq_ediv_of_nonneg (by omega)]; exact_mod_cast q3
              have e2 : (N : Int).tdiv bn = m2 := by rw [Int.tdiv_eq_ediv_of_nonneg (by omega)]; exact_mod_cast q7
              have e3 : (k : Int).tdiv m1 = j1 := by rw [Int.tdiv_eq_ediv_of_nonneg (by omega)]; exact_mod_cast hj1
              have e4 : (k : Int).tdiv m2 = j2 := by rw [Int.tdiv_eq_ediv_of_nonneg (by omega)]; exact_mod_cast hj2
              rw [hj1] at d1 q4 HJ1
              rw [hj2] at d2 q8 HJ2
              obtain ⟨x, HX⟩ : ∃ x, Hid (a.getD j1 0 = x) := ⟨_, rfl⟩
              obtain ⟨y, HY⟩ : ∃ x, Hid (b.getD j2 0 = x) := ⟨_, rfl⟩
              rw [HX.out] at d1
              rw [HY.out] at d2
              have CW := Lib.hid (fun n => dwork_any op x y (w := wr.drewN n) (b := w.heap.size) (HB0.out.via HVR.out).c0 (by rw [← HX.out]; exact HR1.out j1) (by rw [← HY.out]; exact HR2.out j2))
              obtain ⟨z, HZ⟩ : ∃ v, Hid (dyV op x y = v) := ⟨_, rfl⟩
              obtain ⟨ee, HEE⟩ : ∃ v, Hid (dyE op x y = v) := ⟨_, rfl⟩
              rw [HZ.out, HEE.out] at CW
              have HMV : Hid (dnV op a b N k = z) := by show _ = _; rw [dnV, ← HJ1.out, ← HJ2.out, HX.out, HY.out, HZ.out]
              have HMF : Hid (dnE op a b N k = ee) := by show _ = _; rw [dnE, ← HJ1.out, ← HJ2.out, HX.out, HY.out, HEE.out]
              have u1 : ¬ an = 0 := by omega
              have u2 : ¬ bn = 0 := by omega
              have u3 : ¬ m1 = 0 := by omega
              have u4 : ¬ m2 = 0 := by omega
              have u5 : (j1 : Int) < an := by omega
              have u6 : (j2 : Int) < bn := by omega
              have v1 : m1 ≤ 4096 := by rw [← q3]; exact Nat.le_trans (Nat.div_le_self _ _) p3
              have v2 : m2 ≤ 4096 := by rw [← q7]; exact Nat.le_trans (Nat.div_le_self _ _) p3
              have v3 : j1 ≤ 4096 := by rw [← hj1]; exact Nat.le_trans (Nat.div_le_self _ _) (by omega)
              have v4 : j2 ≤ 4096 := by rw [← hj2]; exact Nat.le_trans (Nat.div_le_self _ _) (by omega)
              obtain ⟨x0, x1, -, -, -⟩ := HB1.out.via HVR.out
              obtain ⟨y0, y1, -, -, -⟩ := HB2.out.via HVR.out
              clear q1 q2 q3 q4 q5 q6 q7 q8 hj1 hj2
              go_wp2_with fail
              go_quiet (with_reducible exact Ret.quiet (CW.out _))
              obtain ⟨w8, HW8⟩ : ∃ w8, Hid (wr.drewN nq = w8) := ⟨_, rfl⟩
              have HM8 : Hid (FillMid w4 w8 (w5.heap.size + 1) gn go gc N w5.heap.size gl (filled (dnV op a b N) k N)) := by rw [← HW8.out]; exact HR.out.next (adrew _ _)
              rw [HW8.out]
              clear d1 d2 x0 x1 y0 y1 e1 e2 e3 e4 u1 u2 u3 u4 u5 u6 v1 v2 v3 v4
              obtain ⟨k0, k1, k2, k3, k4⟩ := HM8.out.box
              obtain ⟨l0, l1, l2, l3, l4⟩ := HB3.out.via (abvia HV4.out HM8.out.below)
              by_cases hee : ee = 0
              · subst hee
                have d1 : ∃ v, w8.cell? ⟨w5.heap.size, k, none⟩ = some v := by
                  rw [HM8.out.O2.cellAt k (by omega)]
                  exact ⟨_, List.getElem?_eq_getElem (by simp [filled]; omega)⟩
                obtain ⟨v0, d1⟩ := d1
                have d2 := HM8.out.O2.frozenAt k
                have hput := HM8.out.put (k := k) z
                rw [← HMV.out, filled_set _ hlt, HMV.out] at hput
                have HP := Lib.hid hput
                have HF1 : Hid (firE ((List.range (k + 1)).map (dnE op a b N)) = 0) := by show _ = _; rw [fst_step, if_pos HF0.out, HMF.out]
                clear hput l0 l1 l2 l3 l4
                go_wp2
                go_roundw
                case rel => exact ⟨k + 1, by omega, by go_num, HP, HF1⟩
                case measure => simp [RowKit.intOf]; omega
              · have hee' : (ee != 0) = true := by simpa using hee
                have h1 : ee = fe := by
                  rw [← HFE.out]; simp only [adyE, HME.out, HME2.out, HRE.out, HGE.out, HN.out, ne_eq, not_true_eq_false, if_false, or_self]
                  rw [fst_at _ hlt HF0.out (by rw [HMF.out]; exact hee), HMF.out]
                subst h1
                obtain ⟨rfl, rfl⟩ := HNIL.out hee
                have HE := Lib.hid (END.out w8 (abvia HV4.out HM8.out.below) ee)
                go_wp2
                exact bodyPost_ret (v := .tuple #[.agg #[.slice none 0 0, .slice none 0 0], .int .i64 ee]) (by simp [results, Try.results38, go_sem, *]) rfl HE.out
            · obtain rfl : k = N := by omega
              have hge : (k : Int) ≤ k := Int.le_refl _
              obtain ⟨k0, k1, k2, k3, k4⟩ := HR.out.box
              obtain ⟨l0, l1, l2, l3, l4⟩ := HB3.out.via HVR.out
              have h1 : fe = 0 := by rw [← HFE.out]; simp only [adyE, HME.out, HME2.out, HRE.out, HGE.out, HN.out, ne_eq, not_true_eq_false, if_false, or_self]; exact HF0.out
              have h2 : fs = gl := by rw [← HFS.out]; simp [adyS, HFE.out, h1, HGL.out]
              have h3 : fa = filled (dnV op a b k) k k := by rw [← HFA.out, filled_all]; simp [adyA, HFE.out, h1, HN.out]
              subst h1 h2 h3
              have HE := Lib.hid (made_mid HR.out (abvia HW.out HV4.out) (b := w.heap.size + 1 + 1 + 1) (by have h1 := SZ.out; have h2 := HV4.out.size; omega) (by omega) (by omega) (filled_rng _ _ _ fun i hi => dy_rng op _ _ (HR1.out _) (HR2.out _)) (.slice go gn gc) (.slice (some ⟨w5.heap.size, 0, none⟩) k k))
              go_wp2
              exact bodyPost_ret (v := .tuple #[.agg #[.slice go gn gc, .slice (some ⟨w5.heap.size, 0, none⟩) k k], .int .i64 0]) (by simp [results, Try.results38, go_sem, *]) rfl HE.out
        · have hge' : (ge != 0) = true := by simpa using hge
          obtain ⟨k0, k1, k2, k3, k4⟩ := HB3.out.via HV5.out
          have h1 : ge = fe := by rw [← HFE.out]; simp [adyE, HME.out, HME2.out, HRE.out, HGE.out, hge]
          subst h1
          obtain ⟨rfl, rfl⟩ := HNIL.out hge
          have HE := Lib.hid (END.out w5 HV5.out ge)
          go_wp2
          exact bodyPost_ret (v := .tuple #[.agg #[.slice none 0 0, .slice none 0 0], .int .i64 ge]) (by simp [results, Try.results38, go_sem, *]) rfl HE.out
      · have hre' : (re != 0) = true := by simpa using hre
        obtain ⟨k0, k1, k2, k3, k4⟩ := HB3.out.via HV4.out
        have h1 : re = fe := by rw [← HFE.out]; simp [adyE, HME.out, HME2.out, HRE.out, hre]
        subst h1
        obtain ⟨rfl, rfl⟩ := HNIL.out hre
        have HE := Lib.hid (END.out w4 HV4.out re)
        go_wp2
        exact bodyPost_ret (v := .tuple #[.agg #[.slice none 0 0, .slice none 0 0], .int .i64 re]) (by simp [results, Try.results38, go_sem, *]) rfl HE.out
    · have hme' : (me2 != 0) = true := by simpa using hme2
      obtain ⟨k0, k1, k2, k3, k4⟩ := HB3.out.via HV2.out
      have h1 : 1 = fe := by rw [← HFE.out]; simp [adyE, HME.out, HME2.out, hme2]
      subst h1
      obtain ⟨rfl, rfl⟩ := HNIL.out (by omega)
      have HE := Lib.hid (END.out w2 HV2.out 1)
      go_wp2
      exact bodyPost_ret (v := .tuple #[.agg #[.slice none 0 0, .slice none 0 0], .int .i64 1]) (by simp [results, Try.results38, go_sem, *]) rfl HE.out
  · have hme' : (me != 0) = true := by simpa using hme
    obtain ⟨k0, k1, k2, k3, k4⟩ := HB3.out.via HV1.out
    have h1 : 1 = fe := by rw [← HFE.out]; simp [adyE, HME.out, HME2.out, hme]
    subst h1
    obtain ⟨rfl, rfl⟩ := HNIL.out (by omega)
    have HE := Lib.hid (END.out w1 HV1.out 1)
    go_wp2
    exact bodyPost_ret (v := .tuple #[.agg #[.slice none 0 0, .slice none 0 0], .int .i64 1]) (by simp [results, Try.results38, go_sem, *]) rfl HE.out
end Go.Proofs.Ytdedbfbkakofgaa
