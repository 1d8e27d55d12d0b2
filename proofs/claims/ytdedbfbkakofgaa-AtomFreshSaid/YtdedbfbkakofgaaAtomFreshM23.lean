/- Plain facts on the agreement of two arrays, and the answer out of a shape of the call's own. Contract of atom.Dyad. What every statement of the layer asks ahead: begun. -/
import Derived.Test.YtdedbfbkakofgaaAtomFreshM22
import Derived.Test.YtdedbfbkakofgaaAtomFreshM6
import Derived.Test.YtdedbfbkakofgaaAtomFreshM5
import Derived.Deep.RegionHeld3
namespace Go.Proofs.Ytdedbfbkakofgaa
open Go.RowKit Go.Lib
set_option linter.unusedVariables false
set_option linter.unusedSimpArgs false
theorem pr_append (s t : List Int) : pr (s ++ t) = pr s * pr t := by
  induction s with
  | nil => simp [pr]
  | cons x xs ih => rw [List.cons_append, pr_cons, pr_cons, ih, Int.mul_assoc]
theorem ag_cases {s t : List Int} (h : agE s t = 0) : (agL s t = t ∧ t.take s.length = s) ∨ (agL s t = s ∧ s.take t.length = t) := by
  unfold agE at h
  unfold agL
  by_cases h1 : s.length < t.length
  · rw [if_pos h1] at h ⊢
    by_cases h2 : t.take s.length = s
    · rw [if_pos h2]; exact .inl ⟨rfl, h2⟩
    · rw [if_neg h2] at h; omega
  · rw [if_neg h1] at h ⊢
    by_cases h2 : s.take t.length = t
    · rw [if_pos h2]; exact .inr ⟨rfl, h2⟩
    · rw [if_neg h2] at h; omega
theorem ag_bad {s t : List Int} (h : agE s t ≠ 0) : agL s t = [] ∧ agE s t = 11 := by
  unfold agE at h ⊢
  unfold agL
  by_cases h1 : s.length < t.length
  · rw [if_pos h1] at h ⊢; rw [if_pos h1]
    by_cases h2 : t.take s.length = s
    · rw [if_pos h2] at h; omega
    · rw [if_neg h2, if_neg h2]; exact ⟨rfl, rfl⟩
  · rw [if_neg h1] at h ⊢; rw [if_neg h1]
    by_cases h2 : s.take t.length = t
    · rw [if_pos h2] at h; omega
    · rw [if_neg h2, if_neg h2]; exact ⟨rfl, rfl⟩
theorem am_pr {s a : List Int} (h : amE s a = 0) : pr s = a.length ∧ a.length ≤ 4096 := by
  obtain ⟨h1, h2⟩ := amE_zero h
  obtain ⟨g1, g2, g3⟩ := mayE_zero h1
  have q3 := pr_le s g1 s.length
  rw [List.take_length] at q3
  exact ⟨h2, by omega⟩
theorem div_in {n l m k : Nat} (h : n = l * m) (hk : k < n) : 0 < l ∧ 0 < m ∧ n / l = m ∧ k / m < l := by
  have hl : 0 < l := by rcases Nat.eq_zero_or_pos l with h0 | h0
                        · subst h0; omega
                        · exact h0
  have hm : 0 < m := by rcases Nat.eq_zero_or_pos m with h0 | h0
                        · subst h0; omega
                        · exact h0
  refine ⟨hl, hm, by rw [h, Nat.mul_div_cancel_left _ hl], ?_⟩
  rw [Nat.div_lt_iff_lt_mul hm]; omega
theorem dy_place {s a t b : List Int} (h1 : amE s a = 0) (h2 : amE t b = 0) (h : agE s t = 0) :
    pr (agL s t) = adyN s t ∧ mayE (agL s t) = 0 ∧ adyN s t ≤ 4096 ∧ (∀ k, k < adyN s t → ∃ m1 m2, (0 < a.length ∧ 0 < m1 ∧ adyN s t / a.length = m1 ∧ k / m1 < a.length) ∧ (0 < b.length ∧ 0 < m2 ∧ adyN s t / b.length = m2 ∧ k / m2 < b.length)) := by
  obtain ⟨p1, q1⟩ := am_pr h1
  obtain ⟨p2, q2⟩ := am_pr h2
  obtain ⟨y1, -⟩ := amE_zero h1
  obtain ⟨y2, -⟩ := amE_zero h2
  rcases ag_cases h with ⟨e, e2⟩ | ⟨e, e2⟩
  · have hn : adyN s t = b.length := by unfold adyN; rw [e]; omega
    have hs : t = s ++ t.drop s.length := by conv => lhs; rw [← List.take_append_drop s.length t, e2]
    have hp : (b.length : Int) = a.length * pr (t.drop s.length) := by rw [← p2, ← p1, ← pr_append, ← hs]
    refine ⟨by rw [e, hn, p2], by rw [e]; exact y2, by omega, fun k hk => ?_⟩
    rw [hn] at hk ⊢
    have hnn : 0 ≤ pr (t.drop s.length) := by
      have := pr_le (t.drop s.length) (fun i => by rw [List.getD_eq_getElem?_getD, List.getElem?_drop]; have := (mayE_zero y2).1 (s.length + i); rwa [List.getD_eq_getElem?_getD] at this) (t.drop s.length).length
      rw [List.take_length] at this; exact this.1
    obtain ⟨m, hm⟩ := Int.eq_ofNat_of_zero_le hnn
    have hp' : b.length = a.length * m := by rw [hm] at hp; exact_mod_cast hp
    exact ⟨m, 1, div_in hp' hk, div_in (by omega) hk⟩
  · have hn : adyN s t = a.length := by unfold adyN; rw [e]; omega
    have hs : s = t ++ s.drop t.length := by conv => lhs; rw [← List.take_append_drop t.length s, e2]
    have hp : (a.length : Int) = b.length * pr (s.drop t.length) := by rw [← p2, ← p1, ← pr_append, ← hs]
    refine ⟨by rw [e, hn, p1], by rw [e]; exact y1, by omega, fun k hk => ?_⟩
    rw [hn] at hk ⊢
    have hnn : 0 ≤ pr (s.drop t.length) := by
      have := pr_le (s.drop t.length) (fun i => by rw [List.getD_eq_getElem?_getD, List.getElem?_drop]; have := (mayE_zero y1).1 (t.length + i); rwa [List.getD_eq_getElem?_getD] at this) (s.drop t.length).length
      rw [List.take_length] at this; exact this.1
    obtain ⟨m, hm⟩ := Int.eq_ofNat_of_zero_le hnn
    have hp' : a.length = b.length * m := by rw [hm] at hp; exact_mod_cast hp
    exact ⟨1, m, div_in (by omega) hk, div_in hp' hk⟩
/-- A shape of the call's own, a row of zeros, the box of both. -/
theorem fm_own {w' w2 : World} {n c1 N : Nat} {ao1 : Option Addr} {s : List Int} (hN : N ≤ 1000000) (hL : Ls w2 ao1 n c1 s) (hO : w2.ownsRow w'.heap.size 3 1 (.slice ao1 n c1) n (s.map (Value.int .i64))) (hB : Below w'.heap.size w' w2) :
    FillMid w' ((w2.alloc (.cells (Array.replicate N (.int .i64 0)) 2)).alloc (.cells #[.slice ao1 n c1, .slice (some ⟨w2.heap.size, 0, none⟩) N N] 55)) (w2.heap.size + 1) n ao1 c1 N (w2.heap.size) s (List.replicate N 0) := by
  have hs := hB.size
  refine ⟨by simpa using BoxA.new (w2.alloc (.cells (Array.replicate N (.int .i64 0)) 2)) _ _ _, by omega, ?_, (hO.alloc _).alloc _, (own_zeros w2 _ N _ hN hs).alloc _, ?_, ?_, ?_, (hB.alloc hs _).alloc (by simp; omega) _⟩
  · exact (hL.below ((Below.refl _ _).alloc (Nat.le_refl _) _) (Nat.le_refl _)).below ((Below.refl _ _).alloc (Nat.le_refl _) _) (Nat.le_refl _)
  · intro h1; have := own_block hO h1; omega
  · intro h1; have := own_block hO h1; omega
  · omega
end Go.Proofs.Ytdedbfbkakofgaa

namespace Go.Proofs.Ytdedbfbkakofgaa
open Go.RowKit Go.Lib
set_option linter.unusedVariables false
set_option linter.unusedSimpArgs false
attribute [local go_sem] alloc_drewN setCell_drewN

theorem dwork_any (op x y : Int) {w : World} {b : Nat} (hb : w.cell? ⟨b, 0, none⟩ = some (.int .i64 op)) (hx : -9223372036854775808 ≤ x ∧ x ≤ 9223372036854775807) (hy : -9223372036854775808 ≤ y ∧ y ≤ 9223372036854775807) :
    Calls Try.prog 85 #[.int .i64 x, .int .i64 y, .pointer (some ⟨b, 0, none⟩)] w (Ret w (.tuple #[.int .i64 (dyV op x y), .int .i64 (dyE op x y)])) := by
  have C := Lib.hid (dyad_any op x y w hx hy)
  obtain ⟨v, HV⟩ : ∃ v, Hid (dyV op x y = v) := ⟨_, rfl⟩
  obtain ⟨e, HE⟩ : ∃ e, Hid (dyE op x y = e) := ⟨_, rfl⟩
  rw [HV.out, HE.out] at C ⊢
  clear hx hy
  go_enter Try.func85, Try.ntmps85
  go_wp2_with fail
  refine C.out.mono ?_; rintro e' w' ⟨rfl, n, rfl⟩
  go_wp2
  go_ret2
  exact Ret.mk _ rfl
set_option maxRecDepth 100000 in
set_option maxHeartbeats 3200000 in
theorem adyad_any {w : World} {X Y : Ar} (hX : X.Is w) (hY : Y.Is w) (op : Int) :
    Calls Try.prog 38 #[.int .i64 op, X.v, Y.v] w (MadeE w (adyS op X.s X.a Y.s Y.a) (adyA op X.s X.a Y.s Y.a) (adyE op X.s X.a Y.s Y.a)) := by
  obtain ⟨sa, sn, sc, aa, an, ac, s, a⟩ := X
  obtain ⟨ta, tn, tc, ba, bn, bc, t, b⟩ := Y
  simp only [Ar.v]
  obtain ⟨W, HWW⟩ : ∃ W, Hid ((((w.alloc (.cells #[.int .i64 op] 3)).alloc (.cells #[.slice sa sn sc, .slice aa an ac] 55)).alloc (.cells #[.slice ta tn tc, .slice ba bn bc] 55)).alloc (.cells #[.slice none 0 0, .slice none 0 0] 55) = W) := ⟨_, rfl⟩
  have hw : Below w.heap.size w W := by rw [← HWW.out]; exact abvia (abvia (abvia (abal _ _) (abal _ _)) (abal _ _)) (abal _ _)
  have hsz : W.heap.size = w.heap.size + 4 := by rw [← HWW.out]; simp
  have B0 : Box1 W w.heap.size (.int .i64 op) := by rw [← HWW.out]; exact (((Box1.new _ _ _).via (abal _ _)).via (abal _ _)).via (abal _ _)
  have B1 : BoxA W (w.heap.size + 1) (.slice sa sn sc) (.slice aa an ac) := by rw [← HWW.out]; exact ((by simpa using BoxA.new (w.alloc (.cells #[.int .i64 op] 3)) 55 (.slice sa sn sc) (.slice aa an ac) : BoxA _ (w.heap.size + 1) _ _).via (abal _ _)).via (abal _ _)
  have B2 : BoxA W (w.heap.size + 1 + 1) (.slice ta tn tc) (.slice ba bn bc) := by rw [← HWW.out]; exact (by simpa using BoxA.new ((w.alloc (.cells #[.int .i64 op] 3)).alloc (.cells #[.slice sa sn sc, .slice aa an ac] 55)) 55 (.slice ta tn tc) (.slice ba bn bc) : BoxA _ (w.heap.size + 1 + 1) _ _).via (abal _ _)
  have B3 : BoxA W (w.heap.size + 1 + 1 + 1) (.slice none 0 0) (.slice none 0 0) := by rw [← HWW.out]; simpa using BoxA.new (((w.alloc (.cells #[.int .i64 op] 3)).alloc (.cells #[.slice sa sn sc, .slice aa an ac] 55)).alloc (.cells #[.slice ta tn tc, .slice ba bn bc] 55)) 55 (.slice none 0 0) (.slice none 0 0)
  have hIX := hX.via hw
  have hIY := hY.via hw
  have MX := Lib.hid (arrmay_any hIX)
  have MY := Lib.hid (fun w1 (hb : Below W.heap.size W w1) => arrmay_any (hIY.via hb))
  have R := Lib.hid (fun w1 => refused_two op w1)
  have AG := Lib.hid (fun w1 (hb : Below W.heap.size W w1) => agree_any (hIX.via hb).shp (hIY.via hb).shp)
  have hl1 : a.length = an := hX.ats.len
  have hl2 : b.length = bn := hY.ats.len
  have HR1 := Lib.hid hX.ats.rng
  have HR2 := Lib.hid hY.ats.rng
  simp only [Ar.v] at MX MY
  obtain ⟨me, HME⟩ : ∃ e, Hid (amE s a = e) := ⟨_, rfl⟩
  obtain ⟨me2, HME2⟩ : ∃ e, Hid (amE t b = e) := ⟨_, rfl⟩
  obtain ⟨re, HRE⟩ : ∃ e, Hid (refV op 2 = e) := ⟨_, rfl⟩
  obtain ⟨ge, HGE⟩ : ∃ e, Hid (agE s t = e) := ⟨_, rfl⟩
  obtain ⟨gl, HGL⟩ : ∃ e, Hid (agL s t = e) := ⟨_, rfl⟩
  obtain ⟨fe, HFE⟩ : ∃ e, Hid (adyE op s a t b = e) := ⟨_, rfl⟩
  obtain ⟨fs, HFS⟩ : ∃ e, Hid (adyS op s a t b = e) := ⟨_, rfl⟩
  obtain ⟨fa, HFA⟩ : ∃ e, Hid (adyA op s a t b = e) := ⟨_, rfl⟩
  rw [HFE.out, HFS.out, HFA.out]
  rw [HME.out] at MX
  rw [HME2.out] at MY
  rw [HRE.out] at R
  rw [HGE.out, HGL.out] at AG
  have HNIL : Hid (fe ≠ 0 → [] = fs ∧ [] = fa) := fun h => ⟨by rw [← HFS.out, adyS, HFE.out, if_neg h], by rw [← HFA.out, adyA, HFE.out, if_neg h]⟩
  have HW := Lib.hid hw
  have SZ := Lib.hid hsz
  have HB0 := Lib.hid B0
  have HB1 := Lib.hid B1
  have HB2 := Lib.hid B2
  have HB3 := Lib.hid B3
  have HIX := Lib.hid hIX
  have HIY := Lib.hid hIY
  have HL1 := Lib.hid hl1
  have HL2 := Lib.hid hl2
  clear hX hY hw hsz B0 B1 B2 B3 hIX hIY hl1 hl2
  have END : Hid (∀ w1, Below W.heap.size W w1 → ∀ e : Int, MadeE w [] [] e (.returned (.tuple #[.agg #[.slice none 0 0, .slice none 0 0], .int .i64 e])) ((w1.setCell ⟨w.heap.size + 1 + 1 + 1, 0, none⟩ (.slice none 0 0)).setCell ⟨w.heap.size + 1 + 1 + 1, 1, none⟩ (.slice none 0 0))) := fun w1 hb e =>
    made_nil e (((abvia HW.out hb).setCell (by dsimp only; omega) _).setCell (by dsimp only; omega) _)
  go_enter Try.func38, Try.ntmps38
  go_wp2_with fail
  rw [HWW.out]
  refine MX.out.mono ?_; rintro e w1 ⟨rfl, hb1⟩
  have HV1 := Lib.hid hb1
  clear hb1
  by_cases hme : me = 0
  · subst hme
    obtain ⟨y0, y1, -, -, -⟩ := HB2.out.via HV1.out
    go_wp2_with fail
    refine (MY.out w1 HV1.out).mono ?_; rintro e w2 ⟨rfl, hb2⟩
    have HV2 := Lib.hid (abvia HV1.out hb2)
    clear hb2 y0 y1
    by_cases hme2 : me2 = 0
    · subst hme2
      obtain ⟨z0, -, -⟩ := HB0.out.via HV2.out
      go_wp2_with fail
      refine (R.out w2).mono ?_; rintro e w3 ⟨rfl, n3, rfl⟩
      obtain ⟨w4, HW4⟩ : ∃ w4, Hid (w2.drewN n3 = w4) := ⟨_, rfl⟩
      have HV4 : Hid (Below W.heap.size W w4) := by show Below _ _ _; rw [← HW4.out]; exact abvia HV2.out (adrew _ _)
      rw [HW4.out]
      clear z0
      by_cases hre : re = 0
      · subst hre
        obtain ⟨x0, x1, -, -, -⟩ := HB1.out.via HV4.out
        obtain ⟨y0, y1, -, -, -⟩ := HB2.out.via HV4.out
        go_wp2_with fail
        refine (AG.out w4 HV4.out).mono ?_; rintro e w5 ⟨go, gn, gc, rfl, hLG, hOG, hBG⟩
        have HLG := Lib.hid hLG
        have HOG := Lib.hid hOG
        have HBG := Lib.hid hBG
        have HV5 := Lib.hid (abvia HV4.out hBG)
        clear hLG hOG hBG x0 x1 y0 y1
        by_cases hge : ge = 0
        · subst hge
          obtain ⟨p1, p2, p3, p4⟩ := dy_place HME.out HME2.out HGE.out
          rw [HGL.out] at p1 p2
          obtain ⟨N, HN⟩ : ∃ N, Hid (adyN s t = N) := ⟨_, rfl⟩
          rw [HN.out] at p1 p3 p4
          rw [HL1.out, HL2.out] at p4
          have CS := Lib.hid (size_any HLG.out)
          rw [show szE gl = N by rw [szE, if_pos p2, p1], p2] at CS
          have HP4 := Lib.hid p4
          clear p1 p2 p4
          have hmk := fun w => mk_int64 N (by omega) w
          go_wp2_with fail
          refine CS.out.mono ?_; rintro e w6 ⟨rfl, hw6⟩
          have hw6' := hw6.symm
          subst hw6'
          obtain ⟨W6, HW6⟩ : ∃ W6, Hid ((w5.alloc (.cells (Array.replicate N (.int .i64 0)) 2)).alloc (.cells #[.slice go gn gc, .slice (some ⟨w5.heap.size, 0, none⟩) N N] 55) = W6) := ⟨_, rfl⟩
          have HM : Hid (FillMid w4 W6 (w5.heap.size + 1) gn go gc N w5.heap.size gl (filled (dnV op a b N) 0 N)) := by
            show FillMid _ _ _ _ _ _ _ _ _ _
            rw [filled_zero, ← HW6.out]; exact fm_own (by omega) HLG.out HOG.out HBG.out
          obtain ⟨k0, k1, k2, k3, k4⟩ := HM.out.box
          clear CS
          go_wp2_with fail
          rw [HW6.out]
          go_loopw [58] (fun i wr => ∃ k : Nat, k ≤ N ∧ i = .int .i64 k ∧ Hid (FillMid w4 wr (w5.heap.size + 1) gn go gc N w5.heap.size gl (filled (dnV op a b N) k N)) ∧ Hid (firE ((List.range k).map (dnE op a b N)) = 0)) (fun i _ => N - (RowKit.intOf i).toNat)
          case atStart => exact ⟨0, Nat.zero_le _, rfl, HM, rfl⟩
          case round =>
            obtain ⟨k, hk, rfl, HR, HF0⟩ := hrel
            clear k0 k1 k2 k3 k4 hmk
            have HVR : Hid (Below W.heap.size W wr) := abvia HV4.out HR.out.below
            by_cases hlt : k < N
            · have hlt' : (k : Int) < N := by omega
              obtain ⟨m1, m2, ⟨q1, q2, q3, q4⟩, q5, q6, q7, q8⟩ := HP4.out k hlt
              obtain ⟨oa, fa1, rfl, hca⟩ := (HIX.out.via HVR.out).ats.at q1
              obtain ⟨ob, fb1, rfl, hcb⟩ := (HIY.out.via HVR.out).ats.at q5
              have d1 := hca (k / m1) q4
              have d2 := hcb (k / m2) q8
              clear hca hcb
              have HJ1 : Hid (k / m1 = k / (N / a.length)) := by show _ = _; rw [HL1.out, q3]
              have HJ2 : Hid (k / m2 = k / (N / b.length)) := by show _ = _; rw [HL2.out, q7]
              obtain ⟨j1, hj1⟩ : ∃ j, k / m1 = j := ⟨_, rfl⟩
              obtain ⟨j2, hj2⟩ : ∃ j, k / m2 = j := ⟨_, rfl⟩
              have e1 : (N : Int).tdiv an = m1 := by rw [Int.tdiv_eq_ediv_of_nonneg (by omega)]; exact_mod_cast q3
              have e2 : (N : Int).tdiv bn = m2 := by rw [Int.tdiv_eq_ediv_of_nonneg (by omega)]; exact_mod_cast q7
              have e3 : (k : Int).tdiv m1 = j1 := by rw [Int.tdiv_eq_ediv_of_nonneg (by omega)]; exact_mod_cast hj1
              have e4 : (k : Int).tdiv m2 = j2 := by rw [Int.tdiv_eq_ediv_of_nonneg (by omega)]; exact_mod_cast hj2
              rw [hj1] at d1 q4 HJ1
              rw [hj2] at d2 q8 HJ2
              obtain ⟨x, HX⟩ : ∃ x, Hid (a.getD j1 0 = x) := ⟨_, rfl⟩
              obtain ⟨y, HY⟩ : ∃ x, Hid (b.getD j2 0 = x) := ⟨_, rfl⟩
              rw [HX.out] at d1
              rw [HY.out] at d2
              have CW := Lib.hid (fun n => dwork_any op x y (w := wr.drewN n) (b := w.heap.size) (HB0.out.via HVR.out).c0 (by rw [← HX.out]; exact HR1.out j1) (by rw [← HY.out]; exact HR2.out j2))
              obtain ⟨z, HZ⟩ : ∃ v, Hid (dyV op x y = v) := ⟨_, rfl⟩
              obtain ⟨ee, HEE⟩ : ∃ v, Hid (dyE op x y = v) := ⟨_, rfl⟩
              rw [HZ.out, HEE.out] at CW
              have HMV : Hid (dnV op a b N k = z) := by show _ = _; rw [dnV, ← HJ1.out, ← HJ2.out, HX.out, HY.out, HZ.out]
              have HMF : Hid (dnE op a b N k = ee) := by show _ = _; rw [dnE, ← HJ1.out, ← HJ2.out, HX.out, HY.out, HEE.out]
              have u1 : ¬ an = 0 := by omega
              have u2 : ¬ bn = 0 := by omega
              have u3 : ¬ m1 = 0 := by omega
              have u4 : ¬ m2 = 0 := by omega
              have u5 : (j1 : Int) < an := by omega
              have u6 : (j2 : Int) < bn := by omega
              have v1 : m1 ≤ 4096 := by rw [← q3]; exact Nat.le_trans (Nat.div_le_self _ _) p3
              have v2 : m2 ≤ 4096 := by rw [← q7]; exact Nat.le_trans (Nat.div_le_self _ _) p3
              have v3 : j1 ≤ 4096 := by rw [← hj1]; exact Nat.le_trans (Nat.div_le_self _ _) (by omega)
              have v4 : j2 ≤ 4096 := by rw [← hj2]; exact Nat.le_trans (Nat.div_le_self _ _) (by omega)
              obtain ⟨x0, x1, -, -, -⟩ := HB1.out.via HVR.out
              obtain ⟨y0, y1, -, -, -⟩ := HB2.out.via HVR.out
              clear q1 q2 q3 q4 q5 q6 q7 q8 hj1 hj2
              go_wp2_with fail
              go_quiet (with_reducible exact Ret.quiet (CW.out _))
              obtain ⟨w8, HW8⟩ : ∃ w8, Hid (wr.drewN nq = w8) := ⟨_, rfl⟩
              have HM8 : Hid (FillMid w4 w8 (w5.heap.size + 1) gn go gc N w5.heap.size gl (filled (dnV op a b N) k N)) := by rw [← HW8.out]; exact HR.out.next (adrew _ _)
              rw [HW8.out]
              clear d1 d2 x0 x1 y0 y1 e1 e2 e3 e4 u1 u2 u3 u4 u5 u6 v1 v2 v3 v4
              obtain ⟨k0, k1, k2, k3, k4⟩ := HM8.out.box
              obtain ⟨l0, l1, l2, l3, l4⟩ := HB3.out.via (abvia HV4.out HM8.out.below)
              by_cases hee : ee = 0
              · subst hee
                have d1 : ∃ v, w8.cell? ⟨w5.heap.size, k, none⟩ = some v := by
                  rw [HM8.out.O2.cellAt k (by omega)]
                  exact ⟨_, List.getElem?_eq_getElem (by simp [filled]; omega)⟩
                obtain ⟨v0, d1⟩ := d1
                have d2 := HM8.out.O2.frozenAt k
                have hput := HM8.out.put (k := k) z
                rw [← HMV.out, filled_set _ hlt, HMV.out] at hput
                have HP := Lib.hid hput
                have HF1 : Hid (firE ((List.range (k + 1)).map (dnE op a b N)) = 0) := by show _ = _; rw [fst_step, if_pos HF0.out, HMF.out]
                clear hput l0 l1 l2 l3 l4
                go_wp2
                go_roundw
                case rel => exact ⟨k + 1, by omega, by go_num, HP, HF1⟩
                case measure => simp [RowKit.intOf]; omega
              · have hee' : (ee != 0) = true := by simpa using hee
                have h1 : ee = fe := by
                  rw [← HFE.out]; simp only [adyE, HME.out, HME2.out, HRE.out, HGE.out, HN.out, ne_eq, not_true_eq_false, if_false, or_self]
                  rw [fst_at _ hlt HF0.out (by rw [HMF.out]; exact hee), HMF.out]
                subst h1
                obtain ⟨rfl, rfl⟩ := HNIL.out hee
                have HE := Lib.hid (END.out w8 (abvia HV4.out HM8.out.below) ee)
                go_wp2
                exact bodyPost_ret (v := .tuple #[.agg #[.slice none 0 0, .slice none 0 0], .int .i64 ee]) (by simp [results, Try.results38, go_sem, *]) rfl HE.out
            · obtain rfl : k = N := by omega
              have hge : (k : Int) ≤ k := Int.le_refl _
              obtain ⟨k0, k1, k2, k3, k4⟩ := HR.out.box
              obtain ⟨l0, l1, l2, l3, l4⟩ := HB3.out.via HVR.out
              have h1 : fe = 0 := by rw [← HFE.out]; simp only [adyE, HME.out, HME2.out, HRE.out, HGE.out, HN.out, ne_eq, not_true_eq_false, if_false, or_self]; exact HF0.out
              have h2 : fs = gl := by rw [← HFS.out]; simp [adyS, HFE.out, h1, HGL.out]
              have h3 : fa = filled (dnV op a b k) k k := by rw [← HFA.out, filled_all]; simp [adyA, HFE.out, h1, HN.out]
              subst h1 h2 h3
              have HE := Lib.hid (made_mid HR.out (abvia HW.out HV4.out) (b := w.heap.size + 1 + 1 + 1) (by have h1 := SZ.out; have h2 := HV4.out.size; omega) (by omega) (by omega) (filled_rng _ _ _ fun i hi => dy_rng op _ _ (HR1.out _) (HR2.out _)) (.slice go gn gc) (.slice (some ⟨w5.heap.size, 0, none⟩) k k))
              go_wp2
              exact bodyPost_ret (v := .tuple #[.agg #[.slice go gn gc, .slice (some ⟨w5.heap.size, 0, none⟩) k k], .int .i64 0]) (by simp [results, Try.results38, go_sem, *]) rfl HE.out
        · have hge' : (ge != 0) = true := by simpa using hge
          obtain ⟨k0, k1, k2, k3, k4⟩ := HB3.out.via HV5.out
          have h1 : ge = fe := by rw [← HFE.out]; simp [adyE, HME.out, HME2.out, HRE.out, HGE.out, hge]
          subst h1
          obtain ⟨rfl, rfl⟩ := HNIL.out hge
          have HE := Lib.hid (END.out w5 HV5.out ge)
          go_wp2
          exact bodyPost_ret (v := .tuple #[.agg #[.slice none 0 0, .slice none 0 0], .int .i64 ge]) (by simp [results, Try.results38, go_sem, *]) rfl HE.out
      · have hre' : (re != 0) = true := by simpa using hre
        obtain ⟨k0, k1, k2, k3, k4⟩ := HB3.out.via HV4.out
        have h1 : re = fe := by rw [← HFE.out]; simp [adyE, HME.out, HME2.out, HRE.out, hre]
        subst h1
        obtain ⟨rfl, rfl⟩ := HNIL.out hre
        have HE := Lib.hid (END.out w4 HV4.out re)
        go_wp2
        exact bodyPost_ret (v := .tuple #[.agg #[.slice none 0 0, .slice none 0 0], .int .i64 re]) (by simp [results, Try.results38, go_sem, *]) rfl HE.out
    · have hme' : (me2 != 0) = true := by simpa using hme2
      obtain ⟨k0, k1, k2, k3, k4⟩ := HB3.out.via HV2.out
      have h1 : 1 = fe := by rw [← HFE.out]; simp [adyE, HME.out, HME2.out, hme2]
      subst h1
      obtain ⟨rfl, rfl⟩ := HNIL.out (by omega)
      have HE := Lib.hid (END.out w2 HV2.out 1)
      go_wp2
      exact bodyPost_ret (v := .tuple #[.agg #[.slice none 0 0, .slice none 0 0], .int .i64 1]) (by simp [results, Try.results38, go_sem, *]) rfl HE.out
  · have hme' : (me != 0) = true := by simpa using hme
    obtain ⟨k0, k1, k2, k3, k4⟩ := HB3.out.via HV1.out
    have h1 : 1 = fe := by rw [← HFE.out]; simp [adyE, HME.out, HME2.out, hme]
    subst h1
    obtain ⟨rfl, rfl⟩ := HNIL.out (by omega)
    have HE := Lib.hid (END.out w1 HV1.out 1)
    go_wp2
    exact bodyPost_ret (v := .tuple #[.agg #[.slice none 0 0, .slice none 0 0], .int .i64 1]) (by simp [results, Try.results38, go_sem, *]) rfl HE.out
end Go.Proofs.Ytdedbfbkakofgaa

namespace Go.Proofs.Ytdedbfbkakofgaa
open Go.RowKit Go.Lib
set_option linter.unusedVariables false
set_option linter.unusedSimpArgs false
attribute [local go_sem] alloc_drewN setCell_drewN

/-- The call hands back an array of that shape and these atoms. -/
def LstA (w : World) (s a : List Int) (e : Ending) (w' : World) : Prop :=
  ∃ B : Ar, e = .returned B.v ∧ B.Is w' ∧ B.s = s ∧ B.a = a ∧ Below w.heap.size w w'
set_option maxHeartbeats 800000 in
theorem list5_any {w : World} {ao : Option Addr} {n c : Nat} {zs : List Int} (h : Ls w ao n c zs) :
    Calls Try.prog 78 #[.slice ao n c] w (LstA w [(n : Int)] zs) := by
  have HE : Hid (LstA w [(n : Int)] zs (.returned (.agg #[.slice (some ⟨w.heap.size + 1, 0, none⟩) 1 1, .slice ao n c])) ((w.alloc (.cells #[.slice (some ⟨w.heap.size + 1, 0, none⟩) 1 1, .slice ao n c] 55)).alloc (.cells #[.int .i64 n] 3))) := by
    have hO := World.ownsRow_lit (base := w.heap.size + 1) (e := 3) (size := 1) (w.alloc (.cells #[.slice (some ⟨w.heap.size + 1, 0, none⟩) 1 1, .slice ao n c] 55)) #[.int .i64 n] 1 (by simp) (by simp [maxLen]) rfl
    have hO' : World.ownsRow ((w.alloc (.cells #[.slice (some ⟨w.heap.size + 1, 0, none⟩) 1 1, .slice ao n c] 55)).alloc (.cells #[.int .i64 n] 3)) (w.heap.size + 1) 3 1 (.slice (some ⟨w.heap.size + 1, 0, none⟩) 1 1) 1 ([(n : Int)].map (Value.int .i64)) := by simpa using hO
    have hbg := h.big
    have hb : Below w.heap.size w ((w.alloc (.cells #[.slice (some ⟨w.heap.size + 1, 0, none⟩) 1 1, .slice ao n c] 55)).alloc (.cells #[.int .i64 n] 3)) := below_box2 _ _ _ _ _
    exact ⟨⟨some ⟨w.heap.size + 1, 0, none⟩, 1, 1, ao, n, c, [(n : Int)], zs⟩, rfl, ⟨ls_of_own hO' (show 1 * 8 ≤ 140737488351232 by omega) (rng_one (by omega)), h.via hb⟩, rfl, rfl, hb⟩
  clear h
  go_enter Try.func78, Try.ntmps78
  go_wp2
  exact bodyPost_ret (v := .agg #[.slice (some ⟨w.heap.size + 1, 0, none⟩) 1 1, .slice ao n c]) (by simp [results, Try.results78, go_sem, *]) rfl HE.out
theorem lit_any (w : World) (zs : List Int) (T : TypeId) (vs : Array Value) (hv : vs = (zs.map (Value.int .i64)).toArray) (h : (zs.length < 1000 && zs.all fun x => decide (-1000 ≤ x) && decide (x ≤ 1000)) = true) (m : Nat) (hm : m = zs.length) :
    Ls (w.alloc (.cells vs T)) (some ⟨w.heap.size, 0, none⟩) m m zs := by
  rw [Bool.and_eq_true, decide_eq_true_eq, List.all_eq_true] at h
  subst hv hm
  refine ls_alloc w zs T (by omega) fun i => ?_
  rcases Nat.lt_or_ge i zs.length with hi | hi
  · have := h.2 (zs.getD i 0) (by rw [List.getD_eq_getElem?_getD, List.getElem?_eq_getElem hi]; exact List.getElem_mem hi)
    simp only [Bool.and_eq_true, decide_eq_true_eq] at this
    omega
  · rw [List.getD_eq_getElem?_getD, List.getElem?_eq_none hi]; simp
theorem lit2 (w : World) (T : TypeId) (x y : Int) (h : ([x, y].length < 1000 && [x, y].all fun x => decide (-1000 ≤ x) && decide (x ≤ 1000)) = true) : Ls (w.alloc (.cells #[.int .i64 x, .int .i64 y] T)) (some ⟨w.heap.size, 0, none⟩) 2 2 [x, y] := lit_any w [x, y] T _ rfl h 2 rfl
theorem lit1 (w : World) (T : TypeId) (x : Int) (h : ([x].length < 1000 && [x].all fun x => decide (-1000 ≤ x) && decide (x ≤ 1000)) = true) : Ls (w.alloc (.cells #[.int .i64 x] T)) (some ⟨w.heap.size, 0, none⟩) 1 1 [x] := lit_any w [x] T _ rfl h 1 rfl
theorem lit3 (w : World) (T : TypeId) (x y z : Int) (h : ([x, y, z].length < 1000 && [x, y, z].all fun x => decide (-1000 ≤ x) && decide (x ≤ 1000)) = true) : Ls (w.alloc (.cells #[.int .i64 x, .int .i64 y, .int .i64 z] T)) (some ⟨w.heap.size, 0, none⟩) 3 3 [x, y, z] := lit_any w [x, y, z] T _ rfl h 3 rfl
set_option maxRecDepth 100000 in
set_option maxHeartbeats 1600000 in
theorem begun5_any (w : World) : Calls Try.prog 30 #[] w (RetB w (.bool true)) := by
  have L1 := Lib.hid (fun w1 => list5_any (lit2 w1 2 1 2 (by decide)))
  have L3 := Lib.hid (fun w1 => list5_any (lit3 w1 2 1 2 3 (by decide)))
  have C1 : Hid (∀ (w1 : World) (A : Ar), A.Is w1 → A.s = [2] → A.a = [1, 2] → Calls Try.prog 77 #[.int .i64 2, A.v] w1 (MadeE w1 [2] [-1, -2] 0)) := by
    intro w1 A hA hs ha
    have h := amonad_any hA 2
    rw [hs, ha, show amoS 2 [2] [1, 2] = [2] by decide, show amoA 2 [2] [1, 2] = [-1, -2] by decide, show amoE 2 [2] [1, 2] = 0 by decide] at h
    exact h
  have C2 : Hid (∀ (w1 : World) (A B : Ar), A.Is w1 → B.Is w1 → A.s = [] → A.a = [10] → B.s = [2] → B.a = [1, 2] → Calls Try.prog 38 #[.int .i64 1, A.v, B.v] w1 (MadeE w1 [2] [11, 12] 0)) := by
    intro w1 A B hA hB hs ha ht hb
    have h := adyad_any hA hB 1
    rw [hs, ha, ht, hb, show adyS 1 [] [10] [2] [1, 2] = [2] by decide, show adyA 1 [] [10] [2] [1, 2] = [11, 12] by decide, show adyE 1 [] [10] [2] [1, 2] = 0 by decide] at h
    exact h
  have C3 : Hid (∀ (w1 : World) (A B : Ar), A.Is w1 → B.Is w1 → A.s = [3] → A.a = [1, 2, 3] → B.s = [2] → B.a = [1, 2] → Calls Try.prog 38 #[.int .i64 3, A.v, B.v] w1 (MadeE w1 [] [] 11)) := by
    intro w1 A B hA hB hs ha ht hb
    have h := adyad_any hA hB 3
    rw [hs, ha, ht, hb, show adyS 3 [3] [1, 2, 3] [2] [1, 2] = [] by decide, show adyA 3 [3] [1, 2, 3] [2] [1, 2] = [] by decide, show adyE 3 [3] [1, 2, 3] [2] [1, 2] = 11 by decide] at h
    exact h
  have H2 := Lib.hid (fun w1 => has_any 4 2 w1)
  have H1 := Lib.hid (fun w1 => has_any 4 1 w1)
  rw [show hasV 4 2 = true by decide] at H2
  rw [show hasV 4 1 = false by decide] at H1
  go_enter Try.func30, Try.ntmps30
  go_wp2_with fail
  refine (L1.out w).mono ?_; rintro e w2 ⟨⟨sa1, sn1, sc1, aa1, an1, ac1, s1, a1⟩, rfl, hI1, hs1, ha1, hb2⟩
  have HB2 := Lib.hid (abvia (abal w _) hb2)
  have C1' := Lib.hid (C1.out w2 _ hI1 hs1 ha1)
  simp only [Ar.v] at *
  clear hI1 hs1 ha1 hb2
  go_wp2_with fail
  refine C1'.out.mono ?_; rintro e w3 ⟨⟨sa3, sn3, sc3, aa3, an3, ac3, s3, a3⟩, rfl, hI3, hs3, ha3, -, hb3⟩
  obtain ⟨W3, HW3⟩ : ∃ W3, Hid (w3.alloc (.cells #[.slice sa3 sn3 sc3, .slice aa3 an3 ac3] 55) = W3) := ⟨_, rfl⟩
  have hal : Below w3.heap.size w3 W3 := by rw [← HW3.out]; exact abal _ _
  have X3 : Hid (BoxA W3 w3.heap.size (.slice sa3 sn3 sc3) (.slice aa3 an3 ac3)) := by rw [← HW3.out]; exact BoxA.new _ _ _ _
  have I3 := Lib.hid (hI3.via hal)
  have HB3 := Lib.hid (abvia HB2.out (abvia hb3 hal))
  have S3 := Lib.hid hs3
  have A3 := Lib.hid ha3
  simp only [Ar.v] at *
  clear hI3 hs3 ha3 hb3 hal
  have L1a := Lib.hid (L1.out ((w3.alloc (.cells #[.slice sa3 sn3 sc3, .slice aa3 an3 ac3] 55)).alloc (.cells #[.int .i64 10] 2)))
  simp only [World.size_alloc] at L1a
  have l10 : Ls ((w3.alloc (.cells #[.slice sa3 sn3 sc3, .slice aa3 an3 ac3] 55)).alloc (.cells #[.int .i64 10] 2)) (some ⟨w3.heap.size + 1, 0, none⟩) 1 1 [10] := by simpa using lit1 (w3.alloc (.cells #[.slice sa3 sn3 sc3, .slice aa3 an3 ac3] 55)) 2 10 (by decide)
  have HL10 : Hid (∀ o, Ls (((w3.alloc (.cells #[.slice sa3 sn3 sc3, .slice aa3 an3 ac3] 55)).alloc (.cells #[.int .i64 10] 2)).alloc o) (some ⟨w3.heap.size + 1, 0, none⟩) 1 1 [10]) := fun o => l10.via (abal _ _)
  have HV4 : Hid (∀ o, Below W3.heap.size W3 (((w3.alloc (.cells #[.slice sa3 sn3 sc3, .slice aa3 an3 ac3] 55)).alloc (.cells #[.int .i64 10] 2)).alloc o)) := by
    intro o; rw [HW3.out]; exact abvia (abal _ _) (abal _ _)
  clear l10
  go_wp2_with fail
  refine L1a.out.mono ?_; rintro e w6 ⟨⟨sa6, sn6, sc6, aa6, an6, ac6, s6, a6⟩, rfl, hI6, hs6, ha6, hb6⟩
  have C2' := Lib.hid (C2.out w6 ⟨none, 0, 0, some ⟨w3.heap.size + 1, 0, none⟩, 1, 1, [], [10]⟩ _ ⟨Ls.zero _ _ (Nat.zero_le _), (HL10.out _).via hb6⟩ hI6 rfl rfl hs6 ha6)
  have HB6 := Lib.hid (abvia HB3.out (abvia (HV4.out _) hb6))
  have X6 := Lib.hid (X3.out.via (abvia (HV4.out _) hb6))
  have I6 := Lib.hid (I3.out.via (abvia (HV4.out _) hb6))
  simp only [Ar.v] at *
  clear hI6 hs6 ha6 hb6
  go_wp2_with fail
  refine C2'.out.mono ?_; rintro e w7 ⟨⟨sa7, sn7, sc7, aa7, an7, ac7, s7, a7⟩, rfl, hI7, hs7, ha7, -, hb7⟩
  have S7 := Lib.hid hs7
  have A7 := Lib.hid ha7
  have HB7 := Lib.hid (abvia HB6.out hb7)
  have X7 := Lib.hid (X6.out.via hb7)
  have I7 := Lib.hid (I6.out.via hb7)
  have J7 := Lib.hid hI7
  simp only [Ar.v] at *
  clear hI7 hs7 ha7 hb7
  have L3a := Lib.hid (L3.out (w7.alloc (.cells #[.slice sa7 sn7 sc7, .slice aa7 an7 ac7] 55)))
  simp only [World.size_alloc] at L3a
  go_wp2_with fail
  refine L3a.out.mono ?_; rintro e w8 ⟨⟨sa8, sn8, sc8, aa8, an8, ac8, s8, a8⟩, rfl, hI8, hs8, ha8, hb8⟩
  have hv := abvia (abvia (abal w7 (.cells #[.slice sa7 sn7 sc7, .slice aa7 an7 ac7] 55)) (abal _ _)) hb8
  have HB8 := Lib.hid (abvia HB7.out hv)
  have X8 := Lib.hid (X7.out.via hv)
  have I8 := Lib.hid (I7.out.via hv)
  have J8 := Lib.hid (J7.out.via hv)
  have Y8 : Hid (BoxA w8 w7.heap.size (.slice sa7 sn7 sc7) (.slice aa7 an7 ac7)) := ((BoxA.new w7 55 _ _).via (abal _ _)).via hb8
  have K8 := Lib.hid hI8
  have S8 := Lib.hid hs8
  have A8 := Lib.hid ha8
  simp only [Ar.v] at *
  clear hI8 hs8 ha8 hb8 hv
  go_wp2_with fail
  refine (L1.out w8).mono ?_; rintro e w9 ⟨⟨sa9, sn9, sc9, aa9, an9, ac9, s9, a9⟩, rfl, hI9, hs9, ha9, hb9⟩
  have hv := abvia (abal w8 _) hb9
  have HB9 := Lib.hid (abvia HB8.out hv)
  have X9 := Lib.hid (X8.out.via hv)
  have I9 := Lib.hid (I8.out.via hv)
  have J9 := Lib.hid (J8.out.via hv)
  have Y9 := Lib.hid (Y8.out.via hv)
  have C3' := Lib.hid (C3.out w9 _ _ (K8.out.via hv) hI9 S8.out A8.out hs9 ha9)
  simp only [Ar.v] at *
  clear hI9 hs9 ha9 hb9 hv
  go_wp2_with fail
  refine C3'.out.mono ?_; rintro e w10 ⟨⟨sa10, sn10, sc10, aa10, an10, ac10, s10, a10⟩, rfl, hI10, -, -, -, hb10⟩
  obtain ⟨W10, HW10⟩ : ∃ W10, Hid (w10.alloc (.cells #[.slice sa10 sn10 sc10, .slice aa10 an10 ac10] 55) = W10) := ⟨_, rfl⟩
  have hv : Below w9.heap.size w9 W10 := by rw [← HW10.out]; exact abvia hb10 (abal _ _)
  have HB10 := Lib.hid (abvia HB9.out hv)
  have X10 := Lib.hid (X9.out.via hv)
  have I10 := Lib.hid (I9.out.via hv)
  have J10 := Lib.hid (J9.out.via hv)
  have Y10 := Lib.hid (Y9.out.via hv)
  simp only [Ar.v] at *
  clear hb10 hv hI10
  obtain ⟨x0, x1, -, -, -⟩ := X10.out
  obtain ⟨y0, y1, -, -, -⟩ := Y10.out
  clear HV4 HL10 L1a L3a L3 C1 C2 C3 C1' C2' C3'
  have LA : Hid (Calls Try.prog 78 #[.slice (some ⟨W10.heap.size, 0, none⟩) 2 2] (W10.alloc (.cells #[.int .i64 (-1), .int .i64 (-2)] 2)).drew (LstA (W10.alloc (.cells #[.int .i64 (-1), .int .i64 (-2)] 2)).drew [2] [-1, -2])) :=
    list5_any ((lit2 W10 2 (-1) (-2) (by decide)).drew 1)
  have LB : Hid (∀ W1 : World, Calls Try.prog 78 #[.slice (some ⟨W1.heap.size, 0, none⟩) 2 2] (W1.alloc (.cells #[.int .i64 11, .int .i64 12] 2)) (LstA (W1.alloc (.cells #[.int .i64 11, .int .i64 12] 2)) [2] [11, 12])) :=
    fun W1 => list5_any (lit2 W1 2 11 12 (by decide))
  have EQ : Hid (∀ (W1 : World) (A B : Ar), A.Is W1 → B.Is W1 → A.s = B.s → A.a = B.a → Calls Try.prog 27 #[A.v, B.v] W1 (RetB W1 (.bool true))) := by
    intro W1 A B hA hB hs ha
    have h := eq_any hA hB
    rw [show decide (A.s = B.s ∧ A.a = B.a) = true by simp [hs, ha]] at h
    exact h
  have E1 : Hid (∀ (W1 : World) (B : Ar), Below W10.heap.size W10 W1 → B.Is W1 → B.s = [2] → B.a = [-1, -2] → Calls Try.prog 27 #[.agg #[.slice sa3 sn3 sc3, .slice aa3 an3 ac3], B.v] W1 (RetB W1 (.bool true))) := fun W1 B hb hB hs ha =>
    EQ.out W1 ⟨sa3, sn3, sc3, aa3, an3, ac3, s3, a3⟩ B (I10.out.via hb) hB (S3.out.trans hs.symm) (A3.out.trans ha.symm)
  have E2 : Hid (∀ (W1 : World) (B : Ar), Below W10.heap.size W10 W1 → B.Is W1 → B.s = [2] → B.a = [11, 12] → Calls Try.prog 27 #[.agg #[.slice sa7 sn7 sc7, .slice aa7 an7 ac7], B.v] W1 (RetB W1 (.bool true))) := fun W1 B hb hB hs ha =>
    EQ.out W1 ⟨sa7, sn7, sc7, aa7, an7, ac7, s7, a7⟩ B (J10.out.via hb) hB (S7.out.trans hs.symm) (A7.out.trans ha.symm)
  go_wp2_with fail
  rw [HW10.out]
  go_region_held3 (fun w'' => w''.cell? ⟨w3.heap.size, 0, none⟩ = some (.slice sa3 sn3 sc3) ∧ w''.cell? ⟨w3.heap.size, 1, none⟩ = some (.slice aa3 an3 ac3) ∧ w''.cell? ⟨w7.heap.size, 0, none⟩ = some (.slice sa7 sn7 sc7) ∧ w''.cell? ⟨w7.heap.size, 1, none⟩ = some (.slice aa7 an7 ac7)) (go_keep)
    (first
    | (go_at_call 78; (with_reducible refine Calls.mono LA.out ?_); rintro e w11 ⟨⟨sa11, sn11, sc11, aa11, an11, ac11, s11, a11⟩, rfl, hI11, hs11, ha11, hb11⟩; have hv := abvia (abvia (abal W10 (.cells #[.int .i64 (-1), .int .i64 (-2)] 2)) (adrew1 _)) hb11; have HC := Lib.hid hv; have E1' := Lib.hid (E1.out w11 _ hv hI11 hs11 ha11); simp only [Ar.v] at E1' ⊢; clear hI11 hs11 ha11 hb11 hv; obtain ⟨x0, x1, -, -, -⟩ := X10.out.via HC.out; obtain ⟨y0, y1, -, -, -⟩ := Y10.out.via HC.out)
    | (go_at_call 78; (with_reducible refine Calls.mono (LB.out _) ?_); rintro e w13 ⟨⟨sa13, sn13, sc13, aa13, an13, ac13, s13, a13⟩, rfl, hI13, hs13, ha13, hb13⟩; have hv := abvia (abvia HC2.out (abal _ _)) hb13; have HC3 := Lib.hid hv; have E2' := Lib.hid (E2.out w13 _ hv hI13 hs13 ha13); simp only [Ar.v] at E2' ⊢; clear hI13 hs13 ha13 hb13 hv; obtain ⟨x0, x1, -, -, -⟩ := X10.out.via HC3.out; obtain ⟨y0, y1, -, -, -⟩ := Y10.out.via HC3.out)
    | (go_at_call 27; (with_reducible refine Calls.mono E1'.out ?_); rintro e w12 ⟨rfl, hb12⟩; have HC2 := Lib.hid (abvia HC.out hb12); clear hb12; obtain ⟨x0, x1, -, -, -⟩ := X10.out.via HC2.out; obtain ⟨y0, y1, -, -, -⟩ := Y10.out.via HC2.out)
    | (go_at_call 27; (with_reducible refine Calls.mono E2'.out ?_); rintro e w14 ⟨rfl, hb14⟩; have HC4 := Lib.hid (abvia HC3.out hb14); clear hb14; obtain ⟨x0, x1, -, -, -⟩ := X10.out.via HC4.out; obtain ⟨y0, y1, -, -, -⟩ := Y10.out.via HC4.out)
    | (go_at_call 31; (with_reducible refine Calls.mono (H2.out _) ?_); rintro e w15 ⟨rfl, n15, hw15⟩; have HC5 : Hid (Below W10.heap.size W10 w15) := (by show Below _ _ _; rw [hw15]; exact abvia HC4.out (adrew _ _)); clear hw15; obtain ⟨x0, x1, -, -, -⟩ := X10.out.via HC5.out; obtain ⟨y0, y1, -, -, -⟩ := Y10.out.via HC5.out)
    | (go_at_call 31; (with_reducible refine Calls.mono (H1.out _) ?_); rintro e w16 ⟨rfl, n16, hw16⟩; have HC6 : Hid (Below W10.heap.size W10 w16) := (by show Below _ _ _; rw [hw16]; exact abvia HC5.out (adrew _ _)); clear hw16; obtain ⟨x0, x1, -, -, -⟩ := X10.out.via HC6.out; obtain ⟨y0, y1, -, -, -⟩ := Y10.out.via HC6.out)
    )
  go_wp2
  go_ret
  exact RetB.mk rfl (abvia HB10.out HC6.out)
end Go.Proofs.Ytdedbfbkakofgaa
