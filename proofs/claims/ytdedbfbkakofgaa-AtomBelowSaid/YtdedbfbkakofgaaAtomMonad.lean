/- Contract of atom.Monad. -/
import Derived.Test.YtdedbfbkakofgaaAtomHas
import Derived.Test.YtdedbfbkakofgaaBelow
namespace Go.Proofs.Ytdedbfbkakofgaa
open Go.RowKit Go.Lib
set_option linter.unusedVariables false
set_option linter.unusedSimpArgs false
attribute [local go_sem] alloc_drewN setCell_drewN

theorem mwork_any (op y : Int) {w : World} {b : Nat} (hb : w.cell? ⟨b, 0, none⟩ = some (.int .i64 op)) (hy : -9223372036854775808 ≤ y ∧ y ≤ 9223372036854775807) :
    Calls Try.prog 107 #[.int .i64 y, .pointer (some ⟨b, 0, none⟩)] w (Ret w (.tuple #[.int .i64 (moV op y), .int .i64 (moE op y)])) := by
  have C := Lib.hid (monad_any op y w hy)
  obtain ⟨v, HV⟩ : ∃ v, Hid (moV op y = v) := ⟨_, rfl⟩
  obtain ⟨e, HE⟩ : ∃ e, Hid (moE op y = e) := ⟨_, rfl⟩
  rw [HV.out, HE.out] at C ⊢
  clear hy
  go_enter Try.func107, Try.ntmps107
  go_wp2_with fail
  refine C.out.mono ?_; rintro e' w' ⟨rfl, n, rfl⟩
  go_wp2
  go_ret2
  exact Ret.mk _ rfl
theorem am_len {s a : List Int} (h : amE s a = 0) : a.length ≤ 4096 := by
  obtain ⟨h1, h2⟩ := amE_zero h
  obtain ⟨g1, g2, g3⟩ := mayE_zero h1
  have q3 := pr_le s g1 s.length
  rw [List.take_length] at q3
  omega
set_option maxRecDepth 100000 in
set_option maxHeartbeats 3200000 in
theorem amonad_any {w : World} {A : Ar} (hA : A.Is w) (op : Int) :
    Calls Try.prog 77 #[.int .i64 op, A.v] w (MadeE w (amoS op A.s A.a) (amoA op A.s A.a) (amoE op A.s A.a)) := by
  obtain ⟨sa, sn, sc, aa, an, ac, s, a⟩ := A
  simp only [Ar.v]
  obtain ⟨W, HWW⟩ : ∃ W, Hid (((w.alloc (.cells #[.int .i64 op] 3)).alloc (.cells #[.slice sa sn sc, .slice aa an ac] 55)).alloc (.cells #[.slice none 0 0, .slice none 0 0] 55) = W) := ⟨_, rfl⟩
  have hw : Below w.heap.size w W := by rw [← HWW.out]; exact abvia (abvia (abal _ _) (abal _ _)) (abal _ _)
  have hsz : W.heap.size = w.heap.size + 3 := by rw [← HWW.out]; simp
  have B0 : Box1 W w.heap.size (.int .i64 op) := by rw [← HWW.out]; exact ((Box1.new _ _ _).via (abal _ _)).via (abal _ _)
  have B1 : BoxA W (w.heap.size + 1) (.slice sa sn sc) (.slice aa an ac) := by rw [← HWW.out]; exact (by simpa using BoxA.new (w.alloc (.cells #[.int .i64 op] 3)) 55 (.slice sa sn sc) (.slice aa an ac) : BoxA _ (w.heap.size + 1) _ _).via (abal _ _)
  have B2 : BoxA W (w.heap.size + 2) (.slice none 0 0) (.slice none 0 0) := by rw [← HWW.out]; simpa using BoxA.new ((w.alloc (.cells #[.int .i64 op] 3)).alloc (.cells #[.slice sa sn sc, .slice aa an ac] 55)) 55 (.slice none 0 0) (.slice none 0 0)
  have hI := hA.via hw
  have M := Lib.hid (arrmay_any hI)
  have R := Lib.hid (fun w1 => refused_one op w1)
  have hlen : a.length = an := hA.ats.len
  have hrng := hA.ats.rng
  simp only [Ar.v] at M
  obtain ⟨me, HME⟩ : ∃ e, Hid (amE s a = e) := ⟨_, rfl⟩
  obtain ⟨re, HRE⟩ : ∃ e, Hid (refV op 1 = e) := ⟨_, rfl⟩
  obtain ⟨fe, HFE⟩ : ∃ e, Hid (amoE op s a = e) := ⟨_, rfl⟩
  obtain ⟨fs, HFS⟩ : ∃ e, Hid (amoS op s a = e) := ⟨_, rfl⟩
  obtain ⟨fa, HFA⟩ : ∃ e, Hid (amoA op s a = e) := ⟨_, rfl⟩
  rw [HFE.out, HFS.out, HFA.out]
  rw [HME.out] at M
  rw [HRE.out] at R
  have HW := Lib.hid hw
  have SZ := Lib.hid hsz
  have HB0 := Lib.hid B0
  have HB1 := Lib.hid B1
  have HB2 := Lib.hid B2
  have HI := Lib.hid hI
  have HLEN := Lib.hid hlen
  have HRNG := Lib.hid hrng
  clear hA hw hsz B0 B1 B2 hI hlen hrng
  go_enter Try.func77, Try.ntmps77
  go_wp2_with fail
  rw [HWW.out]
  refine M.out.mono ?_; rintro e w1 ⟨rfl, hb1⟩
  have HV1 := Lib.hid hb1
  clear hb1
  by_cases hme : me = 0
  · subst hme
    obtain ⟨x0, x1, x2⟩ := HB0.out.via HV1.out
    go_wp2_with fail
    refine (R.out w1).mono ?_; rintro e w2 ⟨rfl, n2, rfl⟩
    obtain ⟨w', HW'⟩ : ∃ w', Hid (w1.drewN n2 = w') := ⟨_, rfl⟩
    have HV : Hid (Below W.heap.size W w') := by show Below _ _ _; rw [← HW'.out]; exact abvia HV1.out (adrew _ _)
    rw [HW'.out]
    clear x0 x1 x2
    obtain ⟨j0, j1, j2, j3, j4⟩ := HB1.out.via HV.out
    obtain ⟨k0, k1, k2, k3, k4⟩ := HB2.out.via HV.out
    by_cases hre : re = 0
    · subst hre
      have hN : an ≤ 4096 := by rw [← HLEN.out]; exact am_len HME.out
      have hmk := fun w => mk_int64 an (by omega) w
      have HK1 := Lib.hid (HB1.out.via HV.out)
      have HK2 := Lib.hid (HB2.out.via HV.out)
      have HK0 := Lib.hid (HB0.out.via HV.out)
      have HI' := Lib.hid (HI.out.via HV.out)
      have HIS : Hid (∀ W1, Below w'.heap.size w' W1 → Ls W1 sa sn sc s) := fun W1 hB => (HI'.out.via hB).shp
      have HIA : Hid (∀ W1, Below w'.heap.size w' W1 → Ls W1 aa an ac a) := fun W1 hB => (HI'.out.via hB).ats
      have DD0 : Hid (Below w'.heap.size w' (w'.drew)) := adrew1 _
      have CA0 := Lib.hid (clone_any (HIS.out (w'.drew) DD0.out))
      have DD1 : Hid (Below w'.heap.size w' ((w'.alloc (.cells (Array.replicate an (.int .i64 0)) 2)).drew)) := abvia (abal _ _) (adrew1 _)
      have CA1 := Lib.hid (clone_any (HIS.out ((w'.alloc (.cells (Array.replicate an (.int .i64 0)) 2)).drew) DD1.out))
      have DD2 : Hid (Below w'.heap.size w' ((w'.alloc (.cells #[.slice none 0 0, .slice none 0 0] 55)).drew)) := abvia (abal _ _) (adrew1 _)
      have CA2 := Lib.hid (clone_any (HIS.out ((w'.alloc (.cells #[.slice none 0 0, .slice none 0 0] 55)).drew) DD2.out))
      have DD3 : Hid (Below w'.heap.size w' (((w'.alloc (.cells (Array.replicate an (.int .i64 0)) 2)).alloc (.cells #[.slice none 0 0, .slice none 0 0] 55)).drew)) := abvia (abvia (abal _ _) (abal _ _)) (adrew1 _)
      have CA3 := Lib.hid (clone_any (HIS.out (((w'.alloc (.cells (Array.replicate an (.int .i64 0)) 2)).alloc (.cells #[.slice none 0 0, .slice none 0 0] 55)).drew) DD3.out))
      have DD4 : Hid (Below w'.heap.size w' (((w'.alloc (.cells #[.slice none 0 0, .slice none 0 0] 55)).alloc (.cells (Array.replicate an (.int .i64 0)) 2)).drew)) := abvia (abvia (abal _ _) (abal _ _)) (adrew1 _)
      have CA4 := Lib.hid (clone_any (HIS.out (((w'.alloc (.cells #[.slice none 0 0, .slice none 0 0] 55)).alloc (.cells (Array.replicate an (.int .i64 0)) 2)).drew) DD4.out))
      clear k0 k1 k2 k3 k4 j2 j3 j4
      have ne1 : ¬ w'.heap.size = w.heap.size := by have h1 := SZ.out; have h2 := HV.out.size; omega
      have ne2 : ¬ w'.heap.size = w.heap.size + 1 := by have h1 := SZ.out; have h2 := HV.out.size; omega
      go_wp2_with fail
      go_cut [8] from 24 (fun v8 wx => ∃ b8 ao1 c1 g, v8 = .pointer (some ⟨b8, 0, none⟩) ∧ Hid (FillMid w' wx b8 sn ao1 c1 an g s (List.replicate an 0)))
      case first =>
        go_region_held3 (fun w'' => w''.cell? ⟨w.heap.size + 1, 0, none⟩ = some (.slice sa sn sc) ∧ w''.cell? ⟨w.heap.size + 1, 1, none⟩ = some (.slice aa an ac)) (go_keep)
          (first
          | (go_at_call 86; (with_reducible refine Calls.mono CA0.out ?_); rintro e w2 ⟨ao1, c1, rfl, hL1, hO1, hB1⟩; have HL1 := Lib.hid hL1; have HO1 := Lib.hid hO1; have HBQ := Lib.hid hB1; have ne3 : ¬ w2.heap.size = w.heap.size + 1 := (by have h1 := SZ.out; have h2 := HV.out.size; have h3 := hB1.size; simp at h3; omega); have ne4 : ¬ w2.heap.size = w.heap.size := (by have h1 := SZ.out; have h2 := HV.out.size; have h3 := hB1.size; simp at h3; omega); have hq := (HK1.out.via DD0.out).via hB1; obtain ⟨y0, y1, -, -, -⟩ := hq)
          | (go_at_call 86; (with_reducible refine Calls.mono CA1.out ?_); rintro e w2 ⟨ao1, c1, rfl, hL1, hO1, hB1⟩; have HL1 := Lib.hid hL1; have HO1 := Lib.hid hO1; have HBQ := Lib.hid hB1; have ne3 : ¬ w2.heap.size = w.heap.size + 1 := (by have h1 := SZ.out; have h2 := HV.out.size; have h3 := hB1.size; simp at h3; omega); have ne4 : ¬ w2.heap.size = w.heap.size := (by have h1 := SZ.out; have h2 := HV.out.size; have h3 := hB1.size; simp at h3; omega); have hq := (HK1.out.via DD1.out).via hB1; obtain ⟨y0, y1, -, -, -⟩ := hq)
          | (go_at_call 86; (with_reducible refine Calls.mono CA2.out ?_); rintro e w2 ⟨ao1, c1, rfl, hL1, hO1, hB1⟩; have HL1 := Lib.hid hL1; have HO1 := Lib.hid hO1; have HBQ := Lib.hid hB1; have ne3 : ¬ w2.heap.size = w.heap.size + 1 := (by have h1 := SZ.out; have h2 := HV.out.size; have h3 := hB1.size; simp at h3; omega); have ne4 : ¬ w2.heap.size = w.heap.size := (by have h1 := SZ.out; have h2 := HV.out.size; have h3 := hB1.size; simp at h3; omega); have hq := (HK1.out.via DD2.out).via hB1; obtain ⟨y0, y1, -, -, -⟩ := hq; have hbx : BoxA w2 (w'.heap.size) (.slice none 0 0) (.slice none 0 0) := BoxA.via (W := ((w'.alloc (.cells #[.slice none 0 0, .slice none 0 0] 55)).drew)) ⟨by simp [go_sem], by simp [go_sem], by simp [go_sem], by simp [go_sem], by simp; try omega⟩ hB1; have HBX := Lib.hid hbx; obtain ⟨k0, k1, k2, k3, k4⟩ := hbx)
          | (go_at_call 86; (with_reducible refine Calls.mono CA3.out ?_); rintro e w2 ⟨ao1, c1, rfl, hL1, hO1, hB1⟩; have HL1 := Lib.hid hL1; have HO1 := Lib.hid hO1; have HBQ := Lib.hid hB1; have ne3 : ¬ w2.heap.size = w.heap.size + 1 := (by have h1 := SZ.out; have h2 := HV.out.size; have h3 := hB1.size; simp at h3; omega); have ne4 : ¬ w2.heap.size = w.heap.size := (by have h1 := SZ.out; have h2 := HV.out.size; have h3 := hB1.size; simp at h3; omega); have hq := (HK1.out.via DD3.out).via hB1; obtain ⟨y0, y1, -, -, -⟩ := hq; have hbx : BoxA w2 (w'.heap.size + 1) (.slice none 0 0) (.slice none 0 0) := BoxA.via (W := (((w'.alloc (.cells (Array.replicate an (.int .i64 0)) 2)).alloc (.cells #[.slice none 0 0, .slice none 0 0] 55)).drew)) ⟨by simp [go_sem], by simp [go_sem], by simp [go_sem], by simp [go_sem], by simp; try omega⟩ hB1; have HBX := Lib.hid hbx; obtain ⟨k0, k1, k2, k3, k4⟩ := hbx)
          | (go_at_call 86; (with_reducible refine Calls.mono CA4.out ?_); rintro e w2 ⟨ao1, c1, rfl, hL1, hO1, hB1⟩; have HL1 := Lib.hid hL1; have HO1 := Lib.hid hO1; have HBQ := Lib.hid hB1; have ne3 : ¬ w2.heap.size = w.heap.size + 1 := (by have h1 := SZ.out; have h2 := HV.out.size; have h3 := hB1.size; simp at h3; omega); have ne4 : ¬ w2.heap.size = w.heap.size := (by have h1 := SZ.out; have h2 := HV.out.size; have h3 := hB1.size; simp at h3; omega); have hq := (HK1.out.via DD4.out).via hB1; obtain ⟨y0, y1, -, -, -⟩ := hq; have hbx : BoxA w2 (w'.heap.size) (.slice none 0 0) (.slice none 0 0) := BoxA.via (W := (((w'.alloc (.cells #[.slice none 0 0, .slice none 0 0] 55)).alloc (.cells (Array.replicate an (.int .i64 0)) 2)).drew)) ⟨by simp [go_sem], by simp [go_sem], by simp [go_sem], by simp [go_sem], by simp; try omega⟩ hB1; have HBX := Lib.hid hbx; obtain ⟨k0, k1, k2, k3, k4⟩ := hbx)
          )
        all_goals go_wp2_with fail
        all_goals go_meet
        all_goals first
          | exact ⟨_, _, _, _, rfl, fm_135 (by omega) HL1.out HO1.out HBQ.out⟩
          | exact ⟨_, _, _, _, rfl, fm_153 (by omega) HL1.out HO1.out HBQ.out⟩
          | exact ⟨_, _, _, _, rfl, fm_315 (by omega) HL1.out HO1.out HBQ.out⟩
          | exact ⟨_, _, _, _, rfl, fm_351 (by omega) HL1.out HO1.out HBQ.out HBX.out⟩
          | exact ⟨_, _, _, _, rfl, fm_513 (by omega) HL1.out HO1.out HBQ.out HBX.out⟩
          | exact ⟨_, _, _, _, rfl, fm_531 (by omega) HL1.out HO1.out HBQ.out HBX.out⟩
      case rest =>
        obtain ⟨b8, ao1, c1, g, rfl, HM0⟩ := hcut
        have HM : Hid (FillMid w' wc b8 sn ao1 c1 an g s (filled (mnV op a) 0 an)) := by rw [filled_zero]; exact HM0
        clear HM0
        clear CA0 CA1 CA2 CA3 CA4 DD0 DD1 DD2 DD3 DD4 hmk j0 j1
        obtain ⟨j0, j1, j2, j3, j4⟩ := HK1.out.via HM.out.below
        go_wp2_with fail
        go_loopw [35] (fun i wr => ∃ k : Nat, k ≤ an ∧ i = .int .i64 k ∧ Hid (FillMid w' wr b8 sn ao1 c1 an g s (filled (mnV op a) k an)) ∧ Hid (firE ((List.range k).map (mnE op a)) = 0)) (fun i _ => an - (RowKit.intOf i).toNat)
        case atStart => exact ⟨0, Nat.zero_le _, rfl, HM, rfl⟩
        case round =>
          obtain ⟨k, hk, rfl, HR, HF0⟩ := hrel
          clear j0 j1 j2 j3 j4
          by_cases hlt : k < an
          · have hlt' : (k : Int) < an := by omega
            obtain ⟨ba, oa, rfl, hca⟩ := (HIA.out wr HR.out.below).at (by omega)
            have d1 := hca k hlt
            clear hca
            obtain ⟨x, HX⟩ : ∃ x, Hid (a.getD k 0 = x) := ⟨_, rfl⟩
            rw [HX.out] at d1
            have CW := Lib.hid (mwork_any op x (HK0.out.via HR.out.below).c0 (by rw [← HX.out]; exact HRNG.out k))
            obtain ⟨z, HZ⟩ : ∃ v, Hid (moV op x = v) := ⟨_, rfl⟩
            obtain ⟨ee, HEE⟩ : ∃ v, Hid (moE op x = v) := ⟨_, rfl⟩
            rw [HZ.out, HEE.out] at CW
            have HMV : Hid (mnV op a k = z) := by show _ = _; rw [mnV, HX.out, HZ.out]
            have HME2 : Hid (mnE op a k = ee) := by show _ = _; rw [mnE, HX.out, HEE.out]
            go_wp2_with fail
            refine CW.out.mono ?_; rintro e w3 ⟨rfl, n3, rfl⟩
            obtain ⟨w4, HW4⟩ : ∃ w4, Hid (wr.drewN n3 = w4) := ⟨_, rfl⟩
            have HM4 : Hid (FillMid w' w4 b8 sn ao1 c1 an g s (filled (mnV op a) k an)) := by rw [← HW4.out]; exact HR.out.next (adrew _ _)
            rw [HW4.out]
            clear d1
            obtain ⟨k0, k1, k2, k3, k4⟩ := HM4.out.box
            obtain ⟨l0, l1, l2, l3, l4⟩ := HK2.out.via HM4.out.below
            by_cases hee : ee = 0
            · subst hee
              have d1 : ∃ v, w4.cell? ⟨g, k, none⟩ = some v := by
                rw [HM4.out.O2.cellAt k (by omega)]
                exact ⟨_, List.getElem?_eq_getElem (by simp [filled]; omega)⟩
              obtain ⟨v0, d1⟩ := d1
              have d2 := HM4.out.O2.frozenAt k
              have hput := HM4.out.put (k := k) z
              rw [← HMV.out, filled_set _ hlt, HMV.out] at hput
              have HP := Lib.hid hput
              have HF1 : Hid (firE ((List.range (k + 1)).map (mnE op a)) = 0) := by show _ = _; rw [fst_step, if_pos HF0.out, HME2.out]
              clear hput l0 l1 l2 l3 l4
              go_wp2
              go_roundw
              case rel => exact ⟨k + 1, by omega, by go_num, HP, HF1⟩
              case measure => simp [RowKit.intOf]; omega
            · have hee' : (ee != 0) = true := by simpa using hee
              have h1 : fe = ee := by rw [← HFE.out]; simp only [amoE, HME.out, HRE.out, HLEN.out, ne_eq, not_true_eq_false, if_false]; rw [fst_at _ hlt HF0.out (by rw [HME2.out]; exact hee), HME2.out]
              have h2 : fs = [] := by rw [← HFS.out]; simp [amoS, HFE.out, h1, hee]
              have h3 : fa = [] := by rw [← HFA.out]; simp [amoA, HFE.out, h1, hee]
              subst h1 h2 h3
              have HN := Lib.hid (made_nil (w := w) (w' := (w4.setCell ⟨w.heap.size + 2, 0, none⟩ (.slice none 0 0)).setCell ⟨w.heap.size + 2, 1, none⟩ (.slice none 0 0)) fe (((abvia HW.out (abvia HV.out HM4.out.below)).setCell (by dsimp only; omega) _).setCell (by dsimp only; omega) _))
              go_wp2
              exact bodyPost_ret (v := .tuple #[.agg #[.slice none 0 0, .slice none 0 0], .int .i64 fe]) (by simp [results, Try.results77, go_sem, *]) rfl HN.out
          · obtain rfl : k = an := by omega
            have hge : (k : Int) ≤ k := Int.le_refl _
            obtain ⟨k0, k1, k2, k3, k4⟩ := HR.out.box
            obtain ⟨l0, l1, l2, l3, l4⟩ := HK2.out.via HR.out.below
            have h1 : fe = 0 := by rw [← HFE.out]; simp only [amoE, HME.out, HRE.out, HLEN.out, ne_eq, not_true_eq_false, if_false]; exact HF0.out
            have h2 : fs = s := by rw [← HFS.out]; simp [amoS, HFE.out, h1]
            have h3 : fa = filled (mnV op a) k k := by rw [← HFA.out, filled_all]; simp [amoA, HFE.out, h1, HLEN.out]
            subst h1 h2 h3
            have HN := Lib.hid (made_mid HR.out (abvia HW.out HV.out) (b := w.heap.size + 2) (by have h1 := SZ.out; have h2 := HV.out.size; omega) (by omega) (by omega) (filled_rng _ _ _ fun i hi => mo_rng op _ (HRNG.out i)) (.slice ao1 sn c1) (.slice (some ⟨g, 0, none⟩) k k))
            go_wp2
            exact bodyPost_ret (v := .tuple #[.agg #[.slice ao1 sn c1, .slice (some ⟨g, 0, none⟩) k k], .int .i64 0]) (by simp [results, Try.results77, go_sem, *]) rfl HN.out
    · have hre' : (re != 0) = true := by simpa using hre
      have h1 : fe = re := by rw [← HFE.out]; simp [amoE, HME.out, HRE.out, hre]
      have h2 : fs = [] := by rw [← HFS.out]; simp [amoS, HFE.out, h1, hre]
      have h3 : fa = [] := by rw [← HFA.out]; simp [amoA, HFE.out, h1, hre]
      subst h1 h2 h3
      go_wp2
      exact bodyPost_ret (v := .tuple #[.agg #[.slice none 0 0, .slice none 0 0], .int .i64 fe]) (by simp [results, Try.results77, go_sem, *]) rfl (made_nil _ (((abvia HW.out HV.out).setCell (by dsimp only; omega) _).setCell (by dsimp only; omega) _))
  · have hme' : (me != 0) = true := by simpa using hme
    have h1 : fe = 1 := by rw [← HFE.out]; simp [amoE, HME.out, hme]
    have h2 : fs = [] := by rw [← HFS.out]; simp [amoS, HFE.out, h1]
    have h3 : fa = [] := by rw [← HFA.out]; simp [amoA, HFE.out, h1]
    subst h1 h2 h3
    obtain ⟨k0, k1, k2, k3, k4⟩ := HB2.out.via HV1.out
    go_wp2
    exact bodyPost_ret (v := .tuple #[.agg #[.slice none 0 0, .slice none 0 0], .int .i64 1]) (by simp [results, Try.results77, go_sem, *]) rfl (made_nil _ (((abvia HW.out HV1.out).setCell (by dsimp only; omega) _).setCell (by dsimp only; omega) _))
end Go.Proofs.Ytdedbfbkakofgaa
