/- Contract of the document's Empty (printed by gen_r4empty.py). -/
import Derived.Test.YthackmkdicpdeaaRef4Base
import Derived.Test.YthackmkdicpdeaaCellBegun
namespace Go.Proofs.Ythackmkdicpdeaa
open Go.RowKit Go.Lib
set_option linter.unusedVariables false
set_option linter.unusedSimpArgs false
attribute [local go_sem] alloc_drewN setCell_drewN
set_option maxRecDepth 100000 in
set_option maxHeartbeats 3200000 in
theorem rempty_any {w : World} {ao : Option Addr} {n c : Nat} {fr : List Int} {A : Ar} (h : Ls w ao n c fr) (hA : A.Is w) (told : Bool) :
    Calls Try.prog 49 #[.slice ao n c, A.v, .bool told] w (MadeE w (emS fr A.s A.a told) [] (emE fr A.s A.a told)) := by
  have hsl := hA.shp.len
  obtain ⟨sa, sn, sc, aa, an, ac, s, a⟩ := A
  simp only [Ar.v]
  simp only at hsl
  have h0 := ((Sp.start Non w).alloc 45 2 1 #[.slice sa sn sc, .slice aa an ac] rfl (by decide)).alloc 45 2 1 #[.slice none 0 0, .slice none 0 0] rfl (by decide)
  obtain ⟨W, HW⟩ : ∃ z, Hid ((w.alloc (.cells #[.slice sa sn sc, .slice aa an ac] 45)).alloc (.cells #[.slice none 0 0, .slice none 0 0] 45) = z) := ⟨_, rfl⟩
  rw [HW.out] at h0
  have H1_ := h0.intsNew (E := 3) (zs := []) (World.ownsRow_nil _ _ _ _) (Below.refl _ _) (by omega) (fun i => by simp [List.getD])
  try simp only [List.cons_append, List.nil_append, List.set_cons_zero, List.set_cons_succ, List.map_cons, List.map_nil, List.getD_cons_zero, List.getD_cons_succ, World.size_alloc] at H1_
  have H1 := Lib.hid H1_
  clear H1_
  obtain ⟨g, HG⟩ : ∃ z, Hid (w.heap.size = z) := ⟨_, rfl⟩
  rw [HG.out] at H1
  have CS := Lib.hid (rsize_any (h.below H1.out.belowN (Nat.le_refl _)))
  obtain ⟨RE, HRE⟩ : ∃ z, Hid (z = emE fr s a told) := ⟨_, rfl⟩
  obtain ⟨RS, HRS⟩ : ∃ z, Hid (z = emS fr s a told) := ⟨_, rfl⟩
  rw [← HRE.out, ← HRS.out]
  have HBAD : Hid (RE ≠ 0 → RS = []) := fun h => by rw [HRS.out, emS, if_neg (by rw [← HRE.out]; exact h)]
  have HGOOD : Hid (RE = 0 → RS = if told = true then fr ++ s else fr) := fun h => by rw [HRS.out, emS, if_pos (by rw [← HRE.out]; exact h)]
  have HEE : Hid (RE = if mayE fr = 0 then if 0 < pr fr then 11 else if told = true then if amE s a = 0 then if mayE (fr ++ s) = 0 then 0 else 17 else 1 else 0 else mayE fr) := HRE.out
  have HX := Lib.hid hA
  have HL := Lib.hid h
  obtain ⟨i0, hi0, hza, hzb, hzc⟩ := info_parts (P := Try.prog) (e := 3) (z := .int .i64 0) (size := 1) (bytes := 8) (by kernel_rfl)
  have HI0 := Lib.hid (And.intro hi0 (And.intro hza (And.intro hzb hzc)))
  obtain ⟨m, HM⟩ : ∃ z, Hid (mayE fr = z) := ⟨_, rfl⟩
  obtain ⟨z, HZ⟩ : ∃ x, Hid (szE fr = x) := ⟨_, rfl⟩
  rw [HM.out, HZ.out] at CS
  clear h hA h0 HRE HRS hi0 hza hzb hzc
  go_enter Try.func49, Try.ntmps49
  go_upto_region 1 with fail
  rw [HW.out, HG.out]
  go_wp2_with fail
  refine CS.out.mono ?_; rintro e w' ⟨rfl, hw⟩
  have hw' := hw.symm
  subst hw'
  clear CS hw
  by_cases hne : m ≠ 0
  · have q0 : (m != 0) = true := by simpa using hne
    have hm : mayE fr ≠ 0 := by rw [HM.out]; exact hne
    have hre : RE = m := by rw [HEE.out]; rw [if_neg hm, HM.out]
    subst hre
    obtain rfl := HBAD.out hne
    have f0 := H1.out.frozen (i := 1) rfl 0
    have f1 := H1.out.frozen (i := 1) rfl 1
    have p0 := H1.out.cell (i := 1) rfl 0 _ rfl
    have p1 := H1.out.cell (i := 1) rfl 1 _ rfl
    have HF : Hid (∀ u v, MadeE w [] [] RE (.returned (.tuple #[.agg #[.slice none 0 0, .slice none 0 0], .int .i64 RE])) ((W.setCell ⟨g + 1, 0, none⟩ u).setCell ⟨g + 1, 1, none⟩ v)) := fun u v =>
      madeE_nilR RE ((H1.out.put (i := 1) rfl 0 u).put (i := 1) rfl 1 v).belowN
    clear H1 HEE HBAD HGOOD
    go_wp2
    exact bodyPost_ret (v := .tuple #[.agg #[.slice none 0 0, .slice none 0 0], .int .i64 RE]) (by simp [results, Try.results49, go_sem, *]) rfl (HF.out _ _)
  · have hm : mayE fr = 0 := by rw [HM.out]; omega
    obtain rfl : m = 0 := by omega
    have hzp : z = pr fr := by rw [← HZ.out, szE, if_pos hm]
    have hpb := pr_nonneg hm
    by_cases hp : 0 < pr fr
    · have q1 : (z != 0) = true := by simp; omega
      have hre : RE = 11 := by rw [HEE.out]; rw [if_pos hm, if_pos hp]
      subst hre
      obtain rfl := HBAD.out (by decide)
      have f0 := H1.out.frozen (i := 1) rfl 0
      have f1 := H1.out.frozen (i := 1) rfl 1
      have p0 := H1.out.cell (i := 1) rfl 0 _ rfl
      have p1 := H1.out.cell (i := 1) rfl 1 _ rfl
      have HF : Hid (∀ u v, MadeE w [] [] 11 (.returned (.tuple #[.agg #[.slice none 0 0, .slice none 0 0], .int .i64 11])) ((W.setCell ⟨g + 1, 0, none⟩ u).setCell ⟨g + 1, 1, none⟩ v)) := fun u v =>
        madeE_nilR 11 ((H1.out.put (i := 1) rfl 0 u).put (i := 1) rfl 1 v).belowN
      clear H1 HEE HBAD HGOOD
      go_wp2
      exact bodyPost_ret (v := .tuple #[.agg #[.slice none 0 0, .slice none 0 0], .int .i64 11]) (by simp [results, Try.results49, go_sem, *]) rfl (HF.out _ _)
    · have hp0 : ¬ 0 < pr fr := hp
      obtain rfl : z = 0 := by omega
      have hn8 : n ≤ 8 := by have h1 := (mayE_zero hm).2.1; have h2 := HL.out.len; omega
      have LS := Lib.hid (HL.out.below H1.out.belowN (Nat.le_refl _))
      have hb1 : (0 + n) * 8 ≤ 140737488351232 := by omega
      go_wp2_with (at_builtin; refine Sp.wpList_loc (i := 2) H1.out rfl _ _ 25 rfl 3 i0 Try.underlying25 HI0.out.1 HI0.out.2.1 HI0.out.2.2.1 HI0.out.2.2.2 rfl rfl rfl LS.out hb1 ?_)
      intro bo bd w5 h5
      have H5_ := h5
      try simp only [List.cons_append, List.nil_append, List.set_cons_zero, List.set_cons_succ, List.map_cons, List.map_nil, List.getD_cons_zero, List.getD_cons_succ, World.size_alloc] at H5_
      have H5 := Lib.hid H5_
      clear H5_
      clear h5 H1 LS hb1
      cases told with
      | false =>
        have CM := Lib.hid (rmay_any (H5.out.ls (i := 2) rfl))
        rw [hm] at CM
        go_wp2_with fail
        refine CM.out.mono ?_; rintro e w' ⟨rfl, hw⟩
        have hw' := hw.symm
        subst hw'
        clear CM hw
        obtain rfl : RE = 0 := by rw [HEE.out]; rw [if_pos hm, if_neg (by omega)]; simp
        have hrs : RS = fr := by have h := HGOOD.out rfl; simpa using h
        have HRS := Lib.hid hrs
        clear hrs
        have f0 := H5.out.frozen (i := 1) rfl 0
        have f1 := H5.out.frozen (i := 1) rfl 1
        have p0 := H5.out.cell (i := 1) rfl 0 _ rfl
        have p1 := H5.out.cell (i := 1) rfl 1 _ rfl
        have HF : Hid (∀ u v, MadeE w RS [] 0 (.returned (.tuple #[.agg #[.slice bo n bd, .slice none 0 0], .int .i64 0])) ((w5.setCell ⟨g + 1, 0, none⟩ u).setCell ⟨g + 1, 1, none⟩ v)) := fun u v => by
          rw [HRS.out]
          have q := (((H5.out.put (i := 1) rfl 0 u).put (i := 1) rfl 1 v).intsNew (E := 2) (zs := []) (World.ownsRow_nil _ _ _ _) (Below.refl _ _) (by omega) (fun i => by simp [List.getD])).arrOf (i := 2) (j := 3) rfl (by decide) rfl
          exact q.madeE (i := 3) (B := ⟨bo, n, bd, none, 0, 0, fr, []⟩) rfl 0
        clear H5 HEE HBAD HGOOD
        go_wp2
        exact bodyPost_ret (v := .tuple #[.agg #[.slice bo n bd, .slice none 0 0], .int .i64 0]) (by simp [results, Try.results49, go_sem, *]) rfl (HF.out _ _)
      | true =>
        have y0 := H5.out.cell (i := 0) rfl 0 _ rfl
        have y1 := H5.out.cell (i := 0) rfl 1 _ rfl
        have cm := rmay4_any (HX.out.below H5.out.belowN (Nat.le_refl _))
        simp only [Ar.v] at cm
        by_cases ha : amE s a = 0
        · rw [decide_eq_true ha] at cm
          have CM := Lib.hid cm
          clear cm
          go_wp2_with fail
          refine CM.out.mono ?_; rintro e w6 ⟨rfl, hb⟩
          have H6_ := H5.out.via hb
          try simp only [List.cons_append, List.nil_append, List.set_cons_zero, List.set_cons_succ, List.map_cons, List.map_nil, List.getD_cons_zero, List.getD_cons_succ, World.size_alloc] at H6_
          have H6 := Lib.hid H6_
          clear H6_
          clear hb y0 y1 H5 CM
          have y0 := H6.out.cell (i := 0) rfl 0 _ rfl
          have hs8 := (mayE_zero (amE_zero ha).1).2.1
          have LS := Lib.hid (HX.out.below H6.out.belowN (Nat.le_refl _)).shp
          have hb1 : (n + sn) * 8 ≤ 140737488351232 := by omega
          go_wp2_with (at_builtin; refine Sp.wpList_loc (i := 2) H6.out rfl _ _ 25 rfl 3 i0 Try.underlying25 HI0.out.1 HI0.out.2.1 HI0.out.2.2.1 HI0.out.2.2.2 rfl rfl rfl LS.out hb1 ?_)
          intro bo bd w7 h7
          have H7_ := h7
          try simp only [List.cons_append, List.nil_append, List.set_cons_zero, List.set_cons_succ, List.map_cons, List.map_nil, List.getD_cons_zero, List.getD_cons_succ, World.size_alloc] at H7_
          have H7 := Lib.hid H7_
          clear H7_
          clear h7 H6 LS hb1 y0
          have CM := Lib.hid (rmay_any (H7.out.ls (i := 2) rfl))
          by_cases hf : mayE (fr ++ s) = 0
          · rw [hf] at CM
            go_wp2_with fail
            refine CM.out.mono ?_; rintro e w' ⟨rfl, hw⟩
            have hw' := hw.symm
            subst hw'
            clear CM hw
            obtain rfl : RE = 0 := by rw [HEE.out]; rw [if_pos hm, if_neg (by omega)]; simp [ha, hf]
            have hrs : RS = fr ++ s := by have h := HGOOD.out rfl; simpa using h
            have HRS := Lib.hid hrs
            clear hrs
            have f0 := H7.out.frozen (i := 1) rfl 0
            have f1 := H7.out.frozen (i := 1) rfl 1
            have p0 := H7.out.cell (i := 1) rfl 0 _ rfl
            have p1 := H7.out.cell (i := 1) rfl 1 _ rfl
            have HF : Hid (∀ u v, MadeE w RS [] 0 (.returned (.tuple #[.agg #[.slice bo (n + sn) bd, .slice none 0 0], .int .i64 0])) ((w7.setCell ⟨g + 1, 0, none⟩ u).setCell ⟨g + 1, 1, none⟩ v)) := fun u v => by
              rw [HRS.out]
              have q := (((H7.out.put (i := 1) rfl 0 u).put (i := 1) rfl 1 v).intsNew (E := 2) (zs := []) (World.ownsRow_nil _ _ _ _) (Below.refl _ _) (by omega) (fun i => by simp [List.getD])).arrOf (i := 2) (j := 3) rfl (by decide) rfl
              exact q.madeE (i := 3) (B := ⟨bo, (n + sn), bd, none, 0, 0, fr ++ s, []⟩) rfl 0
            clear H7 HEE HBAD HGOOD
            go_wp2
            exact bodyPost_ret (v := .tuple #[.agg #[.slice bo (n + sn) bd, .slice none 0 0], .int .i64 0]) (by simp [results, Try.results49, go_sem, *]) rfl (HF.out _ _)
          · obtain ⟨mf, HMF⟩ : ∃ z, Hid (mayE (fr ++ s) = z) := ⟨_, rfl⟩
            rw [HMF.out] at CM
            have q2 : (mf != 0) = true := by rw [← HMF.out]; simpa using hf
            go_wp2_with fail
            refine CM.out.mono ?_; rintro e w' ⟨rfl, hw⟩
            have hw' := hw.symm
            subst hw'
            clear CM hw
            have hre : RE = 17 := by rw [HEE.out]; rw [if_pos hm, if_neg (by omega)]; simp [ha, hf]
            subst hre
            obtain rfl := HBAD.out (by decide)
            have f0 := H7.out.frozen (i := 1) rfl 0
            have f1 := H7.out.frozen (i := 1) rfl 1
            have p0 := H7.out.cell (i := 1) rfl 0 _ rfl
            have p1 := H7.out.cell (i := 1) rfl 1 _ rfl
            have HF : Hid (∀ u v, MadeE w [] [] 17 (.returned (.tuple #[.agg #[.slice none 0 0, .slice none 0 0], .int .i64 17])) ((w7.setCell ⟨g + 1, 0, none⟩ u).setCell ⟨g + 1, 1, none⟩ v)) := fun u v =>
              madeE_nilR 17 ((H7.out.put (i := 1) rfl 0 u).put (i := 1) rfl 1 v).belowN
            clear H7 HEE HBAD HGOOD
            go_wp2
            exact bodyPost_ret (v := .tuple #[.agg #[.slice none 0 0, .slice none 0 0], .int .i64 17]) (by simp [results, Try.results49, go_sem, *]) rfl (HF.out _ _)
        · rw [decide_eq_false ha] at cm
          have CM := Lib.hid cm
          clear cm
          go_wp2_with fail
          refine CM.out.mono ?_; rintro e w6 ⟨rfl, hb⟩
          have H6_ := H5.out.via hb
          try simp only [List.cons_append, List.nil_append, List.set_cons_zero, List.set_cons_succ, List.map_cons, List.map_nil, List.getD_cons_zero, List.getD_cons_succ, World.size_alloc] at H6_
          have H6 := Lib.hid H6_
          clear H6_
          clear hb y0 y1 H5 CM
          have hre : RE = 1 := by rw [HEE.out]; rw [if_pos hm, if_neg (by omega)]; simp [ha]
          subst hre
          obtain rfl := HBAD.out (by decide)
          have f0 := H6.out.frozen (i := 1) rfl 0
          have f1 := H6.out.frozen (i := 1) rfl 1
          have p0 := H6.out.cell (i := 1) rfl 0 _ rfl
          have p1 := H6.out.cell (i := 1) rfl 1 _ rfl
          have HF : Hid (∀ u v, MadeE w [] [] 1 (.returned (.tuple #[.agg #[.slice none 0 0, .slice none 0 0], .int .i64 1])) ((w6.setCell ⟨g + 1, 0, none⟩ u).setCell ⟨g + 1, 1, none⟩ v)) := fun u v =>
            madeE_nilR 1 ((H6.out.put (i := 1) rfl 0 u).put (i := 1) rfl 1 v).belowN
          clear H6 HEE HBAD HGOOD
          go_wp2
          exact bodyPost_ret (v := .tuple #[.agg #[.slice none 0 0, .slice none 0 0], .int .i64 1]) (by simp [results, Try.results49, go_sem, *]) rfl (HF.out _ _)
end Go.Proofs.Ythackmkdicpdeaa
