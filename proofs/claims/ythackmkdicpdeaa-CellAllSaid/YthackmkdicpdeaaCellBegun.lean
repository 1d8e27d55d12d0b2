/- abacuslaw4's table and begun. Contract of cell.Empty. What every statement of layer 4 asks ahead: begun. -/
import Derived.Test.YthackmkdicpdeaaCellJoin
import Derived.Test.YthackmkdicpdeaaCellEq
import Derived.Test.YthackmkdicpdeaaMerge
import Derived.Test.YthackmkdicpdeaaCellMake
import Derived.Test.YthackmkdicpdeaaCellOne
import Derived.Test.YthackmkdicpdeaaCellPart
import Derived.Deep.RegionHeld3
namespace Go.Proofs.Ythackmkdicpdeaa
open Go.RowKit Go.Lib
set_option linter.unusedVariables false
set_option linter.unusedSimpArgs false
attribute [local go_sem] alloc_drewN setCell_drewN
theorem rng_of {l : List Int} (h : ∀ x ∈ l, -9223372036854775808 ≤ x ∧ x ≤ 9223372036854775807) : ∀ i, -9223372036854775808 ≤ l.getD i 0 ∧ l.getD i 0 ≤ 9223372036854775807 := fun i => by
  by_cases hi : i < l.length
  · have := h _ (List.getElem_mem hi)
    simpa [List.getD, List.getElem?_eq_getElem hi] using this
  · simp [List.getD, List.getElem?_eq_none (Nat.le_of_not_lt hi)]
set_option maxRecDepth 100000 in
set_option maxHeartbeats 800000 in
theorem table_any (w : World) : Calls Try.prog 20 #[] w (MadeA w [2, 3] [1, 2, 3, 4, 5, 6]) := by
  have h1 := (((Sp.start Non w).alloc 45 2 1 #[.slice (some ⟨w.heap.size + 1, 0, none⟩) 2 2, .slice (some ⟨w.heap.size + 1 + 1, 0, none⟩) 6 6] rfl (by decide)).alloc 3 1 2 #[.int .i64 2, .int .i64 3] rfl (by decide)).alloc 2 1 6 #[.int .i64 1, .int .i64 2, .int .i64 3, .int .i64 4, .int .i64 5, .int .i64 6] rfl (by decide)
  have h2 := ((h1.toInts (i := 1) (zs := [2, 3]) rfl (by omega) (rng_of (by simp))).toInts (i := 2) (zs := [1, 2, 3, 4, 5, 6]) rfl (by omega) (rng_of (by simp))).arrOf (i := 1) (j := 2) rfl (by decide) rfl
  simp only [World.size_alloc] at h2
  have HF : Hid (MadeA w [2, 3] [1, 2, 3, 4, 5, 6] (.returned (.agg #[.slice (some ⟨w.heap.size + 1, 0, none⟩) 2 2, .slice (some ⟨w.heap.size + 1 + 1, 0, none⟩) 6 6])) (((w.alloc (.cells #[.slice (some ⟨w.heap.size + 1, 0, none⟩) 2 2, .slice (some ⟨w.heap.size + 1 + 1, 0, none⟩) 6 6] 45)).alloc (.cells #[.int .i64 2, .int .i64 3] 3)).alloc (.cells #[.int .i64 1, .int .i64 2, .int .i64 3, .int .i64 4, .int .i64 5, .int .i64 6] 2))) :=
    madeE_A (err := 0) (h2.madeE (i := 2) (B := ⟨_, _, _, _, _, _, _, _⟩) rfl 0)
  clear h1 h2
  go_enter Try.func20, Try.ntmps20
  go_wp2
  exact bodyPost_ret (v := .agg #[.slice (some ⟨w.heap.size + 1, 0, none⟩) 2 2, .slice (some ⟨w.heap.size + 1 + 1, 0, none⟩) 6 6]) (by simp [results, Try.results20, go_sem, *]) rfl HF.out
end Go.Proofs.Ythackmkdicpdeaa
namespace Go.Proofs.Ythackmkdicpdeaa
open Go.RowKit Go.Lib
set_option linter.unusedVariables false
set_option linter.unusedSimpArgs false
attribute [local go_sem] alloc_drewN setCell_drewN
/-- Which number Empty answers. -/
def emE (fr s a : List Int) (told : Bool) : Int := if mayE fr = 0 then if 0 < pr fr then 11 else if told = true then if amE s a = 0 then if mayE (fr ++ s) = 0 then 0 else 17 else 1 else 0 else mayE fr
def emS (fr s a : List Int) (told : Bool) : List Int := if emE fr s a told = 0 then if told = true then fr ++ s else fr else []
theorem madeE_nil {w w' : World} (err : Int) (h : Below w.heap.size w w') : MadeE w [] [] err (.returned (.tuple #[.agg #[.slice none 0 0, .slice none 0 0], .int .i64 err])) w' :=
  ⟨⟨none, 0, 0, none, 0, 0, [], []⟩, rfl, Ar.is_nil _, rfl, rfl, Ar.own_nil _ _, h⟩
set_option maxHeartbeats 1600000 in
theorem empty_any {w : World} {ao : Option Addr} {n c : Nat} {fr : List Int} {A : Ar} (h : Ls w ao n c fr) (hA : A.Is w) (told : Bool) :
    Calls Try.prog 24 #[.slice ao n c, A.v, .bool told] w (MadeE w (emS fr A.s A.a told) [] (emE fr A.s A.a told)) := by
  obtain ⟨sa, sn, sc, aa, an, ac, s, a⟩ := A
  simp only [Ar.v]
  obtain ⟨W, HWW⟩ : ∃ W, Hid ((w.alloc (.cells #[.slice sa sn sc, .slice aa an ac] 45)).alloc (.cells #[.slice none 0 0, .slice none 0 0] 45) = W) := ⟨_, rfl⟩
  have hw : Below w.heap.size w W := by rw [← HWW.out]; exact below_box2 _ _ _ _ _
  have hsz : W.heap.size = w.heap.size + 2 := by rw [← HWW.out]; simp
  have B0 : BoxA W w.heap.size (.slice sa sn sc) (.slice aa an ac) := by
    rw [← HWW.out]; exact ⟨by simp [go_sem], by simp [go_sem], by simp [go_sem], by simp [go_sem], by simp; omega⟩
  have B1 : BoxA W (w.heap.size + 1) (.slice none 0 0) (.slice none 0 0) := by
    rw [← HWW.out]; exact ⟨by simp [go_sem], by simp [go_sem], by simp [go_sem], by simp [go_sem], by simp⟩
  have HI := Lib.hid (hA.below hw (Nat.le_refl _))
  have HL := Lib.hid (h.below hw (Nat.le_refl _))
  have HWB := Lib.hid hw
  have SZ := Lib.hid hsz
  have HB0 := Lib.hid B0
  have HB1 := Lib.hid B1
  obtain ⟨y0, y1, -, -, -⟩ := B0
  obtain ⟨x0, x1, x2, x3, -⟩ := B1
  have CS := Lib.hid (size_any HL.out)
  obtain ⟨R, HR⟩ : ∃ R, Hid (emS fr s a told = R) := ⟨_, rfl⟩
  obtain ⟨E, HE⟩ : ∃ E, Hid (emE fr s a told = E) := ⟨_, rfl⟩
  rw [HR.out, HE.out]
  by_cases hm : mayE fr = 0
  · have hz : szE fr = pr fr := by unfold szE; rw [if_pos hm]
    rw [hz, hm] at CS
    have hpb := pr_nonneg hm
    obtain ⟨q, hq⟩ : ∃ q : Nat, pr fr = q := ⟨(pr fr).toNat, by omega⟩
    by_cases hp : 0 < pr fr
    · have e1 : E = 11 := by rw [← HE.out]; unfold emE; rw [if_pos hm, if_pos hp]
      have e2 : R = [] := by rw [← HR.out]; unfold emS; rw [HE.out, e1, if_neg (by decide)]
      subst e2
      subst e1
      rw [hq] at CS hp
      have q0 : (0 : Int) < q := hp
      have HF : Hid (∀ u v, MadeE w [] [] 11 (.returned (.tuple #[.agg #[.slice none 0 0, .slice none 0 0], .int .i64 11])) ((W.setCell ⟨w.heap.size + 1, 0, none⟩ u).setCell ⟨w.heap.size + 1, 1, none⟩ v)) := fun u v =>
        madeE_nil 11 ((HWB.out.setCell (by simp) _).setCell (by simp) _)
      clear h hA hw hsz hm hz hpb hp
      go_enter Try.func24, Try.ntmps24
      go_wp2_with fail
      rw [HWW.out]
      refine CS.out.mono ?_; rintro e' w' ⟨rfl, hw⟩
      have hw' := hw.symm
      subst hw'
      go_wp2
      exact bodyPost_ret (v := .tuple #[.agg #[.slice none 0 0, .slice none 0 0], .int .i64 11]) (by simp [results, Try.results24, go_sem, *]) rfl (HF.out _ _)
    have hq0 : q = 0 := by omega
    rw [hq, hq0] at CS
    have CC := Lib.hid (clone_any HL.out)
    have HM := Lib.hid hm
    have HP : Hid (¬ 0 < pr fr) := hp
    clear h hA hw hsz hz hpb hp hq hq0 hm
    cases told with
    | false =>
      have e1 : E = 0 := by rw [← HE.out]; unfold emE; rw [if_pos HM.out, if_neg HP.out]; rfl
      have e2 : R = fr := by rw [← HR.out]; unfold emS; rw [HE.out, e1, if_pos rfl]; rfl
      subst e2
      subst e1
      go_enter Try.func24, Try.ntmps24
      go_wp2_with fail
      rw [HWW.out]
      refine CS.out.mono ?_; rintro e' w' ⟨rfl, hw⟩
      have hw' := hw.symm
      subst hw'
      go_wp2_with fail
      refine CC.out.mono ?_; rintro e w2 ⟨ao2, c2, rfl, hL2, hO2, hB2⟩
      obtain ⟨k0, k1, k2, k3, -⟩ := HB1.out.below hB2 HB1.out.lt
      have HF : Hid (∀ u v, MadeE w R [] 0 (.returned (.tuple #[.agg #[.slice ao2 n c2, .slice none 0 0], .int .i64 0])) ((w2.setCell ⟨w.heap.size + 1, 0, none⟩ u).setCell ⟨w.heap.size + 1, 1, none⟩ v)) := fun u v =>
        made_box HWB.out (Nat.le_succ _) (by have := SZ.out; omega) hB2 hO2 (Below.refl _ _) (World.ownsRow_nil _ _ _ _) hL2 (Ls.zero _ _ (Nat.zero_le _)) 0 u v
      clear hL2 hO2 hB2 x0 x1 x2 x3
      go_wp2
      exact bodyPost_ret (v := .tuple #[.agg #[.slice ao2 n c2, .slice none 0 0], .int .i64 0]) (by simp [results, Try.results24, go_sem, *]) rfl (HF.out _ _)
    | true =>
      have eE : E = if amE s a = 0 then if mayE (fr ++ s) = 0 then 0 else 17 else 1 := by rw [← HE.out]; unfold emE; rw [if_pos HM.out, if_neg HP.out, if_pos rfl]
      have eR : R = if E = 0 then fr ++ s else [] := by rw [← HR.out]; unfold emS; rw [HE.out, if_pos rfl]
      clear HR HE
      by_cases ha : amE s a = 0
      · rw [if_pos ha] at eE
        have HEE := Lib.hid eE
        have HER := Lib.hid eR
        have hsm : mayE s = 0 := by
          rcases Classical.em (mayE s = 0) with h1 | h1
          · exact h1
          · unfold amE at ha; rw [if_neg h1] at ha; exact absurd ha h1
        have HS8 := Lib.hid (mayE_zero hsm).2.1
        clear eE eR hsm
        go_enter Try.func24, Try.ntmps24
        go_wp2_with fail
        rw [HWW.out]
        refine CS.out.mono ?_; rintro e' w' ⟨rfl, hw⟩
        have hw' := hw.symm
        subst hw'
        go_wp2_with fail
        refine CC.out.mono ?_; rintro e w2 ⟨ao2, c2, rfl, hL2, hO2, hB2⟩
        obtain ⟨k0, k1, k2, k3, -⟩ := HB0.out.below hB2 HB0.out.lt
        have HL2 := Lib.hid hL2
        have HO2 := Lib.hid hO2
        have HB2 := Lib.hid hB2
        have CM := Lib.hid (arrmay_any (HI.out.below hB2 (Nat.le_refl _)))
        simp only [Ar.v] at CM
        clear hL2 hO2 hB2 y0 y1 x0 x1 x2 x3
        rw [ha] at CM
        clear ha
        go_wp2_with fail
        refine CM.out.mono ?_; rintro e w3 ⟨rfl, hb3⟩
        have HB3 : Hid (Below W.heap.size _ w3) := HB2.out.trans (hb3.mono HB2.out.size)
        have HO3 := Lib.hid (own_below HO2.out hb3 (Nat.le_refl _))
        clear k0 k1 k2 k3 hb3
        obtain ⟨k0, k1, k2, k3, -⟩ := HB0.out.below HB3.out HB0.out.lt
        obtain ⟨x0, x1, x2, x3, -⟩ := HB1.out.below HB3.out HB1.out.lt
        obtain ⟨i0, hi0, hz0, hz1, hz2⟩ := info_parts (P := Try.prog) (e := 3) (z := .int .i64 0) (size := 1) (bytes := 8) (by kernel_rfl)
        have HS3 := Lib.hid (HI.out.shp.below HB3.out (Nat.le_refl _))
        have hn8 := (mayE_zero HM.out).2.1
        have hfl := HL.out.len
        have hbg := HI.out.shp.big
        simp only at hbg
        have k63 : (n + sn) * 8 ≤ 140737488355328 := by omega
        clear hn8 hfl
        go_wp2_with (at_builtin; refine wpList_append_loc w3 rfl _ _ 25 rfl W.heap.size 3 i0 Try.underlying25 hi0 hz0 hz1 hz2 _ n fr rfl HO3.out rfl HS3.out k63 HB3.out.size ?_)
        intro bo d w4 hO4 hg4 hl4 hn4
        rw [← List.map_append] at hO4
        have HB4 : Hid (Below W.heap.size _ w4) := HB3.out.grown hg4 HB3.out.size fun k hk => (own_block HO3.out hk).1
        have HO4 := Lib.hid hO4
        have HL4 := Lib.hid (ls_of_own hO4 (by have h1 := HI.out.shp.len; have h2 := HL.out.len; have h3 := (mayE_zero HM.out).2.1; have h4 := HS8.out; simp only at h1; omega) (app_rng HL.out.rng HI.out.shp.rng))
        have CY := Lib.hid (may_any HL4.out)
        obtain ⟨z0, z1, z2, z3, -⟩ := HB1.out.below HB4.out HB1.out.lt
        clear hO4 hg4 hl4 hn4 x0 x1 x2 x3 k0 k1 k2 k3
        by_cases hy : mayE (fr ++ s) = 0
        · have e1 : E = 0 := by rw [HEE.out, if_pos hy]
          have e2 : R = fr ++ s := by rw [HER.out, if_pos e1]
          rw [hy] at CY
          have HF : Hid (∀ u v, MadeE w (fr ++ s) [] 0 (.returned (.tuple #[.agg #[.slice bo (n + sn) d, .slice none 0 0], .int .i64 0])) ((w4.setCell ⟨w.heap.size + 1, 0, none⟩ u).setCell ⟨w.heap.size + 1, 1, none⟩ v)) := fun u v =>
            made_box HWB.out (Nat.le_succ _) (by have := SZ.out; omega) HB4.out HO4.out (Below.refl _ _) (World.ownsRow_nil _ _ _ _) HL4.out (Ls.zero _ _ (Nat.zero_le _)) 0 u v
          subst e1
          subst e2
          clear hy
          go_wp2_with fail
          refine CY.out.mono ?_; rintro e w5 ⟨rfl, hw⟩
          have hw' := hw.symm
          subst hw'
          go_wp2
          exact bodyPost_ret (v := .tuple #[.agg #[.slice bo (n + sn) d, .slice none 0 0], .int .i64 0]) (by simp [results, Try.results24, go_sem, *]) rfl (HF.out _ _)
        · have e1 : E = 17 := by rw [HEE.out, if_neg hy]
          have e2 : R = [] := by rw [HER.out, e1]; rfl
          obtain ⟨m, hmm⟩ : ∃ m, m = mayE (fr ++ s) := ⟨_, rfl⟩
          rw [← hmm] at CY hy
          have q0 : (m != 0) = true := by simpa using hy
          have HF : Hid (∀ u v, MadeE w [] [] 17 (.returned (.tuple #[.agg #[.slice none 0 0, .slice none 0 0], .int .i64 17])) ((w4.setCell ⟨w.heap.size + 1, 0, none⟩ u).setCell ⟨w.heap.size + 1, 1, none⟩ v)) := fun u v =>
            madeE_nil 17 (((HWB.out.trans (HB4.out.mono HWB.out.size)).setCell (by simp) _).setCell (by simp) _)
          subst e1
          subst e2
          clear hy hmm
          go_wp2_with fail
          refine CY.out.mono ?_; rintro e w5 ⟨rfl, hw⟩
          have hw' := hw.symm
          subst hw'
          go_wp2
          exact bodyPost_ret (v := .tuple #[.agg #[.slice none 0 0, .slice none 0 0], .int .i64 17]) (by simp [results, Try.results24, go_sem, *]) rfl (HF.out _ _)
      · rw [if_neg ha] at eE
        obtain ⟨m, hmm⟩ : ∃ m, m = amE s a := ⟨_, rfl⟩
        subst eE
        rw [if_neg (by decide)] at eR
        subst eR
        go_enter Try.func24, Try.ntmps24
        go_wp2_with fail
        rw [HWW.out]
        refine CS.out.mono ?_; rintro e' w' ⟨rfl, hw⟩
        have hw' := hw.symm
        subst hw'
        go_wp2_with fail
        refine CC.out.mono ?_; rintro e w2 ⟨ao2, c2, rfl, hL2, hO2, hB2⟩
        obtain ⟨k0, k1, k2, k3, -⟩ := HB0.out.below hB2 HB0.out.lt
        have HL2 := Lib.hid hL2
        have HO2 := Lib.hid hO2
        have HB2 := Lib.hid hB2
        have CM := Lib.hid (arrmay_any (HI.out.below hB2 (Nat.le_refl _)))
        simp only [Ar.v] at CM
        clear hL2 hO2 hB2 y0 y1 x0 x1 x2 x3
        rw [← hmm] at CM ha
        have q0 : (m != 0) = true := by simpa using ha
        clear ha hmm
        go_wp2_with fail
        refine CM.out.mono ?_; rintro e w3 ⟨rfl, hb3⟩
        have HB3 : Hid (Below W.heap.size _ w3) := HB2.out.trans (hb3.mono HB2.out.size)
        have HO3 := Lib.hid (own_below HO2.out hb3 (Nat.le_refl _))
        clear k0 k1 k2 k3 hb3
        obtain ⟨k0, k1, k2, k3, -⟩ := HB0.out.below HB3.out HB0.out.lt
        obtain ⟨x0, x1, x2, x3, -⟩ := HB1.out.below HB3.out HB1.out.lt
        have HF : Hid (∀ u v, MadeE w [] [] 1 (.returned (.tuple #[.agg #[.slice none 0 0, .slice none 0 0], .int .i64 1])) ((w3.setCell ⟨w.heap.size + 1, 0, none⟩ u).setCell ⟨w.heap.size + 1, 1, none⟩ v)) := fun u v =>
          madeE_nil 1 (((HWB.out.trans (HB3.out.mono HWB.out.size)).setCell (by simp) _).setCell (by simp) _)
        go_wp2
        exact bodyPost_ret (v := .tuple #[.agg #[.slice none 0 0, .slice none 0 0], .int .i64 1]) (by simp [results, Try.results24, go_sem, *]) rfl (HF.out _ _)
  · have e1 : E = mayE fr := by rw [← HE.out]; unfold emE; rw [if_neg hm]
    have e2 : R = [] := by rw [← HR.out]; unfold emS; rw [HE.out, e1, if_neg hm]
    subst e2
    obtain ⟨e, hee⟩ : ∃ e, e = mayE fr := ⟨_, rfl⟩
    rw [← hee] at CS e1 hm
    subst e1
    have q0 : (E != 0) = true := by simpa using hm
    have HF : Hid (∀ u v, MadeE w [] [] E (.returned (.tuple #[.agg #[.slice none 0 0, .slice none 0 0], .int .i64 E])) ((W.setCell ⟨w.heap.size + 1, 0, none⟩ u).setCell ⟨w.heap.size + 1, 1, none⟩ v)) := fun u v =>
      madeE_nil E ((HWB.out.setCell (by simp) _).setCell (by simp) _)
    clear h hA hw hsz hm hee
    go_enter Try.func24, Try.ntmps24
    go_wp2_with fail
    rw [HWW.out]
    refine CS.out.mono ?_; rintro e' w' ⟨rfl, hw⟩
    have hw' := hw.symm
    subst hw'
    go_wp2
    exact bodyPost_ret (v := .tuple #[.agg #[.slice none 0 0, .slice none 0 0], .int .i64 E]) (by simp [results, Try.results24, go_sem, *]) rfl (HF.out _ _)
end Go.Proofs.Ythackmkdicpdeaa
namespace Go.Proofs.Ythackmkdicpdeaa
open Go.RowKit Go.Lib
set_option linter.unusedVariables false
set_option linter.unusedSimpArgs false
attribute [local go_sem] alloc_drewN setCell_drewN
theorem map_two {As : List Ar} {x y : List Int × List Int} (h : As.map Ar.sa2 = [x, y]) : ∃ A B : Ar, As = [A, B] ∧ A.s = x.1 ∧ A.a = x.2 ∧ B.s = y.1 ∧ B.a = y.2 := by
  match As, h with
  | [A, B], h =>
    simp only [List.map_cons, List.map_nil, List.cons.injEq, and_true, Ar.sa2] at h
    obtain ⟨rfl, rfl⟩ := h
    exact ⟨A, B, rfl, rfl, rfl, rfl, rfl⟩
theorem oneB (w1 : World) (A : Ar) (hA : A.Is w1) (hs : A.s = [2, 3]) (ha : A.a = [1, 2, 3, 4, 5, 6]) : Calls Try.prog 19 #[A.v, .int .i64 1] w1 (OneP w1 [2] [3] [0, 0, 0] [([3], [1, 2, 3]), ([3], [4, 5, 6])] 0) := by
  have h := one_any hA 1 (by omega)
  rw [hs, ha, show onF [2, 3] [1, 2, 3, 4, 5, 6] 1 = [2] by decide, show onI [2, 3] [1, 2, 3, 4, 5, 6] 1 = [3] by decide, show onZ [2, 3] [1, 2, 3, 4, 5, 6] 1 = [0, 0, 0] by decide, show onC [2, 3] [1, 2, 3, 4, 5, 6] 1 = [([3], [1, 2, 3]), ([3], [4, 5, 6])] by decide, show onE [2, 3] [1, 2, 3, 4, 5, 6] = 0 by decide] at h
  exact h
theorem joinB (w1 : World) {fo : Option Addr} {fn fc : Nat} {co : Option Addr} {cn cc : Nat} {As : List Ar} (h1 : Ls w1 fo fn fc [2]) (h2 : Ars w1 co cn cc As) (h3 : As.map Ar.sa2 = [([], [1]), ([2], [3, 4])]) :
    Calls Try.prog 21 #[.slice fo fn fc, .slice co cn cc] w1 (MadeE w1 [2, 2] [1, 0, 3, 4] 0) := by
  have h := join_any h1 h2
  rw [h3, show jnS [2] [([], [1]), ([2], [3, 4])] = [2, 2] by decide, show jnA [2] [([], [1]), ([2], [3, 4])] = [1, 0, 3, 4] by decide, show jnE [2] [([], [1]), ([2], [3, 4])] = 0 by decide] at h
  exact h
theorem partB (w1 : World) (A : Ar) (hA : A.Is w1) (hs : A.s = [2, 3]) (ha : A.a = [1, 2, 3, 4, 5, 6]) : Calls Try.prog 22 #[A.v, .int .i64 1, .int .i64 1] w1 (MadeE w1 [1, 3] [4, 5, 6] 0) := by
  have h := part_any hA 1 1 (by omega) (by omega)
  rw [hs, ha, show ptS [2, 3] [1, 2, 3, 4, 5, 6] 1 1 = [1, 3] by decide, show ptA [2, 3] [1, 2, 3, 4, 5, 6] 1 1 = [4, 5, 6] by decide, show ptE [2, 3] [1, 2, 3, 4, 5, 6] 1 1 = 0 by decide] at h
  exact h
theorem piecesB (w1 : World) (A : Ar) (hA : A.Is w1) (hs : A.s = [2, 3]) (ha : A.a = [1, 2, 3, 4, 5, 6]) : Calls Try.prog 23 #[A.v, .int .i64 1] w1 (PiecesP w1 [(0, 1), (1, 1)] [] [] 0) := by
  have h := pieces_any hA 1 (by omega)
  rw [hs, ha, show pcP [2, 3] [1, 2, 3, 4, 5, 6] 1 = [(0, 1), (1, 1)] by decide, show pcS [2, 3] [1, 2, 3, 4, 5, 6] 1 = [] by decide, show pcA [2, 3] [1, 2, 3, 4, 5, 6] 1 = [] by decide, show pcE [2, 3] [1, 2, 3, 4, 5, 6] 1 = 0 by decide] at h
  exact h
theorem emptyB (w1 : World) {ao : Option Addr} {n c : Nat} (h1 : Ls w1 ao n c [0]) (A : Ar) (hA : A.Is w1) (hs : A.s = [2, 3]) (ha : A.a = [1, 2, 3, 4, 5, 6]) : Calls Try.prog 24 #[.slice ao n c, A.v, .bool false] w1 (MadeE w1 [0] [] 0) := by
  have h := empty_any h1 hA false
  rw [hs, ha, show emS [0] [2, 3] [1, 2, 3, 4, 5, 6] false = [0] by decide, show emE [0] [2, 3] [1, 2, 3, 4, 5, 6] false = 0 by decide] at h
  exact h
theorem addB {w : World} {F : Nat → Prop} {g : Nat} (hJ : (Pt.joiner g [1] [] []).P w F) {A : Ar} (hA : A.Is w) (hof : A.Off F) (hs : A.s = [2, 3]) (ha : A.a = [1, 2, 3, 4, 5, 6]) :
    Calls Try.prog 26 #[.pointer (some ⟨g, 0, none⟩), A.v] w (AddP F w g [1] [2, 3] [([2, 3], [1, 2, 3, 4, 5, 6])] 0) := by
  have h := add4_any hJ hA hof
  rw [hs, ha, show adNC [1] [] [] [2, 3] [1, 2, 3, 4, 5, 6] = [2, 3] by decide, show adNG [1] [] [] [2, 3] [1, 2, 3, 4, 5, 6] = [([2, 3], [1, 2, 3, 4, 5, 6])] by decide, show adE [1] [] [] [2, 3] [1, 2, 3, 4, 5, 6] = 0 by decide] at h
  exact h
theorem doneB {w : World} {F : Nat → Prop} {g : Nat} (hJ : (Pt.joiner g [1] [2, 3] [([2, 3], [1, 2, 3, 4, 5, 6])]).P w F) :
    Calls Try.prog 27 #[.pointer (some ⟨g, 0, none⟩)] w (DoneP F w g [1] [2, 3] [([2, 3], [1, 2, 3, 4, 5, 6])] [1, 2, 3] [1, 2, 3, 4, 5, 6] 0) := by
  have h := done_any hJ
  rw [show dnS [1] [2, 3] [([2, 3], [1, 2, 3, 4, 5, 6])] = [1, 2, 3] by decide, show dnA [1] [2, 3] [([2, 3], [1, 2, 3, 4, 5, 6])] = [1, 2, 3, 4, 5, 6] by decide, show dnE [1] [([2, 3], [1, 2, 3, 4, 5, 6])] = 0 by decide] at h
  exact h
end Go.Proofs.Ythackmkdicpdeaa
