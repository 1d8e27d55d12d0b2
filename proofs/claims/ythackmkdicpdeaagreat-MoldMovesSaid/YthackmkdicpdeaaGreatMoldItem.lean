/- Contracts of mold.over and of the function that itemizes an array. -/
import Derived.Test.YthackmkdicpdeaaGreatMoldMons
namespace Go.Proofs.YthackmkdicpdeaaGreat
open Go.RowKit Go.Lib
set_option linter.unusedVariables false
set_option linter.unusedSimpArgs false
attribute [local go_sem] alloc_drewN setCell_drewN
set_option maxRecDepth 100000 in
set_option maxHeartbeats 3200000 in
theorem item_m6 {w : World} {Y : Ar} (hY : Y.Is w) (hm : amE Y.s Y.a = 0) : Calls Tryz.prog 101 #[Y.v] w (MadeE w (mdS (1 :: Y.s)) (mdA (1 :: Y.s) Y.a) (mdE (1 :: Y.s))) := by
  obtain ⟨ta, tn, tc, ba, bn, bc, t, b⟩ := Y
  simp only [Ar.v]
  simp only at hm
  have ht8 : tn ≤ 8 := by have h1 := (mayE_zero (amE_zero hm).1).2.1; have h2 : t.length = tn := hY.shp.len; omega
  obtain ⟨W, HW⟩ : ∃ z, Hid ((w.alloc (.cells #[.slice ta tn tc, .slice ba bn bc] 38)).alloc (.cells #[.slice none 0 0, .slice none 0 0] 38) = z) := ⟨_, rfl⟩
  have hw0 := ((Sp.start Non w).alloc 38 2 1 #[.slice ta tn tc, .slice ba bn bc] rfl (by decide)).alloc 38 2 1 #[.slice none 0 0, .slice none 0 0] rfl (by decide)
  rw [HW.out] at hw0
  have H1_ := hw0
  try simp only [List.cons_append, List.nil_append, List.set_cons_zero, List.set_cons_succ, List.map_cons, List.map_nil, List.getD_cons_zero, List.getD_cons_succ, World.size_alloc] at H1_
  have H1 := Lib.hid H1_
  clear H1_
  obtain ⟨b1, HB1⟩ : ∃ z, Hid (w.heap.size = z) := ⟨_, rfl⟩
  rw [HB1.out] at H1
  have HY := Lib.hid hY
  have h3 := (((H1.out.alloc 3 1 1 #[.int .i64 1] rfl (by decide)).alloc 25 1 2 #[.slice (some ⟨W.heap.size, 0, none⟩) 1 1, .slice ta tn tc] rfl (by decide)).via (adrew1 _)).toInts (i := 2) (zs := [1]) rfl (by omega) (rng_one (by omega))
  have H3_ := h3
  try simp only [List.cons_append, List.nil_append, List.set_cons_zero, List.set_cons_succ, List.map_cons, List.map_nil, List.getD_cons_zero, List.getD_cons_succ, World.size_alloc] at H3_
  have H3 := Lib.hid H3_
  clear H3_
  have CT := Lib.hid (concat_two (H3.out.rlt (i := 3) rfl).1 (H3.out.cell (i := 3) rfl 0 _ rfl) (H3.out.cell (i := 3) rfl 1 _ rfl) (H3.out.ls (i := 2) rfl) (hY.below H3.out.belowN (Nat.le_refl _)).shp (by omega) (by omega))
  simp only [List.cons_append, List.nil_append] at CT
  have y0 := H1.out.cell (i := 0) rfl 0 _ rfl
  have y1 := H1.out.cell (i := 0) rfl 1 _ rfl
  obtain ⟨VS, HVS⟩ : ∃ z, Hid (mdS (1 :: t) = z) := ⟨_, rfl⟩
  obtain ⟨VA, HVA⟩ : ∃ z, Hid (mdA (1 :: t) b = z) := ⟨_, rfl⟩
  obtain ⟨VE, HVE⟩ : ∃ z, Hid (mdE (1 :: t) = z) := ⟨_, rfl⟩
  rw [HVS.out, HVA.out, HVE.out]
  clear hY hw0 hm h3 H1
  go_enter Tryz.func101, Tryz.ntmps101
  go_upto_region 1 with fail
  rw [HW.out, HB1.out]
  go_region_held3 (fun w'' => w''.cell? ⟨b1, 0, none⟩ = some (.slice ta tn tc) ∧ w''.cell? ⟨b1, 1, none⟩ = some (.slice ba bn bc)) (go_keep)
    (first
    | (go_at_call 103; (with_reducible refine Calls.mono CT.out ?_); rintro e w5 ⟨lo, ln, lc, rfl, hL5, hO5, hB5⟩; have H5 := Lib.hid (H3.out.intsNew hO5 hB5 hL5.big hL5.rng); have CM := made_any hL5 (HY.out.below H5.out.belowN (Nat.le_refl _)).ats; simp only at CM; rw [HVS.out, HVA.out, HVE.out] at CM; have CM := Lib.hid CM; clear y0 y1 hL5 hO5 hB5; have y0 := H5.out.cell (i := 0) rfl 0 _ rfl; have y1 := H5.out.cell (i := 0) rfl 1 _ rfl)
    | (go_at_call 102; (with_reducible refine Calls.mono CM.out ?_); rintro e w7 ⟨⟨za, zn, zc, xa, xm, xc, zs, zt⟩, rfl, hI, hs, ha, hO, hb⟩; have H7 := Lib.hid (H5.out.arrNew hI hO hb); simp only at hs ha; simp only [Ar.v]; clear hI hO hb y0 y1; have y0 := H7.out.cell (i := 0) rfl 0 _ rfl; have y1 := H7.out.cell (i := 0) rfl 1 _ rfl; have x0 := H7.out.cell (i := 1) rfl 0 _ rfl; have x1 := H7.out.cell (i := 1) rfl 1 _ rfl; have f0 := H7.out.frozen (i := 1) rfl 0; have f1 := H7.out.frozen (i := 1) rfl 1))
  all_goals
    have HF : Hid (∀ u v, MadeE w VS VA VE (.returned (.tuple #[.agg #[.slice za zn zc, .slice xa xm xc], .int .i64 VE])) ((w7.setCell ⟨b1 + 1, 0, none⟩ u).setCell ⟨b1 + 1, 1, none⟩ v)) := fun u v => by
      rw [← hs, ← ha]
      exact ((H7.out.put (i := 1) rfl 0 u).put (i := 1) rfl 1 v).madeE (i := 5) (B := ⟨za, zn, zc, xa, xm, xc, zs, zt⟩) rfl VE
    clear H7 hs ha
    go_wp2
    exact bodyPost_ret (v := .tuple #[.agg #[.slice za zn zc, .slice xa xm xc], .int .i64 VE]) (by simp [results, Tryz.results101, go_sem, *]) rfl (HF.out _ _)
def ovA (s : List Int) (x : Int) : List Int := if mayE s = 0 then List.replicate (pr s).toNat x else []
theorem fill_any {w : World} {ao : Option Addr} {n c : Nat} {s : List Int} (h : Ls w ao n c s) (x : Int) (hx : -9223372036854775808 ≤ x ∧ x ≤ 9223372036854775807) :
    Calls Tryz.prog 141 #[.slice ao n c, .int .i64 x] w (MadeE w (mdS s) (ovA s x) (mayE s)) := by
  by_cases hm : mayE s = 0
  · have h2 := fill_ok h x hx hm
    rw [show mdS s = s from if_pos hm, show ovA s x = _ from if_pos hm, hm]
    exact h2
  · have h2 := fill_bad h x hm
    rw [show mdS s = [] from if_neg hm, show ovA s x = [] from if_neg hm]
    exact h2
set_option maxRecDepth 100000 in
set_option maxHeartbeats 1600000 in
theorem over_any {w : World} {Y : Ar} (hY : Y.Is w) (hn : 0 < Y.an) {so : Option Addr} {sn sc : Nat} {s : List Int} (hs : Ls w so sn sc s) : Calls Tryz.prog 129 #[Y.v, .slice so sn sc] w (MadeA w (mdS s) (ovA s (Y.a.getD 0 0))) := by
  obtain ⟨ta, tn, tc, ba, bn, bc, t, b⟩ := Y
  simp only [Ar.v]
  simp only at hn
  obtain ⟨W, HW⟩ : ∃ z, Hid ((w.alloc (.cells #[.slice ta tn tc, .slice ba bn bc] 38)).alloc (.cells #[.slice none 0 0, .slice none 0 0] 38) = z) := ⟨_, rfl⟩
  have hw0 := ((Sp.start Non w).alloc 38 2 1 #[.slice ta tn tc, .slice ba bn bc] rfl (by decide)).alloc 38 2 1 #[.slice none 0 0, .slice none 0 0] rfl (by decide)
  rw [HW.out] at hw0
  have H1_ := hw0
  try simp only [List.cons_append, List.nil_append, List.set_cons_zero, List.set_cons_succ, List.map_cons, List.map_nil, List.getD_cons_zero, List.getD_cons_succ, World.size_alloc] at H1_
  have H1 := Lib.hid H1_
  clear H1_
  obtain ⟨b1, HB1⟩ : ∃ z, Hid (w.heap.size = z) := ⟨_, rfl⟩
  rw [HB1.out] at H1
  have y1 := H1.out.cell (i := 0) rfl 1 _ rfl
  obtain ⟨b2, o2, e2, hc2⟩ := (hY.below H1.out.belowN (Nat.le_refl _)).ats.at (by simp only; omega)
  have d1 := hc2 0 (by simp only; omega)
  have hr := hY.ats.rng 0
  simp only [Nat.add_zero] at e2 d1 hr
  subst e2
  obtain ⟨x, HX⟩ : ∃ z, Hid (b.getD 0 0 = z) := ⟨_, rfl⟩
  rw [HX.out] at d1 hr ⊢
  have CF := Lib.hid (fill_any (hs.below H1.out.belowN (Nat.le_refl _)) x hr)
  obtain ⟨VS, HVS⟩ : ∃ z, Hid (mdS s = z) := ⟨_, rfl⟩
  obtain ⟨VA, HVA⟩ : ∃ z, Hid (ovA s x = z) := ⟨_, rfl⟩
  obtain ⟨VE, HVE⟩ : ∃ z, Hid (mayE s = z) := ⟨_, rfl⟩
  rw [HVS.out, HVA.out, HVE.out] at CF
  rw [HVS.out, HVA.out]
  have hp : (0 : Int) < bn := by omega
  clear hY hw0 hs hc2 hr
  go_enter Tryz.func129, Tryz.ntmps129
  go_upto_region 1 with fail
  rw [HW.out, HB1.out]
  go_wp2_with fail
  refine CF.out.mono ?_; rintro e w7 ⟨⟨za, zn, zc, xa, xm, xc, zs, zt⟩, rfl, hI, hs, ha, hO, hb⟩
  have H7_ := (H1.out.arrNew hI hO hb).alloc 38 2 1 #[.slice za zn zc, .slice xa xm xc] rfl (by decide)
  try simp only [List.cons_append, List.nil_append, List.set_cons_zero, List.set_cons_succ, List.map_cons, List.map_nil, List.getD_cons_zero, List.getD_cons_succ, World.size_alloc] at H7_
  have H7 := Lib.hid H7_
  clear H7_
  simp only at hs ha
  subst hs ha
  simp only [Ar.v]
  obtain ⟨w8, HW8⟩ : ∃ z, Hid (w7.alloc (.cells #[.slice za zn zc, .slice xa xm xc] 38) = z) := ⟨_, rfl⟩
  rw [HW8.out] at H7
  clear hI hO hb CF H1 y1 d1
  have q0 := H7.out.cell (i := 3) rfl 0 _ rfl
  have q1 := H7.out.cell (i := 3) rfl 1 _ rfl
  have x0 := H7.out.cell (i := 1) rfl 0 _ rfl
  have x1 := H7.out.cell (i := 1) rfl 1 _ rfl
  have f0 := H7.out.frozen (i := 1) rfl 0
  have f1 := H7.out.frozen (i := 1) rfl 1
  have HF : Hid (∀ u v, MadeA w zs zt (.returned (.agg #[.slice za zn zc, .slice xa xm xc])) ((w8.setCell ⟨b1 + 1, 0, none⟩ u).setCell ⟨b1 + 1, 1, none⟩ v)) := fun u v =>
    madeE_A (err := 0) (((H7.out.put (i := 1) rfl 0 u).put (i := 1) rfl 1 v).madeE (i := 2) (B := ⟨za, zn, zc, xa, xm, xc, zs, zt⟩) rfl 0)
  clear H7
  go_upto_region 2 with fail
  rw [HW8.out]
  go_wp2
  exact bodyPost_ret (v := .agg #[.slice za zn zc, .slice xa xm xc]) (by simp [results, Tryz.results129, go_sem, *]) rfl (HF.out _ _)
end Go.Proofs.YthackmkdicpdeaaGreat
