/- Contract of mold.rotate. -/
import Derived.Test.YthackmkdicpdeaaGreatMoldTake1
namespace Go.Proofs.YthackmkdicpdeaaGreat
open Go.RowKit Go.Lib
set_option linter.unusedVariables false
set_option linter.unusedSimpArgs false
attribute [local go_sem] alloc_drewN setCell_drewN
def roOk (n : Nat) (s : List Int) : Bool := decide (if s.length = 0 then n ≤ 1 else n ≤ s.length)
def roE (x s : List Int) : Int := if roOk x.length s then mdE s else 11
def roS (x s : List Int) : List Int := if roOk x.length s then mdS s else []
def roA (x s b : List Int) : List Int := if roOk x.length s then if s.length = 0 then mdA s b else pkA s b (roF x s) else []
set_option maxRecDepth 100000 in
set_option maxHeartbeats 1600000 in
theorem rotate_a {w : World} {X Y : Ar} (hX : X.Is w) (hY : Y.Is w) (hm : amE Y.s Y.a = 0) (h0 : 0 < Y.sn) (h1 : Y.sn < X.an) : Calls Tryz.prog 114 #[X.v, Y.v] w (MadeE w (roS X.a Y.s) (roA X.a Y.s Y.a) (roE X.a Y.s)) := by
  obtain ⟨sa, sn, sc, aa, an, ac, s, x⟩ := X
  obtain ⟨ta, tn, tc, ba, bn, bc, t, b⟩ := Y
  simp only [Ar.v]
  simp only at h0 h1 hm
  have hm1 := (amE_zero hm).1
  have hxl : x.length = an := hX.ats.len
  have htl : t.length = tn := hY.shp.len
  obtain ⟨W, HW⟩ : ∃ z, Hid (((w.alloc (.cells #[.slice sa sn sc, .slice aa an ac] 38)).alloc (.cells #[.slice ta tn tc, .slice ba bn bc] 38)).alloc (.cells #[.slice none 0 0, .slice none 0 0] 38) = z) := ⟨_, rfl⟩
  have hw0 := (((Sp.start Non w).alloc 38 2 1 #[.slice sa sn sc, .slice aa an ac] rfl (by decide)).alloc 38 2 1 #[.slice ta tn tc, .slice ba bn bc] rfl (by decide)).alloc 38 2 1 #[.slice none 0 0, .slice none 0 0] rfl (by decide)
  rw [HW.out] at hw0
  have H1_ := hw0
  try simp only [List.cons_append, List.nil_append, List.set_cons_zero, List.set_cons_succ, List.map_cons, List.map_nil, List.getD_cons_zero, List.getD_cons_succ, World.size_alloc] at H1_
  have H1 := Lib.hid H1_
  clear H1_
  obtain ⟨b1, HB1⟩ : ∃ z, Hid (w.heap.size = z) := ⟨_, rfl⟩
  rw [HB1.out] at H1
  have y0 := H1.out.cell (i := 0) rfl 1 _ rfl
  have y1 := H1.out.cell (i := 1) rfl 0 _ rfl
  have hok : roOk x.length t = false := by simp only [roOk, hxl, htl, decide_eq_false_iff_not]; split <;> omega
  rw [show roE x t = 11 by unfold roE; rw [hok]; rfl, show roS x t = [] by unfold roS; rw [hok]; rfl, show roA x t b = [] by unfold roA; rw [hok]; rfl]
  have hmf : ∀ (fn : Fn) (first cap : Array Value) (w : World), (Instr.makeFunc fn first cap).run Tryz.prog w = .ok (.func fn first cap) w := fun _ _ _ _ => rfl
  have z1 : (tn : Int) < an := by omega
  have z2 : (0 : Int) < tn := by omega
  have z3 : ((tn : Int) == 0) = false := by simp; omega
  have z4 : (tn == 0) = false := by simp; omega
  have z5 : 0 < tn := h0
  have f0 := H1.out.frozen (i := 2) rfl 0
  have f1 := H1.out.frozen (i := 2) rfl 1
  have p0 := H1.out.cell (i := 2) rfl 0 _ rfl
  have p1 := H1.out.cell (i := 2) rfl 1 _ rfl
  have HF : Hid (∀ u v, MadeE w [] [] 11 (.returned (.tuple #[.agg #[.slice none 0 0, .slice none 0 0], .int .i64 11])) ((W.setCell ⟨b1 + 1 + 1, 0, none⟩ u).setCell ⟨b1 + 1 + 1, 1, none⟩ v)) := fun u v =>
    made_nil 11 ((H1.out.put (i := 2) rfl 0 u).put (i := 2) rfl 1 v).belowN
  clear H1
  clear hX hY hw0 hm hm1 hok hxl htl h1
  go_enter Tryz.func114, Tryz.ntmps114
  go_upto_region 1 with fail
  rw [HW.out, HB1.out]
  go_wp2
  exact bodyPost_ret (v := .tuple #[.agg #[.slice none 0 0, .slice none 0 0], .int .i64 11]) (by simp [results, Tryz.results114, go_sem, *]) rfl (HF.out _ _)
set_option maxRecDepth 100000 in
set_option maxHeartbeats 1600000 in
theorem rotate_b {w : World} {X Y : Ar} (hX : X.Is w) (hY : Y.Is w) (hm : amE Y.s Y.a = 0) (h0 : Y.sn = 0) (h1 : 1 < X.an) : Calls Tryz.prog 114 #[X.v, Y.v] w (MadeE w (roS X.a Y.s) (roA X.a Y.s Y.a) (roE X.a Y.s)) := by
  obtain ⟨sa, sn, sc, aa, an, ac, s, x⟩ := X
  obtain ⟨ta, tn, tc, ba, bn, bc, t, b⟩ := Y
  simp only [Ar.v]
  simp only at h0 h1 hm
  have hm1 := (amE_zero hm).1
  have hxl : x.length = an := hX.ats.len
  have htl : t.length = tn := hY.shp.len
  obtain ⟨W, HW⟩ : ∃ z, Hid (((w.alloc (.cells #[.slice sa sn sc, .slice aa an ac] 38)).alloc (.cells #[.slice ta tn tc, .slice ba bn bc] 38)).alloc (.cells #[.slice none 0 0, .slice none 0 0] 38) = z) := ⟨_, rfl⟩
  have hw0 := (((Sp.start Non w).alloc 38 2 1 #[.slice sa sn sc, .slice aa an ac] rfl (by decide)).alloc 38 2 1 #[.slice ta tn tc, .slice ba bn bc] rfl (by decide)).alloc 38 2 1 #[.slice none 0 0, .slice none 0 0] rfl (by decide)
  rw [HW.out] at hw0
  have H1_ := hw0
  try simp only [List.cons_append, List.nil_append, List.set_cons_zero, List.set_cons_succ, List.map_cons, List.map_nil, List.getD_cons_zero, List.getD_cons_succ, World.size_alloc] at H1_
  have H1 := Lib.hid H1_
  clear H1_
  obtain ⟨b1, HB1⟩ : ∃ z, Hid (w.heap.size = z) := ⟨_, rfl⟩
  rw [HB1.out] at H1
  have y0 := H1.out.cell (i := 0) rfl 1 _ rfl
  have y1 := H1.out.cell (i := 1) rfl 0 _ rfl
  have hok : roOk x.length t = false := by simp only [roOk, hxl, htl, decide_eq_false_iff_not]; split <;> omega
  rw [show roE x t = 11 by unfold roE; rw [hok]; rfl, show roS x t = [] by unfold roS; rw [hok]; rfl, show roA x t b = [] by unfold roA; rw [hok]; rfl]
  have hmf : ∀ (fn : Fn) (first cap : Array Value) (w : World), (Instr.makeFunc fn first cap).run Tryz.prog w = .ok (.func fn first cap) w := fun _ _ _ _ => rfl
  subst h0
  have z1 : (1 : Int) < an := by omega
  have f0 := H1.out.frozen (i := 2) rfl 0
  have f1 := H1.out.frozen (i := 2) rfl 1
  have p0 := H1.out.cell (i := 2) rfl 0 _ rfl
  have p1 := H1.out.cell (i := 2) rfl 1 _ rfl
  have HF : Hid (∀ u v, MadeE w [] [] 11 (.returned (.tuple #[.agg #[.slice none 0 0, .slice none 0 0], .int .i64 11])) ((W.setCell ⟨b1 + 1 + 1, 0, none⟩ u).setCell ⟨b1 + 1 + 1, 1, none⟩ v)) := fun u v =>
    made_nil 11 ((H1.out.put (i := 2) rfl 0 u).put (i := 2) rfl 1 v).belowN
  clear H1
  clear hX hY hw0 hm hm1 hok hxl htl h1
  go_enter Tryz.func114, Tryz.ntmps114
  go_upto_region 1 with fail
  rw [HW.out, HB1.out]
  go_wp2
  exact bodyPost_ret (v := .tuple #[.agg #[.slice none 0 0, .slice none 0 0], .int .i64 11]) (by simp [results, Tryz.results114, go_sem, *]) rfl (HF.out _ _)
set_option maxRecDepth 100000 in
set_option maxHeartbeats 1600000 in
theorem rotate_c {w : World} {X Y : Ar} (hX : X.Is w) (hY : Y.Is w) (hm : amE Y.s Y.a = 0) (h0 : Y.sn = 0) (h1 : ¬ 1 < X.an) : Calls Tryz.prog 114 #[X.v, Y.v] w (MadeE w (roS X.a Y.s) (roA X.a Y.s Y.a) (roE X.a Y.s)) := by
  obtain ⟨sa, sn, sc, aa, an, ac, s, x⟩ := X
  obtain ⟨ta, tn, tc, ba, bn, bc, t, b⟩ := Y
  simp only [Ar.v]
  simp only at h0 h1 hm
  have hm1 := (amE_zero hm).1
  have hxl : x.length = an := hX.ats.len
  have htl : t.length = tn := hY.shp.len
  obtain ⟨W, HW⟩ : ∃ z, Hid (((w.alloc (.cells #[.slice sa sn sc, .slice aa an ac] 38)).alloc (.cells #[.slice ta tn tc, .slice ba bn bc] 38)).alloc (.cells #[.slice none 0 0, .slice none 0 0] 38) = z) := ⟨_, rfl⟩
  have hw0 := (((Sp.start Non w).alloc 38 2 1 #[.slice sa sn sc, .slice aa an ac] rfl (by decide)).alloc 38 2 1 #[.slice ta tn tc, .slice ba bn bc] rfl (by decide)).alloc 38 2 1 #[.slice none 0 0, .slice none 0 0] rfl (by decide)
  rw [HW.out] at hw0
  have H1_ := hw0
  try simp only [List.cons_append, List.nil_append, List.set_cons_zero, List.set_cons_succ, List.map_cons, List.map_nil, List.getD_cons_zero, List.getD_cons_succ, World.size_alloc] at H1_
  have H1 := Lib.hid H1_
  clear H1_
  obtain ⟨b1, HB1⟩ : ∃ z, Hid (w.heap.size = z) := ⟨_, rfl⟩
  rw [HB1.out] at H1
  have y0 := H1.out.cell (i := 0) rfl 1 _ rfl
  have y1 := H1.out.cell (i := 1) rfl 0 _ rfl
  have y2 := H1.out.cell (i := 1) rfl 1 _ rfl
  have hok : roOk x.length t = true := by simp only [roOk, hxl, htl, decide_eq_true_eq]; split <;> omega
  rw [show roE x t = mdE t by unfold roE; rw [hok]; rfl, show roS x t = mdS t by unfold roS; rw [hok]; rfl, show roA x t b = mdA t b by unfold roA; rw [hok, if_pos rfl, if_pos (by omega)]]
  have CP := Lib.hid (same6_any (hY.below H1.out.belowN (Nat.le_refl _)))
  simp only [Ar.v] at CP
  obtain ⟨S, HS⟩ : ∃ z, Hid (mdS t = z) := ⟨_, rfl⟩
  obtain ⟨A, HA⟩ : ∃ z, Hid (mdA t b = z) := ⟨_, rfl⟩
  obtain ⟨E, HE⟩ : ∃ z, Hid (mdE t = z) := ⟨_, rfl⟩
  rw [HS.out, HA.out, HE.out] at CP ⊢
  have hmf : ∀ (fn : Fn) (first cap : Array Value) (w : World), (Instr.makeFunc fn first cap).run Tryz.prog w = .ok (.func fn first cap) w := fun _ _ _ _ => rfl
  subst h0
  have z1 : ¬ (1 : Int) < an := by omega
  clear hX hY hw0 hm hm1 hok hxl htl h1
  go_enter Tryz.func114, Tryz.ntmps114
  go_upto_region 1 with fail
  rw [HW.out, HB1.out]
  go_wp2_with fail
  refine CP.out.mono ?_; rintro e w7 ⟨⟨za, zn, zc, xa, xm, xc, zs, zt⟩, rfl, hI, hs, ha, hO, hb⟩
  have H7_ := H1.out.arrNew hI hO hb
  try simp only [List.cons_append, List.nil_append, List.set_cons_zero, List.set_cons_succ, List.map_cons, List.map_nil, List.getD_cons_zero, List.getD_cons_succ, World.size_alloc] at H7_
  have H7 := Lib.hid H7_
  clear H7_
  simp only at hs ha
  subst hs ha
  simp only [Ar.v]
  clear y0 y1 y2 hI hO hb CP H1
  have x0 := H7.out.cell (i := 2) rfl 0 _ rfl
  have x1 := H7.out.cell (i := 2) rfl 1 _ rfl
  have f0 := H7.out.frozen (i := 2) rfl 0
  have f1 := H7.out.frozen (i := 2) rfl 1
  have HF : Hid (∀ u v, MadeE w zs zt E (.returned (.tuple #[.agg #[.slice za zn zc, .slice xa xm xc], .int .i64 E])) ((w7.setCell ⟨b1 + 1 + 1, 0, none⟩ u).setCell ⟨b1 + 1 + 1, 1, none⟩ v)) := fun u v =>
    ((H7.out.put (i := 2) rfl 0 u).put (i := 2) rfl 1 v).madeE (i := 3) (B := ⟨za, zn, zc, xa, xm, xc, zs, zt⟩) rfl E
  clear H7
  go_wp2
  exact bodyPost_ret (v := .tuple #[.agg #[.slice za zn zc, .slice xa xm xc], .int .i64 E]) (by simp [results, Tryz.results114, go_sem, *]) rfl (HF.out _ _)
set_option maxRecDepth 100000 in
set_option maxHeartbeats 1600000 in
theorem rotate_d {w : World} {X Y : Ar} (hX : X.Is w) (hY : Y.Is w) (hm : amE Y.s Y.a = 0) (h0 : 0 < Y.sn) (h1 : ¬ Y.sn < X.an) : Calls Tryz.prog 114 #[X.v, Y.v] w (MadeE w (roS X.a Y.s) (roA X.a Y.s Y.a) (roE X.a Y.s)) := by
  have hbd := fun k : Nat => pk_bd hY hm (updG (rof X.a Y.s (ixL Y.s k)) (ixL Y.s k) X.a.length)
  obtain ⟨sa, sn, sc, aa, an, ac, s, x⟩ := X
  obtain ⟨ta, tn, tc, ba, bn, bc, t, b⟩ := Y
  simp only [Ar.v]
  simp only at h0 h1 hm
  simp only at hbd
  have hm1 := (amE_zero hm).1
  have hxl : x.length = an := hX.ats.len
  have htl : t.length = tn := hY.shp.len
  obtain ⟨W, HW⟩ : ∃ z, Hid (((w.alloc (.cells #[.slice sa sn sc, .slice aa an ac] 38)).alloc (.cells #[.slice ta tn tc, .slice ba bn bc] 38)).alloc (.cells #[.slice none 0 0, .slice none 0 0] 38) = z) := ⟨_, rfl⟩
  have hw0 := (((Sp.start Non w).alloc 38 2 1 #[.slice sa sn sc, .slice aa an ac] rfl (by decide)).alloc 38 2 1 #[.slice ta tn tc, .slice ba bn bc] rfl (by decide)).alloc 38 2 1 #[.slice none 0 0, .slice none 0 0] rfl (by decide)
  rw [HW.out] at hw0
  have H1_ := hw0
  try simp only [List.cons_append, List.nil_append, List.set_cons_zero, List.set_cons_succ, List.map_cons, List.map_nil, List.getD_cons_zero, List.getD_cons_succ, World.size_alloc] at H1_
  have H1 := Lib.hid H1_
  clear H1_
  obtain ⟨b1, HB1⟩ : ∃ z, Hid (w.heap.size = z) := ⟨_, rfl⟩
  rw [HB1.out] at H1
  have y0 := H1.out.cell (i := 0) rfl 1 _ rfl
  have y1 := H1.out.cell (i := 1) rfl 0 _ rfl
  have y2 := H1.out.cell (i := 1) rfl 1 _ rfl
  have hok : roOk x.length t = true := by simp only [roOk, hxl, htl, decide_eq_true_eq]; split <;> omega
  rw [show roE x t = mdE t by unfold roE; rw [hok]; rfl, show roS x t = mdS t by unfold roS; rw [hok]; rfl, show roA x t b = pkA t b (roF x t) by unfold roA; rw [hok, if_pos rfl, if_neg (by omega)]]
  have hI := hY.below H1.out.belowN (Nat.le_refl _)
  have hXI := (hX.below H1.out.belowN (Nat.le_refl _)).ats
  have CP := Lib.hid (picked_any hI.shp hI (ff := 150) (caps := #[.pointer (some ⟨b1, 0, none⟩), .pointer (some ⟨b1 + 1, 0, none⟩)]) (enters_of Tryz.func150 (by kernel_rfl) rfl) (roF x t) (fun k _ => hbd k) (fun hm' W' F xo xn xc k hk hb hF hx => rotate1_any hb hF (H1.out.rlt (i := 0) rfl).1 (H1.out.rlt (i := 1) rfl).1 y0 y1 hXI hI.shp hm' (may_bd hm1) htl (by omega) hk hx))
  simp only [Ar.v] at CP
  obtain ⟨S, HS⟩ : ∃ z, Hid (mdS t = z) := ⟨_, rfl⟩
  obtain ⟨A, HA⟩ : ∃ z, Hid (pkA t b (roF x t) = z) := ⟨_, rfl⟩
  obtain ⟨E, HE⟩ : ∃ z, Hid (mdE t = z) := ⟨_, rfl⟩
  rw [HS.out, HA.out, HE.out] at CP ⊢
  have hmf : ∀ (fn : Fn) (first cap : Array Value) (w : World), (Instr.makeFunc fn first cap).run Tryz.prog w = .ok (.func fn first cap) w := fun _ _ _ _ => rfl
  have z1 : ¬ (tn : Int) < an := by omega
  have z2 : (0 : Int) < tn := by omega
  have z3 : ((tn : Int) == 0) = false := by simp; omega
  have z4 : (tn == 0) = false := by simp; omega
  have z5 : 0 < tn := h0
  clear hI hXI hbd
  clear hX hY hw0 hm hm1 hok hxl htl h1
  go_enter Tryz.func114, Tryz.ntmps114
  go_upto_region 1 with fail
  rw [HW.out, HB1.out]
  go_wp2_with fail
  refine CP.out.mono ?_; rintro e w7 ⟨⟨za, zn, zc, xa, xm, xc, zs, zt⟩, rfl, hI, hs, ha, hO, hb⟩
  have H7_ := H1.out.arrNew hI hO hb
  try simp only [List.cons_append, List.nil_append, List.set_cons_zero, List.set_cons_succ, List.map_cons, List.map_nil, List.getD_cons_zero, List.getD_cons_succ, World.size_alloc] at H7_
  have H7 := Lib.hid H7_
  clear H7_
  simp only at hs ha
  subst hs ha
  simp only [Ar.v]
  clear y0 y1 y2 hI hO hb CP H1
  have x0 := H7.out.cell (i := 2) rfl 0 _ rfl
  have x1 := H7.out.cell (i := 2) rfl 1 _ rfl
  have f0 := H7.out.frozen (i := 2) rfl 0
  have f1 := H7.out.frozen (i := 2) rfl 1
  have HF : Hid (∀ u v, MadeE w zs zt E (.returned (.tuple #[.agg #[.slice za zn zc, .slice xa xm xc], .int .i64 E])) ((w7.setCell ⟨b1 + 1 + 1, 0, none⟩ u).setCell ⟨b1 + 1 + 1, 1, none⟩ v)) := fun u v =>
    ((H7.out.put (i := 2) rfl 0 u).put (i := 2) rfl 1 v).madeE (i := 3) (B := ⟨za, zn, zc, xa, xm, xc, zs, zt⟩) rfl E
  clear H7
  go_wp2
  exact bodyPost_ret (v := .tuple #[.agg #[.slice za zn zc, .slice xa xm xc], .int .i64 E]) (by simp [results, Tryz.results114, go_sem, *]) rfl (HF.out _ _)
theorem rotate_any {w : World} {X Y : Ar} (hX : X.Is w) (hY : Y.Is w) (hm : amE Y.s Y.a = 0) : Calls Tryz.prog 114 #[X.v, Y.v] w (MadeE w (roS X.a Y.s) (roA X.a Y.s Y.a) (roE X.a Y.s)) := by
  by_cases h0 : Y.sn = 0
  · by_cases h1 : 1 < X.an
    · exact rotate_b hX hY hm h0 h1
    · exact rotate_c hX hY hm h0 h1
  · by_cases h1 : Y.sn < X.an
    · exact rotate_a hX hY hm (by omega) h1
    · exact rotate_d hX hY hm (by omega) h1
end Go.Proofs.YthackmkdicpdeaaGreat
