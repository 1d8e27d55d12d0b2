/- Contract of mold.laminate. -/
import Derived.Test.YthackmkdicpdeaaGreatMoldItem
import Derived.Test.YthackmkdicpdeaaGreatCellJoin
namespace Go.Proofs.YthackmkdicpdeaaGreat
open Go.RowKit Go.Lib
set_option linter.unusedVariables false
set_option linter.unusedSimpArgs false
attribute [local go_sem] alloc_drewN setCell_drewN
/-- A scalar beside an array that is none, laid out over its shape. -/
def lmS (s t : List Int) : List Int := if s.length = 0 ∧ t.length ≠ 0 then mdS t else s
def lmA (s a t : List Int) : List Int := if s.length = 0 ∧ t.length ≠ 0 then ovA t (a.getD 0 0) else a
def laL (s a t b : List Int) : List (List Int × List Int) := [(lmS s t, lmA s a t), (lmS t s, lmA t b s)]
def laE (s a t b : List Int) : Int := jnE [2] (laL s a t b)
def laS (s a t b : List Int) : List Int := jnS [2] (laL s a t b)
def laA (s a t b : List Int) : List Int := jnA [2] (laL s a t b)
theorem join2_any {W : World} {A B : Ar} (hA : A.Is W) (hB : B.Is W) : Calls Tryz.prog 140 #[.slice (some ⟨W.heap.size, 0, none⟩) 1 1, .slice (some ⟨W.heap.size + 1, 0, none⟩) 2 2] ((W.alloc (.cells #[.int .i64 2] 3)).alloc (.cells #[.slice A.sa A.sn A.sc, .slice A.aa A.an A.ac, .slice B.sa B.sn B.sc, .slice B.aa B.an B.ac] 38))
    (MadeE ((W.alloc (.cells #[.int .i64 2] 3)).alloc (.cells #[.slice A.sa A.sn A.sc, .slice A.aa A.an A.ac, .slice B.sa B.sn B.sc, .slice B.aa B.an B.ac] 38)) (jnS [2] [(A.s, A.a), (B.s, B.a)]) (jnA [2] [(A.s, A.a), (B.s, B.a)]) (jnE [2] [(A.s, A.a), (B.s, B.a)])) := by
  have l1 := ints_lit W [2] 3 #[.int .i64 2] rfl (by decide) 1 rfl
  have hb := abvia (abal W (.cells #[.int .i64 2] 3)) (abal _ (.cells #[.slice A.sa A.sn A.sc, .slice A.aa A.an A.ac, .slice B.sa B.sn B.sc, .slice B.aa B.an B.ac] 38))
  have l2 := ars_two (w := (W.alloc (.cells #[.int .i64 2] 3)).alloc (.cells #[.slice A.sa A.sn A.sc, .slice A.aa A.an A.ac, .slice B.sa B.sn B.sc, .slice B.aa B.an B.ac] 38)) (b := W.heap.size + 1) (A := A) (B := B) (by simp) (by simp [go_sem]) (by simp [go_sem]) (by simp [go_sem]) (by simp [go_sem]) (hA.via hb) (hB.via hb)
  have h := join_any (l1.via (abal _ (.cells #[.slice A.sa A.sn A.sc, .slice A.aa A.an A.ac, .slice B.sa B.sn B.sc, .slice B.aa B.an B.ac] 38))) l2
  exact h
set_option maxRecDepth 100000 in
set_option maxHeartbeats 1600000 in
theorem laminate_a {w : World} {X Y : Ar} (hX : X.Is w) (hY : Y.Is w) (hmx : amE X.s X.a = 0) (hmy : amE Y.s Y.a = 0) (h0 : X.sn = 0) (h1 : Y.sn = 0) : Calls Tryz.prog 104 #[X.v, Y.v] w (MadeE w (laS X.s X.a Y.s Y.a) (laA X.s X.a Y.s Y.a) (laE X.s X.a Y.s Y.a)) := by
  have hxl := hX.shp.len
  have hyl := hY.shp.len
  have hXX := hX
  have hYY := hY
  obtain ⟨sa, sn, sc, aa, an, ac, s, a⟩ := X
  obtain ⟨ta, tn, tc, ba, bn, bc, t, b⟩ := Y
  simp only [Ar.v]
  simp only at h0 h1 hxl hyl
  have e1 : lmS s t = s := if_neg (by omega)
  have e2 : lmA s a t = a := if_neg (by omega)
  have e3 : lmS t s = t := if_neg (by omega)
  have e4 : lmA t b s = b := if_neg (by omega)
  have eL : laL s a t b = [(lmS s t, lmA s a t), (lmS t s, lmA t b s)] := rfl
  rw [e1, e2, e3, e4] at eL
  unfold laS laA laE
  rw [eL]
  clear eL e1 e2 e3 e4
  obtain ⟨RS, HRS⟩ : ∃ z, Hid (jnS [2] [(s, a), (t, b)] = z) := ⟨_, rfl⟩
  obtain ⟨RA, HRA⟩ : ∃ z, Hid (jnA [2] [(s, a), (t, b)] = z) := ⟨_, rfl⟩
  obtain ⟨E, HE⟩ : ∃ z, Hid (jnE [2] [(s, a), (t, b)] = z) := ⟨_, rfl⟩
  rw [HRS.out, HRA.out, HE.out]
  have h1w := (((Sp.start Non w).alloc 38 2 1 #[.slice sa sn sc, .slice aa an ac] rfl (by decide)).alloc 38 2 1 #[.slice ta tn tc, .slice ba bn bc] rfl (by decide)).alloc 38 2 1 #[.slice none 0 0, .slice none 0 0] rfl (by decide)
  obtain ⟨W, HW⟩ : ∃ z, Hid (((w.alloc (.cells #[.slice sa sn sc, .slice aa an ac] 38)).alloc (.cells #[.slice ta tn tc, .slice ba bn bc] 38)).alloc (.cells #[.slice none 0 0, .slice none 0 0] 38) = z) := ⟨_, rfl⟩
  rw [HW.out] at h1w
  have H1_ := h1w
  try simp only [List.cons_append, List.nil_append, List.set_cons_zero, List.set_cons_succ, List.map_cons, List.map_nil, List.getD_cons_zero, List.getD_cons_succ, World.size_alloc] at H1_
  have H1 := Lib.hid H1_
  clear H1_
  obtain ⟨g, HG⟩ : ∃ z, Hid (w.heap.size = z) := ⟨_, rfl⟩
  rw [HG.out] at H1
  have HX := Lib.hid hXX
  have HY := Lib.hid hYY
  have CJ := Lib.hid (join2_any (hXX.below H1.out.belowN (Nat.le_refl _)) (hYY.below H1.out.belowN (Nat.le_refl _)))
  simp only at CJ
  rw [HRS.out, HRA.out, HE.out] at CJ
  have y0 := H1.out.cell (i := 0) rfl 0 _ rfl
  have y1 := H1.out.cell (i := 0) rfl 1 _ rfl
  have y2 := H1.out.cell (i := 1) rfl 0 _ rfl
  have y3 := H1.out.cell (i := 1) rfl 1 _ rfl
  subst h0
  subst h1
  clear hX hY hXX hYY h1w hmx hmy hxl hyl
  go_enter Tryz.func104, Tryz.ntmps104
  go_upto_region 5 with fail
  rw [HW.out, HG.out]
  have H3 := H1
  clear H1
  clear y0 y1 y2 y3
  have h4 := H3.out.alloc 3 1 1 #[.int .i64 2] rfl (by decide)
  have y0 : (W.alloc (.cells #[.int .i64 2] 3)).cell? ⟨g, 0, none⟩ = some (.slice sa 0 sc) := h4.cell (i := 0) rfl 0 _ rfl
  have y1 : (W.alloc (.cells #[.int .i64 2] 3)).cell? ⟨g, 1, none⟩ = some (.slice aa an ac) := h4.cell (i := 0) rfl 1 _ rfl
  have y2 : (W.alloc (.cells #[.int .i64 2] 3)).cell? ⟨g + 1, 0, none⟩ = some (.slice ta 0 tc) := h4.cell (i := 1) rfl 0 _ rfl
  have y3 : (W.alloc (.cells #[.int .i64 2] 3)).cell? ⟨g + 1, 1, none⟩ = some (.slice ba bn bc) := h4.cell (i := 1) rfl 1 _ rfl
  clear h4
  go_wp2_with fail
  refine CJ.out.mono ?_; rintro e w7 ⟨⟨ja, jn, jc, ka, km, kc, js, jt⟩, rfl, hI, hs, ha, hO, hb⟩
  simp only at hs ha
  simp only [Ar.v]
  have h7 := ((H3.out.alloc 3 1 1 #[.int .i64 2] rfl (by decide)).alloc 38 2 2 #[.slice sa 0 sc, .slice aa an ac, .slice ta 0 tc, .slice ba bn bc] rfl (by decide)).arrNew hI hO hb
  have H7_ := h7
  try simp only [List.cons_append, List.nil_append, List.set_cons_zero, List.set_cons_succ, List.map_cons, List.map_nil, List.getD_cons_zero, List.getD_cons_succ, World.size_alloc] at H7_
  have H7 := Lib.hid H7_
  clear H7_
  subst hs ha
  clear y0 y1 y2 y3 hI hO hb h7 CJ H3
  have x0 := H7.out.cell (i := 2) rfl 0 _ rfl
  have x1 := H7.out.cell (i := 2) rfl 1 _ rfl
  have f0 := H7.out.frozen (i := 2) rfl 0
  have f1 := H7.out.frozen (i := 2) rfl 1
  have HF : Hid (∀ u v, MadeE w js jt E (.returned (.tuple #[.agg #[.slice ja jn jc, .slice ka km kc], .int .i64 E])) ((w7.setCell ⟨g + 1 + 1, 0, none⟩ u).setCell ⟨g + 1 + 1, 1, none⟩ v)) := fun u v =>
    ((H7.out.put (i := 2) rfl 0 u).put (i := 2) rfl 1 v).madeE (i := 5) (B := ⟨ja, jn, jc, ka, km, kc, js, jt⟩) rfl E
  clear H7
  go_wp2
  exact bodyPost_ret (v := .tuple #[.agg #[.slice ja jn jc, .slice ka km kc], .int .i64 E]) (by simp [results, Tryz.results104, go_sem, *]) rfl (HF.out _ _)
set_option maxRecDepth 100000 in
set_option maxHeartbeats 1600000 in
theorem laminate_b {w : World} {X Y : Ar} (hX : X.Is w) (hY : Y.Is w) (hmx : amE X.s X.a = 0) (hmy : amE Y.s Y.a = 0) (h0 : 0 < X.sn) (h1 : 0 < Y.sn) : Calls Tryz.prog 104 #[X.v, Y.v] w (MadeE w (laS X.s X.a Y.s Y.a) (laA X.s X.a Y.s Y.a) (laE X.s X.a Y.s Y.a)) := by
  have hxl := hX.shp.len
  have hyl := hY.shp.len
  have hXX := hX
  have hYY := hY
  obtain ⟨sa, sn, sc, aa, an, ac, s, a⟩ := X
  obtain ⟨ta, tn, tc, ba, bn, bc, t, b⟩ := Y
  simp only [Ar.v]
  simp only at h0 h1 hxl hyl
  have e1 : lmS s t = s := if_neg (by omega)
  have e2 : lmA s a t = a := if_neg (by omega)
  have e3 : lmS t s = t := if_neg (by omega)
  have e4 : lmA t b s = b := if_neg (by omega)
  have eL : laL s a t b = [(lmS s t, lmA s a t), (lmS t s, lmA t b s)] := rfl
  rw [e1, e2, e3, e4] at eL
  unfold laS laA laE
  rw [eL]
  clear eL e1 e2 e3 e4
  obtain ⟨RS, HRS⟩ : ∃ z, Hid (jnS [2] [(s, a), (t, b)] = z) := ⟨_, rfl⟩
  obtain ⟨RA, HRA⟩ : ∃ z, Hid (jnA [2] [(s, a), (t, b)] = z) := ⟨_, rfl⟩
  obtain ⟨E, HE⟩ : ∃ z, Hid (jnE [2] [(s, a), (t, b)] = z) := ⟨_, rfl⟩
  rw [HRS.out, HRA.out, HE.out]
  have h1w := (((Sp.start Non w).alloc 38 2 1 #[.slice sa sn sc, .slice aa an ac] rfl (by decide)).alloc 38 2 1 #[.slice ta tn tc, .slice ba bn bc] rfl (by decide)).alloc 38 2 1 #[.slice none 0 0, .slice none 0 0] rfl (by decide)
  obtain ⟨W, HW⟩ : ∃ z, Hid (((w.alloc (.cells #[.slice sa sn sc, .slice aa an ac] 38)).alloc (.cells #[.slice ta tn tc, .slice ba bn bc] 38)).alloc (.cells #[.slice none 0 0, .slice none 0 0] 38) = z) := ⟨_, rfl⟩
  rw [HW.out] at h1w
  have H1_ := h1w
  try simp only [List.cons_append, List.nil_append, List.set_cons_zero, List.set_cons_succ, List.map_cons, List.map_nil, List.getD_cons_zero, List.getD_cons_succ, World.size_alloc] at H1_
  have H1 := Lib.hid H1_
  clear H1_
  obtain ⟨g, HG⟩ : ∃ z, Hid (w.heap.size = z) := ⟨_, rfl⟩
  rw [HG.out] at H1
  have HX := Lib.hid hXX
  have HY := Lib.hid hYY
  have CJ := Lib.hid (join2_any (hXX.below H1.out.belowN (Nat.le_refl _)) (hYY.below H1.out.belowN (Nat.le_refl _)))
  simp only at CJ
  rw [HRS.out, HRA.out, HE.out] at CJ
  have y0 := H1.out.cell (i := 0) rfl 0 _ rfl
  have y1 := H1.out.cell (i := 0) rfl 1 _ rfl
  have y2 := H1.out.cell (i := 1) rfl 0 _ rfl
  have y3 := H1.out.cell (i := 1) rfl 1 _ rfl
  have z1 : (0 : Int) < sn := by omega
  have z2 : ((sn : Int) == 0) = false := by simp; omega
  have z3 : (0 : Int) < tn := by omega
  have z4 : ((tn : Int) == 0) = false := by simp; omega
  clear hX hY hXX hYY h1w hmx hmy hxl hyl
  go_enter Tryz.func104, Tryz.ntmps104
  go_upto_region 5 with fail
  rw [HW.out, HG.out]
  have H3 := H1
  clear H1
  clear y0 y1 y2 y3
  have h4 := H3.out.alloc 3 1 1 #[.int .i64 2] rfl (by decide)
  have y0 : (W.alloc (.cells #[.int .i64 2] 3)).cell? ⟨g, 0, none⟩ = some (.slice sa sn sc) := h4.cell (i := 0) rfl 0 _ rfl
  have y1 : (W.alloc (.cells #[.int .i64 2] 3)).cell? ⟨g, 1, none⟩ = some (.slice aa an ac) := h4.cell (i := 0) rfl 1 _ rfl
  have y2 : (W.alloc (.cells #[.int .i64 2] 3)).cell? ⟨g + 1, 0, none⟩ = some (.slice ta tn tc) := h4.cell (i := 1) rfl 0 _ rfl
  have y3 : (W.alloc (.cells #[.int .i64 2] 3)).cell? ⟨g + 1, 1, none⟩ = some (.slice ba bn bc) := h4.cell (i := 1) rfl 1 _ rfl
  clear h4
  go_wp2_with fail
  refine CJ.out.mono ?_; rintro e w7 ⟨⟨ja, jn, jc, ka, km, kc, js, jt⟩, rfl, hI, hs, ha, hO, hb⟩
  simp only at hs ha
  simp only [Ar.v]
  have h7 := ((H3.out.alloc 3 1 1 #[.int .i64 2] rfl (by decide)).alloc 38 2 2 #[.slice sa sn sc, .slice aa an ac, .slice ta tn tc, .slice ba bn bc] rfl (by decide)).arrNew hI hO hb
  have H7_ := h7
  try simp only [List.cons_append, List.nil_append, List.set_cons_zero, List.set_cons_succ, List.map_cons, List.map_nil, List.getD_cons_zero, List.getD_cons_succ, World.size_alloc] at H7_
  have H7 := Lib.hid H7_
  clear H7_
  subst hs ha
  clear y0 y1 y2 y3 hI hO hb h7 CJ H3
  have x0 := H7.out.cell (i := 2) rfl 0 _ rfl
  have x1 := H7.out.cell (i := 2) rfl 1 _ rfl
  have f0 := H7.out.frozen (i := 2) rfl 0
  have f1 := H7.out.frozen (i := 2) rfl 1
  have HF : Hid (∀ u v, MadeE w js jt E (.returned (.tuple #[.agg #[.slice ja jn jc, .slice ka km kc], .int .i64 E])) ((w7.setCell ⟨g + 1 + 1, 0, none⟩ u).setCell ⟨g + 1 + 1, 1, none⟩ v)) := fun u v =>
    ((H7.out.put (i := 2) rfl 0 u).put (i := 2) rfl 1 v).madeE (i := 5) (B := ⟨ja, jn, jc, ka, km, kc, js, jt⟩) rfl E
  clear H7
  go_wp2
  exact bodyPost_ret (v := .tuple #[.agg #[.slice ja jn jc, .slice ka km kc], .int .i64 E]) (by simp [results, Tryz.results104, go_sem, *]) rfl (HF.out _ _)
set_option maxRecDepth 100000 in
set_option maxHeartbeats 1600000 in
theorem laminate_c {w : World} {X Y : Ar} (hX : X.Is w) (hY : Y.Is w) (hmx : amE X.s X.a = 0) (hmy : amE Y.s Y.a = 0) (h0 : X.sn = 0) (h1 : 0 < Y.sn) : Calls Tryz.prog 104 #[X.v, Y.v] w (MadeE w (laS X.s X.a Y.s Y.a) (laA X.s X.a Y.s Y.a) (laE X.s X.a Y.s Y.a)) := by
  have hxl := hX.shp.len
  have hyl := hY.shp.len
  have han : 0 < X.an := by
    have h2 := (amE_zero hmx).2
    have h3 := hX.ats.len
    have h4 : X.s = [] := List.eq_nil_of_length_eq_zero (by omega)
    rw [h4] at h2
    have h5 : pr [] = 1 := rfl
    omega
  have hXX := hX
  have hYY := hY
  obtain ⟨sa, sn, sc, aa, an, ac, s, a⟩ := X
  obtain ⟨ta, tn, tc, ba, bn, bc, t, b⟩ := Y
  simp only [Ar.v]
  simp only at h0 h1 hxl hyl
  have e1 : lmS s t = mdS t := if_pos (by omega)
  have e2 : lmA s a t = ovA t (a.getD 0 0) := if_pos (by omega)
  have e3 : lmS t s = t := if_neg (by omega)
  have e4 : lmA t b s = b := if_neg (by omega)
  have eL : laL s a t b = [(lmS s t, lmA s a t), (lmS t s, lmA t b s)] := rfl
  rw [e1, e2, e3, e4] at eL
  unfold laS laA laE
  rw [eL]
  clear eL e1 e2 e3 e4
  obtain ⟨RS, HRS⟩ : ∃ z, Hid (jnS [2] [(mdS t, ovA t (a.getD 0 0)), (t, b)] = z) := ⟨_, rfl⟩
  obtain ⟨RA, HRA⟩ : ∃ z, Hid (jnA [2] [(mdS t, ovA t (a.getD 0 0)), (t, b)] = z) := ⟨_, rfl⟩
  obtain ⟨E, HE⟩ : ∃ z, Hid (jnE [2] [(mdS t, ovA t (a.getD 0 0)), (t, b)] = z) := ⟨_, rfl⟩
  rw [HRS.out, HRA.out, HE.out]
  have h1w := (((Sp.start Non w).alloc 38 2 1 #[.slice sa sn sc, .slice aa an ac] rfl (by decide)).alloc 38 2 1 #[.slice ta tn tc, .slice ba bn bc] rfl (by decide)).alloc 38 2 1 #[.slice none 0 0, .slice none 0 0] rfl (by decide)
  obtain ⟨W, HW⟩ : ∃ z, Hid (((w.alloc (.cells #[.slice sa sn sc, .slice aa an ac] 38)).alloc (.cells #[.slice ta tn tc, .slice ba bn bc] 38)).alloc (.cells #[.slice none 0 0, .slice none 0 0] 38) = z) := ⟨_, rfl⟩
  rw [HW.out] at h1w
  have H1_ := h1w
  try simp only [List.cons_append, List.nil_append, List.set_cons_zero, List.set_cons_succ, List.map_cons, List.map_nil, List.getD_cons_zero, List.getD_cons_succ, World.size_alloc] at H1_
  have H1 := Lib.hid H1_
  clear H1_
  obtain ⟨g, HG⟩ : ∃ z, Hid (w.heap.size = z) := ⟨_, rfl⟩
  rw [HG.out] at H1
  have HX := Lib.hid hXX
  have HY := Lib.hid hYY
  have CO := Lib.hid (over_any (hXX.below H1.out.belowN (Nat.le_refl _)) han (hYY.below H1.out.belowN (Nat.le_refl _)).shp)
  simp only [Ar.v] at CO
  have y0 := H1.out.cell (i := 0) rfl 0 _ rfl
  have y1 := H1.out.cell (i := 0) rfl 1 _ rfl
  have y2 := H1.out.cell (i := 1) rfl 0 _ rfl
  have y3 := H1.out.cell (i := 1) rfl 1 _ rfl
  have z3 : (0 : Int) < tn := by omega
  have z4 : ((tn : Int) == 0) = false := by simp; omega
  subst h0
  clear hX hY hXX hYY h1w hmx hmy hxl hyl
  go_enter Tryz.func104, Tryz.ntmps104
  go_wp2_with fail
  rw [HW.out, HG.out]
  refine CO.out.mono ?_; rintro e w2 ⟨⟨za, zn, zc, xa, xn, xc, zs, zt⟩, rfl, hI, hs, ha, hO, hb⟩
  simp only at hs ha
  simp only [Ar.v]
  have h2 := H1.out.arrNew hI hO hb
  have f0 := h2.frozen (i := 0) rfl 0
  have f1 := h2.frozen (i := 0) rfl 1
  have x0 := h2.cell (i := 0) rfl 0 _ rfl
  have x1 := h2.cell (i := 0) rfl 1 _ rfl
  have h3 := (h2.put (i := 0) rfl 0 (.slice za zn zc)).put (i := 0) rfl 1 (.slice xa xn xc)
  obtain ⟨W2, HW2⟩ : ∃ z, Hid ((w2.setCell ⟨g, 0, none⟩ (.slice za zn zc)).setCell ⟨g, 1, none⟩ (.slice xa xn xc) = z) := ⟨_, rfl⟩
  rw [HW2.out] at h3
  have H3_ := h3
  try simp only [List.cons_append, List.nil_append, List.set_cons_zero, List.set_cons_succ, List.map_cons, List.map_nil, List.getD_cons_zero, List.getD_cons_succ, World.size_alloc] at H3_
  have H3 := Lib.hid H3_
  clear H3_
  clear y0 y1 y2 y3 hI hO hb h2 h3 CO H1
  have CJ := Lib.hid (join2_any (H3.out.isA (i := 3) rfl) (HY.out.below H3.out.belowN (Nat.le_refl _)))
  rw [hs, ha] at CJ
  simp only at CJ
  rw [HRS.out, HRA.out, HE.out] at CJ
  clear hs ha
  go_upto_region 5 with fail
  rw [HW2.out]
  have h4 := H3.out.alloc 3 1 1 #[.int .i64 2] rfl (by decide)
  have y0 : (W2.alloc (.cells #[.int .i64 2] 3)).cell? ⟨g, 0, none⟩ = some (.slice za zn zc) := h4.cell (i := 0) rfl 0 _ rfl
  have y1 : (W2.alloc (.cells #[.int .i64 2] 3)).cell? ⟨g, 1, none⟩ = some (.slice xa xn xc) := h4.cell (i := 0) rfl 1 _ rfl
  have y2 : (W2.alloc (.cells #[.int .i64 2] 3)).cell? ⟨g + 1, 0, none⟩ = some (.slice ta tn tc) := h4.cell (i := 1) rfl 0 _ rfl
  have y3 : (W2.alloc (.cells #[.int .i64 2] 3)).cell? ⟨g + 1, 1, none⟩ = some (.slice ba bn bc) := h4.cell (i := 1) rfl 1 _ rfl
  clear h4
  go_wp2_with fail
  refine CJ.out.mono ?_; rintro e w7 ⟨⟨ja, jn, jc, ka, km, kc, js, jt⟩, rfl, hI, hs, ha, hO, hb⟩
  simp only at hs ha
  simp only [Ar.v]
  have h7 := ((H3.out.alloc 3 1 1 #[.int .i64 2] rfl (by decide)).alloc 38 2 2 #[.slice za zn zc, .slice xa xn xc, .slice ta tn tc, .slice ba bn bc] rfl (by decide)).arrNew hI hO hb
  have H7_ := h7
  try simp only [List.cons_append, List.nil_append, List.set_cons_zero, List.set_cons_succ, List.map_cons, List.map_nil, List.getD_cons_zero, List.getD_cons_succ, World.size_alloc] at H7_
  have H7 := Lib.hid H7_
  clear H7_
  subst hs ha
  clear y0 y1 y2 y3 hI hO hb h7 CJ H3
  have x0 := H7.out.cell (i := 2) rfl 0 _ rfl
  have x1 := H7.out.cell (i := 2) rfl 1 _ rfl
  have f0 := H7.out.frozen (i := 2) rfl 0
  have f1 := H7.out.frozen (i := 2) rfl 1
  have HF : Hid (∀ u v, MadeE w js jt E (.returned (.tuple #[.agg #[.slice ja jn jc, .slice ka km kc], .int .i64 E])) ((w7.setCell ⟨g + 1 + 1, 0, none⟩ u).setCell ⟨g + 1 + 1, 1, none⟩ v)) := fun u v =>
    ((H7.out.put (i := 2) rfl 0 u).put (i := 2) rfl 1 v).madeE (i := 6) (B := ⟨ja, jn, jc, ka, km, kc, js, jt⟩) rfl E
  clear H7
  go_wp2
  exact bodyPost_ret (v := .tuple #[.agg #[.slice ja jn jc, .slice ka km kc], .int .i64 E]) (by simp [results, Tryz.results104, go_sem, *]) rfl (HF.out _ _)
set_option maxRecDepth 100000 in
set_option maxHeartbeats 1600000 in
theorem laminate_d {w : World} {X Y : Ar} (hX : X.Is w) (hY : Y.Is w) (hmx : amE X.s X.a = 0) (hmy : amE Y.s Y.a = 0) (h0 : 0 < X.sn) (h1 : Y.sn = 0) : Calls Tryz.prog 104 #[X.v, Y.v] w (MadeE w (laS X.s X.a Y.s Y.a) (laA X.s X.a Y.s Y.a) (laE X.s X.a Y.s Y.a)) := by
  have hxl := hX.shp.len
  have hyl := hY.shp.len
  have han : 0 < Y.an := by
    have h2 := (amE_zero hmy).2
    have h3 := hY.ats.len
    have h4 : Y.s = [] := List.eq_nil_of_length_eq_zero (by omega)
    rw [h4] at h2
    have h5 : pr [] = 1 := rfl
    omega
  have hXX := hX
  have hYY := hY
  obtain ⟨sa, sn, sc, aa, an, ac, s, a⟩ := X
  obtain ⟨ta, tn, tc, ba, bn, bc, t, b⟩ := Y
  simp only [Ar.v]
  simp only at h0 h1 hxl hyl
  have e1 : lmS s t = s := if_neg (by omega)
  have e2 : lmA s a t = a := if_neg (by omega)
  have e3 : lmS t s = mdS s := if_pos (by omega)
  have e4 : lmA t b s = ovA s (b.getD 0 0) := if_pos (by omega)
  have eL : laL s a t b = [(lmS s t, lmA s a t), (lmS t s, lmA t b s)] := rfl
  rw [e1, e2, e3, e4] at eL
  unfold laS laA laE
  rw [eL]
  clear eL e1 e2 e3 e4
  obtain ⟨RS, HRS⟩ : ∃ z, Hid (jnS [2] [(s, a), (mdS s, ovA s (b.getD 0 0))] = z) := ⟨_, rfl⟩
  obtain ⟨RA, HRA⟩ : ∃ z, Hid (jnA [2] [(s, a), (mdS s, ovA s (b.getD 0 0))] = z) := ⟨_, rfl⟩
  obtain ⟨E, HE⟩ : ∃ z, Hid (jnE [2] [(s, a), (mdS s, ovA s (b.getD 0 0))] = z) := ⟨_, rfl⟩
  rw [HRS.out, HRA.out, HE.out]
  have h1w := (((Sp.start Non w).alloc 38 2 1 #[.slice sa sn sc, .slice aa an ac] rfl (by decide)).alloc 38 2 1 #[.slice ta tn tc, .slice ba bn bc] rfl (by decide)).alloc 38 2 1 #[.slice none 0 0, .slice none 0 0] rfl (by decide)
  obtain ⟨W, HW⟩ : ∃ z, Hid (((w.alloc (.cells #[.slice sa sn sc, .slice aa an ac] 38)).alloc (.cells #[.slice ta tn tc, .slice ba bn bc] 38)).alloc (.cells #[.slice none 0 0, .slice none 0 0] 38) = z) := ⟨_, rfl⟩
  rw [HW.out] at h1w
  have H1_ := h1w
  try simp only [List.cons_append, List.nil_append, List.set_cons_zero, List.set_cons_succ, List.map_cons, List.map_nil, List.getD_cons_zero, List.getD_cons_succ, World.size_alloc] at H1_
  have H1 := Lib.hid H1_
  clear H1_
  obtain ⟨g, HG⟩ : ∃ z, Hid (w.heap.size = z) := ⟨_, rfl⟩
  rw [HG.out] at H1
  have HX := Lib.hid hXX
  have HY := Lib.hid hYY
  have CO := Lib.hid (over_any (hYY.below H1.out.belowN (Nat.le_refl _)) han (hXX.below H1.out.belowN (Nat.le_refl _)).shp)
  simp only [Ar.v] at CO
  have y0 := H1.out.cell (i := 0) rfl 0 _ rfl
  have y1 := H1.out.cell (i := 0) rfl 1 _ rfl
  have y2 := H1.out.cell (i := 1) rfl 0 _ rfl
  have y3 := H1.out.cell (i := 1) rfl 1 _ rfl
  have z1 : (0 : Int) < sn := by omega
  have z2 : ((sn : Int) == 0) = false := by simp; omega
  subst h1
  clear hX hY hXX hYY h1w hmx hmy hxl hyl
  go_enter Tryz.func104, Tryz.ntmps104
  go_wp2_with fail
  rw [HW.out, HG.out]
  refine CO.out.mono ?_; rintro e w2 ⟨⟨za, zn, zc, xa, xn, xc, zs, zt⟩, rfl, hI, hs, ha, hO, hb⟩
  simp only at hs ha
  simp only [Ar.v]
  have h2 := H1.out.arrNew hI hO hb
  have f0 := h2.frozen (i := 1) rfl 0
  have f1 := h2.frozen (i := 1) rfl 1
  have x0 := h2.cell (i := 1) rfl 0 _ rfl
  have x1 := h2.cell (i := 1) rfl 1 _ rfl
  have h3 := (h2.put (i := 1) rfl 0 (.slice za zn zc)).put (i := 1) rfl 1 (.slice xa xn xc)
  obtain ⟨W2, HW2⟩ : ∃ z, Hid ((w2.setCell ⟨g + 1, 0, none⟩ (.slice za zn zc)).setCell ⟨g + 1, 1, none⟩ (.slice xa xn xc) = z) := ⟨_, rfl⟩
  rw [HW2.out] at h3
  have H3_ := h3
  try simp only [List.cons_append, List.nil_append, List.set_cons_zero, List.set_cons_succ, List.map_cons, List.map_nil, List.getD_cons_zero, List.getD_cons_succ, World.size_alloc] at H3_
  have H3 := Lib.hid H3_
  clear H3_
  clear y0 y1 y2 y3 hI hO hb h2 h3 CO H1
  have CJ := Lib.hid (join2_any (HX.out.below H3.out.belowN (Nat.le_refl _)) (H3.out.isA (i := 3) rfl))
  rw [hs, ha] at CJ
  simp only at CJ
  rw [HRS.out, HRA.out, HE.out] at CJ
  clear hs ha
  go_upto_region 5 with fail
  rw [HW2.out]
  have h4 := H3.out.alloc 3 1 1 #[.int .i64 2] rfl (by decide)
  have y0 : (W2.alloc (.cells #[.int .i64 2] 3)).cell? ⟨g, 0, none⟩ = some (.slice sa sn sc) := h4.cell (i := 0) rfl 0 _ rfl
  have y1 : (W2.alloc (.cells #[.int .i64 2] 3)).cell? ⟨g, 1, none⟩ = some (.slice aa an ac) := h4.cell (i := 0) rfl 1 _ rfl
  have y2 : (W2.alloc (.cells #[.int .i64 2] 3)).cell? ⟨g + 1, 0, none⟩ = some (.slice za zn zc) := h4.cell (i := 1) rfl 0 _ rfl
  have y3 : (W2.alloc (.cells #[.int .i64 2] 3)).cell? ⟨g + 1, 1, none⟩ = some (.slice xa xn xc) := h4.cell (i := 1) rfl 1 _ rfl
  clear h4
  go_wp2_with fail
  refine CJ.out.mono ?_; rintro e w7 ⟨⟨ja, jn, jc, ka, km, kc, js, jt⟩, rfl, hI, hs, ha, hO, hb⟩
  simp only at hs ha
  simp only [Ar.v]
  have h7 := ((H3.out.alloc 3 1 1 #[.int .i64 2] rfl (by decide)).alloc 38 2 2 #[.slice sa sn sc, .slice aa an ac, .slice za zn zc, .slice xa xn xc] rfl (by decide)).arrNew hI hO hb
  have H7_ := h7
  try simp only [List.cons_append, List.nil_append, List.set_cons_zero, List.set_cons_succ, List.map_cons, List.map_nil, List.getD_cons_zero, List.getD_cons_succ, World.size_alloc] at H7_
  have H7 := Lib.hid H7_
  clear H7_
  subst hs ha
  clear y0 y1 y2 y3 hI hO hb h7 CJ H3
  have x0 := H7.out.cell (i := 2) rfl 0 _ rfl
  have x1 := H7.out.cell (i := 2) rfl 1 _ rfl
  have f0 := H7.out.frozen (i := 2) rfl 0
  have f1 := H7.out.frozen (i := 2) rfl 1
  have HF : Hid (∀ u v, MadeE w js jt E (.returned (.tuple #[.agg #[.slice ja jn jc, .slice ka km kc], .int .i64 E])) ((w7.setCell ⟨g + 1 + 1, 0, none⟩ u).setCell ⟨g + 1 + 1, 1, none⟩ v)) := fun u v =>
    ((H7.out.put (i := 2) rfl 0 u).put (i := 2) rfl 1 v).madeE (i := 6) (B := ⟨ja, jn, jc, ka, km, kc, js, jt⟩) rfl E
  clear H7
  go_wp2
  exact bodyPost_ret (v := .tuple #[.agg #[.slice ja jn jc, .slice ka km kc], .int .i64 E]) (by simp [results, Tryz.results104, go_sem, *]) rfl (HF.out _ _)
theorem laminate_any {w : World} {X Y : Ar} (hX : X.Is w) (hY : Y.Is w) (hmx : amE X.s X.a = 0) (hmy : amE Y.s Y.a = 0) : Calls Tryz.prog 104 #[X.v, Y.v] w (MadeE w (laS X.s X.a Y.s Y.a) (laA X.s X.a Y.s Y.a) (laE X.s X.a Y.s Y.a)) := by
  by_cases h0 : X.sn = 0
  · by_cases h1 : Y.sn = 0
    · exact laminate_a hX hY hmx hmy h0 h1
    · exact laminate_c hX hY hmx hmy h0 (by omega)
  · by_cases h1 : Y.sn = 0
    · exact laminate_d hX hY hmx hmy (by omega) h1
    · exact laminate_b hX hY hmx hmy (by omega) (by omega)
end Go.Proofs.YthackmkdicpdeaaGreat
