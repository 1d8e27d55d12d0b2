/- EqCells, EqPairs of answers that are alike (printed by gen_eqcells.py). -/
import Derived.Test.YthackmkdicpdeaaEqAll
import Derived.Test.YthackmkdicpdeaaShapeCover
import Derived.Test.YthackmkdicpdeaaSep3
namespace Go.Proofs.Ythackmkdicpdeaa
open Go.RowKit Go.Lib
set_option linter.unusedVariables false
set_option linter.unusedSimpArgs false
attribute [local go_sem] alloc_drewN setCell_drewN
set_option maxRecDepth 100000 in
set_option maxHeartbeats 1600000 in
theorem eqcells_true {w : World} {l10o l20o : Option Addr} {l10n l10c l20n l20c : Nat} {fr0 : List Int} (hx0 : Ls w l10o l10n l10c fr0) (hy0 : Ls w l20o l20n l20c fr0) {r11o r21o : Option Addr} {r11n r11c r21n r21c : Nat} {As1 Bs1 : List Ar} (hx1 : Ars w r11o r11n r11c As1) (hy1 : Ars w r21o r21n r21c Bs1) (he1 : As1.map Ar.sa2 = Bs1.map Ar.sa2) {A12 A22 : Ar} (hx2 : A12.Is w) (hy2 : A22.Is w) (he2 : A12.s = A22.s ∧ A12.a = A22.a) :
    Calls Try.prog 40 #[.agg #[.slice l10o l10n l10c, .slice r11o r11n r11c, .slice A12.sa A12.sn A12.sc, .slice A12.aa A12.an A12.ac], .agg #[.slice l20o l20n l20c, .slice r21o r21n r21c, .slice A22.sa A22.sn A22.sc, .slice A22.aa A22.an A22.ac]] w (RetB w (.bool true)) := by
  obtain ⟨W, HW⟩ : ∃ z, Hid ((w.alloc (.cells #[.slice l10o l10n l10c, .slice r11o r11n r11c, .slice A12.sa A12.sn A12.sc, .slice A12.aa A12.an A12.ac] 74)).alloc (.cells #[.slice l20o l20n l20c, .slice r21o r21n r21c, .slice A22.sa A22.sn A22.sc, .slice A22.aa A22.an A22.ac] 74) = z) := ⟨_, rfl⟩
  have h1 := ((Sp.start Non w).alloc 74 4 1 #[.slice l10o l10n l10c, .slice r11o r11n r11c, .slice A12.sa A12.sn A12.sc, .slice A12.aa A12.an A12.ac] rfl (by decide)).alloc 74 4 1 #[.slice l20o l20n l20c, .slice r21o r21n r21c, .slice A22.sa A22.sn A22.sc, .slice A22.aa A22.an A22.ac] rfl (by decide)
  rw [HW.out] at h1
  have H0_ := h1
  try simp only [List.cons_append, List.nil_append, List.set_cons_zero, List.set_cons_succ, List.map_cons, List.map_nil, List.getD_cons_zero, List.getD_cons_succ, World.size_alloc] at H0_
  have H0 := Lib.hid H0_
  clear H0_
  clear h1
  obtain ⟨b, HB⟩ : ∃ z, Hid (w.heap.size = z) := ⟨_, rfl⟩
  rw [HB.out] at H0
  have X0 := Lib.hid hx0
  have Y0 := Lib.hid hy0
  have X1 := Lib.hid hx1
  have Y1 := Lib.hid hy1
  have E1 := Lib.hid he1
  have X2 := Lib.hid hx2
  have Y2 := Lib.hid hy2
  have E2 := Lib.hid he2
  clear hx0 hy0 hx1 hy1 he1 hx2 hy2 he2
  have x0 := H0.out.cell (i := 0) rfl 0 _ rfl
  have y0 := H0.out.cell (i := 1) rfl 0 _ rfl
  have x1 := H0.out.cell (i := 0) rfl 1 _ rfl
  have y1 := H0.out.cell (i := 1) rfl 1 _ rfl
  have x2 := H0.out.cell (i := 0) rfl 2 _ rfl
  have y2 := H0.out.cell (i := 1) rfl 2 _ rfl
  have x3 := H0.out.cell (i := 0) rfl 3 _ rfl
  have y3 := H0.out.cell (i := 1) rfl 3 _ rfl
  go_enter Try.func40, Try.ntmps40
  go_upto_region 1 with fail
  rw [HW.out, HB.out]
  have c0 := eqints_any (X0.out.below H0.out.belowN (Nat.le_refl _)) (Y0.out.below H0.out.belowN (Nat.le_refl _))
  rw [decide_eq_true rfl] at c0
  have C0 := Lib.hid c0
  clear c0
  go_wp2_with fail
  refine C0.out.mono ?_; rintro e w1 ⟨rfl, nq, hw⟩
  have hb : Below W.heap.size W w1 := by rw [hw]; exact adrew _ _
  clear hw
  have H1_ := H0.out.via hb
  try simp only [List.cons_append, List.nil_append, List.set_cons_zero, List.set_cons_succ, List.map_cons, List.map_nil, List.getD_cons_zero, List.getD_cons_succ, World.size_alloc] at H1_
  have H1 := Lib.hid H1_
  clear H1_
  clear hb C0 x0 y0 x1 y1 x2 y2 x3 y3
  have x0 := H1.out.cell (i := 0) rfl 0 _ rfl
  have y0 := H1.out.cell (i := 1) rfl 0 _ rfl
  have x1 := H1.out.cell (i := 0) rfl 1 _ rfl
  have y1 := H1.out.cell (i := 1) rfl 1 _ rfl
  have x2 := H1.out.cell (i := 0) rfl 2 _ rfl
  have y2 := H1.out.cell (i := 1) rfl 2 _ rfl
  have x3 := H1.out.cell (i := 0) rfl 3 _ rfl
  have y3 := H1.out.cell (i := 1) rfl 3 _ rfl
  have c1 := eqall4_any (X1.out.below H1.out.belowN (Nat.le_refl _)) (Y1.out.below H1.out.belowN (Nat.le_refl _))
  rw [decide_eq_true E1.out] at c1
  have C1 := Lib.hid c1
  clear c1
  go_wp2_with fail
  refine C1.out.mono ?_; rintro e w2 ⟨rfl, hb⟩
  have H2_ := H1.out.via hb
  try simp only [List.cons_append, List.nil_append, List.set_cons_zero, List.set_cons_succ, List.map_cons, List.map_nil, List.getD_cons_zero, List.getD_cons_succ, World.size_alloc] at H2_
  have H2 := Lib.hid H2_
  clear H2_
  clear hb C1 x0 y0 x1 y1 x2 y2 x3 y3
  have x0 := H2.out.cell (i := 0) rfl 0 _ rfl
  have y0 := H2.out.cell (i := 1) rfl 0 _ rfl
  have x1 := H2.out.cell (i := 0) rfl 1 _ rfl
  have y1 := H2.out.cell (i := 1) rfl 1 _ rfl
  have x2 := H2.out.cell (i := 0) rfl 2 _ rfl
  have y2 := H2.out.cell (i := 1) rfl 2 _ rfl
  have x3 := H2.out.cell (i := 0) rfl 3 _ rfl
  have y3 := H2.out.cell (i := 1) rfl 3 _ rfl
  have c2 := eq4_any (X2.out.below H2.out.belowN (Nat.le_refl _)) (Y2.out.below H2.out.belowN (Nat.le_refl _))
  rw [decide_eq_true E2.out] at c2
  have C2 := Lib.hid c2
  clear c2
  simp only [Ar.v] at C2
  go_wp2_with fail
  refine C2.out.mono ?_; rintro e w3 ⟨rfl, hb⟩
  have H3_ := H2.out.via hb
  try simp only [List.cons_append, List.nil_append, List.set_cons_zero, List.set_cons_succ, List.map_cons, List.map_nil, List.getD_cons_zero, List.getD_cons_succ, World.size_alloc] at H3_
  have H3 := Lib.hid H3_
  clear H3_
  clear hb C2 x0 y0 x1 y1 x2 y2 x3 y3
  have HF : Hid (RetB w (.bool true) (.returned (.bool true)) w3) := RetB.mk rfl H3.out.belowN
  go_wp2
  exact bodyPost_ret (v := .bool true) (by simp [results, Try.results40, go_sem, *]) rfl HF.out
set_option maxRecDepth 100000 in
set_option maxHeartbeats 1600000 in
theorem eqpairs_true {w : World} {l10o l20o : Option Addr} {l10n l10c l20n l20c : Nat} {fr0 : List Int} (hx0 : Ls w l10o l10n l10c fr0) (hy0 : Ls w l20o l20n l20c fr0) {r11o r21o : Option Addr} {r11n r11c r21n r21c : Nat} {As1 Bs1 : List Ar} (hx1 : Ars w r11o r11n r11c As1) (hy1 : Ars w r21o r21n r21c Bs1) (he1 : As1.map Ar.sa2 = Bs1.map Ar.sa2) {r12o r22o : Option Addr} {r12n r12c r22n r22c : Nat} {As2 Bs2 : List Ar} (hx2 : Ars w r12o r12n r12c As2) (hy2 : Ars w r22o r22n r22c Bs2) (he2 : As2.map Ar.sa2 = Bs2.map Ar.sa2) {A13 A23 : Ar} (hx3 : A13.Is w) (hy3 : A23.Is w) (he3 : A13.s = A23.s ∧ A13.a = A23.a) {A14 A24 : Ar} (hx4 : A14.Is w) (hy4 : A24.Is w) (he4 : A14.s = A24.s ∧ A14.a = A24.a) :
    Calls Try.prog 43 #[.agg #[.slice l10o l10n l10c, .slice r11o r11n r11c, .slice r12o r12n r12c, .slice A13.sa A13.sn A13.sc, .slice A13.aa A13.an A13.ac, .slice A14.sa A14.sn A14.sc, .slice A14.aa A14.an A14.ac], .agg #[.slice l20o l20n l20c, .slice r21o r21n r21c, .slice r22o r22n r22c, .slice A23.sa A23.sn A23.sc, .slice A23.aa A23.an A23.ac, .slice A24.sa A24.sn A24.sc, .slice A24.aa A24.an A24.ac]] w (RetB w (.bool true)) := by
  obtain ⟨W, HW⟩ : ∃ z, Hid ((w.alloc (.cells #[.slice l10o l10n l10c, .slice r11o r11n r11c, .slice r12o r12n r12c, .slice A13.sa A13.sn A13.sc, .slice A13.aa A13.an A13.ac, .slice A14.sa A14.sn A14.sc, .slice A14.aa A14.an A14.ac] 105)).alloc (.cells #[.slice l20o l20n l20c, .slice r21o r21n r21c, .slice r22o r22n r22c, .slice A23.sa A23.sn A23.sc, .slice A23.aa A23.an A23.ac, .slice A24.sa A24.sn A24.sc, .slice A24.aa A24.an A24.ac] 105) = z) := ⟨_, rfl⟩
  have h1 := ((Sp.start Non w).alloc 105 7 1 #[.slice l10o l10n l10c, .slice r11o r11n r11c, .slice r12o r12n r12c, .slice A13.sa A13.sn A13.sc, .slice A13.aa A13.an A13.ac, .slice A14.sa A14.sn A14.sc, .slice A14.aa A14.an A14.ac] rfl (by decide)).alloc 105 7 1 #[.slice l20o l20n l20c, .slice r21o r21n r21c, .slice r22o r22n r22c, .slice A23.sa A23.sn A23.sc, .slice A23.aa A23.an A23.ac, .slice A24.sa A24.sn A24.sc, .slice A24.aa A24.an A24.ac] rfl (by decide)
  rw [HW.out] at h1
  have H0_ := h1
  try simp only [List.cons_append, List.nil_append, List.set_cons_zero, List.set_cons_succ, List.map_cons, List.map_nil, List.getD_cons_zero, List.getD_cons_succ, World.size_alloc] at H0_
  have H0 := Lib.hid H0_
  clear H0_
  clear h1
  obtain ⟨b, HB⟩ : ∃ z, Hid (w.heap.size = z) := ⟨_, rfl⟩
  rw [HB.out] at H0
  have X0 := Lib.hid hx0
  have Y0 := Lib.hid hy0
  have X1 := Lib.hid hx1
  have Y1 := Lib.hid hy1
  have E1 := Lib.hid he1
  have X2 := Lib.hid hx2
  have Y2 := Lib.hid hy2
  have E2 := Lib.hid he2
  have X3 := Lib.hid hx3
  have Y3 := Lib.hid hy3
  have E3 := Lib.hid he3
  have X4 := Lib.hid hx4
  have Y4 := Lib.hid hy4
  have E4 := Lib.hid he4
  clear hx0 hy0 hx1 hy1 he1 hx2 hy2 he2 hx3 hy3 he3 hx4 hy4 he4
  have x0 := H0.out.cell (i := 0) rfl 0 _ rfl
  have y0 := H0.out.cell (i := 1) rfl 0 _ rfl
  have x1 := H0.out.cell (i := 0) rfl 1 _ rfl
  have y1 := H0.out.cell (i := 1) rfl 1 _ rfl
  have x2 := H0.out.cell (i := 0) rfl 2 _ rfl
  have y2 := H0.out.cell (i := 1) rfl 2 _ rfl
  have x3 := H0.out.cell (i := 0) rfl 3 _ rfl
  have y3 := H0.out.cell (i := 1) rfl 3 _ rfl
  have x4 := H0.out.cell (i := 0) rfl 4 _ rfl
  have y4 := H0.out.cell (i := 1) rfl 4 _ rfl
  have x5 := H0.out.cell (i := 0) rfl 5 _ rfl
  have y5 := H0.out.cell (i := 1) rfl 5 _ rfl
  have x6 := H0.out.cell (i := 0) rfl 6 _ rfl
  have y6 := H0.out.cell (i := 1) rfl 6 _ rfl
  go_enter Try.func43, Try.ntmps43
  go_upto_region 1 with fail
  rw [HW.out, HB.out]
  have c0 := eqints_any (X0.out.below H0.out.belowN (Nat.le_refl _)) (Y0.out.below H0.out.belowN (Nat.le_refl _))
  rw [decide_eq_true rfl] at c0
  have C0 := Lib.hid c0
  clear c0
  go_wp2_with fail
  refine C0.out.mono ?_; rintro e w1 ⟨rfl, nq, hw⟩
  have hb : Below W.heap.size W w1 := by rw [hw]; exact adrew _ _
  clear hw
  have H1_ := H0.out.via hb
  try simp only [List.cons_append, List.nil_append, List.set_cons_zero, List.set_cons_succ, List.map_cons, List.map_nil, List.getD_cons_zero, List.getD_cons_succ, World.size_alloc] at H1_
  have H1 := Lib.hid H1_
  clear H1_
  clear hb C0 x0 y0 x1 y1 x2 y2 x3 y3 x4 y4 x5 y5 x6 y6
  have x0 := H1.out.cell (i := 0) rfl 0 _ rfl
  have y0 := H1.out.cell (i := 1) rfl 0 _ rfl
  have x1 := H1.out.cell (i := 0) rfl 1 _ rfl
  have y1 := H1.out.cell (i := 1) rfl 1 _ rfl
  have x2 := H1.out.cell (i := 0) rfl 2 _ rfl
  have y2 := H1.out.cell (i := 1) rfl 2 _ rfl
  have x3 := H1.out.cell (i := 0) rfl 3 _ rfl
  have y3 := H1.out.cell (i := 1) rfl 3 _ rfl
  have x4 := H1.out.cell (i := 0) rfl 4 _ rfl
  have y4 := H1.out.cell (i := 1) rfl 4 _ rfl
  have x5 := H1.out.cell (i := 0) rfl 5 _ rfl
  have y5 := H1.out.cell (i := 1) rfl 5 _ rfl
  have x6 := H1.out.cell (i := 0) rfl 6 _ rfl
  have y6 := H1.out.cell (i := 1) rfl 6 _ rfl
  have c1 := eqall4_any (X1.out.below H1.out.belowN (Nat.le_refl _)) (Y1.out.below H1.out.belowN (Nat.le_refl _))
  rw [decide_eq_true E1.out] at c1
  have C1 := Lib.hid c1
  clear c1
  go_wp2_with fail
  refine C1.out.mono ?_; rintro e w2 ⟨rfl, hb⟩
  have H2_ := H1.out.via hb
  try simp only [List.cons_append, List.nil_append, List.set_cons_zero, List.set_cons_succ, List.map_cons, List.map_nil, List.getD_cons_zero, List.getD_cons_succ, World.size_alloc] at H2_
  have H2 := Lib.hid H2_
  clear H2_
  clear hb C1 x0 y0 x1 y1 x2 y2 x3 y3 x4 y4 x5 y5 x6 y6
  have x0 := H2.out.cell (i := 0) rfl 0 _ rfl
  have y0 := H2.out.cell (i := 1) rfl 0 _ rfl
  have x1 := H2.out.cell (i := 0) rfl 1 _ rfl
  have y1 := H2.out.cell (i := 1) rfl 1 _ rfl
  have x2 := H2.out.cell (i := 0) rfl 2 _ rfl
  have y2 := H2.out.cell (i := 1) rfl 2 _ rfl
  have x3 := H2.out.cell (i := 0) rfl 3 _ rfl
  have y3 := H2.out.cell (i := 1) rfl 3 _ rfl
  have x4 := H2.out.cell (i := 0) rfl 4 _ rfl
  have y4 := H2.out.cell (i := 1) rfl 4 _ rfl
  have x5 := H2.out.cell (i := 0) rfl 5 _ rfl
  have y5 := H2.out.cell (i := 1) rfl 5 _ rfl
  have x6 := H2.out.cell (i := 0) rfl 6 _ rfl
  have y6 := H2.out.cell (i := 1) rfl 6 _ rfl
  have c2 := eqall4_any (X2.out.below H2.out.belowN (Nat.le_refl _)) (Y2.out.below H2.out.belowN (Nat.le_refl _))
  rw [decide_eq_true E2.out] at c2
  have C2 := Lib.hid c2
  clear c2
  go_wp2_with fail
  refine C2.out.mono ?_; rintro e w3 ⟨rfl, hb⟩
  have H3_ := H2.out.via hb
  try simp only [List.cons_append, List.nil_append, List.set_cons_zero, List.set_cons_succ, List.map_cons, List.map_nil, List.getD_cons_zero, List.getD_cons_succ, World.size_alloc] at H3_
  have H3 := Lib.hid H3_
  clear H3_
  clear hb C2 x0 y0 x1 y1 x2 y2 x3 y3 x4 y4 x5 y5 x6 y6
  have x0 := H3.out.cell (i := 0) rfl 0 _ rfl
  have y0 := H3.out.cell (i := 1) rfl 0 _ rfl
  have x1 := H3.out.cell (i := 0) rfl 1 _ rfl
  have y1 := H3.out.cell (i := 1) rfl 1 _ rfl
  have x2 := H3.out.cell (i := 0) rfl 2 _ rfl
  have y2 := H3.out.cell (i := 1) rfl 2 _ rfl
  have x3 := H3.out.cell (i := 0) rfl 3 _ rfl
  have y3 := H3.out.cell (i := 1) rfl 3 _ rfl
  have x4 := H3.out.cell (i := 0) rfl 4 _ rfl
  have y4 := H3.out.cell (i := 1) rfl 4 _ rfl
  have x5 := H3.out.cell (i := 0) rfl 5 _ rfl
  have y5 := H3.out.cell (i := 1) rfl 5 _ rfl
  have x6 := H3.out.cell (i := 0) rfl 6 _ rfl
  have y6 := H3.out.cell (i := 1) rfl 6 _ rfl
  have c3 := eq4_any (X3.out.below H3.out.belowN (Nat.le_refl _)) (Y3.out.below H3.out.belowN (Nat.le_refl _))
  rw [decide_eq_true E3.out] at c3
  have C3 := Lib.hid c3
  clear c3
  simp only [Ar.v] at C3
  go_wp2_with fail
  refine C3.out.mono ?_; rintro e w4 ⟨rfl, hb⟩
  have H4_ := H3.out.via hb
  try simp only [List.cons_append, List.nil_append, List.set_cons_zero, List.set_cons_succ, List.map_cons, List.map_nil, List.getD_cons_zero, List.getD_cons_succ, World.size_alloc] at H4_
  have H4 := Lib.hid H4_
  clear H4_
  clear hb C3 x0 y0 x1 y1 x2 y2 x3 y3 x4 y4 x5 y5 x6 y6
  have x0 := H4.out.cell (i := 0) rfl 0 _ rfl
  have y0 := H4.out.cell (i := 1) rfl 0 _ rfl
  have x1 := H4.out.cell (i := 0) rfl 1 _ rfl
  have y1 := H4.out.cell (i := 1) rfl 1 _ rfl
  have x2 := H4.out.cell (i := 0) rfl 2 _ rfl
  have y2 := H4.out.cell (i := 1) rfl 2 _ rfl
  have x3 := H4.out.cell (i := 0) rfl 3 _ rfl
  have y3 := H4.out.cell (i := 1) rfl 3 _ rfl
  have x4 := H4.out.cell (i := 0) rfl 4 _ rfl
  have y4 := H4.out.cell (i := 1) rfl 4 _ rfl
  have x5 := H4.out.cell (i := 0) rfl 5 _ rfl
  have y5 := H4.out.cell (i := 1) rfl 5 _ rfl
  have x6 := H4.out.cell (i := 0) rfl 6 _ rfl
  have y6 := H4.out.cell (i := 1) rfl 6 _ rfl
  have c4 := eq4_any (X4.out.below H4.out.belowN (Nat.le_refl _)) (Y4.out.below H4.out.belowN (Nat.le_refl _))
  rw [decide_eq_true E4.out] at c4
  have C4 := Lib.hid c4
  clear c4
  simp only [Ar.v] at C4
  go_wp2_with fail
  refine C4.out.mono ?_; rintro e w5 ⟨rfl, hb⟩
  have H5_ := H4.out.via hb
  try simp only [List.cons_append, List.nil_append, List.set_cons_zero, List.set_cons_succ, List.map_cons, List.map_nil, List.getD_cons_zero, List.getD_cons_succ, World.size_alloc] at H5_
  have H5 := Lib.hid H5_
  clear H5_
  clear hb C4 x0 y0 x1 y1 x2 y2 x3 y3 x4 y4 x5 y5 x6 y6
  have HF : Hid (RetB w (.bool true) (.returned (.bool true)) w5) := RetB.mk rfl H5.out.belowN
  go_wp2
  exact bodyPost_ret (v := .bool true) (by simp [results, Try.results43, go_sem, *]) rfl HF.out
end Go.Proofs.Ythackmkdicpdeaa
