/- Contract of the document's Two (printed by gen_r4two.py). -/
import Derived.Test.YthackmkdicpdeaaR4One
import Derived.Test.YthackmkdicpdeaaCellTwo
namespace Go.Proofs.Ythackmkdicpdeaa
open Go.RowKit Go.Lib
set_option linter.unusedVariables false
set_option linter.unusedSimpArgs false
attribute [local go_sem] alloc_drewN setCell_drewN
set_option maxRecDepth 100000 in
set_option maxHeartbeats 3200000 in
theorem rtwo_b1 {w : World} {X Y : Ar} (hX : X.Is w) (hY : Y.Is w) (l r : Int) (hl : -9223372036854775808 ≤ l ∧ l ≤ 9223372036854775807) (hr : -9223372036854775808 ≤ r ∧ r ≤ 9223372036854775807) (hm1 : amE X.s X.a ≠ 0) : Calls Try.prog 42 #[X.v, Y.v, .int .i64 l, .int .i64 r] w (TwoP w [] [] [] [] [] [] [] 1) := by
  obtain ⟨sa, sn, sc, aa, an, ac, s, a⟩ := X
  obtain ⟨ta, tn, tc, ba, bn, bc, t, b⟩ := Y
  simp only [Ar.v] at *
  obtain ⟨W, HW⟩ : ∃ z, Hid (((w.alloc (.cells #[.slice sa sn sc, .slice aa an ac] 45)).alloc (.cells #[.slice ta tn tc, .slice ba bn bc] 45)).alloc (.cells #[.slice none 0 0, .slice none 0 0, .slice none 0 0, .slice none 0 0, .slice none 0 0, .slice none 0 0, .slice none 0 0] 105) = z) := ⟨_, rfl⟩
  have h1 := (((Sp.start Non w).alloc 45 2 1 #[.slice sa sn sc, .slice aa an ac] rfl (by decide)).alloc 45 2 1 #[.slice ta tn tc, .slice ba bn bc] rfl (by decide)).alloc 105 7 1 #[.slice none 0 0, .slice none 0 0, .slice none 0 0, .slice none 0 0, .slice none 0 0, .slice none 0 0, .slice none 0 0] rfl (by decide)
  rw [HW.out] at h1
  have H1_ := h1
  try simp only [List.cons_append, List.nil_append, List.set_cons_zero, List.set_cons_succ, List.map_cons, List.map_nil, List.getD_cons_zero, List.getD_cons_succ, World.size_alloc] at H1_
  have H1 := Lib.hid H1_
  clear H1_
  have HX := Lib.hid hX
  have HY := Lib.hid hY
  have HEO : Hid (onE s a = 1) := if_neg hm1
  have CO1 := Lib.hid (rone_any (hX.below H1.out.belowN (Nat.le_refl _)) l hl)
  simp only [Ar.v] at CO1
  rw [HEO.out] at CO1
  have x0 := H1.out.cell (i := 0) rfl 0 _ rfl
  have x1 := H1.out.cell (i := 0) rfl 1 _ rfl
  clear hX hY hm1 h1
  go_enter Try.func42, Try.ntmps42
  go_wp2_with fail
  rw [HW.out]
  refine CO1.out.mono ?_; rintro e w4 ⟨fo, fn, fc, co, cn, cc, ⟨z1, z2, z3, z4, z5, z6, zs, zt⟩, As, rfl, h4, hA1, hB1, hB2⟩
  simp only at hB1 hB2
  have HC1 := Lib.hid (And.intro hA1 (And.intro hB1 hB2))
  have H4_ := (H1.out.add h4).alloc 74 4 1 #[.slice fo fn fc, .slice co cn cc, .slice z1 z2 z3, .slice z4 z5 z6] rfl (by decide)
  try simp only [List.cons_append, List.nil_append, List.set_cons_zero, List.set_cons_succ, List.map_cons, List.map_nil, List.getD_cons_zero, List.getD_cons_succ, World.size_alloc] at H4_
  have H4 := Lib.hid H4_
  clear H4_
  clear h4 hA1 hB1 hB2 x0 x1
  obtain ⟨W5, HW5⟩ : ∃ z, Hid (w4.alloc (.cells #[.slice fo fn fc, .slice co cn cc, .slice z1 z2 z3, .slice z4 z5 z6] 74) = z) := ⟨_, rfl⟩
  rw [HW5.out] at H4
  have x0 : (w4.alloc (.cells #[.slice fo fn fc, .slice co cn cc, .slice z1 z2 z3, .slice z4 z5 z6] 74)).cell? ⟨w.heap.size + 1, 0, none⟩ = some (.slice ta tn tc) := by rw [HW5.out]; exact H4.out.cell (i := 1) rfl 0 _ rfl
  have x1 : (w4.alloc (.cells #[.slice fo fn fc, .slice co cn cc, .slice z1 z2 z3, .slice z4 z5 z6] 74)).cell? ⟨w.heap.size + 1, 1, none⟩ = some (.slice ba bn bc) := by rw [HW5.out]; exact H4.out.cell (i := 1) rfl 1 _ rfl
  obtain ⟨w3, HW3⟩ : ∃ z, Hid (W5 = z) := ⟨_, rfl⟩
  rw [HW3.out] at H4
  have H3 := H4
  clear x0 x1
  have HF : Hid (∀ u0 u1 u2 u3 u4 u5 u6, TwoP w [] [] [] [] [] [] [] 1 (.returned (.tuple #[.agg #[.slice none 0 0, .slice none 0 0, .slice none 0 0, .slice none 0 0, .slice none 0 0, .slice none 0 0, .slice none 0 0], .int .i64 1])) (((((((w3.setCell ⟨w.heap.size + 1 + 1, 0, none⟩ u0).setCell ⟨w.heap.size + 1 + 1, 1, none⟩ u1).setCell ⟨w.heap.size + 1 + 1, 2, none⟩ u2).setCell ⟨w.heap.size + 1 + 1, 3, none⟩ u3).setCell ⟨w.heap.size + 1 + 1, 4, none⟩ u4).setCell ⟨w.heap.size + 1 + 1, 5, none⟩ u5).setCell ⟨w.heap.size + 1 + 1, 6, none⟩ u6)) := fun u0 u1 u2 u3 u4 u5 u6 =>
    twoP_nil (((((((H3.out.put (i := 2) rfl 0 u0).put (i := 2) rfl 1 u1).put (i := 2) rfl 2 u2).put (i := 2) rfl 3 u3).put (i := 2) rfl 4 u4).put (i := 2) rfl 5 u5).put (i := 2) rfl 6 u6).belowN 1
  have p0 := H3.out.cell (i := 2) rfl 0 _ rfl
  have f0 := H3.out.frozen (i := 2) rfl 0
  have p1 := H3.out.cell (i := 2) rfl 1 _ rfl
  have f1 := H3.out.frozen (i := 2) rfl 1
  have p2 := H3.out.cell (i := 2) rfl 2 _ rfl
  have f2 := H3.out.frozen (i := 2) rfl 2
  have p3 := H3.out.cell (i := 2) rfl 3 _ rfl
  have f3 := H3.out.frozen (i := 2) rfl 3
  have p4 := H3.out.cell (i := 2) rfl 4 _ rfl
  have f4 := H3.out.frozen (i := 2) rfl 4
  have p5 := H3.out.cell (i := 2) rfl 5 _ rfl
  have f5 := H3.out.frozen (i := 2) rfl 5
  have p6 := H3.out.cell (i := 2) rfl 6 _ rfl
  have f6 := H3.out.frozen (i := 2) rfl 6
  go_upto_region 3 with fail
  rw [HW5.out, HW3.out]
  go_wp2
  exact bodyPost_ret (v := .tuple #[.agg #[.slice none 0 0, .slice none 0 0, .slice none 0 0, .slice none 0 0, .slice none 0 0, .slice none 0 0, .slice none 0 0], .int .i64 1]) (by simp [results, Try.results42, go_sem, *]) rfl (HF.out _ _ _ _ _ _ _)
set_option maxRecDepth 100000 in
set_option maxHeartbeats 3200000 in
theorem rtwo_b2 {w : World} {X Y : Ar} (hX : X.Is w) (hY : Y.Is w) (l r : Int) (hl : -9223372036854775808 ≤ l ∧ l ≤ 9223372036854775807) (hr : -9223372036854775808 ≤ r ∧ r ≤ 9223372036854775807) (hm1 : amE X.s X.a = 0) (hm2 : amE Y.s Y.a ≠ 0) : Calls Try.prog 42 #[X.v, Y.v, .int .i64 l, .int .i64 r] w (TwoP w [] [] [] [] [] [] [] 1) := by
  obtain ⟨sa, sn, sc, aa, an, ac, s, a⟩ := X
  obtain ⟨ta, tn, tc, ba, bn, bc, t, b⟩ := Y
  simp only [Ar.v] at *
  obtain ⟨W, HW⟩ : ∃ z, Hid (((w.alloc (.cells #[.slice sa sn sc, .slice aa an ac] 45)).alloc (.cells #[.slice ta tn tc, .slice ba bn bc] 45)).alloc (.cells #[.slice none 0 0, .slice none 0 0, .slice none 0 0, .slice none 0 0, .slice none 0 0, .slice none 0 0, .slice none 0 0] 105) = z) := ⟨_, rfl⟩
  have h1 := (((Sp.start Non w).alloc 45 2 1 #[.slice sa sn sc, .slice aa an ac] rfl (by decide)).alloc 45 2 1 #[.slice ta tn tc, .slice ba bn bc] rfl (by decide)).alloc 105 7 1 #[.slice none 0 0, .slice none 0 0, .slice none 0 0, .slice none 0 0, .slice none 0 0, .slice none 0 0, .slice none 0 0] rfl (by decide)
  rw [HW.out] at h1
  have H1_ := h1
  try simp only [List.cons_append, List.nil_append, List.set_cons_zero, List.set_cons_succ, List.map_cons, List.map_nil, List.getD_cons_zero, List.getD_cons_succ, World.size_alloc] at H1_
  have H1 := Lib.hid H1_
  clear H1_
  have HX := Lib.hid hX
  have HY := Lib.hid hY
  have HEO : Hid (onE s a = 0 ∧ onE t b = 1) := ⟨if_pos hm1, if_neg hm2⟩
  clear hm2
  have CO1 := Lib.hid (rone_any (hX.below H1.out.belowN (Nat.le_refl _)) l hl)
  simp only [Ar.v] at CO1
  rw [HEO.out.1] at CO1
  have x0 := H1.out.cell (i := 0) rfl 0 _ rfl
  have x1 := H1.out.cell (i := 0) rfl 1 _ rfl
  clear hX hY hm1 h1
  go_enter Try.func42, Try.ntmps42
  go_wp2_with fail
  rw [HW.out]
  refine CO1.out.mono ?_; rintro e w4 ⟨fo, fn, fc, co, cn, cc, ⟨z1, z2, z3, z4, z5, z6, zs, zt⟩, As, rfl, h4, hA1, hB1, hB2⟩
  simp only at hB1 hB2
  have HC1 := Lib.hid (And.intro hA1 (And.intro hB1 hB2))
  have H4_ := (H1.out.add h4).alloc 74 4 1 #[.slice fo fn fc, .slice co cn cc, .slice z1 z2 z3, .slice z4 z5 z6] rfl (by decide)
  try simp only [List.cons_append, List.nil_append, List.set_cons_zero, List.set_cons_succ, List.map_cons, List.map_nil, List.getD_cons_zero, List.getD_cons_succ, World.size_alloc] at H4_
  have H4 := Lib.hid H4_
  clear H4_
  clear h4 hA1 hB1 hB2 x0 x1
  obtain ⟨W5, HW5⟩ : ∃ z, Hid (w4.alloc (.cells #[.slice fo fn fc, .slice co cn cc, .slice z1 z2 z3, .slice z4 z5 z6] 74) = z) := ⟨_, rfl⟩
  rw [HW5.out] at H4
  have x0 : (w4.alloc (.cells #[.slice fo fn fc, .slice co cn cc, .slice z1 z2 z3, .slice z4 z5 z6] 74)).cell? ⟨w.heap.size + 1, 0, none⟩ = some (.slice ta tn tc) := by rw [HW5.out]; exact H4.out.cell (i := 1) rfl 0 _ rfl
  have x1 : (w4.alloc (.cells #[.slice fo fn fc, .slice co cn cc, .slice z1 z2 z3, .slice z4 z5 z6] 74)).cell? ⟨w.heap.size + 1, 1, none⟩ = some (.slice ba bn bc) := by rw [HW5.out]; exact H4.out.cell (i := 1) rfl 1 _ rfl
  have CO2 := Lib.hid (rone_any (HY.out.below H4.out.belowN (Nat.le_refl _)) r hr)
  simp only [Ar.v] at CO2
  rw [HEO.out.2] at CO2
  go_wp2_with fail
  rw [HW5.out]
  refine CO2.out.mono ?_; rintro e w6 ⟨go, gn, gc, do_, dn, dc, ⟨y1, y2, y3, y4, y5, y6, ys, yt⟩, Bs, rfl, h6, hA2, hB3, hB4⟩
  have H3_ := (H4.out.add h6).alloc 74 4 1 #[.slice go gn gc, .slice do_ dn dc, .slice y1 y2 y3, .slice y4 y5 y6] rfl (by decide)
  try simp only [List.cons_append, List.nil_append, List.set_cons_zero, List.set_cons_succ, List.map_cons, List.map_nil, List.getD_cons_zero, List.getD_cons_succ, World.size_alloc] at H3_
  have H3 := Lib.hid H3_
  clear H3_
  clear h6 hA2 hB3 hB4 x0 x1
  obtain ⟨w3, HW3⟩ : ∃ z, Hid (w6.alloc (.cells #[.slice go gn gc, .slice do_ dn dc, .slice y1 y2 y3, .slice y4 y5 y6] 74) = z) := ⟨_, rfl⟩
  rw [HW3.out] at H3
  have HF : Hid (∀ u0 u1 u2 u3 u4 u5 u6, TwoP w [] [] [] [] [] [] [] 1 (.returned (.tuple #[.agg #[.slice none 0 0, .slice none 0 0, .slice none 0 0, .slice none 0 0, .slice none 0 0, .slice none 0 0, .slice none 0 0], .int .i64 1])) (((((((w3.setCell ⟨w.heap.size + 1 + 1, 0, none⟩ u0).setCell ⟨w.heap.size + 1 + 1, 1, none⟩ u1).setCell ⟨w.heap.size + 1 + 1, 2, none⟩ u2).setCell ⟨w.heap.size + 1 + 1, 3, none⟩ u3).setCell ⟨w.heap.size + 1 + 1, 4, none⟩ u4).setCell ⟨w.heap.size + 1 + 1, 5, none⟩ u5).setCell ⟨w.heap.size + 1 + 1, 6, none⟩ u6)) := fun u0 u1 u2 u3 u4 u5 u6 =>
    twoP_nil (((((((H3.out.put (i := 2) rfl 0 u0).put (i := 2) rfl 1 u1).put (i := 2) rfl 2 u2).put (i := 2) rfl 3 u3).put (i := 2) rfl 4 u4).put (i := 2) rfl 5 u5).put (i := 2) rfl 6 u6).belowN 1
  have p0 := H3.out.cell (i := 2) rfl 0 _ rfl
  have f0 := H3.out.frozen (i := 2) rfl 0
  have p1 := H3.out.cell (i := 2) rfl 1 _ rfl
  have f1 := H3.out.frozen (i := 2) rfl 1
  have p2 := H3.out.cell (i := 2) rfl 2 _ rfl
  have f2 := H3.out.frozen (i := 2) rfl 2
  have p3 := H3.out.cell (i := 2) rfl 3 _ rfl
  have f3 := H3.out.frozen (i := 2) rfl 3
  have p4 := H3.out.cell (i := 2) rfl 4 _ rfl
  have f4 := H3.out.frozen (i := 2) rfl 4
  have p5 := H3.out.cell (i := 2) rfl 5 _ rfl
  have f5 := H3.out.frozen (i := 2) rfl 5
  have p6 := H3.out.cell (i := 2) rfl 6 _ rfl
  have f6 := H3.out.frozen (i := 2) rfl 6
  go_upto_region 6 with fail
  rw [HW3.out]
  go_wp2
  exact bodyPost_ret (v := .tuple #[.agg #[.slice none 0 0, .slice none 0 0, .slice none 0 0, .slice none 0 0, .slice none 0 0, .slice none 0 0, .slice none 0 0], .int .i64 1]) (by simp [results, Try.results42, go_sem, *]) rfl (HF.out _ _ _ _ _ _ _)
set_option maxRecDepth 100000 in
set_option maxHeartbeats 3200000 in
theorem rtwo_ok {w : World} {X Y : Ar} (hX : X.Is w) (hY : Y.Is w) (l r : Int) (hl : -9223372036854775808 ≤ l ∧ l ≤ 9223372036854775807) (hr : -9223372036854775808 ≤ r ∧ r ≤ 9223372036854775807) (hm1 : amE X.s X.a = 0) (hm2 : amE Y.s Y.a = 0) (R : World → Ending → World → Prop)
    (hR1 : agE (onF X.s X.a l) (onF Y.s Y.a r) ≠ 0 → ∀ e w', TwoP w [] [] [] [] [] [] [] (agE (onF X.s X.a l) (onF Y.s Y.a r)) e w' → R w e w')
    (hR2 : agE (onF X.s X.a l) (onF Y.s Y.a r) = 0 → ∀ e w', TwoP w (agL (onF X.s X.a l) (onF Y.s Y.a r)) (onI X.s X.a l) (onZ X.s X.a l) (onI Y.s Y.a r) (onZ Y.s Y.a r) (onC X.s X.a l) (onC Y.s Y.a r) 0 e w' → R w e w') :
    Calls Try.prog 42 #[X.v, Y.v, .int .i64 l, .int .i64 r] w (R w) := by
  obtain ⟨sa, sn, sc, aa, an, ac, s, a⟩ := X
  obtain ⟨ta, tn, tc, ba, bn, bc, t, b⟩ := Y
  simp only [Ar.v] at *
  obtain ⟨W, HW⟩ : ∃ z, Hid (((w.alloc (.cells #[.slice sa sn sc, .slice aa an ac] 45)).alloc (.cells #[.slice ta tn tc, .slice ba bn bc] 45)).alloc (.cells #[.slice none 0 0, .slice none 0 0, .slice none 0 0, .slice none 0 0, .slice none 0 0, .slice none 0 0, .slice none 0 0] 105) = z) := ⟨_, rfl⟩
  have h1 := (((Sp.start Non w).alloc 45 2 1 #[.slice sa sn sc, .slice aa an ac] rfl (by decide)).alloc 45 2 1 #[.slice ta tn tc, .slice ba bn bc] rfl (by decide)).alloc 105 7 1 #[.slice none 0 0, .slice none 0 0, .slice none 0 0, .slice none 0 0, .slice none 0 0, .slice none 0 0, .slice none 0 0] rfl (by decide)
  rw [HW.out] at h1
  have H1_ := h1
  try simp only [List.cons_append, List.nil_append, List.set_cons_zero, List.set_cons_succ, List.map_cons, List.map_nil, List.getD_cons_zero, List.getD_cons_succ, World.size_alloc] at H1_
  have H1 := Lib.hid H1_
  clear H1_
  have HX := Lib.hid hX
  have HY := Lib.hid hY
  have HEO : Hid (onE s a = 0 ∧ onE t b = 0) := ⟨if_pos hm1, if_pos hm2⟩
  clear hm2
  have HR := Lib.hid (And.intro hR1 hR2)
  clear hR1 hR2
  have CO1 := Lib.hid (rone_any (hX.below H1.out.belowN (Nat.le_refl _)) l hl)
  simp only [Ar.v] at CO1
  rw [HEO.out.1] at CO1
  obtain ⟨f1, HF1⟩ : ∃ z, Hid (onF s a l = z) := ⟨_, rfl⟩
  obtain ⟨f2, HF2⟩ : ∃ z, Hid (onF t b r = z) := ⟨_, rfl⟩
  have HR1 := HR.out.1
  have HR2 := HR.out.2
  rw [HF1.out, HF2.out] at HR1 HR2
  have HRR := Lib.hid (And.intro HR1 HR2)
  rw [HF1.out] at CO1
  clear HR HR1 HR2
  have x0 := H1.out.cell (i := 0) rfl 0 _ rfl
  have x1 := H1.out.cell (i := 0) rfl 1 _ rfl
  clear hX hY hm1 h1
  go_enter Try.func42, Try.ntmps42
  go_wp2_with fail
  rw [HW.out]
  refine CO1.out.mono ?_; rintro e w4 ⟨fo, fn, fc, co, cn, cc, ⟨z1, z2, z3, z4, z5, z6, zs, zt⟩, As, rfl, h4, hA1, hB1, hB2⟩
  simp only at hB1 hB2
  have HC1 := Lib.hid (And.intro hA1 (And.intro hB1 hB2))
  have H4_ := (H1.out.add h4).alloc 74 4 1 #[.slice fo fn fc, .slice co cn cc, .slice z1 z2 z3, .slice z4 z5 z6] rfl (by decide)
  try simp only [List.cons_append, List.nil_append, List.set_cons_zero, List.set_cons_succ, List.map_cons, List.map_nil, List.getD_cons_zero, List.getD_cons_succ, World.size_alloc] at H4_
  have H4 := Lib.hid H4_
  clear H4_
  clear h4 hA1 hB1 hB2 x0 x1
  obtain ⟨W5, HW5⟩ : ∃ z, Hid (w4.alloc (.cells #[.slice fo fn fc, .slice co cn cc, .slice z1 z2 z3, .slice z4 z5 z6] 74) = z) := ⟨_, rfl⟩
  rw [HW5.out] at H4
  have x0 : (w4.alloc (.cells #[.slice fo fn fc, .slice co cn cc, .slice z1 z2 z3, .slice z4 z5 z6] 74)).cell? ⟨w.heap.size + 1, 0, none⟩ = some (.slice ta tn tc) := by rw [HW5.out]; exact H4.out.cell (i := 1) rfl 0 _ rfl
  have x1 : (w4.alloc (.cells #[.slice fo fn fc, .slice co cn cc, .slice z1 z2 z3, .slice z4 z5 z6] 74)).cell? ⟨w.heap.size + 1, 1, none⟩ = some (.slice ba bn bc) := by rw [HW5.out]; exact H4.out.cell (i := 1) rfl 1 _ rfl
  have CO2 := Lib.hid (rone_any (HY.out.below H4.out.belowN (Nat.le_refl _)) r hr)
  simp only [Ar.v] at CO2
  rw [HEO.out.2, HF2.out] at CO2
  go_wp2_with fail
  rw [HW5.out]
  refine CO2.out.mono ?_; rintro e w6 ⟨go, gn, gc, do_, dn, dc, ⟨y1, y2, y3, y4, y5, y6, ys, yt⟩, Bs, rfl, h6, hA2, hB3, hB4⟩
  simp only at hB3 hB4
  have HC2 := Lib.hid (And.intro hA2 (And.intro hB3 hB4))
  have H6_ := (H4.out.add h6).alloc 74 4 1 #[.slice go gn gc, .slice do_ dn dc, .slice y1 y2 y3, .slice y4 y5 y6] rfl (by decide)
  try simp only [List.cons_append, List.nil_append, List.set_cons_zero, List.set_cons_succ, List.map_cons, List.map_nil, List.getD_cons_zero, List.getD_cons_succ, World.size_alloc] at H6_
  have H6 := Lib.hid H6_
  clear H6_
  clear h6 hA2 hB3 hB4 x0 x1
  obtain ⟨W7, HW7⟩ : ∃ z, Hid (w6.alloc (.cells #[.slice go gn gc, .slice do_ dn dc, .slice y1 y2 y3, .slice y4 y5 y6] 74) = z) := ⟨_, rfl⟩
  rw [HW7.out] at H6
  have x0 : (w6.alloc (.cells #[.slice go gn gc, .slice do_ dn dc, .slice y1 y2 y3, .slice y4 y5 y6] 74)).cell? ⟨w4.heap.size, 0, none⟩ = some (.slice fo fn fc) := by rw [HW7.out]; exact H6.out.cell (i := 6) rfl 0 _ rfl
  have CG := Lib.hid (ragree_any (H6.out.ls (i := 3) rfl) (H6.out.ls (i := 7) rfl))
  obtain ⟨E, HE⟩ : ∃ z, Hid (agE f1 f2 = z) := ⟨_, rfl⟩
  obtain ⟨fg, HFG⟩ : ∃ z, Hid (agL f1 f2 = z) := ⟨_, rfl⟩
  rw [HE.out, HFG.out] at CG HRR
  go_wp2_with fail
  rw [HW7.out]
  refine CG.out.mono ?_; rintro e w8 ⟨vo, vn, vc, rfl, hL8, hO8, hb8⟩
  have H8_ := H6.out.intsNew hO8 hb8 hL8.big hL8.rng
  try simp only [List.cons_append, List.nil_append, List.set_cons_zero, List.set_cons_succ, List.map_cons, List.map_nil, List.getD_cons_zero, List.getD_cons_succ, World.size_alloc] at H8_
  have H8 := Lib.hid H8_
  clear H8_
  clear hL8 hO8 hb8 x0
  have p0 := H8.out.cell (i := 2) rfl 0 _ rfl
  have f0' := H8.out.frozen (i := 2) rfl 0
  have p1 := H8.out.cell (i := 2) rfl 1 _ rfl
  have f1' := H8.out.frozen (i := 2) rfl 1
  have p2 := H8.out.cell (i := 2) rfl 2 _ rfl
  have f2' := H8.out.frozen (i := 2) rfl 2
  have p3 := H8.out.cell (i := 2) rfl 3 _ rfl
  have f3' := H8.out.frozen (i := 2) rfl 3
  have p4 := H8.out.cell (i := 2) rfl 4 _ rfl
  have f4' := H8.out.frozen (i := 2) rfl 4
  have p5 := H8.out.cell (i := 2) rfl 5 _ rfl
  have f5' := H8.out.frozen (i := 2) rfl 5
  have p6 := H8.out.cell (i := 2) rfl 6 _ rfl
  have f6' := H8.out.frozen (i := 2) rfl 6
  by_cases he : E = 0
  · subst he
    have r1 := H8.out.cell (i := 6) rfl 1 _ rfl
    have s1 := H8.out.cell (i := 10) rfl 1 _ rfl
    have r2 := H8.out.cell (i := 6) rfl 2 _ rfl
    have s2 := H8.out.cell (i := 10) rfl 2 _ rfl
    have r3 := H8.out.cell (i := 6) rfl 3 _ rfl
    have s3 := H8.out.cell (i := 10) rfl 3 _ rfl
    have HF : Hid (R w (.returned (.tuple #[.agg #[.slice vo vn vc, .slice co cn cc, .slice do_ dn dc, .slice z1 z2 z3, .slice z4 z5 z6, .slice y1 y2 y3, .slice y4 y5 y6], .int .i64 0])) (((((((w8.setCell ⟨w.heap.size + 1 + 1, 0, none⟩ (.slice vo vn vc)).setCell ⟨w.heap.size + 1 + 1, 1, none⟩ (.slice co cn cc)).setCell ⟨w.heap.size + 1 + 1, 2, none⟩ (.slice do_ dn dc)).setCell ⟨w.heap.size + 1 + 1, 3, none⟩ (.slice z1 z2 z3)).setCell ⟨w.heap.size + 1 + 1, 4, none⟩ (.slice z4 z5 z6)).setCell ⟨w.heap.size + 1 + 1, 5, none⟩ (.slice y1 y2 y3)).setCell ⟨w.heap.size + 1 + 1, 6, none⟩ (.slice y4 y5 y6))) := by
      have h := (((((((H8.out.put (i := 2) rfl 0 (.slice vo vn vc)).put (i := 2) rfl 1 (.slice co cn cc)).put (i := 2) rfl 2 (.slice do_ dn dc)).put (i := 2) rfl 3 (.slice z1 z2 z3)).put (i := 2) rfl 4 (.slice z4 z5 z6)).put (i := 2) rfl 5 (.slice y1 y2 y3)).put (i := 2) rfl 6 (.slice y4 y5 y6)).pick [11, 4, 8, 5, 9] (by decide)
      exact HRR.out.2 rfl _ _ ⟨_, _, _, _, _, _, _, _, _, ⟨z1, z2, z3, z4, z5, z6, zs, zt⟩, ⟨y1, y2, y3, y4, y5, y6, ys, yt⟩, As, Bs, rfl, h, HC1.out.1, HC2.out.1, HC1.out.2.1, HC1.out.2.2, HC2.out.2.1, HC2.out.2.2⟩
    go_wp2
    exact bodyPost_ret (v := .tuple #[.agg #[.slice vo vn vc, .slice co cn cc, .slice do_ dn dc, .slice z1 z2 z3, .slice z4 z5 z6, .slice y1 y2 y3, .slice y4 y5 y6], .int .i64 0]) (by simp [results, Try.results42, go_sem, *]) rfl HF.out
  · have q0 : (E != 0) = true := by simpa using he
    have HF : Hid (∀ u0 u1 u2 u3 u4 u5 u6, R w (.returned (.tuple #[.agg #[.slice none 0 0, .slice none 0 0, .slice none 0 0, .slice none 0 0, .slice none 0 0, .slice none 0 0, .slice none 0 0], .int .i64 E])) (((((((w8.setCell ⟨w.heap.size + 1 + 1, 0, none⟩ u0).setCell ⟨w.heap.size + 1 + 1, 1, none⟩ u1).setCell ⟨w.heap.size + 1 + 1, 2, none⟩ u2).setCell ⟨w.heap.size + 1 + 1, 3, none⟩ u3).setCell ⟨w.heap.size + 1 + 1, 4, none⟩ u4).setCell ⟨w.heap.size + 1 + 1, 5, none⟩ u5).setCell ⟨w.heap.size + 1 + 1, 6, none⟩ u6)) := fun u0 u1 u2 u3 u4 u5 u6 =>
      HRR.out.1 he _ _ (twoP_nil (((((((H8.out.put (i := 2) rfl 0 u0).put (i := 2) rfl 1 u1).put (i := 2) rfl 2 u2).put (i := 2) rfl 3 u3).put (i := 2) rfl 4 u4).put (i := 2) rfl 5 u5).put (i := 2) rfl 6 u6).belowN E)
    go_wp2
    exact bodyPost_ret (v := .tuple #[.agg #[.slice none 0 0, .slice none 0 0, .slice none 0 0, .slice none 0 0, .slice none 0 0, .slice none 0 0, .slice none 0 0], .int .i64 E]) (by simp [results, Try.results42, go_sem, *]) rfl (HF.out _ _ _ _ _ _ _)
theorem rtwo_any {w : World} {X Y : Ar} (hX : X.Is w) (hY : Y.Is w) (l r : Int) (hl : -9223372036854775808 ≤ l ∧ l ≤ 9223372036854775807) (hr : -9223372036854775808 ≤ r ∧ r ≤ 9223372036854775807) :
    Calls Try.prog 42 #[X.v, Y.v, .int .i64 l, .int .i64 r] w (TwoP w (tw0 (twE X.s X.a Y.s Y.a l r) (agL (onF X.s X.a l) (onF Y.s Y.a r))) (tw0 (twE X.s X.a Y.s Y.a l r) (onI X.s X.a l)) (tw0 (twE X.s X.a Y.s Y.a l r) (onZ X.s X.a l)) (tw0 (twE X.s X.a Y.s Y.a l r) (onI Y.s Y.a r)) (tw0 (twE X.s X.a Y.s Y.a l r) (onZ Y.s Y.a r)) (tw0 (twE X.s X.a Y.s Y.a l r) (onC X.s X.a l)) (tw0 (twE X.s X.a Y.s Y.a l r) (onC Y.s Y.a r)) (twE X.s X.a Y.s Y.a l r)) := by
  by_cases hm1 : amE X.s X.a = 0
  · by_cases hm2 : amE Y.s Y.a = 0
    · have e : twE X.s X.a Y.s Y.a l r = agE (onF X.s X.a l) (onF Y.s Y.a r) := by unfold twE; rw [if_pos ⟨hm1, hm2⟩]
      rw [e]
      refine rtwo_ok hX hY l r hl hr hm1 hm2 (fun w => TwoP w _ _ _ _ _ _ _ _) (fun h e w' H => ?_) (fun h e w' H => ?_)
      · simp only [tw0, if_neg h]; exact H
      · simp only [tw0, if_pos h]; rw [h]; exact H
    · have e : twE X.s X.a Y.s Y.a l r = 1 := by unfold twE; rw [if_neg (fun h => hm2 h.2)]
      rw [e]
      simp only [tw0, if_neg (show ¬ (1 : Int) = 0 by decide)]
      exact rtwo_b2 hX hY l r hl hr hm1 hm2
  · have e : twE X.s X.a Y.s Y.a l r = 1 := by unfold twE; rw [if_neg (fun h => hm1 h.1)]
    rw [e]
    simp only [tw0, if_neg (show ¬ (1 : Int) = 0 by decide)]
    exact rtwo_b1 hX hY l r hl hr hm1
end Go.Proofs.Ythackmkdicpdeaa
