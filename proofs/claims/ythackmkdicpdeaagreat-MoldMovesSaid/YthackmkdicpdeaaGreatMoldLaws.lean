/- Contracts of abacuslaw6's may, does, then and both. -/
import Derived.Test.YthackmkdicpdeaaGreatMoldBegun
namespace Go.Proofs.YthackmkdicpdeaaGreat
open Go.RowKit Go.Lib
set_option linter.unusedVariables false
set_option linter.unusedSimpArgs false
attribute [local go_sem] alloc_drewN setCell_drewN
set_option maxRecDepth 100000 in
set_option maxHeartbeats 800000 in
theorem may6_any {w : World} {Y : Ar} (hY : Y.Is w) : Calls Tryz.prog 22 #[Y.v] w (RetB w (.bool (decide (amE Y.s Y.a = 0)))) := by
  obtain ⟨ta, tn, tc, ba, bn, bc, t, b⟩ := Y
  simp only [Ar.v]
  have H0 := (Sp.start Non w).alloc 38 2 1 #[.slice ta tn tc, .slice ba bn bc] rfl (by decide)
  obtain ⟨W, HW⟩ : ∃ z, Hid (w.alloc (.cells #[.slice ta tn tc, .slice ba bn bc] 38) = z) := ⟨_, rfl⟩
  rw [HW.out] at H0
  have H1_ := H0
  try simp only [List.cons_append, List.nil_append, List.set_cons_zero, List.set_cons_succ, List.map_cons, List.map_nil, List.getD_cons_zero, List.getD_cons_succ, World.size_alloc] at H1_
  have H1 := Lib.hid H1_
  clear H1_
  obtain ⟨g, HG⟩ : ∃ z, Hid (w.heap.size = z) := ⟨_, rfl⟩
  rw [HG.out] at H1
  have C := Lib.hid (size_any (hY.shp.below H1.out.belowN (Nat.le_refl _)))
  simp only at C
  have y0 := H1.out.cell (i := 0) rfl 0 _ rfl
  have y1 := H1.out.cell (i := 0) rfl 1 _ rfl
  have hbl : b.length = bn := hY.ats.len
  have HB := Lib.hid H1.out.belowN
  have HF : Hid (decide (amE t b = 0) = (decide (mayE t = 0) && decide (szE t = bn))) := by
    show _ = _
    unfold amE szE
    by_cases h : mayE t = 0
    · by_cases h2 : pr t = bn
      · simp [h, h2, hbl]
      · simp [h, h2, hbl]
    · simp [h]
  rw [HF.out]
  obtain ⟨m, HM⟩ : ∃ z, Hid (mayE t = z) := ⟨_, rfl⟩
  obtain ⟨sz, HS⟩ : ∃ z, Hid (szE t = z) := ⟨_, rfl⟩
  rw [HM.out, HS.out] at C ⊢
  clear hY H0 H1 hbl HF
  by_cases hm : m = 0
  · have q0 : (m == 0) = true := by simpa using hm
    by_cases h2 : sz = bn
    · have q1 : (sz == (bn : Int)) = true := by simpa using h2
      have e : (decide (m = 0) && decide (sz = (bn : Int))) = true := by simp [hm, h2]
      rw [e]
      clear hm h2
      go_enter Tryz.func22, Tryz.ntmps22
      go_wp2_with fail
      rw [HW.out, HG.out]
      refine C.out.mono ?_; rintro e w' ⟨rfl, hw'⟩
      have hw'' := hw'.symm
      subst hw''
      go_wp2
      go_ret
      exact RetB.mk rfl HB.out
    · have q1 : (sz == (bn : Int)) = false := by simpa using h2
      have e : (decide (m = 0) && decide (sz = (bn : Int))) = false := by simp [hm, h2]
      rw [e]
      clear hm h2
      go_enter Tryz.func22, Tryz.ntmps22
      go_wp2_with fail
      rw [HW.out, HG.out]
      refine C.out.mono ?_; rintro e w' ⟨rfl, hw'⟩
      have hw'' := hw'.symm
      subst hw''
      go_wp2
      go_ret
      exact RetB.mk rfl HB.out
  · have q0 : (m == 0) = false := by simpa using hm
    have e : (decide (m = 0) && decide (sz = (bn : Int))) = false := by simp [hm]
    rw [e]
    clear hm
    go_enter Tryz.func22, Tryz.ntmps22
    go_wp2_with fail
    rw [HW.out, HG.out]
    refine C.out.mono ?_; rintro e w' ⟨rfl, hw'⟩
    have hw'' := hw'.symm
    subst hw''
    go_wp2
    go_ret
    exact RetB.mk rfl HB.out
set_option maxRecDepth 100000 in
set_option maxHeartbeats 1600000 in
theorem does_true {w : World} {Y Z : Ar} (hZ : Z.Is w) {op : Int} {s a : List Int} (hs : s = Z.s) (ha : a = Z.a) (hC : ∀ W, Below w.heap.size w W → Calls Tryz.prog 23 #[.int .i64 op, Y.v] W (MadeE W s a 0)) :
    Calls Tryz.prog 25 #[.int .i64 op, Y.v, Z.v] w (RetB w (.bool true)) := by
  obtain ⟨ta, tn, tc, ba, bn, bc, t, b⟩ := Y
  obtain ⟨za, zn, zc, xa, xn, xc, zs, zt⟩ := Z
  simp only [Ar.v] at hC ⊢
  simp only at hs ha
  subst hs ha
  have h0 := ((Sp.start Non w).alloc 38 2 1 #[.slice ta tn tc, .slice ba bn bc] rfl (by decide)).alloc 38 2 1 #[.slice za zn zc, .slice xa xn xc] rfl (by decide)
  obtain ⟨W, HW⟩ : ∃ z, Hid ((w.alloc (.cells #[.slice ta tn tc, .slice ba bn bc] 38)).alloc (.cells #[.slice za zn zc, .slice xa xn xc] 38) = z) := ⟨_, rfl⟩
  rw [HW.out] at h0
  have H1_ := h0
  try simp only [List.cons_append, List.nil_append, List.set_cons_zero, List.set_cons_succ, List.map_cons, List.map_nil, List.getD_cons_zero, List.getD_cons_succ, World.size_alloc] at H1_
  have H1 := Lib.hid H1_
  clear H1_
  have C1 := Lib.hid (hC W H1.out.belowN)
  have HZ := Lib.hid hZ
  have y0 := H1.out.cell (i := 0) rfl 0 _ rfl
  have y1 := H1.out.cell (i := 0) rfl 1 _ rfl
  clear h0 hC hZ
  go_enter Tryz.func25, Tryz.ntmps25
  go_wp2_with fail
  rw [HW.out]
  refine C1.out.mono ?_; rintro e w2 ⟨⟨c1, c2, c3, c4, c5, c6, cs, ct⟩, rfl, hI, hs, ha, hO, hb⟩
  simp only at hs ha
  subst hs ha
  simp only [Ar.v]
  have h2 := (H1.out.arrNew hI hO hb).alloc 38 2 1 #[.slice c1 c2 c3, .slice c4 c5 c6] rfl (by decide)
  obtain ⟨W2, HW2⟩ : ∃ z, Hid (w2.alloc (.cells #[.slice c1 c2 c3, .slice c4 c5 c6] 38) = z) := ⟨_, rfl⟩
  rw [HW2.out] at h2
  have H2_ := h2
  try simp only [List.cons_append, List.nil_append, List.set_cons_zero, List.set_cons_succ, List.map_cons, List.map_nil, List.getD_cons_zero, List.getD_cons_succ, World.size_alloc] at H2_
  have H2 := Lib.hid H2_
  clear H2_
  have ce := eq4_any (H2.out.isA (i := 2) rfl) (HZ.out.below H2.out.belowN (Nat.le_refl _))
  rw [decide_eq_true ⟨rfl, rfl⟩] at ce
  simp only [Ar.v] at ce
  have CE := Lib.hid ce
  have x0 : (w2.alloc (.cells #[.slice c1 c2 c3, .slice c4 c5 c6] 38)).cell? ⟨w.heap.size + 1, 0, none⟩ = some (.slice za zn zc) := by rw [HW2.out]; exact H2.out.cell (i := 1) rfl 0 _ rfl
  have x1 : (w2.alloc (.cells #[.slice c1 c2 c3, .slice c4 c5 c6] 38)).cell? ⟨w.heap.size + 1, 1, none⟩ = some (.slice xa xn xc) := by rw [HW2.out]; exact H2.out.cell (i := 1) rfl 1 _ rfl
  clear y0 y1 hI hO hb h2 ce C1 H1
  go_wp2_with fail
  rw [HW2.out]
  refine CE.out.mono ?_; rintro e w3 ⟨rfl, hb⟩
  have HB := Lib.hid (H2.out.via hb).belowN
  clear hb CE H2 x0 x1
  go_wp2
  go_ret
  exact RetB.mk rfl HB.out
set_option maxRecDepth 100000 in
set_option maxHeartbeats 1600000 in
theorem both_true {w : World} {X Y Z : Ar} (hZ : Z.Is w) {op : Int} {s a : List Int} (hs : s = Z.s) (ha : a = Z.a) (hC : ∀ W, Below w.heap.size w W → Calls Tryz.prog 29 #[.int .i64 op, X.v, Y.v] W (MadeE W s a 0)) :
    Calls Tryz.prog 27 #[.int .i64 op, X.v, Y.v, Z.v] w (RetB w (.bool true)) := by
  obtain ⟨sa, sn, sc, aa, an, ac, s0, a0⟩ := X
  obtain ⟨ta, tn, tc, ba, bn, bc, t, b⟩ := Y
  obtain ⟨za, zn, zc, xa, xn, xc, zs, zt⟩ := Z
  simp only [Ar.v] at hC ⊢
  simp only at hs ha
  subst hs ha
  have h0 := (((Sp.start Non w).alloc 38 2 1 #[.slice sa sn sc, .slice aa an ac] rfl (by decide)).alloc 38 2 1 #[.slice ta tn tc, .slice ba bn bc] rfl (by decide)).alloc 38 2 1 #[.slice za zn zc, .slice xa xn xc] rfl (by decide)
  obtain ⟨W, HW⟩ : ∃ z, Hid (((w.alloc (.cells #[.slice sa sn sc, .slice aa an ac] 38)).alloc (.cells #[.slice ta tn tc, .slice ba bn bc] 38)).alloc (.cells #[.slice za zn zc, .slice xa xn xc] 38) = z) := ⟨_, rfl⟩
  rw [HW.out] at h0
  have H1_ := h0
  try simp only [List.cons_append, List.nil_append, List.set_cons_zero, List.set_cons_succ, List.map_cons, List.map_nil, List.getD_cons_zero, List.getD_cons_succ, World.size_alloc] at H1_
  have H1 := Lib.hid H1_
  clear H1_
  have C1 := Lib.hid (hC W H1.out.belowN)
  have HZ := Lib.hid hZ
  have y0 := H1.out.cell (i := 0) rfl 0 _ rfl
  have y1 := H1.out.cell (i := 0) rfl 1 _ rfl
  have y2 := H1.out.cell (i := 1) rfl 0 _ rfl
  have y3 := H1.out.cell (i := 1) rfl 1 _ rfl
  clear h0 hC hZ
  go_enter Tryz.func27, Tryz.ntmps27
  go_wp2_with fail
  rw [HW.out]
  refine C1.out.mono ?_; rintro e w2 ⟨⟨c1, c2, c3, c4, c5, c6, cs, ct⟩, rfl, hI, hs, ha, hO, hb⟩
  simp only at hs ha
  subst hs ha
  simp only [Ar.v]
  have h2 := (H1.out.arrNew hI hO hb).alloc 38 2 1 #[.slice c1 c2 c3, .slice c4 c5 c6] rfl (by decide)
  obtain ⟨W2, HW2⟩ : ∃ z, Hid (w2.alloc (.cells #[.slice c1 c2 c3, .slice c4 c5 c6] 38) = z) := ⟨_, rfl⟩
  rw [HW2.out] at h2
  have H2_ := h2
  try simp only [List.cons_append, List.nil_append, List.set_cons_zero, List.set_cons_succ, List.map_cons, List.map_nil, List.getD_cons_zero, List.getD_cons_succ, World.size_alloc] at H2_
  have H2 := Lib.hid H2_
  clear H2_
  have ce := eq4_any (H2.out.isA (i := 3) rfl) (HZ.out.below H2.out.belowN (Nat.le_refl _))
  rw [decide_eq_true ⟨rfl, rfl⟩] at ce
  simp only [Ar.v] at ce
  have CE := Lib.hid ce
  have x0 : (w2.alloc (.cells #[.slice c1 c2 c3, .slice c4 c5 c6] 38)).cell? ⟨w.heap.size + 1 + 1, 0, none⟩ = some (.slice za zn zc) := by rw [HW2.out]; exact H2.out.cell (i := 2) rfl 0 _ rfl
  have x1 : (w2.alloc (.cells #[.slice c1 c2 c3, .slice c4 c5 c6] 38)).cell? ⟨w.heap.size + 1 + 1, 1, none⟩ = some (.slice xa xn xc) := by rw [HW2.out]; exact H2.out.cell (i := 2) rfl 1 _ rfl
  clear y0 y1 y2 y3 hI hO hb h2 ce C1 H1
  go_wp2_with fail
  rw [HW2.out]
  refine CE.out.mono ?_; rintro e w3 ⟨rfl, hb⟩
  have HB := Lib.hid (H2.out.via hb).belowN
  clear hb CE H2 x0 x1
  go_wp2
  go_ret
  exact RetB.mk rfl HB.out
/-- What one verb behind another one gives. -/
def ThenP (w : World) (s a : List Int) (e : Ending) (w' : World) : Prop := ∃ B : Ar, e = .returned (.tuple #[B.v, .bool true]) ∧ Sp Non w w' [Pt.arr B] ∧ B.s = s ∧ B.a = a
set_option maxRecDepth 100000 in
set_option maxHeartbeats 1600000 in
theorem then_ok {w : World} {Y : Ar} {o1 o2 : Int} {s1 a1 s2 a2 : List Int} (hC1 : ∀ W, Below w.heap.size w W → Calls Tryz.prog 23 #[.int .i64 o1, Y.v] W (MadeE W s1 a1 0))
    (hC2 : ∀ (W : World) (B : Ar), B.Is W → B.s = s1 → B.a = a1 → Calls Tryz.prog 23 #[.int .i64 o2, B.v] W (MadeE W s2 a2 0)) :
    Calls Tryz.prog 24 #[.int .i64 o2, .int .i64 o1, Y.v] w (ThenP w s2 a2) := by
  obtain ⟨ta, tn, tc, ba, bn, bc, t, b⟩ := Y
  simp only [Ar.v] at hC1 ⊢
  have h0 := ((Sp.start Non w).alloc 38 2 1 #[.slice ta tn tc, .slice ba bn bc] rfl (by decide)).alloc 38 2 1 #[.slice none 0 0, .slice none 0 0] rfl (by decide)
  obtain ⟨W, HW⟩ : ∃ z, Hid ((w.alloc (.cells #[.slice ta tn tc, .slice ba bn bc] 38)).alloc (.cells #[.slice none 0 0, .slice none 0 0] 38) = z) := ⟨_, rfl⟩
  rw [HW.out] at h0
  have H1_ := h0
  try simp only [List.cons_append, List.nil_append, List.set_cons_zero, List.set_cons_succ, List.map_cons, List.map_nil, List.getD_cons_zero, List.getD_cons_succ, World.size_alloc] at H1_
  have H1 := Lib.hid H1_
  clear H1_
  have C1 := Lib.hid (hC1 W H1.out.belowN)
  have HC2 := Lib.hid hC2
  have y0 := H1.out.cell (i := 0) rfl 0 _ rfl
  have y1 := H1.out.cell (i := 0) rfl 1 _ rfl
  clear h0 hC1 hC2
  go_enter Tryz.func24, Tryz.ntmps24
  go_wp2_with fail
  rw [HW.out]
  refine C1.out.mono ?_; rintro e w2 ⟨⟨c1, c2, c3, c4, c5, c6, cs, ct⟩, rfl, hI, hs, ha, hO, hb⟩
  simp only at hs ha
  have h2 := (H1.out.arrNew hI hO hb).alloc 38 2 1 #[.slice c1 c2 c3, .slice c4 c5 c6] rfl (by decide)
  simp only [Ar.v]
  obtain ⟨W2, HW2⟩ : ∃ z, Hid (w2.alloc (.cells #[.slice c1 c2 c3, .slice c4 c5 c6] 38) = z) := ⟨_, rfl⟩
  rw [HW2.out] at h2
  have H2_ := h2
  try simp only [List.cons_append, List.nil_append, List.set_cons_zero, List.set_cons_succ, List.map_cons, List.map_nil, List.getD_cons_zero, List.getD_cons_succ, World.size_alloc] at H2_
  have H2 := Lib.hid H2_
  clear H2_
  have c2' := HC2.out W2 _ (H2.out.isA (i := 2) rfl) hs ha
  simp only [Ar.v] at c2'
  have C2 := Lib.hid c2'
  clear y0 y1 hI hO hb h2 c2' C1 H1 hs ha HC2
  go_wp2_with fail
  rw [HW2.out]
  refine C2.out.mono ?_; rintro e w3 ⟨⟨d1, d2, d3, d4, d5, d6, ds, dt⟩, rfl, hI, hs, ha, hO, hb⟩
  simp only at hs ha
  have h3 := (H2.out.arrNew hI hO hb).alloc 38 2 1 #[.slice d1 d2 d3, .slice d4 d5 d6] rfl (by decide)
  simp only [Ar.v]
  obtain ⟨W3, HW3⟩ : ∃ z, Hid (w3.alloc (.cells #[.slice d1 d2 d3, .slice d4 d5 d6] 38) = z) := ⟨_, rfl⟩
  rw [HW3.out] at h3
  have H3_ := h3
  try simp only [List.cons_append, List.nil_append, List.set_cons_zero, List.set_cons_succ, List.map_cons, List.map_nil, List.getD_cons_zero, List.getD_cons_succ, World.size_alloc] at H3_
  have H3 := Lib.hid H3_
  clear H3_
  have x0 := H3.out.cell (i := 1) rfl 0 _ rfl
  have x1 := H3.out.cell (i := 1) rfl 1 _ rfl
  have f0 := H3.out.frozen (i := 1) rfl 0
  have f1 := H3.out.frozen (i := 1) rfl 1
  have q0 := H3.out.cell (i := 5) rfl 0 _ rfl
  have q1 := H3.out.cell (i := 5) rfl 1 _ rfl
  have HF : Hid (∀ u v, ThenP w s2 a2 (.returned (.tuple #[.agg #[.slice d1 d2 d3, .slice d4 d5 d6], .bool true])) ((W3.setCell ⟨w.heap.size + 1, 0, none⟩ u).setCell ⟨w.heap.size + 1, 1, none⟩ v)) := fun u v =>
    ⟨⟨d1, d2, d3, d4, d5, d6, ds, dt⟩, rfl, ((H3.out.put (i := 1) rfl 0 u).put (i := 1) rfl 1 v).pick [4] (by decide), hs, ha⟩
  clear hI hO hb h3 C2 H2 hs ha H3
  go_upto_region 3 with fail
  rw [HW3.out]
  go_wp2
  exact bodyPost_ret (v := .tuple #[.agg #[.slice d1 d2 d3, .slice d4 d5 d6], .bool true]) (by simp [results, Tryz.results24, go_sem, *]) rfl (HF.out _ _)
end Go.Proofs.YthackmkdicpdeaaGreat
