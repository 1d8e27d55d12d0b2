/- The walk of MoldEnds (printed by gen_ends.py). -/
import Derived.Test.YthackmkdicpdeaaGreatMoldCutsP
import Derived.Test.YthackmkdicpdeaaGreatMoldLaws
import Derived.Deep.RegionHeld3
import Derived.Deep.Cut
import Derived.RowKit3
namespace Go.Proofs.YthackmkdicpdeaaGreat
open Go.RowKit Go.Lib
set_option linter.unusedVariables false
set_option linter.unusedSimpArgs false
attribute [local go_sem] alloc_drewN setCell_drewN
set_option maxRecDepth 100000 in
set_option maxHeartbeats 6400000 in
theorem walkMoldEnds_no {w : World} {Y : Ar} (hY : Y.Is w) (h : amE Y.s Y.a ≠ 0 ∨ amE Y.s Y.a = 0 ∧ (Y.s.length = 0 ∨ Y.s.length ≠ 0 ∧ Y.s.getD 0 0 = 0)) :
    Calls Tryz.prog 6 #[Y.v] w (RetB w (.bool true)) := by
  have hl := hY.shp.len
  obtain ⟨ta, tn, tc, ba, bn, bc, t, b⟩ := Y
  simp only [Ar.v]
  simp only at h hl
  have h0 := (Sp.start Non w).alloc 38 2 1 #[.slice ta tn tc, .slice ba bn bc] rfl (by decide)
  obtain ⟨W, HW⟩ : ∃ z, Hid (w.alloc (.cells #[.slice ta tn tc, .slice ba bn bc] 38) = z) := ⟨_, rfl⟩
  rw [HW.out] at h0
  have H1_ := h0
  try simp only [List.cons_append, List.nil_append, List.set_cons_zero, List.set_cons_succ, List.map_cons, List.map_nil, List.getD_cons_zero, List.getD_cons_succ, World.size_alloc] at H1_
  have H1 := Lib.hid H1_
  clear H1_
  have CB := Lib.hid (begun6_any W)
  have HY := Lib.hid hY
  have HM := Lib.hid h
  have HL := Lib.hid hl
  clear hY h h0 hl
  go_enter Tryz.func6, Tryz.ntmps6
  go_wp2_with fail
  rw [HW.out]
  refine CB.out.mono ?_; rintro e w2 ⟨rfl, hb⟩
  have H2_ := H1.out.via hb
  try simp only [List.cons_append, List.nil_append, List.set_cons_zero, List.set_cons_succ, List.map_cons, List.map_nil, List.getD_cons_zero, List.getD_cons_succ, World.size_alloc] at H2_
  have H2 := Lib.hid H2_
  clear H2_
  have cm := may6_any (HY.out.below H2.out.belowN (Nat.le_refl _))
  simp only [Ar.v] at cm
  obtain ⟨q, HQ⟩ : ∃ z, Hid (decide (amE t b = 0) = z) := ⟨_, rfl⟩
  rw [HQ.out] at cm
  have CM := Lib.hid cm
  have y0 := H2.out.cell (i := 0) rfl 0 _ rfl
  have y1 := H2.out.cell (i := 0) rfl 1 _ rfl
  clear hb cm CB H1
  go_upto_region 3 with fail
  have h9 := HM.out
  rcases h9 with h9 | ⟨h8, h9⟩
  · obtain rfl : q = false := by rw [← HQ.out]; exact decide_eq_false h9
    clear h9
    go_wp2_with fail
    refine CM.out.mono ?_; rintro e w3 ⟨rfl, hb⟩
    have HB := Lib.hid (H2.out.via hb).belowN
    clear hb H2 y0 y1
    go_wp2
    go_ret
    exact RetB.mk rfl HB.out
  · obtain rfl : q = true := by rw [← HQ.out]; exact decide_eq_true h8
    clear h8
    rcases h9 with h9 | ⟨h8, h9⟩
    · obtain rfl : tn = 0 := by have := HL.out; omega
      clear h9
      go_wp2_with fail
      refine CM.out.mono ?_; rintro e w3 ⟨rfl, hb⟩
      have HB := Lib.hid (H2.out.via hb).belowN
      have z0 := (H2.out.via hb).cell (i := 0) rfl 0 _ rfl
      have z1 := (H2.out.via hb).cell (i := 0) rfl 1 _ rfl
      clear hb H2 y0 y1
      go_wp2
      go_ret
      exact RetB.mk rfl HB.out
    · have hp : 0 < tn := by have := HL.out; omega
      have hp' : (0 : Int) < tn := by omega
      have k5 : ((tn : Int) == 0) = false := by simp; omega
      obtain ⟨b3, o3, e3, hc3⟩ := HY.out.shp.at (by simp only; omega)
      have d3 := hc3 0 (by simp only; omega)
      simp only [Nat.add_zero] at e3 d3
      have hlt3 : b3 < w.heap.size := World.block_lt_of_cell? w _ d3
      subst e3
      rw [h9] at d3
      have HD3 := Lib.hid (fun (w9 : World) (hb : Below w.heap.size w w9) => (hb.cell (p := ⟨b3, o3, none⟩) hlt3).trans d3)
      clear h8 h9 hc3 d3 hlt3
      go_wp2_with fail
      refine CM.out.mono ?_; rintro e w3 ⟨rfl, hb⟩
      have HB := Lib.hid (H2.out.via hb).belowN
      have z0 := (H2.out.via hb).cell (i := 0) rfl 0 _ rfl
      have z1 := (H2.out.via hb).cell (i := 0) rfl 1 _ rfl
      have z2 := HD3.out _ HB.out
      clear hb H2 y0 y1
      go_wp2
      go_ret
      exact RetB.mk rfl HB.out
set_option maxRecDepth 100000 in
set_option maxHeartbeats 12800000 in
theorem walkMoldEnds_ok {w : World} {Y : Ar} (hY : Y.Is w) (hm : amE Y.s Y.a = 0) (hl0 : Y.s.length ≠ 0) (hk0 : Y.s.getD 0 0 ≠ 0) :
    Calls Tryz.prog 6 #[Y.v] w (RetB w (.bool true)) := by
  obtain ⟨q1, q2, q3, q4, q5, q6, q7, q8, r1, r2, r3, r4, r5, r6, r7, r8, r9⟩ := ends_plain hm hl0 hk0
  have hl := hY.shp.len
  have CT1 : Hid (∀ W, Below w.heap.size w W → Calls Tryz.prog 24 #[.int .i64 26, .int .i64 28, Y.v] W (ThenP W (1 :: Y.s.tail) (mdA (1 :: Y.s.tail) (enA Y.s Y.a 0)))) := fun W hb =>
    then_ok (s1 := Y.s.tail) (a1 := enA Y.s Y.a 0) (fun W2 hb2 => m_head (hY.below (hb.trans (hb2.mono hb.size)) (Nat.le_refl _)) hm)
      (fun W2 B hB e1 e2 => by
        have h := m_item hB (by rw [e1, e2]; exact r8)
        rw [e1, e2, q4, q1] at h; exact h)
  have CT2 : Hid (∀ W, Below w.heap.size w W → Calls Tryz.prog 24 #[.int .i64 26, .int .i64 30, Y.v] W (ThenP W (1 :: Y.s.tail) (mdA (1 :: Y.s.tail) (enA Y.s Y.a (-1))))) := fun W hb =>
    then_ok (s1 := Y.s.tail) (a1 := enA Y.s Y.a (-1)) (fun W2 hb2 => m_last (hY.below (hb.trans (hb2.mono hb.size)) (Nat.le_refl _)) hm)
      (fun W2 B hB e1 e2 => by
        have h := m_item hB (by rw [e1, e2]; exact r9)
        rw [e1, e2, q4, q1] at h; exact h)
  have CM1 : Hid (∀ W, Below w.heap.size w W → Calls Tryz.prog 23 #[.int .i64 29, Y.v] W (MadeE W (paS Y.s Y.a 1) (paA Y.s Y.a 1) 0)) := fun W hb => by
    have h := m_rest (hY.below hb (Nat.le_refl _)) hm
    rw [q2] at h; exact h
  have CM2 : Hid (∀ W, Below w.heap.size w W → Calls Tryz.prog 23 #[.int .i64 31, Y.v] W (MadeE W (paS Y.s Y.a 0) (paA Y.s Y.a 0) 0)) := fun W hb => by
    have h := m_front (hY.below hb (Nat.le_refl _)) hm
    rw [q3] at h; exact h
  have CDT : Hid (∀ (W : World) (Z : Ar), Below w.heap.size w W → Z.Is W → Z.s = [] → Z.a = [Y.s.getD 0 0] → Calls Tryz.prog 25 #[.int .i64 22, Y.v, Z.v] W (RetB W (.bool true))) := fun W Z hb hZ hs ha =>
    does_true hZ hs.symm ha.symm fun W2 hb2 => by
      have h := m_tally (hY.below (hb.trans (hb2.mono hb.size)) (Nat.le_refl _)) hm
      rw [r7] at h; exact h
  have CB1 : Hid (∀ (W : World) (P Q : Ar), Below w.heap.size w W → P.Is W → Q.Is W → P.s = 1 :: Y.s.tail ∧ P.a = mdA (1 :: Y.s.tail) (enA Y.s Y.a 0) → Q.s = paS Y.s Y.a 1 ∧ Q.a = paA Y.s Y.a 1 → Calls Tryz.prog 27 #[.int .i64 24, P.v, Q.v, Y.v] W (RetB W (.bool true))) := fun W P Q hb hP hQ e1 e2 =>
    both_true (X := P) (Y := Q) (Z := Y) (hY.below hb (Nat.le_refl _)) rfl rfl fun W2 hb2 => by
      have h := d_behind (hP.below hb2 (Nat.le_refl _)) (hQ.below hb2 (Nat.le_refl _)) (by rw [e1.1, e1.2]; exact q5) (by rw [e2.1, e2.2]; exact q7)
      rw [e1.1, e1.2, e2.1, e2.2, r1, r2, r3] at h; exact h
  have CB2 : Hid (∀ (W : World) (P Q : Ar), Below w.heap.size w W → P.Is W → Q.Is W → P.s = paS Y.s Y.a 0 ∧ P.a = paA Y.s Y.a 0 → Q.s = 1 :: Y.s.tail ∧ Q.a = mdA (1 :: Y.s.tail) (enA Y.s Y.a (-1)) → Calls Tryz.prog 27 #[.int .i64 24, P.v, Q.v, Y.v] W (RetB W (.bool true))) := fun W P Q hb hP hQ e1 e2 =>
    both_true (X := P) (Y := Q) (Z := Y) (hY.below hb (Nat.le_refl _)) rfl rfl fun W2 hb2 => by
      have h := d_behind (hP.below hb2 (Nat.le_refl _)) (hQ.below hb2 (Nat.le_refl _)) (by rw [e1.1, e1.2]; exact q8) (by rw [e2.1, e2.2]; exact q6)
      rw [e1.1, e1.2, e2.1, e2.2, r4, r5, r6] at h; exact h
  clear q1 q2 q3 q4 q5 q6 q7 q8 r1 r2 r3 r4 r5 r6 r7 r8 r9
  obtain ⟨ta, tn, tc, ba, bn, bc, t, b⟩ := Y
  simp only [Ar.v] at *
  obtain ⟨s1, HS1⟩ : ∃ z, Hid (1 :: t.tail = z) := ⟨_, rfl⟩
  rw [HS1.out] at CT1 CT2 CB1 CB2
  obtain ⟨hd, HHD⟩ : ∃ z, Hid (mdA s1 (enA t b 0) = z) := ⟨_, rfl⟩
  obtain ⟨tl, HTL⟩ : ∃ z, Hid (mdA s1 (enA t b (-1)) = z) := ⟨_, rfl⟩
  obtain ⟨p1, HP1⟩ : ∃ z, Hid (paS t b 1 = z) := ⟨_, rfl⟩
  obtain ⟨p2, HP2⟩ : ∃ z, Hid (paA t b 1 = z) := ⟨_, rfl⟩
  obtain ⟨p3, HP3⟩ : ∃ z, Hid (paS t b 0 = z) := ⟨_, rfl⟩
  obtain ⟨p4, HP4⟩ : ∃ z, Hid (paA t b 0 = z) := ⟨_, rfl⟩
  rw [HHD.out] at CT1 CB1
  rw [HTL.out] at CT2 CB2
  rw [HP1.out, HP2.out] at CM1 CB1
  rw [HP3.out, HP4.out] at CM2 CB2
  obtain ⟨k, HK⟩ : ∃ z, Hid (t.getD 0 0 = z) := ⟨_, rfl⟩
  rw [HK.out] at hk0 CDT
  have hp : 0 < tn := by omega
  have hp' : (0 : Int) < tn := by omega
  have k5 : ((tn : Int) == 0) = false := by simp; omega
  have k6 : (k == 0) = false := by simpa using hk0
  obtain ⟨b3, o3, e3, hc3⟩ := hY.shp.at (by simp only; omega)
  have d3 := hc3 0 (by simp only; omega)
  have HR := Lib.hid (hY.shp.rng 0)
  simp only [Nat.add_zero] at e3 d3 HR
  have hlt3 : b3 < w.heap.size := World.block_lt_of_cell? w _ d3
  subst e3
  rw [HK.out] at d3 HR
  have HD3 := Lib.hid (fun (w9 : World) (hb : Below w.heap.size w w9) => (hb.cell (p := ⟨b3, o3, none⟩) hlt3).trans d3)
  have CS := Lib.hid (fun w9 => scalar6_any k w9 (by have := HR.out; omega))
  have h0 := (Sp.start Non w).alloc 38 2 1 #[.slice (some ⟨b3, o3, none⟩) tn tc, .slice ba bn bc] rfl (by decide)
  obtain ⟨W0, HW0⟩ : ∃ z, Hid (w.alloc (.cells #[.slice (some ⟨b3, o3, none⟩) tn tc, .slice ba bn bc] 38) = z) := ⟨_, rfl⟩
  rw [HW0.out] at h0
  have H1_ := h0
  try simp only [List.cons_append, List.nil_append, List.set_cons_zero, List.set_cons_succ, List.map_cons, List.map_nil, List.getD_cons_zero, List.getD_cons_succ, World.size_alloc] at H1_
  have H1 := Lib.hid H1_
  clear H1_
  obtain ⟨g, HG⟩ : ∃ z, Hid (w.heap.size = z) := ⟨_, rfl⟩
  rw [HG.out] at H1
  have CB := Lib.hid (begun6_any W0)
  have HY := Lib.hid hY
  have HM := Lib.hid hm
  have HT := Lib.hid (show True from trivial)
  clear hY hm h0 hl hl0 hk0 hc3 d3 hlt3 HS1 HHD HTL HP1 HP2 HP3 HP4
  go_enter Tryz.func6, Tryz.ntmps6
  go_wp2_with fail
  rw [HW0.out, HG.out]
  refine CB.out.mono ?_; rintro e w2 ⟨rfl, hb⟩
  have H2_ := H1.out.via hb
  try simp only [List.cons_append, List.nil_append, List.set_cons_zero, List.set_cons_succ, List.map_cons, List.map_nil, List.getD_cons_zero, List.getD_cons_succ, World.size_alloc] at H2_
  have H2 := Lib.hid H2_
  clear H2_
  have cm := may6_any (HY.out.below H2.out.belowN (Nat.le_refl _))
  rw [decide_eq_true (by simp only; exact HM.out)] at cm
  simp only [Ar.v] at cm
  have CM := Lib.hid cm
  have y0 := H2.out.cell (i := 0) rfl 0 _ rfl
  have y1 := H2.out.cell (i := 0) rfl 1 _ rfl
  clear hb cm CB H1
  go_wp2_with fail
  refine CM.out.mono ?_; rintro e w3 ⟨rfl, hb⟩
  have H3_ := H2.out.via hb
  try simp only [List.cons_append, List.nil_append, List.set_cons_zero, List.set_cons_succ, List.map_cons, List.map_nil, List.getD_cons_zero, List.getD_cons_succ, World.size_alloc] at H3_
  have H3 := Lib.hid H3_
  clear H3_
  clear hb H2 y0 y1 CM
  have y0 := H3.out.cell (i := 0) rfl 0 _ rfl
  have y1 := H3.out.cell (i := 0) rfl 1 _ rfl
  have y2 := HD3.out _ H3.out.belowN
  go_wp2_with fail
  refine (CT1.out _ H3.out.belowN).mono ?_; rintro e w4 ⟨⟨a1, a2, a3, a4, a5, a6, as_, at_⟩, rfl, h4, hs, ha⟩
  have HA := Lib.hid (And.intro hs ha)
  simp only at HA
  simp only [Ar.v]
  have H4_ := (H3.out.add h4).alloc 38 2 1 #[.slice a1 a2 a3, .slice a4 a5 a6] rfl (by decide)
  try simp only [List.cons_append, List.nil_append, List.set_cons_zero, List.set_cons_succ, List.map_cons, List.map_nil, List.getD_cons_zero, List.getD_cons_succ, World.size_alloc] at H4_
  have H4 := Lib.hid H4_
  clear H4_
  obtain ⟨W4, HW4⟩ : ∃ z, Hid (w4.alloc (.cells #[.slice a1 a2 a3, .slice a4 a5 a6] 38) = z) := ⟨_, rfl⟩
  rw [HW4.out] at H4
  have z0 : (w4.alloc (.cells #[.slice a1 a2 a3, .slice a4 a5 a6] 38)).cell? ⟨g, 0, none⟩ = some (.slice (some ⟨b3, o3, none⟩) tn tc) := by rw [HW4.out]; exact H4.out.cell (i := 0) rfl 0 _ rfl
  have z1 : (w4.alloc (.cells #[.slice a1 a2 a3, .slice a4 a5 a6] 38)).cell? ⟨g, 1, none⟩ = some (.slice ba bn bc) := by rw [HW4.out]; exact H4.out.cell (i := 0) rfl 1 _ rfl
  clear y0 y1 y2 h4 hs ha H3 CT1
  go_wp2_with fail
  rw [HW4.out]
  refine (CT2.out _ H4.out.belowN).mono ?_; rintro e w5 ⟨⟨b1, b2, b3', b4, b5, b6, bs_, bt_⟩, rfl, h5, hs, ha⟩
  have HBB := Lib.hid (And.intro hs ha)
  simp only at HBB
  simp only [Ar.v]
  have H5_ := (H4.out.add h5).alloc 38 2 1 #[.slice b1 b2 b3', .slice b4 b5 b6] rfl (by decide)
  try simp only [List.cons_append, List.nil_append, List.set_cons_zero, List.set_cons_succ, List.map_cons, List.map_nil, List.getD_cons_zero, List.getD_cons_succ, World.size_alloc] at H5_
  have H5 := Lib.hid H5_
  clear H5_
  obtain ⟨W5, HW5⟩ : ∃ z, Hid (w5.alloc (.cells #[.slice b1 b2 b3', .slice b4 b5 b6] 38) = z) := ⟨_, rfl⟩
  rw [HW5.out] at H5
  clear z0 z1 h5 hs ha H4 CT2 HW4
  have z0 : (w5.alloc (.cells #[.slice b1 b2 b3', .slice b4 b5 b6] 38)).cell? ⟨g, 0, none⟩ = some (.slice (some ⟨b3, o3, none⟩) tn tc) := by rw [HW5.out]; exact H5.out.cell (i := 0) rfl 0 _ rfl
  have z1 : (w5.alloc (.cells #[.slice b1 b2 b3', .slice b4 b5 b6] 38)).cell? ⟨g, 1, none⟩ = some (.slice ba bn bc) := by rw [HW5.out]; exact H5.out.cell (i := 0) rfl 1 _ rfl
  go_wp2_with fail
  rw [HW5.out]
  refine (CM1.out _ H5.out.belowN).mono ?_; rintro e w6 ⟨⟨c1, c2, c3, c4, c5, c6, cs, ct⟩, rfl, hI, hs, ha, hO, hb⟩
  have HC := Lib.hid (And.intro hs ha)
  simp only at HC
  simp only [Ar.v]
  have H6_ := (H5.out.arrNew hI hO hb).alloc 38 2 1 #[.slice c1 c2 c3, .slice c4 c5 c6] rfl (by decide)
  try simp only [List.cons_append, List.nil_append, List.set_cons_zero, List.set_cons_succ, List.map_cons, List.map_nil, List.getD_cons_zero, List.getD_cons_succ, World.size_alloc] at H6_
  have H6 := Lib.hid H6_
  clear H6_
  obtain ⟨W6, HW6⟩ : ∃ z, Hid (w6.alloc (.cells #[.slice c1 c2 c3, .slice c4 c5 c6] 38) = z) := ⟨_, rfl⟩
  rw [HW6.out] at H6
  clear z0 z1 hI hO hb hs ha H5 CM1 HW5
  have z0 : (w6.alloc (.cells #[.slice c1 c2 c3, .slice c4 c5 c6] 38)).cell? ⟨g, 0, none⟩ = some (.slice (some ⟨b3, o3, none⟩) tn tc) := by rw [HW6.out]; exact H6.out.cell (i := 0) rfl 0 _ rfl
  have z1 : (w6.alloc (.cells #[.slice c1 c2 c3, .slice c4 c5 c6] 38)).cell? ⟨g, 1, none⟩ = some (.slice ba bn bc) := by rw [HW6.out]; exact H6.out.cell (i := 0) rfl 1 _ rfl
  go_wp2_with fail
  rw [HW6.out]
  refine (CM2.out _ H6.out.belowN).mono ?_; rintro e w7 ⟨⟨d1, d2, d3, d4, d5, d6, ds, dt⟩, rfl, hI, hs, ha, hO, hb⟩
  have HD := Lib.hid (And.intro hs ha)
  simp only at HD
  simp only [Ar.v]
  have H7_ := (H6.out.arrNew hI hO hb).alloc 38 2 1 #[.slice d1 d2 d3, .slice d4 d5 d6] rfl (by decide)
  try simp only [List.cons_append, List.nil_append, List.set_cons_zero, List.set_cons_succ, List.map_cons, List.map_nil, List.getD_cons_zero, List.getD_cons_succ, World.size_alloc] at H7_
  have H7 := Lib.hid H7_
  clear H7_
  obtain ⟨W7, HW7⟩ : ∃ z, Hid (w7.alloc (.cells #[.slice d1 d2 d3, .slice d4 d5 d6] 38) = z) := ⟨_, rfl⟩
  rw [HW7.out] at H7
  clear z0 z1 hI hO hb hs ha H6 CM2 HW6
  go_upto_region 9 with fail
  rw [HW7.out]
  have z0 := H7.out.cell (i := 0) rfl 0 _ rfl
  have z1 := H7.out.cell (i := 0) rfl 1 _ rfl
  have z2 := HD3.out _ H7.out.belowN
  go_cut [72] from 49 to 73 (fun v72 wx => v72 = .bool false ∧ Hid (Below W7.heap.size W7 wx))
  case first =>
    go_region_held3 (fun v => v.cell? ⟨g, 0, none⟩ = some (.slice (some ⟨b3, o3, none⟩) tn tc) ∧ v.cell? ⟨g, 1, none⟩ = some (.slice ba bn bc) ∧ v.cell? ⟨b3, o3, none⟩ = some (.int .i64 k)) (go_keep)
      (first
      | (go_at_call 28; (with_reducible refine Calls.mono (CS.out _) ?_); rintro e v1 ⟨⟨ta2, tn2, tc2, ua2, un2, uc2, ts2, us2⟩, rfl, hI, hs, ha, -, hq⟩; have K1 : Hid (Below W7.heap.size W7 v1) := (by show Below _ _ _; exact abvia (adrew1 _) hq); have F1 := Lib.hid (CDT.out v1 _ (H7.out.via K1.out).belowN hI hs ha); simp only [Ar.v] at F1 ⊢; clear hI hs ha hq z0 z1 z2; have z0 := (H7.out.via K1.out).cell (i := 0) rfl 0 _ rfl; have z1 := (H7.out.via K1.out).cell (i := 0) rfl 1 _ rfl; have z2 := HD3.out _ (H7.out.via K1.out).belowN)
      | (have hreq := F1; go_at_call 25; (with_reducible refine Calls.mono F1.out ?_); rintro e v2 ⟨rfl, hq⟩; have K2 : Hid (Below W7.heap.size W7 v2) := (by show Below _ _ _; exact abvia K1.out hq); clear hq F1 hreq z0 z1 z2; have z0 := (H7.out.via K2.out).cell (i := 0) rfl 0 _ rfl; have z1 := (H7.out.via K2.out).cell (i := 0) rfl 1 _ rfl; have z2 := HD3.out _ (H7.out.via K2.out).belowN)
      )
    all_goals
      go_wp2_with fail
      go_meet
      exact ⟨rfl, K2⟩
  case rest =>
    obtain ⟨rfl, KB⟩ := hcut
    obtain ⟨U8, hU⟩ : ∃ z : World, z = wc := ⟨_, rfl⟩
    subst hU
    have H8_ := H7.out.via KB.out
    try simp only [List.cons_append, List.nil_append, List.set_cons_zero, List.set_cons_succ, List.map_cons, List.map_nil, List.getD_cons_zero, List.getD_cons_succ, World.size_alloc] at H8_
    have H8 := Lib.hid H8_
    clear H8_
    have C1 := Lib.hid (CB1.out _ _ _ H8.out.belowN (H8.out.isA (i := 1) rfl) (H8.out.isA (i := 5) rfl) HA.out HC.out)
    simp only [Ar.v] at C1
    clear z0 z1 z2 KB H7 HW7 CS CDT
    have z0 := H8.out.cell (i := 0) rfl 0 _ rfl
    have z1 := H8.out.cell (i := 0) rfl 1 _ rfl
    have z2 := H8.out.cell (i := 2) rfl 0 _ rfl
    have z3 := H8.out.cell (i := 2) rfl 1 _ rfl
    have z4 := H8.out.cell (i := 6) rfl 0 _ rfl
    have z5 := H8.out.cell (i := 6) rfl 1 _ rfl
    go_wp2_with fail
    refine C1.out.mono ?_; rintro e w9 ⟨rfl, hb⟩
    have H9_ := H8.out.via hb
    try simp only [List.cons_append, List.nil_append, List.set_cons_zero, List.set_cons_succ, List.map_cons, List.map_nil, List.getD_cons_zero, List.getD_cons_succ, World.size_alloc] at H9_
    have H9 := Lib.hid H9_
    clear H9_
    have C2 := Lib.hid (CB2.out _ _ _ H9.out.belowN (H9.out.isA (i := 7) rfl) (H9.out.isA (i := 3) rfl) HD.out HBB.out)
    simp only [Ar.v] at C2
    clear z0 z1 z2 z3 z4 z5 hb H8 C1
    have z0 := H9.out.cell (i := 0) rfl 0 _ rfl
    have z1 := H9.out.cell (i := 0) rfl 1 _ rfl
    have z2 := H9.out.cell (i := 8) rfl 0 _ rfl
    have z3 := H9.out.cell (i := 8) rfl 1 _ rfl
    have z4 := H9.out.cell (i := 4) rfl 0 _ rfl
    have z5 := H9.out.cell (i := 4) rfl 1 _ rfl
    go_wp2_with fail
    refine C2.out.mono ?_; rintro e w10 ⟨rfl, hb⟩
    have HB := Lib.hid (H9.out.via hb).belowN
    clear z0 z1 z2 z3 z4 z5 hb H9 C2
    go_wp2
    go_ret
    exact RetB.mk rfl HB.out
set_option maxRecDepth 100000 in
theorem walkMoldEnds {w : World} {Y : Ar} (hY : Y.Is w) : Calls Tryz.prog 6 #[Y.v] w (RetB w (.bool true)) := by
  by_cases hm : amE Y.s Y.a = 0
  · by_cases h1 : Y.s.length = 0
    · exact walkMoldEnds_no hY (.inr ⟨hm, .inl h1⟩)
    · by_cases h2 : Y.s.getD 0 0 = 0
      · exact walkMoldEnds_no hY (.inr ⟨hm, .inr ⟨h1, h2⟩⟩)
      · exact walkMoldEnds_ok hY hm h1 h2
  · exact walkMoldEnds_no hY (.inl hm)
end Go.Proofs.YthackmkdicpdeaaGreat
