/- The walk of MoldBack. -/
import Derived.Test.YthackmkdicpdeaaGreatMoldBackP
namespace Go.Proofs.YthackmkdicpdeaaGreat
open Go.RowKit Go.Lib
set_option linter.unusedVariables false
set_option linter.unusedSimpArgs false
attribute [local go_sem] alloc_drewN setCell_drewN
set_option maxRecDepth 100000 in
set_option maxHeartbeats 6400000 in
theorem walkMoldBack_no {w : World} {Y : Ar} (hY : Y.Is w) (hm : amE Y.s Y.a ≠ 0) : Calls Tryz.prog 5 #[Y.v] w (RetB w (.bool true)) := by
  obtain ⟨ta, tn, tc, ba, bn, bc, t, b⟩ := Y
  simp only [Ar.v]
  have h0 := (Sp.start Non w).alloc 38 2 1 #[.slice ta tn tc, .slice ba bn bc] rfl (by decide)
  obtain ⟨W, HW⟩ : ∃ z, Hid (w.alloc (.cells #[.slice ta tn tc, .slice ba bn bc] 38) = z) := ⟨_, rfl⟩
  rw [HW.out] at h0
  have H1_ := h0
  try simp only [List.cons_append, List.nil_append, List.set_cons_zero, List.set_cons_succ, List.map_cons, List.map_nil, List.getD_cons_zero, List.getD_cons_succ, World.size_alloc] at H1_
  have H1 := Lib.hid H1_
  clear H1_
  have CB := Lib.hid (begun6_any W)
  have HY := Lib.hid hY
  have HM := Lib.hid hm
  clear hY hm h0
  go_enter Tryz.func5, Tryz.ntmps5
  go_wp2_with fail
  rw [HW.out]
  refine CB.out.mono ?_; rintro e w2 ⟨rfl, hb⟩
  have H2_ := H1.out.via hb
  try simp only [List.cons_append, List.nil_append, List.set_cons_zero, List.set_cons_succ, List.map_cons, List.map_nil, List.getD_cons_zero, List.getD_cons_succ, World.size_alloc] at H2_
  have H2 := Lib.hid H2_
  clear H2_
  have hI := HY.out.below H2.out.belowN (Nat.le_refl _)
  have cm := may6_any hI
  rw [decide_eq_false (by simp only; exact HM.out)] at cm
  simp only [Ar.v] at cm
  have CM := Lib.hid cm
  have y0 := H2.out.cell (i := 0) rfl 0 _ rfl
  have y1 := H2.out.cell (i := 0) rfl 1 _ rfl
  clear hb hI cm CB H1
  go_wp2_with fail
  refine CM.out.mono ?_; rintro e w3 ⟨rfl, hb⟩
  have H3_ := H2.out.via hb
  try simp only [List.cons_append, List.nil_append, List.set_cons_zero, List.set_cons_succ, List.map_cons, List.map_nil, List.getD_cons_zero, List.getD_cons_succ, World.size_alloc] at H3_
  have H3 := Lib.hid H3_
  clear H3_
  have ca := mmonad_arg (op := 42) (HY.out.below H3.out.belowN (Nat.le_refl _)) HM.out
  simp only [Ar.v] at ca
  have CA := Lib.hid ca
  clear y0 y1 hb CM H2 ca
  have y0 := H3.out.cell (i := 0) rfl 0 _ rfl
  have y1 := H3.out.cell (i := 0) rfl 1 _ rfl
  go_wp2_with fail
  refine CA.out.mono ?_; rintro e w4 ⟨⟨c1, c2, c3, c4, c5, c6, cs, ct⟩, rfl, hI, hs, ha, hO, hb⟩
  have HB := Lib.hid ((H3.out.via hb).alloc 38 2 1 #[.slice c1 c2 c3, .slice c4 c5 c6] rfl (by decide)).belowN
  simp only [Ar.v]
  clear hI hs ha hO hb CA H3 y0 y1
  go_wp2
  go_ret
  exact RetB.mk rfl HB.out
set_option maxRecDepth 100000 in
set_option maxHeartbeats 6400000 in
theorem walkMoldBack_ok {w : World} {Y : Ar} (hY : Y.Is w) (hm : amE Y.s Y.a = 0) : Calls Tryz.prog 5 #[Y.v] w (RetB w (.bool true)) := by
  have hR := rev_rev hm
  have hT := tran_tran hm
  obtain ⟨hm1, hm2⟩ := amE_zero hm
  have hmr := may_reverse hm1
  have hnn : Y.s.reverse.reverse = Y.s := List.reverse_reverse _
  have hmR : amE Y.s (pkA Y.s Y.a (rvF Y.s)) = 0 := by
    unfold amE; rw [if_pos hm1, if_pos]
    unfold pkA
    rw [if_pos hm1]
    simp [pkAs]
    have := pr_nonneg hm1; omega
  have hmT : amE Y.s.reverse (pkA Y.s.reverse Y.a (tuF Y.s)) = 0 := by
    unfold amE; rw [if_pos hmr, if_pos]
    unfold pkA
    rw [if_pos hmr]
    simp [pkAs]
    have := pr_nonneg hmr; omega
  have hal := hY.ats.len
  have hsl := hY.shp.len
  have hmdS : mdS Y.s = Y.s := if_pos hm1
  have hmdE : mdE Y.s = 0 := if_pos hm1
  have hmdA : mdA Y.s Y.a = Y.a := if_pos hm1
  have hmdSr : mdS Y.s.reverse = Y.s.reverse := if_pos hmr
  have hmdEr : mdE Y.s.reverse = 0 := if_pos hmr
  have CT1 : Hid (∀ W, Below w.heap.size w W → Calls Tryz.prog 24 #[.int .i64 32, .int .i64 32, Y.v] W (ThenP W Y.s Y.a)) := fun W hb =>
    then_ok (s1 := Y.s) (a1 := pkA Y.s Y.a (rvF Y.s)) (fun W2 hb2 => by
      have h := m_reverse (hY.below (hb.trans (hb2.mono hb.size)) (Nat.le_refl _)) hm
      rw [hmdS, hmdE] at h; exact h)
      (fun W2 B hB e1 e2 => by
        have h := m_reverse hB (by rw [e1, e2]; exact hmR)
        rw [e1, e2, hmdS, hmdE, hR] at h; exact h)
  have CT2 : Hid (∀ W, Below w.heap.size w W → Calls Tryz.prog 24 #[.int .i64 33, .int .i64 33, Y.v] W (ThenP W Y.s Y.a)) := fun W hb =>
    then_ok (s1 := Y.s.reverse) (a1 := pkA Y.s.reverse Y.a (tuF Y.s)) (fun W2 hb2 => by
      have h := m_turn (hY.below (hb.trans (hb2.mono hb.size)) (Nat.le_refl _)) hm
      rw [hmdSr, hmdEr] at h; exact h)
      (fun W2 B hB e1 e2 => by
        have h := m_turn hB (by rw [e1, e2]; exact hmT)
        rw [e1, e2, hnn, hmdS, hmdE, hT] at h; exact h)
  have CDL : Hid (∀ W, Below w.heap.size w W → Calls Tryz.prog 25 #[.int .i64 41, Y.v, Y.v] W (RetB W (.bool true))) := fun W hb =>
    does_true (hY.below hb (Nat.le_refl _)) rfl rfl fun W2 hb2 => by
      have h := m_left (hY.below (hb.trans (hb2.mono hb.size)) (Nat.le_refl _)) hm
      rw [hmdS, hmdE, hmdA] at h; exact h
  have CDR : Hid (∀ W, Below w.heap.size w W → Calls Tryz.prog 25 #[.int .i64 42, Y.v, Y.v] W (RetB W (.bool true))) := fun W hb =>
    does_true (hY.below hb (Nat.le_refl _)) rfl rfl fun W2 hb2 => by
      have h := m_right (hY.below (hb.trans (hb2.mono hb.size)) (Nat.le_refl _)) hm
      rw [hmdS, hmdE, hmdA] at h; exact h
  have CS : Hid (∀ W, Below w.heap.size w W → Calls Tryz.prog 23 #[.int .i64 23, Y.v] W (MadeE W [(Y.sn : Int)] Y.s 0)) := fun W hb => m_lengths (hY.below hb (Nat.le_refl _)) hm
  have CR : Hid (∀ W, Below w.heap.size w W → Calls Tryz.prog 23 #[.int .i64 24, Y.v] W (MadeE W [(Y.an : Int)] Y.a 0)) := fun W hb => m_ravel (hY.below hb (Nat.le_refl _)) hm
  have hbd := pr_nonneg hm1
  have hmRav : amE [(Y.an : Int)] Y.a = 0 := by
    have e4 : mayE [(Y.an : Int)] = 0 := mayE_from (fun i => by cases i with
      | zero => simp
      | succ i => simp [List.getD]) (by simp) (by rw [pm_cons', show pm [] = 1 from rfl]; omega)
    unfold amE; rw [if_pos e4, if_pos (by rw [pr_cons]; show (Y.an : Int) * 1 = _; omega)]
  have hs8 := (mayE_zero hm1).2.1
  have hmLen : amE [(Y.sn : Int)] Y.s = 0 := by
    have e4 : mayE [(Y.sn : Int)] = 0 := mayE_from (fun i => by cases i with
      | zero => simp
      | succ i => simp [List.getD]) (by simp) (by rw [pm_cons', show pm [] = 1 from rfl]; omega)
    unfold amE; rw [if_pos e4, if_pos (by rw [pr_cons]; show (Y.sn : Int) * 1 = _; omega)]
  have HQ := Lib.hid (And.intro hmRav hmLen)
  have HRB : Hid (Y.an ≠ 0 → rsE Y.s [(Y.an : Int)] Y.a = 0 ∧ rsS Y.s [(Y.an : Int)] Y.a = Y.s ∧ rsA Y.s [(Y.an : Int)] Y.a = Y.a) := fun h => by
    have := resh_back hm (by omega)
    rw [hal] at this; exact this
  clear hR hT hm1 hm2 hmr hnn hmR hmT hmdS hmdE hmdA hmdSr hmdEr hmRav hmLen hbd
  have HM := Lib.hid hm
  have HL := Lib.hid (And.intro hsl hal)
  have HSB := Lib.hid hs8
  obtain ⟨ta, tn, tc, ba, bn, bc, t, b⟩ := Y
  simp only [Ar.v] at *
  (try simp only at hsl hal hs8)
  have htn8 : tn ≤ 8 := by omega
  have h0 := (Sp.start Non w).alloc 38 2 1 #[.slice ta tn tc, .slice ba bn bc] rfl (by decide)
  obtain ⟨W, HW⟩ : ∃ z, Hid (w.alloc (.cells #[.slice ta tn tc, .slice ba bn bc] 38) = z) := ⟨_, rfl⟩
  rw [HW.out] at h0
  have H1_ := h0
  try simp only [List.cons_append, List.nil_append, List.set_cons_zero, List.set_cons_succ, List.map_cons, List.map_nil, List.getD_cons_zero, List.getD_cons_succ, World.size_alloc] at H1_
  have H1 := Lib.hid H1_
  clear H1_
  have CB := Lib.hid (begun6_any W)
  have HY := Lib.hid hY
  clear hY hm h0 hsl hal hs8
  go_enter Tryz.func5, Tryz.ntmps5
  go_wp2_with fail
  rw [HW.out]
  refine CB.out.mono ?_; rintro e w2 ⟨rfl, hb⟩
  have H2_ := H1.out.via hb
  try simp only [List.cons_append, List.nil_append, List.set_cons_zero, List.set_cons_succ, List.map_cons, List.map_nil, List.getD_cons_zero, List.getD_cons_succ, World.size_alloc] at H2_
  have H2 := Lib.hid H2_
  clear H2_
  have cm := may6_any (HY.out.below H2.out.belowN (Nat.le_refl _))
  rw [decide_eq_true (by simp only; exact HM.out)] at cm
  simp only [Ar.v] at cm
  have CM := Lib.hid cm
  have y0 := H2.out.cell (i := 0) rfl 0 _ rfl
  have y1 := H2.out.cell (i := 0) rfl 1 _ rfl
  clear hb cm CB H1
  go_wp2_with fail
  refine CM.out.mono ?_; rintro e w3 ⟨rfl, hb⟩
  have H3_ := H2.out.via hb
  try simp only [List.cons_append, List.nil_append, List.set_cons_zero, List.set_cons_succ, List.map_cons, List.map_nil, List.getD_cons_zero, List.getD_cons_succ, World.size_alloc] at H3_
  have H3 := Lib.hid H3_
  clear H3_
  clear y0 y1 hb CM H2
  have y0 := H3.out.cell (i := 0) rfl 0 _ rfl
  have y1 := H3.out.cell (i := 0) rfl 1 _ rfl
  go_wp2_with fail
  refine (CT1.out _ H3.out.belowN).mono ?_; rintro e w4 ⟨⟨a1, a2, a3, a4, a5, a6, as_, at_⟩, rfl, h4, hs, ha⟩
  have HA := Lib.hid (And.intro hs ha)
  simp only at HA
  simp only [Ar.v]
  have H4_ := (H3.out.add h4).alloc 38 2 1 #[.slice a1 a2 a3, .slice a4 a5 a6] rfl (by decide)
  try simp only [List.cons_append, List.nil_append, List.set_cons_zero, List.set_cons_succ, List.map_cons, List.map_nil, List.getD_cons_zero, List.getD_cons_succ, World.size_alloc] at H4_
  have H4 := Lib.hid H4_
  clear H4_
  obtain ⟨W4, HW4⟩ : ∃ z, Hid (w4.alloc (.cells #[.slice a1 a2 a3, .slice a4 a5 a6] 38) = z) := ⟨_, rfl⟩
  rw [HW4.out] at H4
  have y2 : (w4.alloc (.cells #[.slice a1 a2 a3, .slice a4 a5 a6] 38)).cell? ⟨w.heap.size, 0, none⟩ = some (.slice ta tn tc) := by rw [HW4.out]; exact H4.out.cell (i := 0) rfl 0 _ rfl
  have y3 : (w4.alloc (.cells #[.slice a1 a2 a3, .slice a4 a5 a6] 38)).cell? ⟨w.heap.size, 1, none⟩ = some (.slice ba bn bc) := by rw [HW4.out]; exact H4.out.cell (i := 0) rfl 1 _ rfl
  clear y0 y1 h4 hs ha H3 CT1
  go_wp2_with fail
  rw [HW4.out]
  refine (CT2.out _ H4.out.belowN).mono ?_; rintro e w5 ⟨⟨b1, b2, b3, b4, b5, b6, bs_, bt_⟩, rfl, h5, hs, ha⟩
  have HBB := Lib.hid (And.intro hs ha)
  simp only at HBB
  simp only [Ar.v]
  have H5_ := (H4.out.add h5).alloc 38 2 1 #[.slice b1 b2 b3, .slice b4 b5 b6] rfl (by decide)
  try simp only [List.cons_append, List.nil_append, List.set_cons_zero, List.set_cons_succ, List.map_cons, List.map_nil, List.getD_cons_zero, List.getD_cons_succ, World.size_alloc] at H5_
  have H5 := Lib.hid H5_
  clear H5_
  obtain ⟨W5, HW5⟩ : ∃ z, Hid (w5.alloc (.cells #[.slice b1 b2 b3, .slice b4 b5 b6] 38) = z) := ⟨_, rfl⟩
  rw [HW5.out] at H5
  clear y2 y3 h5 hs ha H4 CT2 HW4
  have ce := eq4_any (H5.out.isA (i := 1) rfl) (HY.out.below H5.out.belowN (Nat.le_refl _))
  rw [decide_eq_true (by simp only; exact HA.out)] at ce
  simp only [Ar.v] at ce
  have CE := Lib.hid ce
  have y0 : (w5.alloc (.cells #[.slice b1 b2 b3, .slice b4 b5 b6] 38)).cell? ⟨w.heap.size, 0, none⟩ = some (.slice ta tn tc) := by rw [HW5.out]; exact H5.out.cell (i := 0) rfl 0 _ rfl
  have y1 : (w5.alloc (.cells #[.slice b1 b2 b3, .slice b4 b5 b6] 38)).cell? ⟨w.heap.size, 1, none⟩ = some (.slice ba bn bc) := by rw [HW5.out]; exact H5.out.cell (i := 0) rfl 1 _ rfl
  have y2 : (w5.alloc (.cells #[.slice b1 b2 b3, .slice b4 b5 b6] 38)).cell? ⟨w4.heap.size, 0, none⟩ = some (.slice a1 a2 a3) := by rw [HW5.out]; exact H5.out.cell (i := 2) rfl 0 _ rfl
  have y3 : (w5.alloc (.cells #[.slice b1 b2 b3, .slice b4 b5 b6] 38)).cell? ⟨w4.heap.size, 1, none⟩ = some (.slice a4 a5 a6) := by rw [HW5.out]; exact H5.out.cell (i := 2) rfl 1 _ rfl
  clear ce
  go_wp2_with fail
  rw [HW5.out]
  refine CE.out.mono ?_; rintro e w6 ⟨rfl, hb⟩
  have H6_ := H5.out.via hb
  try simp only [List.cons_append, List.nil_append, List.set_cons_zero, List.set_cons_succ, List.map_cons, List.map_nil, List.getD_cons_zero, List.getD_cons_succ, World.size_alloc] at H6_
  have H6 := Lib.hid H6_
  clear H6_
  clear y0 y1 y2 y3 hb CE H5 HW5
  have ce := eq4_any (H6.out.isA (i := 3) rfl) (HY.out.below H6.out.belowN (Nat.le_refl _))
  rw [decide_eq_true (by simp only; exact HBB.out)] at ce
  simp only [Ar.v] at ce
  have CE := Lib.hid ce
  have y0 := H6.out.cell (i := 0) rfl 0 _ rfl
  have y1 := H6.out.cell (i := 0) rfl 1 _ rfl
  have y2 := H6.out.cell (i := 4) rfl 0 _ rfl
  have y3 := H6.out.cell (i := 4) rfl 1 _ rfl
  clear ce
  go_wp2_with fail
  refine CE.out.mono ?_; rintro e w7 ⟨rfl, hb⟩
  have H7_ := (H6.out.via hb).pick [0] (by decide)
  try simp only [List.cons_append, List.nil_append, List.set_cons_zero, List.set_cons_succ, List.map_cons, List.map_nil, List.getD_cons_zero, List.getD_cons_succ, World.size_alloc] at H7_
  have H7 := Lib.hid H7_
  clear H7_
  clear y0 y1 y2 y3 hb CE H6 HA HBB
  have y0 := H7.out.cell (i := 0) rfl 0 _ rfl
  have y1 := H7.out.cell (i := 0) rfl 1 _ rfl
  go_wp2_with fail
  refine (CDL.out _ H7.out.belowN).mono ?_; rintro e w8 ⟨rfl, hb⟩
  have H8_ := H7.out.via hb
  try simp only [List.cons_append, List.nil_append, List.set_cons_zero, List.set_cons_succ, List.map_cons, List.map_nil, List.getD_cons_zero, List.getD_cons_succ, World.size_alloc] at H8_
  have H8 := Lib.hid H8_
  clear H8_
  clear y0 y1 hb H7 CDL
  have y0 := H8.out.cell (i := 0) rfl 0 _ rfl
  have y1 := H8.out.cell (i := 0) rfl 1 _ rfl
  go_wp2_with fail
  refine (CDR.out _ H8.out.belowN).mono ?_; rintro e w9 ⟨rfl, hb⟩
  have H9_ := H8.out.via hb
  try simp only [List.cons_append, List.nil_append, List.set_cons_zero, List.set_cons_succ, List.map_cons, List.map_nil, List.getD_cons_zero, List.getD_cons_succ, World.size_alloc] at H9_
  have H9 := Lib.hid H9_
  clear H9_
  clear y0 y1 hb H8 CDR
  have y0 := H9.out.cell (i := 0) rfl 0 _ rfl
  have y1 := H9.out.cell (i := 0) rfl 1 _ rfl
  go_wp2_with fail
  refine (CS.out _ H9.out.belowN).mono ?_; rintro e w10 ⟨⟨c1, c2, c3, c4, c5, c6, cs, ct⟩, rfl, hI, hs, ha, hO, hb⟩
  simp only at hs ha
  subst hs ha
  have hcl := hI.ats.len
  simp only at hcl
  have hc5 : c5 = tn := by have := HL.out.1; omega
  subst hc5
  simp only [Ar.v]
  have H10_ := (H9.out.arrNew hI hO hb).alloc 38 2 1 #[.slice c1 c2 c3, .slice c4 c5 c6] rfl (by decide)
  try simp only [List.cons_append, List.nil_append, List.set_cons_zero, List.set_cons_succ, List.map_cons, List.map_nil, List.getD_cons_zero, List.getD_cons_succ, World.size_alloc] at H10_
  have H10 := Lib.hid H10_
  clear H10_
  obtain ⟨W10, HW10⟩ : ∃ z, Hid (w10.alloc (.cells #[.slice c1 c2 c3, .slice c4 c5 c6] 38) = z) := ⟨_, rfl⟩
  rw [HW10.out] at H10
  have y2 : (w10.alloc (.cells #[.slice c1 c2 c3, .slice c4 c5 c6] 38)).cell? ⟨w.heap.size, 0, none⟩ = some (.slice ta c5 tc) := by rw [HW10.out]; exact H10.out.cell (i := 0) rfl 0 _ rfl
  have y3 : (w10.alloc (.cells #[.slice c1 c2 c3, .slice c4 c5 c6] 38)).cell? ⟨w.heap.size, 1, none⟩ = some (.slice ba bn bc) := by rw [HW10.out]; exact H10.out.cell (i := 0) rfl 1 _ rfl
  clear y0 y1 hI hO hb hcl H9 CS
  go_wp2_with fail
  rw [HW10.out]
  refine (CR.out _ H10.out.belowN).mono ?_; rintro e w11 ⟨⟨d1, d2, d3, d4, d5, d6, ds, dt⟩, rfl, hI, hs, ha, hO, hb⟩
  simp only at hs ha
  subst hs ha
  have hdl := hI.ats.len
  simp only at hdl
  have hd5 : d5 = bn := by have := HL.out.2; omega
  subst hd5
  simp only [Ar.v]
  have H11_ := (H10.out.arrNew hI hO hb).alloc 38 2 1 #[.slice d1 d2 d3, .slice d4 d5 d6] rfl (by decide)
  try simp only [List.cons_append, List.nil_append, List.set_cons_zero, List.set_cons_succ, List.map_cons, List.map_nil, List.getD_cons_zero, List.getD_cons_succ, World.size_alloc] at H11_
  have H11 := Lib.hid H11_
  clear H11_
  obtain ⟨W11, HW11⟩ : ∃ z, Hid (w11.alloc (.cells #[.slice d1 d2 d3, .slice d4 d5 d6] 38) = z) := ⟨_, rfl⟩
  rw [HW11.out] at H11
  clear y2 y3 hI hO hb hdl H10 CR HW10
  have cd := does_true (H11.out.isA (i := 3) rfl) rfl rfl (op := 24) (Y := ⟨d1, d2, d3, d4, d5, d6, [(d5 : Int)], dt⟩) (fun W2 hb2 => by
    have h := m_ravel ((H11.out.isA (i := 3) rfl).below hb2 (Nat.le_refl _)) HQ.out.1
    exact h)
  simp only [Ar.v] at cd
  have CD := Lib.hid cd
  have p0 : (w11.alloc (.cells #[.slice d1 d2 d3, .slice d4 d5 d6] 38)).cell? ⟨w11.heap.size, 0, none⟩ = some (.slice d1 d2 d3) := by rw [HW11.out]; exact H11.out.cell (i := 4) rfl 0 _ rfl
  have p1 : (w11.alloc (.cells #[.slice d1 d2 d3, .slice d4 d5 d6] 38)).cell? ⟨w11.heap.size, 1, none⟩ = some (.slice d4 d5 d6) := by rw [HW11.out]; exact H11.out.cell (i := 4) rfl 1 _ rfl
  clear cd
  go_wp2_with fail
  rw [HW11.out]
  refine CD.out.mono ?_; rintro e w12 ⟨rfl, hb⟩
  have H12_ := H11.out.via hb
  try simp only [List.cons_append, List.nil_append, List.set_cons_zero, List.set_cons_succ, List.map_cons, List.map_nil, List.getD_cons_zero, List.getD_cons_succ, World.size_alloc] at H12_
  have H12 := Lib.hid H12_
  clear H12_
  clear hb CD H11 HW11 p0 p1
  have y0 := H12.out.cell (i := 0) rfl 0 _ rfl
  have y1 := H12.out.cell (i := 0) rfl 1 _ rfl
  have y2 := H12.out.cell (i := 2) rfl 1 _ rfl
  have y3 := H12.out.cell (i := 4) rfl 1 _ rfl
  have cq := Calls.mono (eqatoms4_any (H12.out.isA (i := 3) rfl).ats (HY.out.below H12.out.belowN (Nat.le_refl _)).ats) fun _ _ h => ret_toB h
  simp only [decide_true] at cq
  have CQ := Lib.hid cq
  clear cq
  go_wp2_with fail
  refine CQ.out.mono ?_; rintro e w13 ⟨rfl, hb⟩
  have H13_ := H12.out.via hb
  try simp only [List.cons_append, List.nil_append, List.set_cons_zero, List.set_cons_succ, List.map_cons, List.map_nil, List.getD_cons_zero, List.getD_cons_succ, World.size_alloc] at H13_
  have H13 := Lib.hid H13_
  clear H13_
  clear hb CQ H12 y0 y1 y2 y3
  have hcs : c2 = 1 := by have h := (H13.out.isA (i := 1) rfl).shp.len; simpa using h.symm
  subst hcs
  go_wp2_with fail
  go_loopw [13] (fun v wr => ∃ i : Nat, i ≤ c5 ∧ v = .int .i64 i ∧ Hid (Sp Non w wr [Pt.row ⟨38, 2, some ⟨w.heap.size, 0, none⟩, 1, 1, [.slice ta c5 tc, .slice ba d5 bc]⟩, Pt.arr ⟨c1, 1, c3, c4, c5, c6, [(c5 : Int)], ct⟩, Pt.row ⟨38, 2, some ⟨w10.heap.size, 0, none⟩, 1, 1, [.slice c1 1 c3, .slice c4 c5 c6]⟩, Pt.arr ⟨d1, d2, d3, d4, d5, d6, [(d5 : Int)], dt⟩, Pt.row ⟨38, 2, some ⟨w11.heap.size, 0, none⟩, 1, 1, [.slice d1 d2 d3, .slice d4 d5 d6]⟩])) (fun v _ => c5 - (RowKit.intOf v).toNat)
  case atStart => exact ⟨0, Nat.zero_le _, rfl, H13⟩
  case round =>
    clear H13
    obtain ⟨i, hi, rfl, HO⟩ := hrel
    have y0 := HO.out.cell (i := 0) rfl 0 _ rfl
    have y1 := HO.out.cell (i := 2) rfl 1 _ rfl
    by_cases hlt : i < c5
    · have hlt' : (i : Int) < c5 := by omega
      obtain ⟨e1, o1, h1, hc1⟩ := (HO.out.isA (i := 1) rfl).ats.at (by simp only; omega)
      have x1 := hc1 i (by simp only; omega)
      simp only at h1 x1
      subst h1
      obtain ⟨e2, o2, h2, hc2⟩ := (HY.out.below HO.out.belowN (Nat.le_refl _)).shp.at (by simp only; omega)
      have x2 := hc2 i (by simp only; omega)
      simp only at h2 x2
      subst h2
      have HO2 := Lib.hid HO.out
      obtain ⟨x, HX⟩ : ∃ z, Hid (ct.getD i 0 = z) := ⟨_, rfl⟩
      rw [HX.out] at x1 x2
      clear hc1 hc2 HO
      go_upto_region 17 with fail
      go_quiet (fail)
      have HN2 : Hid (Sp Non w (wr.drewN nq) [Pt.row ⟨38, 2, some ⟨w.heap.size, 0, none⟩, 1, 1, [.slice (some ⟨e2, o2, none⟩) c5 tc, .slice ba d5 bc]⟩, Pt.arr ⟨c1, 1, c3, some ⟨e1, o1, none⟩, c5, c6, [(c5 : Int)], ct⟩, Pt.row ⟨38, 2, some ⟨w10.heap.size, 0, none⟩, 1, 1, [.slice c1 1 c3, .slice (some ⟨e1, o1, none⟩) c5 c6]⟩, Pt.arr ⟨d1, d2, d3, d4, d5, d6, [(d5 : Int)], dt⟩, Pt.row ⟨38, 2, some ⟨w11.heap.size, 0, none⟩, 1, 1, [.slice d1 d2 d3, .slice d4 d5 d6]⟩]) := HO2.out.via (adrew wr nq)
      go_wp2_with fail
      go_roundw
      case rel => exact ⟨i + 1, by omega, by go_num, HN2⟩
      case measure => simp [RowKit.intOf]; omega
    · obtain rfl : i = c5 := by omega
      have hge : ¬ ((i : Int) < i) := by omega
      have y2 := HO.out.cell (i := 0) rfl 1 _ rfl
      have y3 := HO.out.cell (i := 2) rfl 0 _ rfl
      have y4 := HO.out.cell (i := 4) rfl 0 _ rfl
      have y5 := HO.out.cell (i := 4) rfl 1 _ rfl
      by_cases hz : d5 = 0
      · subst hz
        have HB := Lib.hid HO.out.belowN
        clear HO
        go_wp2
        go_ret
        exact RetB.mk rfl HB.out
      · have q0 : ((d5 : Int) == 0) = false := by simp; omega
        have q1 : (d5 == 0) = false := by simp; omega
        obtain ⟨r1, r2, r3⟩ := HRB.out hz
        have cb := both_true (op := 23) (X := ⟨c1, 1, c3, c4, i, c6, [(i : Int)], ct⟩) (Y := ⟨d1, d2, d3, d4, d5, d6, [(d5 : Int)], dt⟩) (HY.out.below HO.out.belowN (Nat.le_refl _)) rfl rfl (fun W2 hb2 => by
          have h := d_reshape ((HO.out.isA (i := 1) rfl).below hb2 (Nat.le_refl _)) ((HO.out.isA (i := 3) rfl).below hb2 (Nat.le_refl _)) HQ.out.2 HQ.out.1 (Nat.le_refl _)
          rw [r1, r2, r3] at h
          exact h)
        simp only [Ar.v] at cb
        have CBO := Lib.hid cb
        clear cb r1 r2 r3
        go_wp2_with fail
        refine CBO.out.mono ?_; rintro e w14 ⟨rfl, hb⟩
        have HB := Lib.hid (HO.out.via hb).belowN
        clear HO hb CBO
        go_wp2
        go_ret
        exact RetB.mk rfl HB.out
theorem walkMoldBack {w : World} {Y : Ar} (hY : Y.Is w) : Calls Tryz.prog 5 #[Y.v] w (RetB w (.bool true)) := by
  by_cases hm : amE Y.s Y.a = 0
  · exact walkMoldBack_ok hY hm
  · exact walkMoldBack_no hY hm
end Go.Proofs.YthackmkdicpdeaaGreat
