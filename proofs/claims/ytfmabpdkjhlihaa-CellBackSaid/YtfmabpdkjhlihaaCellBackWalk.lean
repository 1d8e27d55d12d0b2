/- CellBack: the walk of the statement's function. -/
import Derived.Test.YtfmabpdkjhlihaaCellLaws
namespace Go.Proofs.Ytfmabpdkjhlihaa
open Go.RowKit Go.Lib
set_option linter.unusedVariables false
set_option linter.unusedSimpArgs false
attribute [local go_sem] alloc_drewN setCell_drewN
set_option maxRecDepth 100000 in
set_option maxHeartbeats 1600000 in
theorem back_bad {w : World} {A : Ar} (hA : A.Is w) {r : Int} (hr : -9223372036854775808 ≤ r ∧ r ≤ 9223372036854775807) (hm : amE A.s A.a ≠ 0) :
    Calls Try.prog 3 #[A.v, .int .i64 r] w (RetB w (.bool true)) := by
  obtain ⟨sa, sn, sc, aa, an, ac, s, a⟩ := A
  simp only [Ar.v]
  simp only at hm
  obtain ⟨W, HW⟩ : ∃ z, Hid (w.alloc (.cells #[.slice sa sn sc, .slice aa an ac] 25) = z) := ⟨_, rfl⟩
  have h0 := (Sp.start Non w).alloc 25 2 1 #[.slice sa sn sc, .slice aa an ac] rfl (by decide)
  rw [HW.out] at h0
  have H0_ := h0
  try simp only [List.cons_append, List.nil_append, List.set_cons_zero, List.set_cons_succ, List.map_cons, List.map_nil, List.getD_cons_zero, List.getD_cons_succ, World.size_alloc] at H0_
  have H0 := Lib.hid H0_
  clear H0_
  have HA := Lib.hid hA
  have BG := Lib.hid (begun4_any W)
  obtain ⟨ey, HEY⟩ : ∃ z, Hid (mayE s = z) := ⟨_, rfl⟩
  obtain ⟨ez, HEZ⟩ : ∃ z, Hid (szE s = z) := ⟨_, rfl⟩
  have hbad : ey ≠ 0 ∨ ez ≠ an := by have := amE_bad hm; rw [HEY.out, HEZ.out, hA.ats.len] at this; exact this
  have HM := Lib.hid hm
  clear hA hm h0
  go_enter Try.func3, Try.ntmps3
  go_wp2_with fail
  rw [HW.out]
  refine BG.out.mono ?_; rintro e w1 ⟨rfl, hb1⟩
  have H1_ := H0.out.via hb1
  try simp only [List.cons_append, List.nil_append, List.set_cons_zero, List.set_cons_succ, List.map_cons, List.map_nil, List.getD_cons_zero, List.getD_cons_succ, World.size_alloc] at H1_
  have H1 := Lib.hid H1_
  clear H1_
  have y0 := H1.out.cell (i := 0) rfl 0 _ rfl
  have y1 := H1.out.cell (i := 0) rfl 1 _ rfl
  have co := one_any (HA.out.below H1.out.belowN (Nat.le_refl _)) r hr
  have e1 : onF s a r = [] := by unfold onF; rw [if_neg HM.out]
  have e2 : onI s a r = [] := by unfold onI; rw [if_neg HM.out]
  have e3 : onZ s a r = [] := by unfold onZ; rw [if_neg HM.out]
  have e4 : onC s a r = [] := by unfold onC; rw [if_neg HM.out]
  have e5 : onE s a = 1 := by unfold onE; rw [if_neg HM.out]
  simp only [Ar.v, e1, e2, e3, e4, e5] at co
  have CO := Lib.hid co
  clear e1 e2 e3 e4 e5 co hb1
  go_wp2_with fail
  refine CO.out.mono ?_; rintro e w2 ⟨fo, fn, fc, co, cn, cc, ⟨ka, kn, kc, la, ln, lc, ks, ls⟩, As, rfl, h2, hAs, -, -⟩
  have hfn : fn = 0 := by have := (h2.ls (i := 0) rfl).len; simpa using this.symm
  have hcn : cn = 0 := by have h := (h2.ars (i := 1) rfl).len; have h3 := congrArg List.length hAs; simp at h3; rw [h3] at h; simpa using h.symm
  subst hfn hcn
  have H2_ := (H1.out.add h2).alloc 29 4 1 #[.slice fo 0 fc, .slice co 0 cc, .slice ka kn kc, .slice la ln lc] rfl (by decide)
  try simp only [List.cons_append, List.nil_append, List.set_cons_zero, List.set_cons_succ, List.map_cons, List.map_nil, List.getD_cons_zero, List.getD_cons_succ, World.size_alloc] at H2_
  have H2 := Lib.hid H2_
  clear H2_
  have z0 := H2.out.cell (i := 4) rfl 0 _ rfl
  have z1 := H2.out.cell (i := 4) rfl 1 _ rfl
  have x0 := H2.out.cell (i := 0) rfl 0 _ rfl
  have x1 := H2.out.cell (i := 0) rfl 1 _ rfl
  have cs := size_any (HA.out.shp.below H2.out.belowN (Nat.le_refl _))
  simp only [HEY.out, HEZ.out] at cs
  have CS := Lib.hid cs
  clear y0 y1 cs h2 hAs CO
  go_wp2_with fail
  refine CS.out.mono ?_; rintro e w3 ⟨rfl, hw3⟩
  have hw3' := hw3.symm
  subst hw3'
  have HF := Lib.hid (RetB.mk (w := w) (v := .bool true) (v' := .bool true) rfl H2.out.belowN)
  by_cases hey : ey = 0
  · have q0 : (ez != an) = true := by rcases hbad with h | h; exact absurd hey h; simpa using h
    subst hey
    go_wp2
    go_ret
    exact HF.out
  · have q0 : (ey != 0) = true := by simpa using hey
    go_wp2
    go_ret
    exact HF.out
set_option maxRecDepth 100000 in
set_option maxHeartbeats 3200000 in
theorem back_ok {w : World} {A : Ar} (hA : A.Is w) {r : Int} (hr : -9223372036854775808 ≤ r ∧ r ≤ 9223372036854775807) (hm : amE A.s A.a = 0) :
    Calls Try.prog 3 #[A.v, .int .i64 r] w (RetB w (.bool true)) := by
  obtain ⟨sa, sn, sc, aa, an, ac, s, a⟩ := A
  simp only [Ar.v]
  simp only at hm
  obtain ⟨W, HW⟩ : ∃ z, Hid (w.alloc (.cells #[.slice sa sn sc, .slice aa an ac] 25) = z) := ⟨_, rfl⟩
  have h0 := (Sp.start Non w).alloc 25 2 1 #[.slice sa sn sc, .slice aa an ac] rfl (by decide)
  rw [HW.out] at h0
  have H0_ := h0
  try simp only [List.cons_append, List.nil_append, List.set_cons_zero, List.set_cons_succ, List.map_cons, List.map_nil, List.getD_cons_zero, List.getD_cons_succ, World.size_alloc] at H0_
  have H0 := Lib.hid H0_
  clear H0_
  have HA := Lib.hid hA
  have BG := Lib.hid (begun4_any W)
  obtain ⟨p1, p2, p3, p4, p5, p6⟩ := back_plain r hm
  have e5 : onE s a = 0 := by unfold onE; rw [if_pos hm]
  have CO1 := Lib.hid (fun w1 (hb : Below w.heap.size w w1) => one_any (hA.below hb (Nat.le_refl _)) r hr)
  simp only [Ar.v, e5] at CO1
  obtain ⟨fr, HFR⟩ : ∃ z, Hid (onF s a r = z) := ⟨_, rfl⟩
  obtain ⟨inn, HINN⟩ : ∃ z, Hid (onI s a r = z) := ⟨_, rfl⟩
  obtain ⟨zs, HZS⟩ : ∃ z, Hid (onZ s a r = z) := ⟨_, rfl⟩
  obtain ⟨cs, HCS⟩ : ∃ z, Hid (onC s a r = z) := ⟨_, rfl⟩
  rw [HFR.out, HINN.out, HZS.out, HCS.out] at p5
  rw [HFR.out, HCS.out] at p3 p6
  rw [HFR.out, HINN.out] at p2
  rw [HFR.out] at p1
  rw [HZS.out] at p4
  rw [HFR.out, HINN.out, HZS.out, HCS.out] at CO1
  have P1 := Lib.hid p1
  have P2 := Lib.hid p2
  have P3 := Lib.hid p3
  have P4 := Lib.hid p4
  have P5 := Lib.hid p5
  have P6 := Lib.hid p6
  clear hA hm h0 p1 p2 p3 p4 p5 p6 e5
  go_enter Try.func3, Try.ntmps3
  go_wp2_with fail
  rw [HW.out]
  refine BG.out.mono ?_; rintro e w1 ⟨rfl, hb1⟩
  have H1_ := H0.out.via hb1
  try simp only [List.cons_append, List.nil_append, List.set_cons_zero, List.set_cons_succ, List.map_cons, List.map_nil, List.getD_cons_zero, List.getD_cons_succ, World.size_alloc] at H1_
  have H1 := Lib.hid H1_
  clear H1_
  have y0 := H1.out.cell (i := 0) rfl 0 _ rfl
  have y1 := H1.out.cell (i := 0) rfl 1 _ rfl
  have CO := Lib.hid (CO1.out w1 H1.out.belowN)
  clear hb1 CO1 BG H0
  go_wp2_with fail
  refine CO.out.mono ?_; rintro e w2 ⟨fo, fn, fc, co, cn, cc, ⟨ka, kn, kc, la, ln, lc, ks, ls⟩, As, rfl, h2, hAs, hBs, hBz⟩
  simp only at hBs hBz
  have hBs' := hBs.symm
  have hBz' := hBz.symm
  subst hBs' hBz'
  have hcn : cs.length = cn := by have h := (h2.ars (i := 1) rfl).len; rw [← hAs, List.length_map]; exact h
  have H2_ := ((H1.out.add h2).alloc 29 4 1 #[.slice fo fn fc, .slice co cn cc, .slice ka kn kc, .slice la ln lc] rfl (by decide)).intsNew (E := 3) (zs := []) (World.ownsRow_nil _ _ _ _) (Below.refl _ _) (by omega) (fun i => by simp [List.getD])
  try simp only [List.cons_append, List.nil_append, List.set_cons_zero, List.set_cons_succ, List.map_cons, List.map_nil, List.getD_cons_zero, List.getD_cons_succ, World.size_alloc] at H2_
  have H2 := Lib.hid H2_
  clear H2_
  have HAS := Lib.hid hAs
  have HCN := Lib.hid hcn
  have cs1 := size_any (H2.out.ls (i := 1) rfl)
  rw [P3.out, P1.out, hcn] at cs1
  have CS := Lib.hid cs1
  have z0 := H2.out.cell (i := 4) rfl 0 _ rfl
  clear y0 y1 h2 hAs hBs hBz hcn cs1 CO H1
  go_wp2_with fail
  refine CS.out.mono ?_; rintro e w3 ⟨rfl, hw3⟩
  have hw3' := hw3.symm
  subst hw3'
  obtain ⟨W2, HW2⟩ : ∃ z, Hid (w2.alloc (.cells #[.slice fo fn fc, .slice co cn cc, .slice ka kn kc, .slice la ln lc] 29) = z) := ⟨_, rfl⟩
  have h2 := H2.out
  rw [HW2.out] at h2
  rw [HW2.out] at z0
  have H3_ := h2
  try simp only [List.cons_append, List.nil_append, List.set_cons_zero, List.set_cons_succ, List.map_cons, List.map_nil, List.getD_cons_zero, List.getD_cons_succ, World.size_alloc] at H3_
  have H3 := Lib.hid H3_
  clear H3_
  have H4_ := h2.via (adrew1 _)
  try simp only [List.cons_append, List.nil_append, List.set_cons_zero, List.set_cons_succ, List.map_cons, List.map_nil, List.getD_cons_zero, List.getD_cons_succ, World.size_alloc] at H4_
  have H4 := Lib.hid H4_
  clear H4_
  clear h2 H2 CS
  obtain ⟨i0, hi0, hz0, hz1, hz2⟩ := info_parts (P := Try.prog) (e := 3) (z := .int .i64 0) (size := 1) (bytes := 8) (by kernel_rfl)
  have LF := Lib.hid (H4.out.ls (i := 1) rfl)
  have hfl : fr.length = fn := LF.out.len
  have hil : inn.length = kn := (H4.out.isA (i := 3) rfl).shp.len
  have hfb := LF.out.big
  have hsl : s.length = sn := HA.out.shp.len
  have hsb : sn * 8 ≤ 140737488351232 := HA.out.shp.big
  have hsum : fn + kn = sn := by rw [← hfl, ← hil, ← hsl, ← P2.out, List.length_append]
  have hb1 : (0 + fn) * 8 ≤ 140737488351232 := by omega
  have hb2 : (0 + fn + kn) * 8 ≤ 140737488351232 := by omega
  clear hsum hfl hil hsl
  have x0 := H3.out.cell (i := 0) rfl 0 _ rfl
  have x1 := H3.out.cell (i := 0) rfl 1 _ rfl
  have z1 := H3.out.cell (i := 4) rfl 1 _ rfl
  have z2 := H3.out.cell (i := 4) rfl 2 _ rfl
  have z3 := H3.out.cell (i := 4) rfl 3 _ rfl
  go_wp2_with fail
  rw [HW2.out]
  go_region_held3 (fun w'' => w''.cell? ⟨w.heap.size, 0, none⟩ = some (.slice sa sn sc) ∧ w''.cell? ⟨w2.heap.size, 0, none⟩ = some (.slice fo fn fc) ∧ w''.cell? ⟨w2.heap.size, 1, none⟩ = some (.slice co cn cc) ∧ w''.cell? ⟨w2.heap.size, 2, none⟩ = some (.slice ka kn kc)) (go_keep)
    (first
    | (refine Sp.step_locG H4.out (by rfl) _ _ 22 (by rfl) 3 i0 Try.underlying22 hi0 hz0 hz1 hz2 (i := 5) rfl (by rfl) (by rfl) LF.out hb1 ?_; intro b1 d1 w4 h4; have H5 := Lib.hid h4; clear h4; clear x0 z0 z1 z2; have x0 := H5.out.cell (i := 0) rfl 0 _ rfl; have z0 := H5.out.cell (i := 4) rfl 0 _ rfl; have z1 := H5.out.cell (i := 4) rfl 1 _ rfl; have z2 := H5.out.cell (i := 4) rfl 2 _ rfl)
    | (refine Sp.step_locG H5.out (by rfl) _ _ 22 (by rfl) 3 i0 Try.underlying22 hi0 hz0 hz1 hz2 (i := 5) rfl (by rfl) (by rfl) (H5.out.isA (i := 3) rfl).shp hb2 ?_; intro b2 d2 w5 h5; have H6 := Lib.hid h5; clear h5; clear x0 z0 z1 z2; have x0 := H6.out.cell (i := 0) rfl 0 _ rfl; have z0 := H6.out.cell (i := 4) rfl 0 _ rfl; have z1 := H6.out.cell (i := 4) rfl 1 _ rfl; have z2 := H6.out.cell (i := 4) rfl 2 _ rfl; have E1_ := (eqints_any (H6.out.ls (i := 5) rfl) (HA.out.shp.below H6.out.belowN (Nat.le_refl _))); simp only [Nat.zero_add, List.nil_append, P2.out, decide_true] at E1_; have E1 := Lib.hid E1_; clear E1_)
    | (go_at_call 12; (with_reducible refine Calls.mono E1.out ?_); rintro e w6 ⟨rfl, n6, hq⟩; have H7 := Lib.hid (H6.out.via (show Below w5.heap.size w5 w6 from by rw [hq]; exact adrew _ _)); clear hq; clear x0 z0 z1 z2; have x0 := H7.out.cell (i := 0) rfl 0 _ rfl; have z0 := H7.out.cell (i := 4) rfl 0 _ rfl; have z1 := H7.out.cell (i := 4) rfl 1 _ rfl; have z2 := H7.out.cell (i := 4) rfl 2 _ rfl))
  have h8 : Sp Non w w6 [Pt.row ⟨25, 2, some ⟨w.heap.size, 0, none⟩, 1, 1, [.slice sa sn sc, .slice aa an ac]⟩, Pt.ints 3 fo fn fc fr, Pt.arrs co cn cc As, Pt.arr ⟨ka, kn, kc, la, ln, lc, inn, zs⟩, Pt.row ⟨29, 4, some ⟨w2.heap.size, 0, none⟩, 1, 1, [.slice fo fn fc, .slice co cn cc, .slice ka kn kc, .slice la ln lc]⟩] := H7.out.pick [0, 1, 2, 3, 4] (by decide)
  have H8 := Lib.hid h8
  clear h8 H3 H4 H5 H6 H7 E1 LF x0 z0 z1 z2 x1 z3 hi0 hz0 hz1 hz2 hb1 hb2 hw3
  go_wp2_with fail
  go_loopw [11] (fun v wr => ∃ k : Nat, k ≤ ln ∧ v = .int .i64 k ∧ Hid (Sp Non w wr [Pt.row ⟨25, 2, some ⟨w.heap.size, 0, none⟩, 1, 1, [.slice sa sn sc, .slice aa an ac]⟩, Pt.ints 3 fo fn fc fr, Pt.arrs co cn cc As, Pt.arr ⟨ka, kn, kc, la, ln, lc, inn, zs⟩, Pt.row ⟨29, 4, some ⟨w2.heap.size, 0, none⟩, 1, 1, [.slice fo fn fc, .slice co cn cc, .slice ka kn kc, .slice la ln lc]⟩])) (fun v _ => ln - (RowKit.intOf v).toNat)
  case atStart => exact ⟨0, by omega, rfl, H8⟩
  case round =>
    obtain ⟨k, hk, rfl, HO⟩ := hrel
    have hlb : ln * 8 ≤ 140737488351232 := (HO.out.isA (i := 3) rfl).ats.big
    have q3 := HO.out.cell (i := 4) rfl 3 _ rfl
    by_cases hlt : k < ln
    · have hat := (HO.out.isA (i := 3) rfl).ats
      simp only at hat
      obtain ⟨ab, aoff, haa, hac⟩ := hat.at (by omega)
      subst haa
      have a0 := hac k hlt
      rw [P4.out k] at a0
      have hlt' : (k : Int) < ln := by omega
      clear hat hac
      go_wp2
      go_roundw
      case rel => exact ⟨k + 1, by omega, by go_num, HO⟩
      case measure => simp [RowKit.intOf]; omega
    · have hge : ¬ ((k : Int) < ln) := by omega
      obtain rfl : k = ln := by omega
      by_cases h0 : cn = 0
      · have q0 : ((cn : Int) == 0) = true := by simp [h0]
        obtain ⟨p1, p2, p3⟩ := P5.out (by rw [HCN.out]; exact h0)
        clear h0
        have cc1 := empty_any (HO.out.ls (i := 1) rfl) (HO.out.isA (i := 3) rfl) true
        try simp only [Ar.v] at cc1
        rw [p1, p2] at cc1
        have CC := Lib.hid cc1
        have v0 := HO.out.cell (i := 4) rfl 0 _ rfl
        have v1 := HO.out.cell (i := 4) rfl 1 _ rfl
        have v2 := HO.out.cell (i := 4) rfl 2 _ rfl
        have v3 := HO.out.cell (i := 4) rfl 3 _ rfl
        clear cc1 P5 P6 q3
        go_wp2_with fail
        refine CC.out.mono ?_; rintro e w9 ⟨⟨ma, mn, mc, na, nn, nc, ms, ns⟩, rfl, hI, hs, ha, hO, hb⟩
        simp only [Ar.v] at *
        have H9_ := (HO.out.arrNew hI hO hb).alloc 25 2 1 #[.slice ma mn mc, .slice na nn nc] rfl (by decide)
        try simp only [List.cons_append, List.nil_append, List.set_cons_zero, List.set_cons_succ, List.map_cons, List.map_nil, List.getD_cons_zero, List.getD_cons_succ, World.size_alloc] at H9_
        have H9 := Lib.hid H9_
        clear H9_
        have ce := eq4_any (H9.out.isA (i := 5) rfl) (HA.out.below H9.out.belowN (Nat.le_refl _))
        simp only [Ar.v] at ce
        rw [decide_eq_true (show ms = s ∧ ns = a from ⟨hs, by rw [ha, p3]⟩)] at ce
        have CE := Lib.hid ce
        have u0 := H9.out.cell (i := 6) rfl 0 _ rfl
        have u1 := H9.out.cell (i := 6) rfl 1 _ rfl
        have u2 := H9.out.cell (i := 0) rfl 0 _ rfl
        have u3 := H9.out.cell (i := 0) rfl 1 _ rfl
        have HB := Lib.hid H9.out.belowN
        clear ce hI hs ha hO hb CC v0 v1 v2 v3 HO
        go_wp2_with fail
        refine CE.out.mono ?_; rintro e w11 ⟨rfl, hb11⟩
        go_wp2
        go_ret
        exact RetB.mk rfl (abvia HB.out hb11)
      · have q0 : ((cn : Int) == 0) = false := by simp [h0]
        obtain ⟨p1, p2, p3⟩ := P6.out (by rw [HCN.out]; exact h0)
        clear h0
        have cc1 := join_any (HO.out.ls (i := 1) rfl) (HO.out.ars (i := 2) rfl)
        try simp only [Ar.v] at cc1
        rw [HAS.out, p1, p2, p3] at cc1
        have CC := Lib.hid cc1
        have v0 := HO.out.cell (i := 4) rfl 0 _ rfl
        have v1 := HO.out.cell (i := 4) rfl 1 _ rfl
        have v2 := HO.out.cell (i := 4) rfl 2 _ rfl
        have v3 := HO.out.cell (i := 4) rfl 3 _ rfl
        clear cc1 P5 P6 q3
        go_wp2_with fail
        refine CC.out.mono ?_; rintro e w9 ⟨⟨ma, mn, mc, na, nn, nc, ms, ns⟩, rfl, hI, hs, ha, hO, hb⟩
        simp only [Ar.v] at *
        have H9_ := (HO.out.arrNew hI hO hb).alloc 25 2 1 #[.slice ma mn mc, .slice na nn nc] rfl (by decide)
        try simp only [List.cons_append, List.nil_append, List.set_cons_zero, List.set_cons_succ, List.map_cons, List.map_nil, List.getD_cons_zero, List.getD_cons_succ, World.size_alloc] at H9_
        have H9 := Lib.hid H9_
        clear H9_
        have ce := eq4_any (H9.out.isA (i := 5) rfl) (HA.out.below H9.out.belowN (Nat.le_refl _))
        simp only [Ar.v] at ce
        rw [decide_eq_true (show ms = s ∧ ns = a from ⟨hs, ha⟩)] at ce
        have CE := Lib.hid ce
        have u0 := H9.out.cell (i := 6) rfl 0 _ rfl
        have u1 := H9.out.cell (i := 6) rfl 1 _ rfl
        have u2 := H9.out.cell (i := 0) rfl 0 _ rfl
        have u3 := H9.out.cell (i := 0) rfl 1 _ rfl
        have HB := Lib.hid H9.out.belowN
        clear ce hI hs ha hO hb CC v0 v1 v2 v3 HO
        go_wp2_with fail
        refine CE.out.mono ?_; rintro e w11 ⟨rfl, hb11⟩
        go_wp2
        go_ret
        exact RetB.mk rfl (abvia HB.out hb11)
theorem walkCellBack {w : World} {A : Ar} (hA : A.Is w) {r : Int} (hr : -9223372036854775808 ≤ r ∧ r ≤ 9223372036854775807) :
    Calls Try.prog 3 #[A.v, .int .i64 r] w (RetB w (.bool true)) := by
  by_cases hm : amE A.s A.a = 0
  · exact back_ok hA hr hm
  · exact back_bad hA hr hm
end Go.Proofs.Ytfmabpdkjhlihaa
