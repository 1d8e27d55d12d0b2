/- The walk of MoldRounds (printed by gen_rounds.py). -/
import Derived.Test.YthackmkdicpdeaaGreatMoldRoundsP
import Derived.Test.YthackmkdicpdeaaGreatMoldLaws
import Derived.Deep.RegionHeld3
import Derived.Deep.Cut
import Derived.RowKit3
namespace Go.Proofs.YthackmkdicpdeaaGreat
open Go.RowKit Go.Lib
set_option linter.unusedVariables false
set_option linter.unusedSimpArgs false
attribute [local go_sem] alloc_drewN setCell_drewN
theorem am_one (n : Int) : amE [] [n] = 0 := by
  have h : mayE [] = 0 := by decide
  unfold amE
  rw [if_pos h, if_pos (by rfl)]
theorem rot_any {w : World} {X Y : Ar} (hX : X.Is w) (hY : Y.Is w) {n : Int} (hs : X.s = []) (ha : X.a = [n]) {s a S B : List Int} (h1 : Y.s = s) (h2 : Y.a = a) (hm : amE s a = 0) (e1 : s = S) (e2 : roA [n] s a = B) : Calls Tryz.prog 29 #[.int .i64 32, X.v, Y.v] w (MadeE w S B 0) := by
  subst h1 h2 e1
  obtain ⟨q1, q2, -, -⟩ := ro_one hm n
  have hn := hX.shp.len
  have h := d_rotate hX hY (by rw [hs, ha]; exact am_one n) hm (by rw [hs] at hn; simp at hn; omega)
  rw [ha, q1, q2, e2] at h
  exact h
set_option maxRecDepth 100000 in
set_option maxHeartbeats 6400000 in
theorem walkMoldRounds_no {n m : Int} (hn : -9223372036854775808 ≤ n ∧ n ≤ 9223372036854775807) (hm1 : -9223372036854775808 ≤ m ∧ m ≤ 9223372036854775807) {w : World} {Y : Ar} (hY : Y.Is w) (h : amE Y.s Y.a ≠ 0 ∨ amE Y.s Y.a = 0 ∧ (n < -1000000 ∨ -1000000 ≤ n ∧ (1000000 < n ∨ n ≤ 1000000 ∧ (m < -1000000 ∨ -1000000 ≤ m ∧ 1000000 < m)))) :
    Calls Tryz.prog 8 #[.int .i64 n, .int .i64 m, Y.v] w (RetB w (.bool true)) := by
  obtain ⟨ta, tn, tc, ba, bn, bc, t, b⟩ := Y
  simp only [Ar.v]
  simp only at h
  have h0 := (Sp.start Non w).alloc 38 2 1 #[.slice ta tn tc, .slice ba bn bc] rfl (by decide)
  obtain ⟨W, HW⟩ : ∃ z, Hid (w.alloc (.cells #[.slice ta tn tc, .slice ba bn bc] 38) = z) := ⟨_, rfl⟩
  rw [HW.out] at h0
  have H1_ := h0
  try simp only [List.cons_append, List.nil_append, List.set_cons_zero, List.set_cons_succ, List.map_cons, List.map_nil, List.getD_cons_zero, List.getD_cons_succ, World.size_alloc] at H1_
  have H1 := Lib.hid H1_
  clear H1_
  have CB := Lib.hid (begun6_any W)
  have HY := Lib.hid hY
  have HM := Lib.hid h
  clear hY h h0
  go_enter Tryz.func8, Tryz.ntmps8
  go_wp2_with fail
  rw [HW.out]
  refine CB.out.mono ?_; rintro e w2 ⟨rfl, hb⟩
  have H2_ := H1.out.via hb
  try simp only [List.cons_append, List.nil_append, List.set_cons_zero, List.set_cons_succ, List.map_cons, List.map_nil, List.getD_cons_zero, List.getD_cons_succ, World.size_alloc] at H2_
  have H2 := Lib.hid H2_
  clear H2_
  have cm := may6_any (HY.out.below H2.out.belowN (Nat.le_refl _))
  simp only [Ar.v] at cm
  obtain ⟨q, HQ⟩ : ∃ z, Hid (decide (amE t b = 0) = z) := ⟨_, rfl⟩
  rw [HQ.out] at cm
  have CM := Lib.hid cm
  have y0 := H2.out.cell (i := 0) rfl 0 _ rfl
  have y1 := H2.out.cell (i := 0) rfl 1 _ rfl
  clear hb cm CB H1
  go_upto_region 3 with fail
  have h9 := HM.out
  rcases h9 with h9 | ⟨h8, h9⟩
  · obtain rfl : q = false := by rw [← HQ.out]; exact decide_eq_false h9
    clear h9
    go_wp2_with fail
    refine CM.out.mono ?_; rintro e w3 ⟨rfl, hb⟩
    have HB := Lib.hid (H2.out.via hb).belowN
    clear hb H2 y0 y1
    go_wp2
    go_ret
    exact RetB.mk rfl HB.out
  · obtain rfl : q = true := by rw [← HQ.out]; exact decide_eq_true h8
    clear h8
    rcases h9 with h9 | ⟨h7, h9⟩
    · have k1 : decide (n < -1000000) = true := by simpa using h9
      clear h9
      go_wp2_with fail
      refine CM.out.mono ?_; rintro e w3 ⟨rfl, hb⟩
      have HB := Lib.hid (H2.out.via hb).belowN
      clear hb H2 y0 y1
      go_wp2
      go_ret
      exact RetB.mk rfl HB.out
    · have k1 : decide (n < -1000000) = false := by simp; omega
      clear h7
      rcases h9 with h9 | ⟨h7, h9⟩
      · have k2 : decide (n > 1000000) = true := by simpa using h9
        clear h9
        go_wp2_with fail
        refine CM.out.mono ?_; rintro e w3 ⟨rfl, hb⟩
        have HB := Lib.hid (H2.out.via hb).belowN
        clear hb H2 y0 y1
        go_wp2
        go_ret
        exact RetB.mk rfl HB.out
      · have k2 : decide (n > 1000000) = false := by simp; omega
        clear h7
        rcases h9 with h9 | ⟨h7, h9⟩
        · have k3 : decide (m < -1000000) = true := by simpa using h9
          clear h9
          go_wp2_with fail
          refine CM.out.mono ?_; rintro e w3 ⟨rfl, hb⟩
          have HB := Lib.hid (H2.out.via hb).belowN
          clear hb H2 y0 y1
          go_wp2
          go_ret
          exact RetB.mk rfl HB.out
        · have k3 : decide (m < -1000000) = false := by simp; omega
          have k4 : decide (m > 1000000) = true := by simp; omega
          clear h7 h9
          go_wp2_with fail
          refine CM.out.mono ?_; rintro e w3 ⟨rfl, hb⟩
          have HB := Lib.hid (H2.out.via hb).belowN
          clear hb H2 y0 y1
          go_wp2
          go_ret
          exact RetB.mk rfl HB.out
set_option maxRecDepth 100000 in
set_option maxHeartbeats 12800000 in
theorem walkMoldRounds_ok {n m : Int} (hn : -1000000 ≤ n ∧ n ≤ 1000000) (hm1 : -1000000 ≤ m ∧ m ≤ 1000000) {w : World} {Y : Ar} (hY : Y.Is w) (hm : amE Y.s Y.a = 0) :
    Calls Tryz.prog 8 #[.int .i64 n, .int .i64 m, Y.v] w (RetB w (.bool true)) := by
  have V1 := Lib.hid (ro_one hm n).2.2.2
  have V2 := Lib.hid (ro_comp hm n m)
  have V3 := Lib.hid (ro_back hm n)
  have V4 := Lib.hid (ro_id hm (n := Y.s.getD 0 0) ⟨1, by omega⟩)
  have HL := Lib.hid hY.shp.len
  obtain ⟨ta, tn, tc, ba, bn, bc, t, b⟩ := Y
  simp only [Ar.v]
  simp only at hm V1 V2 V3 V4 HL
  have h0 := (Sp.start Non w).alloc 38 2 1 #[.slice ta tn tc, .slice ba bn bc] rfl (by decide)
  obtain ⟨W0, HW0⟩ : ∃ z, Hid (w.alloc (.cells #[.slice ta tn tc, .slice ba bn bc] 38) = z) := ⟨_, rfl⟩
  rw [HW0.out] at h0
  have H1_ := h0
  try simp only [List.cons_append, List.nil_append, List.set_cons_zero, List.set_cons_succ, List.map_cons, List.map_nil, List.getD_cons_zero, List.getD_cons_succ, World.size_alloc] at H1_
  have H1 := Lib.hid H1_
  clear H1_
  obtain ⟨g, HG⟩ : ∃ z, Hid (w.heap.size = z) := ⟨_, rfl⟩
  rw [HG.out] at H1
  have CB := Lib.hid (begun6_any W0)
  have CS := Lib.hid (fun n w h => scalar6_any n w h)
  have HY := Lib.hid hY
  have HM := Lib.hid hm
  clear hY hm h0
  go_enter Tryz.func8, Tryz.ntmps8
  go_wp2_with fail
  rw [HW0.out, HG.out]
  refine CB.out.mono ?_; rintro e w2 ⟨rfl, hb⟩
  have H2_ := H1.out.via hb
  try simp only [List.cons_append, List.nil_append, List.set_cons_zero, List.set_cons_succ, List.map_cons, List.map_nil, List.getD_cons_zero, List.getD_cons_succ, World.size_alloc] at H2_
  have H2 := Lib.hid H2_
  clear H2_
  have cm := may6_any (HY.out.below H2.out.belowN (Nat.le_refl _))
  rw [decide_eq_true (by simp only; exact HM.out)] at cm
  simp only [Ar.v] at cm
  have CM := Lib.hid cm
  have y0 := H2.out.cell (i := 0) rfl 0 _ rfl
  have y1 := H2.out.cell (i := 0) rfl 1 _ rfl
  clear hb cm CB H1
  have k1 : decide (n < -1000000) = false := by simp; omega
  have k2 : decide (n > 1000000) = false := by simp; omega
  have k3 : decide (m < -1000000) = false := by simp; omega
  have k4 : decide (m > 1000000) = false := by simp; omega
  have HN := Lib.hid (And.intro hn hm1)
  clear hn hm1
  go_wp2_with fail
  refine CM.out.mono ?_; rintro e w3 ⟨rfl, hb⟩
  have H3_ := H2.out.via hb
  try simp only [List.cons_append, List.nil_append, List.set_cons_zero, List.set_cons_succ, List.map_cons, List.map_nil, List.getD_cons_zero, List.getD_cons_succ, World.size_alloc] at H3_
  have H3 := Lib.hid H3_
  clear H3_
  clear hb H2 y0 y1 CM
  have y0 := H3.out.cell (i := 0) rfl 0 _ rfl
  have y1 := H3.out.cell (i := 0) rfl 1 _ rfl
  have CLQ := Lib.hid (fun (w9 : World) (hb : Below w3.heap.size w3 w9) => CS.out n w9 (by have := HN.out; omega))
  have CYT : Hid (∀ (w9 : World) (X : Ar), Below w3.heap.size w3 w9 → X.Is w9 → X.s = [] → X.a = [n] → Calls Tryz.prog 29 #[.int .i64 32, X.v, .agg #[.slice ta tn tc, .slice ba bn bc]] w9 (MadeE w9 t (roA [n] t b) 0)) := fun w9 X hb hX hs ha =>
    rot_any (Y := ⟨ta, tn, tc, ba, bn, bc, t, b⟩) hX (HY.out.below (H3.out.via hb).belowN (Nat.le_refl _)) hs ha rfl rfl HM.out rfl rfl
  go_upto_region 5 with fail
  have hg5 := (H3.out.rlt (i := 0) rfl).1
  have ne1 : ¬ g = w3.heap.size := by omega
  have ne2 : ¬ w3.heap.size = g := by omega
  have HD1 : Hid (Below w3.heap.size w3 (w3.alloc (.cells #[.slice none 0 0, .slice none 0 0] 38)).drew) := abvia (abal w3 _) (adrew1 _)
  have HG5' := Lib.hid hg5
  clear hg5
  go_upto_region 5 with fail
  go_cut [7, 8] from 32 to 39 (fun v7 v8 wx => ∃ (g8 : Nat) (R : Ar), v7 = .pointer (some ⟨g8, 0, none⟩) ∧ v8 = .int .i64 0 ∧ Hid (Sp Non w wx [Pt.row ⟨38, 2, some ⟨g, 0, none⟩, 1, 1, [.slice ta tn tc, .slice ba bn bc]⟩, Pt.arr R, Pt.row ⟨38, 2, some ⟨g8, 0, none⟩, 1, 1, [.slice R.sa R.sn R.sc, .slice R.aa R.an R.ac]⟩]) ∧ Hid (R.s = t ∧ R.a = (roA [n] t b)))
  case first =>
    go_region_held3 (fun v => v.cell? ⟨g, 0, none⟩ = some (.slice ta tn tc) ∧ v.cell? ⟨g, 1, none⟩ = some (.slice ba bn bc)) (go_keep)
      (first
      | (go_at_call 28; (with_reducible refine Calls.mono (CLQ.out _ (adrew1 _)) ?_); rintro e v1 ⟨⟨sa7, sn7, sc7, aa7, an7, ac7, s7, a7⟩, rfl, hI, hs, ha, hO, hq⟩; have H7 := Lib.hid ((H3.out.via (adrew1 w3)).via hq); have C2 := Lib.hid (CYT.out v1 _ (abvia (adrew1 w3) hq) hI hs ha); have C3 := Lib.hid (CYT.out (v1.alloc (.cells #[.slice none 0 0, .slice none 0 0] 38)) _ (abvia (abvia (adrew1 w3) hq) (abal _ _)) (hI.via (abal _ _)) hs ha); simp only [Ar.v] at C2 C3 ⊢; have hsz := hq.size; have hg5 := HG5'.out; have ne3 : ¬ g = v1.heap.size := (by simp at hsz; omega); have ne4 : ¬ v1.heap.size = g := (by simp at hsz; omega); clear CLQ hI hs ha hO hq y0 y1 hsz hg5; have y0 := H7.out.cell (i := 0) rfl 0 _ rfl; have y1 := H7.out.cell (i := 0) rfl 1 _ rfl)
      | (go_at_call 28; (with_reducible refine Calls.mono (CLQ.out _ HD1.out) ?_); rintro e v1 ⟨⟨sa7, sn7, sc7, aa7, an7, ac7, s7, a7⟩, rfl, hI, hs, ha, hO, hq⟩; have H7 := Lib.hid (((H3.out.alloc 38 2 1 #[.slice none 0 0, .slice none 0 0] rfl (by decide)).via (adrew1 _)).via hq); have C4 := Lib.hid (CYT.out v1 _ (abvia HD1.out hq) hI hs ha); simp only [Ar.v] at C4 ⊢; clear CLQ hI hs ha hO hq y0 y1; have y0 := H7.out.cell (i := 0) rfl 0 _ rfl; have y1 := H7.out.cell (i := 0) rfl 1 _ rfl; have x0 := H7.out.cell (i := 1) rfl 0 _ rfl; have x1 := H7.out.cell (i := 1) rfl 1 _ rfl; have x2 := H7.out.frozen (i := 1) rfl 0; have x3 := H7.out.frozen (i := 1) rfl 1)
      | (have hreq := C2; go_at_call 29; (with_reducible refine Calls.mono C2.out ?_); rintro e v2 ⟨⟨sa8, sn8, sc8, aa8, an8, ac8, s8, a8⟩, rfl, hI, hs, ha, hO, hq⟩; have hlt := (H7.out.rlt (i := 0) rfl).1; have hsz := hq.size; have ne5 : ¬ g = v2.heap.size := (by omega); have ne6 : ¬ v2.heap.size = g := (by omega); have H8 := Lib.hid (H7.out.arrNew hI hO hq); have HV8 := Lib.hid (And.intro hs ha); simp only [Ar.v]; clear hI hs ha hO hq hreq C2 C3 y0 y1 hlt hsz; have y0 := H8.out.cell (i := 0) rfl 0 _ rfl; have y1 := H8.out.cell (i := 0) rfl 1 _ rfl)
      | (have hreq := C3; go_at_call 29; (with_reducible refine Calls.mono C3.out ?_); rintro e v2 ⟨⟨sa8, sn8, sc8, aa8, an8, ac8, s8, a8⟩, rfl, hI, hs, ha, hO, hq⟩; have H8 := Lib.hid ((H7.out.alloc 38 2 1 #[.slice none 0 0, .slice none 0 0] rfl (by decide)).arrNew hI hO hq); have HV8 := Lib.hid (And.intro hs ha); simp only [Ar.v]; clear hI hs ha hO hq hreq C2 C3 y0 y1; have y0 := H8.out.cell (i := 0) rfl 0 _ rfl; have y1 := H8.out.cell (i := 0) rfl 1 _ rfl; have x0 := H8.out.cell (i := 1) rfl 0 _ rfl; have x1 := H8.out.cell (i := 1) rfl 1 _ rfl; have x2 := H8.out.frozen (i := 1) rfl 0; have x3 := H8.out.frozen (i := 1) rfl 1)
      | (have hreq := C4; go_at_call 29; (with_reducible refine Calls.mono C4.out ?_); rintro e v2 ⟨⟨sa8, sn8, sc8, aa8, an8, ac8, s8, a8⟩, rfl, hI, hs, ha, hO, hq⟩; have H8 := Lib.hid (H7.out.arrNew hI hO hq); have HV8 := Lib.hid (And.intro hs ha); simp only [Ar.v]; clear hI hs ha hO hq hreq C4 y0 y1 x0 x1 x2 x3; have y0 := H8.out.cell (i := 0) rfl 0 _ rfl; have y1 := H8.out.cell (i := 0) rfl 1 _ rfl; have x0 := H8.out.cell (i := 1) rfl 0 _ rfl; have x1 := H8.out.cell (i := 1) rfl 1 _ rfl; have x2 := H8.out.frozen (i := 1) rfl 0; have x3 := H8.out.frozen (i := 1) rfl 1)
      )
    all_goals
      go_wp2_with fail
      go_meet
      first
      | exact ⟨v2.heap.size, ⟨sa8, sn8, sc8, aa8, an8, ac8, s8, a8⟩, rfl, rfl, (H8.out.alloc 38 2 1 #[.slice sa8 sn8 sc8, .slice aa8 an8 ac8] rfl (by decide)).pick [0, 1, 2] (by decide), HV8⟩
      | exact ⟨v1.heap.size, ⟨sa8, sn8, sc8, aa8, an8, ac8, s8, a8⟩, rfl, rfl, ((H8.out.put (i := 1) rfl 0 (.slice sa8 sn8 sc8)).put (i := 1) rfl 1 (.slice aa8 an8 ac8)).pick [0, 2, 1] (by decide), HV8⟩
      | exact ⟨w3.heap.size, ⟨sa8, sn8, sc8, aa8, an8, ac8, s8, a8⟩, rfl, rfl, ((H8.out.put (i := 1) rfl 0 (.slice sa8 sn8 sc8)).put (i := 1) rfl 1 (.slice aa8 an8 ac8)).pick [0, 2, 1] (by decide), HV8⟩
  case rest =>
    obtain ⟨g1, ⟨sa1, sn1, sc1, aa1, an1, ac1, s1, a1⟩, rfl, rfl, HO1, HV1⟩ := hcut
    simp only at HO1 HV1
    obtain ⟨U1, hU⟩ : ∃ z : World, z = wc := ⟨_, rfl⟩
    subst hU
    clear ne1 ne2 HD1 HG5' y0 y1
    obtain ⟨e1, e2⟩ := HV1.out
    subst e1 e2
    have CLQ := Lib.hid (fun (w9 : World) (hb : Below U1.heap.size U1 w9) => CS.out m w9 (by have := HN.out; omega))
    have CYT : Hid (∀ (w9 : World) (X : Ar), Below U1.heap.size U1 w9 → X.Is w9 → X.s = [] → X.a = [m] → Calls Tryz.prog 29 #[.int .i64 32, X.v, .agg #[.slice sa1 sn1 sc1, .slice aa1 an1 ac1]] w9 (MadeE w9 s1 (roA [n + m] s1 b) 0)) := fun w9 X hb hX hs ha =>
      rot_any hX ((HO1.out.via hb).isA (i := 1) rfl) hs ha rfl rfl V1.out rfl V2.out
    have y0 := HO1.out.cell (i := 2) rfl 0 _ rfl
    have y1 := HO1.out.cell (i := 2) rfl 1 _ rfl
    clear H3
    have hg5 := (HO1.out.rlt (i := 2) rfl).1
    have ne1 : ¬ g1 = U1.heap.size := by omega
    have ne2 : ¬ U1.heap.size = g1 := by omega
    have HD1 : Hid (Below U1.heap.size U1 (U1.alloc (.cells #[.slice none 0 0, .slice none 0 0] 38)).drew) := abvia (abal U1 _) (adrew1 _)
    have HG5' := Lib.hid hg5
    clear hg5
    go_upto_region 6 with fail
    go_cut [9, 10] from 39 to 46 (fun v9 v10 wx => ∃ (g8 : Nat) (R : Ar), v9 = .pointer (some ⟨g8, 0, none⟩) ∧ v10 = .int .i64 0 ∧ Hid (Sp Non w wx [Pt.row ⟨38, 2, some ⟨g, 0, none⟩, 1, 1, [.slice ta tn tc, .slice ba bn bc]⟩, Pt.arr ⟨sa1, sn1, sc1, aa1, an1, ac1, s1, roA [n] s1 b⟩, Pt.row ⟨38, 2, some ⟨g1, 0, none⟩, 1, 1, [.slice sa1 sn1 sc1, .slice aa1 an1 ac1]⟩, Pt.arr R, Pt.row ⟨38, 2, some ⟨g8, 0, none⟩, 1, 1, [.slice R.sa R.sn R.sc, .slice R.aa R.an R.ac]⟩]) ∧ Hid (R.s = s1 ∧ R.a = (roA [n + m] s1 b)))
    case first =>
      go_region_held3 (fun v => v.cell? ⟨g1, 0, none⟩ = some (.slice sa1 sn1 sc1) ∧ v.cell? ⟨g1, 1, none⟩ = some (.slice aa1 an1 ac1)) (go_keep)
        (first
        | (go_at_call 28; (with_reducible refine Calls.mono (CLQ.out _ (adrew1 _)) ?_); rintro e v1 ⟨⟨sa7, sn7, sc7, aa7, an7, ac7, s7, a7⟩, rfl, hI, hs, ha, hO, hq⟩; have H7 := Lib.hid ((HO1.out.via (adrew1 U1)).via hq); have C2 := Lib.hid (CYT.out v1 _ (abvia (adrew1 U1) hq) hI hs ha); have C3 := Lib.hid (CYT.out (v1.alloc (.cells #[.slice none 0 0, .slice none 0 0] 38)) _ (abvia (abvia (adrew1 U1) hq) (abal _ _)) (hI.via (abal _ _)) hs ha); simp only [Ar.v] at C2 C3 ⊢; have hsz := hq.size; have hg5 := HG5'.out; have ne3 : ¬ g1 = v1.heap.size := (by simp at hsz; omega); have ne4 : ¬ v1.heap.size = g1 := (by simp at hsz; omega); clear CLQ hI hs ha hO hq y0 y1 hsz hg5; have y0 := H7.out.cell (i := 2) rfl 0 _ rfl; have y1 := H7.out.cell (i := 2) rfl 1 _ rfl)
        | (go_at_call 28; (with_reducible refine Calls.mono (CLQ.out _ HD1.out) ?_); rintro e v1 ⟨⟨sa7, sn7, sc7, aa7, an7, ac7, s7, a7⟩, rfl, hI, hs, ha, hO, hq⟩; have H7 := Lib.hid (((HO1.out.alloc 38 2 1 #[.slice none 0 0, .slice none 0 0] rfl (by decide)).via (adrew1 _)).via hq); have C4 := Lib.hid (CYT.out v1 _ (abvia HD1.out hq) hI hs ha); simp only [Ar.v] at C4 ⊢; clear CLQ hI hs ha hO hq y0 y1; have y0 := H7.out.cell (i := 2) rfl 0 _ rfl; have y1 := H7.out.cell (i := 2) rfl 1 _ rfl; have x0 := H7.out.cell (i := 3) rfl 0 _ rfl; have x1 := H7.out.cell (i := 3) rfl 1 _ rfl; have x2 := H7.out.frozen (i := 3) rfl 0; have x3 := H7.out.frozen (i := 3) rfl 1)
        | (have hreq := C2; go_at_call 29; (with_reducible refine Calls.mono C2.out ?_); rintro e v2 ⟨⟨sa8, sn8, sc8, aa8, an8, ac8, s8, a8⟩, rfl, hI, hs, ha, hO, hq⟩; have hlt := (H7.out.rlt (i := 2) rfl).1; have hsz := hq.size; have ne5 : ¬ g1 = v2.heap.size := (by omega); have ne6 : ¬ v2.heap.size = g1 := (by omega); have H8 := Lib.hid (H7.out.arrNew hI hO hq); have HV8 := Lib.hid (And.intro hs ha); simp only [Ar.v]; clear hI hs ha hO hq hreq C2 C3 y0 y1 hlt hsz; have y0 := H8.out.cell (i := 2) rfl 0 _ rfl; have y1 := H8.out.cell (i := 2) rfl 1 _ rfl)
        | (have hreq := C3; go_at_call 29; (with_reducible refine Calls.mono C3.out ?_); rintro e v2 ⟨⟨sa8, sn8, sc8, aa8, an8, ac8, s8, a8⟩, rfl, hI, hs, ha, hO, hq⟩; have H8 := Lib.hid ((H7.out.alloc 38 2 1 #[.slice none 0 0, .slice none 0 0] rfl (by decide)).arrNew hI hO hq); have HV8 := Lib.hid (And.intro hs ha); simp only [Ar.v]; clear hI hs ha hO hq hreq C2 C3 y0 y1; have y0 := H8.out.cell (i := 2) rfl 0 _ rfl; have y1 := H8.out.cell (i := 2) rfl 1 _ rfl; have x0 := H8.out.cell (i := 3) rfl 0 _ rfl; have x1 := H8.out.cell (i := 3) rfl 1 _ rfl; have x2 := H8.out.frozen (i := 3) rfl 0; have x3 := H8.out.frozen (i := 3) rfl 1)
        | (have hreq := C4; go_at_call 29; (with_reducible refine Calls.mono C4.out ?_); rintro e v2 ⟨⟨sa8, sn8, sc8, aa8, an8, ac8, s8, a8⟩, rfl, hI, hs, ha, hO, hq⟩; have H8 := Lib.hid (H7.out.arrNew hI hO hq); have HV8 := Lib.hid (And.intro hs ha); simp only [Ar.v]; clear hI hs ha hO hq hreq C4 y0 y1 x0 x1 x2 x3; have y0 := H8.out.cell (i := 2) rfl 0 _ rfl; have y1 := H8.out.cell (i := 2) rfl 1 _ rfl; have x0 := H8.out.cell (i := 3) rfl 0 _ rfl; have x1 := H8.out.cell (i := 3) rfl 1 _ rfl; have x2 := H8.out.frozen (i := 3) rfl 0; have x3 := H8.out.frozen (i := 3) rfl 1)
        )
      all_goals
        go_wp2_with fail
        go_meet
        first
        | exact ⟨v2.heap.size, ⟨sa8, sn8, sc8, aa8, an8, ac8, s8, a8⟩, rfl, rfl, (H8.out.alloc 38 2 1 #[.slice sa8 sn8 sc8, .slice aa8 an8 ac8] rfl (by decide)).pick [0, 1, 2, 3, 4] (by decide), HV8⟩
        | exact ⟨v1.heap.size, ⟨sa8, sn8, sc8, aa8, an8, ac8, s8, a8⟩, rfl, rfl, ((H8.out.put (i := 3) rfl 0 (.slice sa8 sn8 sc8)).put (i := 3) rfl 1 (.slice aa8 an8 ac8)).pick [0, 1, 2, 4, 3] (by decide), HV8⟩
        | exact ⟨U1.heap.size, ⟨sa8, sn8, sc8, aa8, an8, ac8, s8, a8⟩, rfl, rfl, ((H8.out.put (i := 3) rfl 0 (.slice sa8 sn8 sc8)).put (i := 3) rfl 1 (.slice aa8 an8 ac8)).pick [0, 1, 2, 4, 3] (by decide), HV8⟩
    case rest =>
      obtain ⟨g2, ⟨sa2, sn2, sc2, aa2, an2, ac2, s2, a2⟩, rfl, rfl, HO2, HV2⟩ := hcut
      simp only at HO2 HV2
      obtain ⟨U2, hU⟩ : ∃ z : World, z = wc := ⟨_, rfl⟩
      subst hU
      clear ne1 ne2 HD1 HG5' y0 y1
      have HC1 := Lib.hid (fun w9 => CS.out (n + m) w9 (by have := HN.out; omega))
      have HC2 := Lib.hid (fun w9 => CS.out (-n) w9 (by have := HN.out; omega))
      have HB1 : Hid (∀ (w9 : World) (X : Ar), Below U2.heap.size U2 w9 → X.Is w9 → X.s = [] → X.a = [n + m] → Calls Tryz.prog 27 #[.int .i64 32, X.v, .agg #[.slice ta tn tc, .slice ba bn bc], .agg #[.slice sa2 sn2 sc2, .slice aa2 an2 ac2]] w9 (RetB w9 (.bool true))) := fun w9 X hb hX hs ha =>
        both_true (X := X) (Y := ⟨ta, tn, tc, ba, bn, bc, s1, b⟩) (Z := ⟨sa2, sn2, sc2, aa2, an2, ac2, s2, a2⟩) ((HO2.out.via hb).isA (i := 3) rfl) rfl rfl fun W hW =>
          rot_any (hX.below hW (Nat.le_refl _)) (HY.out.below ((HO2.out.via hb).via hW).belowN (Nat.le_refl _)) hs ha rfl rfl HM.out HV2.out.1.symm HV2.out.2.symm
      have HB2 : Hid (∀ (w9 : World) (X : Ar), Below U2.heap.size U2 w9 → X.Is w9 → X.s = [] → X.a = [-n] → Calls Tryz.prog 27 #[.int .i64 32, X.v, .agg #[.slice sa1 sn1 sc1, .slice aa1 an1 ac1], .agg #[.slice ta tn tc, .slice ba bn bc]] w9 (RetB w9 (.bool true))) := fun w9 X hb hX hs ha =>
        both_true (X := X) (Y := ⟨sa1, sn1, sc1, aa1, an1, ac1, s1, roA [n] s1 b⟩) (Z := ⟨ta, tn, tc, ba, bn, bc, s1, b⟩) (HY.out.below (HO2.out.via hb).belowN (Nat.le_refl _)) rfl rfl fun W hW =>
          rot_any (hX.below hW (Nat.le_refl _)) (((HO2.out.via hb).via hW).isA (i := 1) rfl) hs ha rfl rfl V1.out rfl V3.out
      have z0 := HO2.out.cell (i := 0) rfl 0 _ rfl; have z1 := HO2.out.cell (i := 0) rfl 1 _ rfl; have z2 := HO2.out.cell (i := 2) rfl 0 _ rfl; have z3 := HO2.out.cell (i := 2) rfl 1 _ rfl; have z4 := HO2.out.cell (i := 4) rfl 0 _ rfl; have z5 := HO2.out.cell (i := 4) rfl 1 _ rfl
      go_upto_region 7 with fail
      go_cut [70] from 46 to 71 (fun v70 wx => v70 = .bool false ∧ Hid (Sp Non w wx [Pt.row ⟨38, 2, some ⟨g, 0, none⟩, 1, 1, [.slice ta tn tc, .slice ba bn bc]⟩]))
      case first =>
        have w1 : IntKind.i64.wrap (n + m) = n + m := IntWalk.i64_in _ (by have := HN.out; omega)
        have w2 : IntKind.i64.wrap (-n) = -n := IntWalk.i64_in _ (by have := HN.out; omega)
        go_region_held3 (fun v => v.cell? ⟨g, 0, none⟩ = some (.slice ta tn tc) ∧ v.cell? ⟨g, 1, none⟩ = some (.slice ba bn bc) ∧ v.cell? ⟨g1, 0, none⟩ = some (.slice sa1 sn1 sc1) ∧ v.cell? ⟨g1, 1, none⟩ = some (.slice aa1 an1 ac1) ∧ v.cell? ⟨g2, 0, none⟩ = some (.slice sa2 sn2 sc2) ∧ v.cell? ⟨g2, 1, none⟩ = some (.slice aa2 an2 ac2)) (go_keep)
          (first
          | (go_at_call 28; (with_reducible refine Calls.mono (HC1.out _) ?_); rintro e v1 ⟨⟨ta2, tn2, tc2, ua2, un2, uc2, ts2, us2⟩, rfl, hI, hs, ha, -, hq⟩; have K1 : Hid (Below U2.heap.size U2 v1) := (by show Below _ _ _; exact abvia (adrew1 _) hq); have F1 := Lib.hid (HB1.out v1 _ K1.out hI hs ha); simp only [Ar.v] at F1 ⊢; clear hI hs ha hq z0 z1 z2 z3 z4 z5; have z0 := (HO2.out.via K1.out).cell (i := 0) rfl 0 _ rfl; have z1 := (HO2.out.via K1.out).cell (i := 0) rfl 1 _ rfl; have z2 := (HO2.out.via K1.out).cell (i := 2) rfl 0 _ rfl; have z3 := (HO2.out.via K1.out).cell (i := 2) rfl 1 _ rfl; have z4 := (HO2.out.via K1.out).cell (i := 4) rfl 0 _ rfl; have z5 := (HO2.out.via K1.out).cell (i := 4) rfl 1 _ rfl)
          | (have hreq := F1; go_at_call 27; (with_reducible refine Calls.mono F1.out ?_); rintro e v2 ⟨rfl, hq⟩; have K2 : Hid (Below U2.heap.size U2 v2) := (by show Below _ _ _; exact abvia K1.out hq); clear hq F1 hreq z0 z1 z2 z3 z4 z5; have z0 := (HO2.out.via K2.out).cell (i := 0) rfl 0 _ rfl; have z1 := (HO2.out.via K2.out).cell (i := 0) rfl 1 _ rfl; have z2 := (HO2.out.via K2.out).cell (i := 2) rfl 0 _ rfl; have z3 := (HO2.out.via K2.out).cell (i := 2) rfl 1 _ rfl; have z4 := (HO2.out.via K2.out).cell (i := 4) rfl 0 _ rfl; have z5 := (HO2.out.via K2.out).cell (i := 4) rfl 1 _ rfl)
          | (have hreq := K2; go_at_call 28; (with_reducible refine Calls.mono (HC2.out _) ?_); rintro e v3 ⟨⟨ta3, tn3, tc3, ua3, un3, uc3, ts3, us3⟩, rfl, hI, hs, ha, -, hq⟩; have K3 : Hid (Below U2.heap.size U2 v3) := (by show Below _ _ _; exact abvia K2.out hq); have F2 := Lib.hid (HB2.out v3 _ K3.out hI hs ha); simp only [Ar.v] at F2 ⊢; clear hI hs ha hq hreq K2 z0 z1 z2 z3 z4 z5; have z0 := (HO2.out.via K3.out).cell (i := 0) rfl 0 _ rfl; have z1 := (HO2.out.via K3.out).cell (i := 0) rfl 1 _ rfl; have z2 := (HO2.out.via K3.out).cell (i := 2) rfl 0 _ rfl; have z3 := (HO2.out.via K3.out).cell (i := 2) rfl 1 _ rfl; have z4 := (HO2.out.via K3.out).cell (i := 4) rfl 0 _ rfl; have z5 := (HO2.out.via K3.out).cell (i := 4) rfl 1 _ rfl)
          | (have hreq := F2; go_at_call 27; (with_reducible refine Calls.mono F2.out ?_); rintro e v4 ⟨rfl, hq⟩; have K4 : Hid (Below U2.heap.size U2 v4) := (by show Below _ _ _; exact abvia K3.out hq); clear hq F2 hreq z0 z1 z2 z3 z4 z5; have z0 := (HO2.out.via K4.out).cell (i := 0) rfl 0 _ rfl; have z1 := (HO2.out.via K4.out).cell (i := 0) rfl 1 _ rfl; have z2 := (HO2.out.via K4.out).cell (i := 2) rfl 0 _ rfl; have z3 := (HO2.out.via K4.out).cell (i := 2) rfl 1 _ rfl; have z4 := (HO2.out.via K4.out).cell (i := 4) rfl 0 _ rfl; have z5 := (HO2.out.via K4.out).cell (i := 4) rfl 1 _ rfl)
          )
        all_goals
          go_wp2_with fail
          go_meet
          exact ⟨rfl, (HO2.out.via K4.out).pick [0] (by decide)⟩
      case rest =>
        obtain ⟨rfl, H7⟩ := hcut
        obtain ⟨U7, hU⟩ : ∃ z : World, z = wc := ⟨_, rfl⟩
        subst hU
        clear z0 z1 z2 z3 z4 z5 HB1 HB2 HC1 HC2 HO1 HO2 HV1 HV2
        have y0 := H7.out.cell (i := 0) rfl 0 _ rfl
        have y1 := H7.out.cell (i := 0) rfl 1 _ rfl
        by_cases htn : tn = 0
        · subst htn
          go_upto_region 9 with fail
          go_quiet (fail)
          have HB := Lib.hid (H7.out.via (adrew U7 nq)).belowN
          go_wp2
          go_ret
          exact RetB.mk rfl HB.out
        · have k5 : ((tn : Int) == 0) = false := by simp; omega
          have k6 : (0 : Int) < tn := by omega
          have k7 : 0 < tn := by omega
          obtain ⟨b3, o3, e3, hc3⟩ := HY.out.shp.at (by simp only; omega)
          have d3 := hc3 0 (by simp only; omega)
          simp only [Nat.add_zero] at e3 d3
          have hlt3 : b3 < w.heap.size := World.block_lt_of_cell? w _ d3
          subst e3
          obtain ⟨k, HK⟩ : ∃ z, Hid (s1.getD 0 0 = z) := ⟨_, rfl⟩
          rw [HK.out] at d3
          have HR := Lib.hid (HY.out.shp.rng 0)
          simp only at HR
          have HC1 := Lib.hid (fun w9 => CS.out k w9 (by have := HR.out; rw [HK.out] at this; omega))
          have HB1 : Hid (∀ (w9 : World) (X : Ar), Below U7.heap.size U7 w9 → X.Is w9 → X.s = [] → X.a = [k] → Calls Tryz.prog 27 #[.int .i64 32, X.v, .agg #[.slice (some ⟨b3, o3, none⟩) tn tc, .slice ba bn bc], .agg #[.slice (some ⟨b3, o3, none⟩) tn tc, .slice ba bn bc]] w9 (RetB w9 (.bool true))) := fun w9 X hb hX hs ha =>
            both_true (X := X) (Y := ⟨some ⟨b3, o3, none⟩, tn, tc, ba, bn, bc, s1, b⟩) (Z := ⟨some ⟨b3, o3, none⟩, tn, tc, ba, bn, bc, s1, b⟩) (HY.out.below (H7.out.via hb).belowN (Nat.le_refl _)) rfl rfl fun W hW =>
              rot_any (hX.below hW (Nat.le_refl _)) (HY.out.below ((H7.out.via hb).via hW).belowN (Nat.le_refl _)) hs ha rfl rfl HM.out rfl (by rw [← HK.out]; exact V4.out)
          have HD3 := Lib.hid (fun (w9 : World) (hb : Below w.heap.size w w9) => (hb.cell (p := ⟨b3, o3, none⟩) hlt3).trans d3)
          have z0 := H7.out.cell (i := 0) rfl 0 _ rfl
          have z1 := H7.out.cell (i := 0) rfl 1 _ rfl
          have z2 := HD3.out _ H7.out.belowN
          clear y0 y1 hc3 d3 hlt3
          go_upto_region 9 with fail
          go_region_held3 (fun v => v.cell? ⟨g, 0, none⟩ = some (.slice (some ⟨b3, o3, none⟩) tn tc) ∧ v.cell? ⟨g, 1, none⟩ = some (.slice ba bn bc) ∧ v.cell? ⟨b3, o3, none⟩ = some (.int .i64 k)) (go_keep)
            (first
            | (go_at_call 28; (with_reducible refine Calls.mono (HC1.out _) ?_); rintro e v1 ⟨⟨ta2, tn2, tc2, ua2, un2, uc2, ts2, us2⟩, rfl, hI, hs, ha, -, hq⟩; have K1 : Hid (Below U7.heap.size U7 v1) := (by show Below _ _ _; exact abvia (adrew1 _) hq); have F1 := Lib.hid (HB1.out v1 _ K1.out hI hs ha); simp only [Ar.v] at F1 ⊢; clear hI hs ha hq z0 z1 z2; have z0 := (H7.out.via K1.out).cell (i := 0) rfl 0 _ rfl; have z1 := (H7.out.via K1.out).cell (i := 0) rfl 1 _ rfl; have z2 := HD3.out _ (H7.out.via K1.out).belowN)
            | (have hreq := F1; go_at_call 27; (with_reducible refine Calls.mono F1.out ?_); rintro e v2 ⟨rfl, hq⟩; have K2 : Hid (Below U7.heap.size U7 v2) := (by show Below _ _ _; exact abvia K1.out hq); clear hq F1 hreq z0 z1 z2; have z0 := (H7.out.via K2.out).cell (i := 0) rfl 0 _ rfl; have z1 := (H7.out.via K2.out).cell (i := 0) rfl 1 _ rfl; have z2 := HD3.out _ (H7.out.via K2.out).belowN)
            )
          all_goals
            have HB := Lib.hid (H7.out.via K2.out).belowN
            go_wp2
            go_ret
            exact RetB.mk rfl HB.out
set_option maxRecDepth 100000 in
theorem walkMoldRounds {n : Int} (hn : -9223372036854775808 ≤ n ∧ n ≤ 9223372036854775807) {m : Int} (hm1 : -9223372036854775808 ≤ m ∧ m ≤ 9223372036854775807) {w : World} {Y : Ar} (hY : Y.Is w) : Calls Tryz.prog 8 #[.int .i64 n, .int .i64 m, Y.v] w (RetB w (.bool true)) := by
  by_cases hm : amE Y.s Y.a = 0
  · by_cases h : n < -1000000 ∨ -1000000 ≤ n ∧ (1000000 < n ∨ n ≤ 1000000 ∧ (m < -1000000 ∨ -1000000 ≤ m ∧ 1000000 < m))
    · exact walkMoldRounds_no hn hm1 hY (.inr ⟨hm, h⟩)
    · exact walkMoldRounds_ok (by omega) (by omega) hY hm
  · exact walkMoldRounds_no hn hm1 hY (.inl hm)
end Go.Proofs.YthackmkdicpdeaaGreat
