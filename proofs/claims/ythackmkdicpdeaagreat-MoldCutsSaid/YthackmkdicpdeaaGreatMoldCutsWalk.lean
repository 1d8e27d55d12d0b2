/- The walk of MoldCuts (printed by gen_cuts.py). -/
import Derived.Test.YthackmkdicpdeaaGreatMoldCutsP
import Derived.Test.YthackmkdicpdeaaGreatMoldLaws
import Derived.Deep.RegionHeld3
import Derived.Deep.Cut
import Derived.RowKit3
namespace Go.Proofs.YthackmkdicpdeaaGreat
open Go.RowKit Go.Lib
set_option linter.unusedVariables false
set_option linter.unusedSimpArgs false
attribute [local go_sem] alloc_drewN setCell_drewN
theorem tkv_any {w : World} {X Y : Ar} (hX : X.Is w) (hY : Y.Is w) {n : Int} (hs : X.s = []) (ha : X.a = [n]) (hm : amE Y.s Y.a = 0) {S A : List Int} {E : Int} (e1 : tkS [n] Y.s = S) (e2 : tkA [n] Y.s Y.a = A) (e3 : tkE [n] Y.s = E) : Calls Tryz.prog 29 #[.int .i64 28, X.v, Y.v] w (MadeE w S A E) := by
  subst e1 e2 e3
  have hn := hX.shp.len
  have h := d_take hX hY (by rw [hs, ha]; exact am_one1 n) hm (by rw [hs] at hn; simp at hn; omega)
  rw [ha] at h
  exact h
theorem drv_any {w : World} {X Y : Ar} (hX : X.Is w) (hY : Y.Is w) {n : Int} (hs : X.s = []) (ha : X.a = [n]) (hm : amE Y.s Y.a = 0) {S A : List Int} {E : Int} (e1 : drS [n] Y.s = S) (e2 : drA [n] Y.s Y.a = A) (e3 : drE [n] Y.s = E) : Calls Tryz.prog 29 #[.int .i64 29, X.v, Y.v] w (MadeE w S A E) := by
  subst e1 e2 e3
  have hn := hX.shp.len
  have h := d_drop hX hY (by rw [hs, ha]; exact am_one1 n) hm (by rw [hs] at hn; simp at hn; omega)
  rw [ha] at h
  exact h
set_option maxRecDepth 100000 in
set_option maxHeartbeats 6400000 in
theorem walkMoldCuts_no {n : Int} (hn : -9223372036854775808 ≤ n ∧ n ≤ 9223372036854775807) {w : World} {Y : Ar} (hY : Y.Is w) (h : amE Y.s Y.a ≠ 0 ∨ amE Y.s Y.a = 0 ∧ Y.s.length = 0) :
    Calls Tryz.prog 7 #[.int .i64 n, Y.v] w (RetB w (.bool true)) := by
  have hl := hY.shp.len
  obtain ⟨ta, tn, tc, ba, bn, bc, t, b⟩ := Y
  simp only [Ar.v]
  simp only at h hl
  have h0 := (Sp.start Non w).alloc 38 2 1 #[.slice ta tn tc, .slice ba bn bc] rfl (by decide)
  obtain ⟨W, HW⟩ : ∃ z, Hid (w.alloc (.cells #[.slice ta tn tc, .slice ba bn bc] 38) = z) := ⟨_, rfl⟩
  rw [HW.out] at h0
  have H1_ := h0
  try simp only [List.cons_append, List.nil_append, List.set_cons_zero, List.set_cons_succ, List.map_cons, List.map_nil, List.getD_cons_zero, List.getD_cons_succ, World.size_alloc] at H1_
  have H1 := Lib.hid H1_
  clear H1_
  have CB := Lib.hid (begun6_any W)
  have HY := Lib.hid hY
  have HM := Lib.hid h
  have HL := Lib.hid hl
  clear hY h h0 hl
  go_enter Tryz.func7, Tryz.ntmps7
  go_wp2_with fail
  rw [HW.out]
  refine CB.out.mono ?_; rintro e w2 ⟨rfl, hb⟩
  have H2_ := H1.out.via hb
  try simp only [List.cons_append, List.nil_append, List.set_cons_zero, List.set_cons_succ, List.map_cons, List.map_nil, List.getD_cons_zero, List.getD_cons_succ, World.size_alloc] at H2_
  have H2 := Lib.hid H2_
  clear H2_
  have cm := may6_any (HY.out.below H2.out.belowN (Nat.le_refl _))
  simp only [Ar.v] at cm
  obtain ⟨q, HQ⟩ : ∃ z, Hid (decide (amE t b = 0) = z) := ⟨_, rfl⟩
  rw [HQ.out] at cm
  have CM := Lib.hid cm
  have y0 := H2.out.cell (i := 0) rfl 0 _ rfl
  have y1 := H2.out.cell (i := 0) rfl 1 _ rfl
  clear hb cm CB H1
  go_upto_region 3 with fail
  have h9 := HM.out
  rcases h9 with h9 | ⟨h8, h9⟩
  · obtain rfl : q = false := by rw [← HQ.out]; exact decide_eq_false h9
    clear h9
    go_wp2_with fail
    refine CM.out.mono ?_; rintro e w3 ⟨rfl, hb⟩
    have HB := Lib.hid (H2.out.via hb).belowN
    clear hb H2 y0 y1
    go_wp2
    go_ret
    exact RetB.mk rfl HB.out
  · obtain rfl : q = true := by rw [← HQ.out]; exact decide_eq_true h8
    clear h8
    obtain rfl : tn = 0 := by have := HL.out; omega
    clear h9
    go_wp2_with fail
    refine CM.out.mono ?_; rintro e w3 ⟨rfl, hb⟩
    have HB := Lib.hid (H2.out.via hb).belowN
    have z0 := (H2.out.via hb).cell (i := 0) rfl 0 _ rfl
    have z1 := (H2.out.via hb).cell (i := 0) rfl 1 _ rfl
    clear hb H2 y0 y1
    go_wp2
    go_ret
    exact RetB.mk rfl HB.out
set_option maxRecDepth 100000 in
set_option maxHeartbeats 12800000 in
theorem walkMoldCuts_in {n : Int} (hn : -9223372036854775808 ≤ n ∧ n ≤ 9223372036854775807) {w : World} {Y : Ar} (hY : Y.Is w) (hm : amE Y.s Y.a = 0) (hl0 : Y.s.length ≠ 0) (hnm : -(Y.s.getD 0 0) ≤ n ∧ n ≤ Y.s.getD 0 0) :
    Calls Tryz.prog 7 #[.int .i64 n, Y.v] w (RetB w (.bool true)) := by
  obtain ⟨q1, q2, q3, q4, q5, q6⟩ := cuts_in hm hl0 hnm
  have CB1 : Hid (n < 0 → ∀ (W : World) (P Q : Ar), Below w.heap.size w W → P.Is W → Q.Is W → P.s = drS [n] Y.s ∧ P.a = drA [n] Y.s Y.a → Q.s = tkS [n] Y.s ∧ Q.a = tkA [n] Y.s Y.a → Calls Tryz.prog 27 #[.int .i64 24, P.v, Q.v, Y.v] W (RetB W (.bool true))) := fun h0 W P Q hb hP hQ e1 e2 =>
    both_true (X := P) (Y := Q) (Z := Y) (hY.below hb (Nat.le_refl _)) rfl rfl fun W2 hb2 => by
      have h := d_behind (hP.below hb2 (Nat.le_refl _)) (hQ.below hb2 (Nat.le_refl _)) (by rw [e1.1, e1.2]; exact q4) (by rw [e2.1, e2.2]; exact q3)
      rw [e1.1, e1.2, e2.1, e2.2, (q5 h0).1, (q5 h0).2.1, (q5 h0).2.2] at h; exact h
  have CB2 : Hid (¬ n < 0 → ∀ (W : World) (P Q : Ar), Below w.heap.size w W → P.Is W → Q.Is W → P.s = tkS [n] Y.s ∧ P.a = tkA [n] Y.s Y.a → Q.s = drS [n] Y.s ∧ Q.a = drA [n] Y.s Y.a → Calls Tryz.prog 27 #[.int .i64 24, P.v, Q.v, Y.v] W (RetB W (.bool true))) := fun h0 W P Q hb hP hQ e1 e2 =>
    both_true (X := P) (Y := Q) (Z := Y) (hY.below hb (Nat.le_refl _)) rfl rfl fun W2 hb2 => by
      have h := d_behind (hP.below hb2 (Nat.le_refl _)) (hQ.below hb2 (Nat.le_refl _)) (by rw [e1.1, e1.2]; exact q3) (by rw [e2.1, e2.2]; exact q4)
      rw [e1.1, e1.2, e2.1, e2.2, (q6 h0).1, (q6 h0).2.1, (q6 h0).2.2] at h; exact h
  obtain ⟨E1, HE0⟩ : ∃ z : Int, Hid (z = 0) := ⟨_, rfl⟩
  have HE1 : Hid (tkE [n] Y.s = E1) := by rw [HE0.out]; exact q1
  have HE2 := Lib.hid q2
  clear q1 q2 q3 q4 q5 q6
  have hl := hY.shp.len
  have hmb := may_bd (amE_zero hm).1 0
  obtain ⟨ta, tn, tc, ba, bn, bc, t, b⟩ := Y
  simp only [Ar.v] at *
  obtain ⟨tS, HtS⟩ : ∃ z, Hid (tkS [n] t = z) := ⟨_, rfl⟩
  obtain ⟨tA, HtA⟩ : ∃ z, Hid (tkA [n] t b = z) := ⟨_, rfl⟩
  obtain ⟨dS, HdS⟩ : ∃ z, Hid (drS [n] t = z) := ⟨_, rfl⟩
  obtain ⟨dA, HdA⟩ : ∃ z, Hid (drA [n] t b = z) := ⟨_, rfl⟩
  obtain ⟨m, HK⟩ : ∃ z, Hid (t.getD 0 0 = z) := ⟨_, rfl⟩
  rw [HK.out] at hnm hmb
  have hp : 0 < tn := by omega
  have hp' : (0 : Int) < tn := by omega
  have k5 : ((tn : Int) == 0) = false := by simp; omega
  obtain ⟨b3, o3, e3, hc3⟩ := hY.shp.at (by simp only; omega)
  have d3 := hc3 0 (by simp only; omega)
  simp only [Nat.add_zero] at e3 d3
  have hlt3 : b3 < w.heap.size := World.block_lt_of_cell? w _ d3
  subst e3
  rw [HK.out] at d3
  have HD3 := Lib.hid (fun (w9 : World) (hb : Below w.heap.size w w9) => (hb.cell (p := ⟨b3, o3, none⟩) hlt3).trans d3)
  have CS := Lib.hid (fun w9 => scalar6_any n w9 hn)
  have h0 := (Sp.start Non w).alloc 38 2 1 #[.slice (some ⟨b3, o3, none⟩) tn tc, .slice ba bn bc] rfl (by decide)
  obtain ⟨W0, HW0⟩ : ∃ z, Hid (w.alloc (.cells #[.slice (some ⟨b3, o3, none⟩) tn tc, .slice ba bn bc] 38) = z) := ⟨_, rfl⟩
  rw [HW0.out] at h0
  have H1_ := h0
  try simp only [List.cons_append, List.nil_append, List.set_cons_zero, List.set_cons_succ, List.map_cons, List.map_nil, List.getD_cons_zero, List.getD_cons_succ, World.size_alloc] at H1_
  have H1 := Lib.hid H1_
  clear H1_
  obtain ⟨g, HG⟩ : ∃ z, Hid (w.heap.size = z) := ⟨_, rfl⟩
  rw [HG.out] at H1
  have CB := Lib.hid (begun6_any W0)
  have HY := Lib.hid hY
  have HM := Lib.hid hm
  have HMB := Lib.hid hmb
  have HNM := Lib.hid hnm
  clear hY hm h0 hl hl0 hc3 d3 hlt3 hmb hnm
  go_enter Tryz.func7, Tryz.ntmps7
  go_wp2_with fail
  rw [HW0.out, HG.out]
  refine CB.out.mono ?_; rintro e w2 ⟨rfl, hb⟩
  have H2_ := H1.out.via hb
  try simp only [List.cons_append, List.nil_append, List.set_cons_zero, List.set_cons_succ, List.map_cons, List.map_nil, List.getD_cons_zero, List.getD_cons_succ, World.size_alloc] at H2_
  have H2 := Lib.hid H2_
  clear H2_
  have cm := may6_any (HY.out.below H2.out.belowN (Nat.le_refl _))
  rw [decide_eq_true (by simp only; exact HM.out)] at cm
  simp only [Ar.v] at cm
  have CM := Lib.hid cm
  have y0 := H2.out.cell (i := 0) rfl 0 _ rfl
  have y1 := H2.out.cell (i := 0) rfl 1 _ rfl
  clear hb cm CB H1
  go_wp2_with fail
  refine CM.out.mono ?_; rintro e w3 ⟨rfl, hb⟩
  have H3_ := H2.out.via hb
  try simp only [List.cons_append, List.nil_append, List.set_cons_zero, List.set_cons_succ, List.map_cons, List.map_nil, List.getD_cons_zero, List.getD_cons_succ, World.size_alloc] at H3_
  have H3 := Lib.hid H3_
  clear H3_
  clear hb H2 y0 y1 CM
  have y0 := H3.out.cell (i := 0) rfl 0 _ rfl
  have y1 := H3.out.cell (i := 0) rfl 1 _ rfl
  have y2 := HD3.out _ H3.out.belowN
  have CLQ := Lib.hid (fun (w9 : World) (hb : Below w3.heap.size w3 w9) => CS.out w9)
  have CYT : Hid (∀ (w9 : World) (X : Ar), Below w3.heap.size w3 w9 → X.Is w9 → X.s = [] → X.a = [n] → Calls Tryz.prog 29 #[.int .i64 28, X.v, .agg #[.slice (some ⟨b3, o3, none⟩) tn tc, .slice ba bn bc]] w9 (MadeE w9 tS tA E1)) := fun w9 X hb hX hs ha =>
    tkv_any (Y := ⟨some ⟨b3, o3, none⟩, tn, tc, ba, bn, bc, t, b⟩) hX (HY.out.below (H3.out.via hb).belowN (Nat.le_refl _)) hs ha HM.out HtS.out HtA.out HE1.out
  have hE := HE0.out
  subst hE
  rw [HtS.out, HtA.out, HdS.out, HdA.out] at CB1 CB2
  have w1 : IntKind.i64.wrap (-m) = -m := IntWalk.i64_in _ (by have := HMB.out; omega)
  have k1 : decide (n < -m) = false := by have := HNM.out; simp; omega
  have k2 : decide (n > m) = false := by have := HNM.out; simp; omega
  go_upto_region 23 with fail
  have hg5 := (H3.out.rlt (i := 0) rfl).1
  have ne1 : ¬ g = w3.heap.size := by omega
  have ne2 : ¬ w3.heap.size = g := by omega
  have HD1 : Hid (Below w3.heap.size w3 (w3.alloc (.cells #[.slice none 0 0, .slice none 0 0] 38)).drew) := abvia (abal w3 _) (adrew1 _)
  have HG5' := Lib.hid hg5
  clear hg5
  go_upto_region 23 with fail
  go_cut [13, 14] from 130 to 137 (fun v13 v14 wx => ∃ (g8 : Nat) (R : Ar), v13 = .pointer (some ⟨g8, 0, none⟩) ∧ v14 = .int .i64 0 ∧ Hid (Sp Non w wx [Pt.row ⟨38, 2, some ⟨g, 0, none⟩, 1, 1, [.slice (some ⟨b3, o3, none⟩) tn tc, .slice ba bn bc]⟩, Pt.arr R, Pt.row ⟨38, 2, some ⟨g8, 0, none⟩, 1, 1, [.slice R.sa R.sn R.sc, .slice R.aa R.an R.ac]⟩]) ∧ Hid (R.s = tS ∧ R.a = tA))
  case first =>
    go_region_held3 (fun v => v.cell? ⟨g, 0, none⟩ = some (.slice (some ⟨b3, o3, none⟩) tn tc) ∧ v.cell? ⟨g, 1, none⟩ = some (.slice ba bn bc)) (go_keep)
      (first
      | (go_at_call 28; (with_reducible refine Calls.mono (CLQ.out _ (adrew1 _)) ?_); rintro e v1 ⟨⟨sa7, sn7, sc7, aa7, an7, ac7, s7, a7⟩, rfl, hI, hs, ha, hO, hq⟩; have H7 := Lib.hid ((H3.out.via (adrew1 w3)).via hq); have C2 := Lib.hid (CYT.out v1 _ (abvia (adrew1 w3) hq) hI hs ha); have C3 := Lib.hid (CYT.out (v1.alloc (.cells #[.slice none 0 0, .slice none 0 0] 38)) _ (abvia (abvia (adrew1 w3) hq) (abal _ _)) (hI.via (abal _ _)) hs ha); simp only [Ar.v] at C2 C3 ⊢; have hsz := hq.size; have hg5 := HG5'.out; have ne3 : ¬ g = v1.heap.size := (by simp at hsz; omega); have ne4 : ¬ v1.heap.size = g := (by simp at hsz; omega); clear CLQ hI hs ha hO hq y0 y1 hsz hg5; have y0 := H7.out.cell (i := 0) rfl 0 _ rfl; have y1 := H7.out.cell (i := 0) rfl 1 _ rfl)
      | (go_at_call 28; (with_reducible refine Calls.mono (CLQ.out _ HD1.out) ?_); rintro e v1 ⟨⟨sa7, sn7, sc7, aa7, an7, ac7, s7, a7⟩, rfl, hI, hs, ha, hO, hq⟩; have H7 := Lib.hid (((H3.out.alloc 38 2 1 #[.slice none 0 0, .slice none 0 0] rfl (by decide)).via (adrew1 _)).via hq); have C4 := Lib.hid (CYT.out v1 _ (abvia HD1.out hq) hI hs ha); simp only [Ar.v] at C4 ⊢; clear CLQ hI hs ha hO hq y0 y1; have y0 := H7.out.cell (i := 0) rfl 0 _ rfl; have y1 := H7.out.cell (i := 0) rfl 1 _ rfl; have x0 := H7.out.cell (i := 1) rfl 0 _ rfl; have x1 := H7.out.cell (i := 1) rfl 1 _ rfl; have x2 := H7.out.frozen (i := 1) rfl 0; have x3 := H7.out.frozen (i := 1) rfl 1)
      | (have hreq := C2; go_at_call 29; (with_reducible refine Calls.mono C2.out ?_); rintro e v2 ⟨⟨sa8, sn8, sc8, aa8, an8, ac8, s8, a8⟩, rfl, hI, hs, ha, hO, hq⟩; have hlt := (H7.out.rlt (i := 0) rfl).1; have hsz := hq.size; have ne5 : ¬ g = v2.heap.size := (by omega); have ne6 : ¬ v2.heap.size = g := (by omega); have H8 := Lib.hid (H7.out.arrNew hI hO hq); have HV8 := Lib.hid (And.intro hs ha); simp only [Ar.v]; clear hI hs ha hO hq hreq C2 C3 y0 y1 hlt hsz; have y0 := H8.out.cell (i := 0) rfl 0 _ rfl; have y1 := H8.out.cell (i := 0) rfl 1 _ rfl)
      | (have hreq := C3; go_at_call 29; (with_reducible refine Calls.mono C3.out ?_); rintro e v2 ⟨⟨sa8, sn8, sc8, aa8, an8, ac8, s8, a8⟩, rfl, hI, hs, ha, hO, hq⟩; have H8 := Lib.hid ((H7.out.alloc 38 2 1 #[.slice none 0 0, .slice none 0 0] rfl (by decide)).arrNew hI hO hq); have HV8 := Lib.hid (And.intro hs ha); simp only [Ar.v]; clear hI hs ha hO hq hreq C2 C3 y0 y1; have y0 := H8.out.cell (i := 0) rfl 0 _ rfl; have y1 := H8.out.cell (i := 0) rfl 1 _ rfl; have x0 := H8.out.cell (i := 1) rfl 0 _ rfl; have x1 := H8.out.cell (i := 1) rfl 1 _ rfl; have x2 := H8.out.frozen (i := 1) rfl 0; have x3 := H8.out.frozen (i := 1) rfl 1)
      | (have hreq := C4; go_at_call 29; (with_reducible refine Calls.mono C4.out ?_); rintro e v2 ⟨⟨sa8, sn8, sc8, aa8, an8, ac8, s8, a8⟩, rfl, hI, hs, ha, hO, hq⟩; have H8 := Lib.hid (H7.out.arrNew hI hO hq); have HV8 := Lib.hid (And.intro hs ha); simp only [Ar.v]; clear hI hs ha hO hq hreq C4 y0 y1 x0 x1 x2 x3; have y0 := H8.out.cell (i := 0) rfl 0 _ rfl; have y1 := H8.out.cell (i := 0) rfl 1 _ rfl; have x0 := H8.out.cell (i := 1) rfl 0 _ rfl; have x1 := H8.out.cell (i := 1) rfl 1 _ rfl; have x2 := H8.out.frozen (i := 1) rfl 0; have x3 := H8.out.frozen (i := 1) rfl 1)
      )
    all_goals
      go_wp2_with fail
      go_meet
      first
      | exact ⟨v2.heap.size, ⟨sa8, sn8, sc8, aa8, an8, ac8, s8, a8⟩, rfl, rfl, (H8.out.alloc 38 2 1 #[.slice sa8 sn8 sc8, .slice aa8 an8 ac8] rfl (by decide)).pick [0, 1, 2] (by decide), HV8⟩
      | exact ⟨v1.heap.size, ⟨sa8, sn8, sc8, aa8, an8, ac8, s8, a8⟩, rfl, rfl, ((H8.out.put (i := 1) rfl 0 (.slice sa8 sn8 sc8)).put (i := 1) rfl 1 (.slice aa8 an8 ac8)).pick [0, 2, 1] (by decide), HV8⟩
      | exact ⟨w3.heap.size, ⟨sa8, sn8, sc8, aa8, an8, ac8, s8, a8⟩, rfl, rfl, ((H8.out.put (i := 1) rfl 0 (.slice sa8 sn8 sc8)).put (i := 1) rfl 1 (.slice aa8 an8 ac8)).pick [0, 2, 1] (by decide), HV8⟩
  case rest =>
    obtain ⟨g1, ⟨sa1, sn1, sc1, aa1, an1, ac1, s1, a1⟩, rfl, rfl, HO1, HV1⟩ := hcut
    simp only at HO1 HV1
    obtain ⟨U1, hU⟩ : ∃ z : World, z = wc := ⟨_, rfl⟩
    subst hU
    clear ne1 ne2 HD1 HG5' y0 y1
    have CLQ := Lib.hid (fun (w9 : World) (hb : Below U1.heap.size U1 w9) => CS.out w9)
    have CYT : Hid (∀ (w9 : World) (X : Ar), Below U1.heap.size U1 w9 → X.Is w9 → X.s = [] → X.a = [n] → Calls Tryz.prog 29 #[.int .i64 29, X.v, .agg #[.slice (some ⟨b3, o3, none⟩) tn tc, .slice ba bn bc]] w9 (MadeE w9 dS dA 0)) := fun w9 X hb hX hs ha =>
      drv_any (Y := ⟨some ⟨b3, o3, none⟩, tn, tc, ba, bn, bc, t, b⟩) hX (HY.out.below (HO1.out.via hb).belowN (Nat.le_refl _)) hs ha HM.out HdS.out HdA.out HE2.out
    have y0 := HO1.out.cell (i := 0) rfl 0 _ rfl
    have y1 := HO1.out.cell (i := 0) rfl 1 _ rfl
    clear H3
    have hg5 := (HO1.out.rlt (i := 0) rfl).1
    have ne1 : ¬ g = U1.heap.size := by omega
    have ne2 : ¬ U1.heap.size = g := by omega
    have HD1 : Hid (Below U1.heap.size U1 (U1.alloc (.cells #[.slice none 0 0, .slice none 0 0] 38)).drew) := abvia (abal U1 _) (adrew1 _)
    have HG5' := Lib.hid hg5
    clear hg5
    go_upto_region 24 with fail
    go_cut [15, 16] from 137 to 144 (fun v15 v16 wx => ∃ (g8 : Nat) (R : Ar), v15 = .pointer (some ⟨g8, 0, none⟩) ∧ v16 = .int .i64 0 ∧ Hid (Sp Non w wx [Pt.row ⟨38, 2, some ⟨g, 0, none⟩, 1, 1, [.slice (some ⟨b3, o3, none⟩) tn tc, .slice ba bn bc]⟩, Pt.arr ⟨sa1, sn1, sc1, aa1, an1, ac1, s1, a1⟩, Pt.row ⟨38, 2, some ⟨g1, 0, none⟩, 1, 1, [.slice sa1 sn1 sc1, .slice aa1 an1 ac1]⟩, Pt.arr R, Pt.row ⟨38, 2, some ⟨g8, 0, none⟩, 1, 1, [.slice R.sa R.sn R.sc, .slice R.aa R.an R.ac]⟩]) ∧ Hid (R.s = dS ∧ R.a = dA))
    case first =>
      go_region_held3 (fun v => v.cell? ⟨g, 0, none⟩ = some (.slice (some ⟨b3, o3, none⟩) tn tc) ∧ v.cell? ⟨g, 1, none⟩ = some (.slice ba bn bc)) (go_keep)
        (first
        | (go_at_call 28; (with_reducible refine Calls.mono (CLQ.out _ (adrew1 _)) ?_); rintro e v1 ⟨⟨sa7, sn7, sc7, aa7, an7, ac7, s7, a7⟩, rfl, hI, hs, ha, hO, hq⟩; have H7 := Lib.hid ((HO1.out.via (adrew1 U1)).via hq); have C2 := Lib.hid (CYT.out v1 _ (abvia (adrew1 U1) hq) hI hs ha); have C3 := Lib.hid (CYT.out (v1.alloc (.cells #[.slice none 0 0, .slice none 0 0] 38)) _ (abvia (abvia (adrew1 U1) hq) (abal _ _)) (hI.via (abal _ _)) hs ha); simp only [Ar.v] at C2 C3 ⊢; have hsz := hq.size; have hg5 := HG5'.out; have ne3 : ¬ g = v1.heap.size := (by simp at hsz; omega); have ne4 : ¬ v1.heap.size = g := (by simp at hsz; omega); clear CLQ hI hs ha hO hq y0 y1 hsz hg5; have y0 := H7.out.cell (i := 0) rfl 0 _ rfl; have y1 := H7.out.cell (i := 0) rfl 1 _ rfl)
        | (go_at_call 28; (with_reducible refine Calls.mono (CLQ.out _ HD1.out) ?_); rintro e v1 ⟨⟨sa7, sn7, sc7, aa7, an7, ac7, s7, a7⟩, rfl, hI, hs, ha, hO, hq⟩; have H7 := Lib.hid (((HO1.out.alloc 38 2 1 #[.slice none 0 0, .slice none 0 0] rfl (by decide)).via (adrew1 _)).via hq); have C4 := Lib.hid (CYT.out v1 _ (abvia HD1.out hq) hI hs ha); simp only [Ar.v] at C4 ⊢; clear CLQ hI hs ha hO hq y0 y1; have y0 := H7.out.cell (i := 0) rfl 0 _ rfl; have y1 := H7.out.cell (i := 0) rfl 1 _ rfl; have x0 := H7.out.cell (i := 3) rfl 0 _ rfl; have x1 := H7.out.cell (i := 3) rfl 1 _ rfl; have x2 := H7.out.frozen (i := 3) rfl 0; have x3 := H7.out.frozen (i := 3) rfl 1)
        | (have hreq := C2; go_at_call 29; (with_reducible refine Calls.mono C2.out ?_); rintro e v2 ⟨⟨sa8, sn8, sc8, aa8, an8, ac8, s8, a8⟩, rfl, hI, hs, ha, hO, hq⟩; have hlt := (H7.out.rlt (i := 0) rfl).1; have hsz := hq.size; have ne5 : ¬ g = v2.heap.size := (by omega); have ne6 : ¬ v2.heap.size = g := (by omega); have H8 := Lib.hid (H7.out.arrNew hI hO hq); have HV8 := Lib.hid (And.intro hs ha); simp only [Ar.v]; clear hI hs ha hO hq hreq C2 C3 y0 y1 hlt hsz; have y0 := H8.out.cell (i := 0) rfl 0 _ rfl; have y1 := H8.out.cell (i := 0) rfl 1 _ rfl)
        | (have hreq := C3; go_at_call 29; (with_reducible refine Calls.mono C3.out ?_); rintro e v2 ⟨⟨sa8, sn8, sc8, aa8, an8, ac8, s8, a8⟩, rfl, hI, hs, ha, hO, hq⟩; have H8 := Lib.hid ((H7.out.alloc 38 2 1 #[.slice none 0 0, .slice none 0 0] rfl (by decide)).arrNew hI hO hq); have HV8 := Lib.hid (And.intro hs ha); simp only [Ar.v]; clear hI hs ha hO hq hreq C2 C3 y0 y1; have y0 := H8.out.cell (i := 0) rfl 0 _ rfl; have y1 := H8.out.cell (i := 0) rfl 1 _ rfl; have x0 := H8.out.cell (i := 3) rfl 0 _ rfl; have x1 := H8.out.cell (i := 3) rfl 1 _ rfl; have x2 := H8.out.frozen (i := 3) rfl 0; have x3 := H8.out.frozen (i := 3) rfl 1)
        | (have hreq := C4; go_at_call 29; (with_reducible refine Calls.mono C4.out ?_); rintro e v2 ⟨⟨sa8, sn8, sc8, aa8, an8, ac8, s8, a8⟩, rfl, hI, hs, ha, hO, hq⟩; have H8 := Lib.hid (H7.out.arrNew hI hO hq); have HV8 := Lib.hid (And.intro hs ha); simp only [Ar.v]; clear hI hs ha hO hq hreq C4 y0 y1 x0 x1 x2 x3; have y0 := H8.out.cell (i := 0) rfl 0 _ rfl; have y1 := H8.out.cell (i := 0) rfl 1 _ rfl; have x0 := H8.out.cell (i := 3) rfl 0 _ rfl; have x1 := H8.out.cell (i := 3) rfl 1 _ rfl; have x2 := H8.out.frozen (i := 3) rfl 0; have x3 := H8.out.frozen (i := 3) rfl 1)
        )
      all_goals
        go_wp2_with fail
        go_meet
        first
        | exact ⟨v2.heap.size, ⟨sa8, sn8, sc8, aa8, an8, ac8, s8, a8⟩, rfl, rfl, (H8.out.alloc 38 2 1 #[.slice sa8 sn8 sc8, .slice aa8 an8 ac8] rfl (by decide)).pick [0, 1, 2, 3, 4] (by decide), HV8⟩
        | exact ⟨v1.heap.size, ⟨sa8, sn8, sc8, aa8, an8, ac8, s8, a8⟩, rfl, rfl, ((H8.out.put (i := 3) rfl 0 (.slice sa8 sn8 sc8)).put (i := 3) rfl 1 (.slice aa8 an8 ac8)).pick [0, 1, 2, 4, 3] (by decide), HV8⟩
        | exact ⟨U1.heap.size, ⟨sa8, sn8, sc8, aa8, an8, ac8, s8, a8⟩, rfl, rfl, ((H8.out.put (i := 3) rfl 0 (.slice sa8 sn8 sc8)).put (i := 3) rfl 1 (.slice aa8 an8 ac8)).pick [0, 1, 2, 4, 3] (by decide), HV8⟩
    case rest =>
      obtain ⟨g2, ⟨sa2, sn2, sc2, aa2, an2, ac2, s2, a2⟩, rfl, rfl, HO2, HV2⟩ := hcut
      simp only at HO2 HV2
      obtain ⟨U2, hU⟩ : ∃ z : World, z = wc := ⟨_, rfl⟩
      subst hU
      clear ne1 ne2 HD1 HG5' y0 y1
      have z0 := HO2.out.cell (i := 0) rfl 0 _ rfl
      have z1 := HO2.out.cell (i := 0) rfl 1 _ rfl
      have z2 := HO2.out.cell (i := 2) rfl 0 _ rfl
      have z3 := HO2.out.cell (i := 2) rfl 1 _ rfl
      have z4 := HO2.out.cell (i := 4) rfl 0 _ rfl
      have z5 := HO2.out.cell (i := 4) rfl 1 _ rfl
      by_cases h0 : n < 0
      · have C1 := Lib.hid (CB1.out h0 _ _ _ HO2.out.belowN (HO2.out.isA (i := 3) rfl) (HO2.out.isA (i := 1) rfl) HV2.out HV1.out)
        simp only [Ar.v] at C1
        have k9 : decide (n < 0) = true := by simpa using h0
        clear h0
        go_wp2_with fail
        refine C1.out.mono ?_; rintro e w9 ⟨rfl, hb⟩
        have HB := Lib.hid (HO2.out.via hb).belowN
        clear hb z0 z1 z2 z3 z4 z5 HO2 HO1 C1
        go_wp2
        go_ret
        exact RetB.mk rfl HB.out
      · have C1 := Lib.hid (CB2.out (by omega) _ _ _ HO2.out.belowN (HO2.out.isA (i := 1) rfl) (HO2.out.isA (i := 3) rfl) HV1.out HV2.out)
        simp only [Ar.v] at C1
        have k9 : decide (n < 0) = false := by simpa using h0
        clear h0
        go_wp2_with fail
        refine C1.out.mono ?_; rintro e w9 ⟨rfl, hb⟩
        have HB := Lib.hid (HO2.out.via hb).belowN
        clear hb z0 z1 z2 z3 z4 z5 HO2 HO1 C1
        go_wp2
        go_ret
        exact RetB.mk rfl HB.out
set_option maxRecDepth 100000 in
set_option maxHeartbeats 12800000 in
theorem walkMoldCuts_err {n : Int} (hn : -9223372036854775808 ≤ n ∧ n ≤ 9223372036854775807) {w : World} {Y : Ar} (hY : Y.Is w) (hm : amE Y.s Y.a = 0) (hl0 : Y.s.length ≠ 0) (hnm : n < -(Y.s.getD 0 0) ∨ Y.s.getD 0 0 < n) (hE : tkE [n] Y.s = 17) :
    Calls Tryz.prog 7 #[.int .i64 n, Y.v] w (RetB w (.bool true)) := by
  obtain ⟨q1, q2, -, q4⟩ := cuts_out hm hl0 hnm
  obtain ⟨E1, HE0⟩ : ∃ z : Int, Hid (z = 17) := ⟨_, rfl⟩
  have HE1 : Hid (tkE [n] Y.s = E1) := by rw [HE0.out]; exact hE
  have HE2 := Lib.hid q1
  have HQ2 := Lib.hid q2
  have hbl := hY.ats.len
  have HBL := Lib.hid hbl
  clear q1 q2 q4 hE hbl
  have hl := hY.shp.len
  have hmb := may_bd (amE_zero hm).1 0
  obtain ⟨ta, tn, tc, ba, bn, bc, t, b⟩ := Y
  simp only [Ar.v] at *
  obtain ⟨tS, HtS⟩ : ∃ z, Hid (tkS [n] t = z) := ⟨_, rfl⟩
  obtain ⟨tA, HtA⟩ : ∃ z, Hid (tkA [n] t b = z) := ⟨_, rfl⟩
  obtain ⟨dS, HdS⟩ : ∃ z, Hid (drS [n] t = z) := ⟨_, rfl⟩
  obtain ⟨dA, HdA⟩ : ∃ z, Hid (drA [n] t b = z) := ⟨_, rfl⟩
  obtain ⟨m, HK⟩ : ∃ z, Hid (t.getD 0 0 = z) := ⟨_, rfl⟩
  rw [HK.out] at hnm hmb
  have hp : 0 < tn := by omega
  have hp' : (0 : Int) < tn := by omega
  have k5 : ((tn : Int) == 0) = false := by simp; omega
  obtain ⟨b3, o3, e3, hc3⟩ := hY.shp.at (by simp only; omega)
  have d3 := hc3 0 (by simp only; omega)
  simp only [Nat.add_zero] at e3 d3
  have hlt3 : b3 < w.heap.size := World.block_lt_of_cell? w _ d3
  subst e3
  rw [HK.out] at d3
  have HD3 := Lib.hid (fun (w9 : World) (hb : Below w.heap.size w w9) => (hb.cell (p := ⟨b3, o3, none⟩) hlt3).trans d3)
  have CS := Lib.hid (fun w9 => scalar6_any n w9 hn)
  have h0 := (Sp.start Non w).alloc 38 2 1 #[.slice (some ⟨b3, o3, none⟩) tn tc, .slice ba bn bc] rfl (by decide)
  obtain ⟨W0, HW0⟩ : ∃ z, Hid (w.alloc (.cells #[.slice (some ⟨b3, o3, none⟩) tn tc, .slice ba bn bc] 38) = z) := ⟨_, rfl⟩
  rw [HW0.out] at h0
  have H1_ := h0
  try simp only [List.cons_append, List.nil_append, List.set_cons_zero, List.set_cons_succ, List.map_cons, List.map_nil, List.getD_cons_zero, List.getD_cons_succ, World.size_alloc] at H1_
  have H1 := Lib.hid H1_
  clear H1_
  obtain ⟨g, HG⟩ : ∃ z, Hid (w.heap.size = z) := ⟨_, rfl⟩
  rw [HG.out] at H1
  have CB := Lib.hid (begun6_any W0)
  have HY := Lib.hid hY
  have HM := Lib.hid hm
  have HMB := Lib.hid hmb
  have HNM := Lib.hid hnm
  clear hY hm h0 hl hl0 hc3 d3 hlt3 hmb hnm
  go_enter Tryz.func7, Tryz.ntmps7
  go_wp2_with fail
  rw [HW0.out, HG.out]
  refine CB.out.mono ?_; rintro e w2 ⟨rfl, hb⟩
  have H2_ := H1.out.via hb
  try simp only [List.cons_append, List.nil_append, List.set_cons_zero, List.set_cons_succ, List.map_cons, List.map_nil, List.getD_cons_zero, List.getD_cons_succ, World.size_alloc] at H2_
  have H2 := Lib.hid H2_
  clear H2_
  have cm := may6_any (HY.out.below H2.out.belowN (Nat.le_refl _))
  rw [decide_eq_true (by simp only; exact HM.out)] at cm
  simp only [Ar.v] at cm
  have CM := Lib.hid cm
  have y0 := H2.out.cell (i := 0) rfl 0 _ rfl
  have y1 := H2.out.cell (i := 0) rfl 1 _ rfl
  clear hb cm CB H1
  go_wp2_with fail
  refine CM.out.mono ?_; rintro e w3 ⟨rfl, hb⟩
  have H3_ := H2.out.via hb
  try simp only [List.cons_append, List.nil_append, List.set_cons_zero, List.set_cons_succ, List.map_cons, List.map_nil, List.getD_cons_zero, List.getD_cons_succ, World.size_alloc] at H3_
  have H3 := Lib.hid H3_
  clear H3_
  clear hb H2 y0 y1 CM
  have y0 := H3.out.cell (i := 0) rfl 0 _ rfl
  have y1 := H3.out.cell (i := 0) rfl 1 _ rfl
  have y2 := HD3.out _ H3.out.belowN
  have CLQ := Lib.hid (fun (w9 : World) (hb : Below w3.heap.size w3 w9) => CS.out w9)
  have CYT : Hid (∀ (w9 : World) (X : Ar), Below w3.heap.size w3 w9 → X.Is w9 → X.s = [] → X.a = [n] → Calls Tryz.prog 29 #[.int .i64 28, X.v, .agg #[.slice (some ⟨b3, o3, none⟩) tn tc, .slice ba bn bc]] w9 (MadeE w9 tS tA E1)) := fun w9 X hb hX hs ha =>
    tkv_any (Y := ⟨some ⟨b3, o3, none⟩, tn, tc, ba, bn, bc, t, b⟩) hX (HY.out.below (H3.out.via hb).belowN (Nat.le_refl _)) hs ha HM.out HtS.out HtA.out HE1.out
  have hE := HE0.out
  subst hE
  have w1 : IntKind.i64.wrap (-m) = -m := IntWalk.i64_in _ (by have := HMB.out; omega)
  go_upto_region 6 with fail
  have K6 : Hid (n < -m ∨ ¬ n < -m ∧ m < n) := by have := HNM.out; show _ ∨ _; omega
  go_cut [40] from 32 to 41 (fun v40 wx => v40 = .bool true ∧ wx = w3)
  case first =>
    rcases K6.out with h9 | ⟨h8, h9⟩
    · have k1 : decide (n < -m) = true := by simpa using h9
      clear h9
      go_wp2_with fail
      go_meet
      exact ⟨rfl, rfl⟩
    · have k1 : decide (n < -m) = false := by simpa using h8
      have k2 : decide (n > m) = true := by simpa using h9
      clear h8 h9
      go_wp2_with fail
      go_meet
      exact ⟨rfl, rfl⟩
  case rest =>
    obtain ⟨rfl, rfl⟩ := hcut
    go_upto_region 7 with fail
    have hg5 := (H3.out.rlt (i := 0) rfl).1
    have ne1 : ¬ g = wc.heap.size := by omega
    have ne2 : ¬ wc.heap.size = g := by omega
    have HD1 : Hid (Below wc.heap.size wc (wc.alloc (.cells #[.slice none 0 0, .slice none 0 0] 38)).drew) := abvia (abal wc _) (adrew1 _)
    have HG5' := Lib.hid hg5
    clear hg5
    go_upto_region 7 with fail
    go_cut [6, 7] from 41 to 48 (fun v6 v7 wx => ∃ (g8 : Nat) (R : Ar), v6 = .pointer (some ⟨g8, 0, none⟩) ∧ v7 = .int .i64 17 ∧ Hid (Sp Non w wx [Pt.row ⟨38, 2, some ⟨g, 0, none⟩, 1, 1, [.slice (some ⟨b3, o3, none⟩) tn tc, .slice ba bn bc]⟩, Pt.arr R, Pt.row ⟨38, 2, some ⟨g8, 0, none⟩, 1, 1, [.slice R.sa R.sn R.sc, .slice R.aa R.an R.ac]⟩]) ∧ Hid (R.s = tS ∧ R.a = tA))
    case first =>
      go_region_held3 (fun v => v.cell? ⟨g, 0, none⟩ = some (.slice (some ⟨b3, o3, none⟩) tn tc) ∧ v.cell? ⟨g, 1, none⟩ = some (.slice ba bn bc)) (go_keep)
        (first
        | (go_at_call 28; (with_reducible refine Calls.mono (CLQ.out _ (adrew1 _)) ?_); rintro e v1 ⟨⟨sa7, sn7, sc7, aa7, an7, ac7, s7, a7⟩, rfl, hI, hs, ha, hO, hq⟩; have H7 := Lib.hid ((H3.out.via (adrew1 wc)).via hq); have C2 := Lib.hid (CYT.out v1 _ (abvia (adrew1 wc) hq) hI hs ha); have C3 := Lib.hid (CYT.out (v1.alloc (.cells #[.slice none 0 0, .slice none 0 0] 38)) _ (abvia (abvia (adrew1 wc) hq) (abal _ _)) (hI.via (abal _ _)) hs ha); simp only [Ar.v] at C2 C3 ⊢; have hsz := hq.size; have hg5 := HG5'.out; have ne3 : ¬ g = v1.heap.size := (by simp at hsz; omega); have ne4 : ¬ v1.heap.size = g := (by simp at hsz; omega); clear CLQ hI hs ha hO hq y0 y1 hsz hg5; have y0 := H7.out.cell (i := 0) rfl 0 _ rfl; have y1 := H7.out.cell (i := 0) rfl 1 _ rfl)
        | (go_at_call 28; (with_reducible refine Calls.mono (CLQ.out _ HD1.out) ?_); rintro e v1 ⟨⟨sa7, sn7, sc7, aa7, an7, ac7, s7, a7⟩, rfl, hI, hs, ha, hO, hq⟩; have H7 := Lib.hid (((H3.out.alloc 38 2 1 #[.slice none 0 0, .slice none 0 0] rfl (by decide)).via (adrew1 _)).via hq); have C4 := Lib.hid (CYT.out v1 _ (abvia HD1.out hq) hI hs ha); simp only [Ar.v] at C4 ⊢; clear CLQ hI hs ha hO hq y0 y1; have y0 := H7.out.cell (i := 0) rfl 0 _ rfl; have y1 := H7.out.cell (i := 0) rfl 1 _ rfl; have x0 := H7.out.cell (i := 1) rfl 0 _ rfl; have x1 := H7.out.cell (i := 1) rfl 1 _ rfl; have x2 := H7.out.frozen (i := 1) rfl 0; have x3 := H7.out.frozen (i := 1) rfl 1)
        | (have hreq := C2; go_at_call 29; (with_reducible refine Calls.mono C2.out ?_); rintro e v2 ⟨⟨sa8, sn8, sc8, aa8, an8, ac8, s8, a8⟩, rfl, hI, hs, ha, hO, hq⟩; have hlt := (H7.out.rlt (i := 0) rfl).1; have hsz := hq.size; have ne5 : ¬ g = v2.heap.size := (by omega); have ne6 : ¬ v2.heap.size = g := (by omega); have H8 := Lib.hid (H7.out.arrNew hI hO hq); have HV8 := Lib.hid (And.intro hs ha); simp only [Ar.v]; clear hI hs ha hO hq hreq C2 C3 y0 y1 hlt hsz; have y0 := H8.out.cell (i := 0) rfl 0 _ rfl; have y1 := H8.out.cell (i := 0) rfl 1 _ rfl)
        | (have hreq := C3; go_at_call 29; (with_reducible refine Calls.mono C3.out ?_); rintro e v2 ⟨⟨sa8, sn8, sc8, aa8, an8, ac8, s8, a8⟩, rfl, hI, hs, ha, hO, hq⟩; have H8 := Lib.hid ((H7.out.alloc 38 2 1 #[.slice none 0 0, .slice none 0 0] rfl (by decide)).arrNew hI hO hq); have HV8 := Lib.hid (And.intro hs ha); simp only [Ar.v]; clear hI hs ha hO hq hreq C2 C3 y0 y1; have y0 := H8.out.cell (i := 0) rfl 0 _ rfl; have y1 := H8.out.cell (i := 0) rfl 1 _ rfl; have x0 := H8.out.cell (i := 1) rfl 0 _ rfl; have x1 := H8.out.cell (i := 1) rfl 1 _ rfl; have x2 := H8.out.frozen (i := 1) rfl 0; have x3 := H8.out.frozen (i := 1) rfl 1)
        | (have hreq := C4; go_at_call 29; (with_reducible refine Calls.mono C4.out ?_); rintro e v2 ⟨⟨sa8, sn8, sc8, aa8, an8, ac8, s8, a8⟩, rfl, hI, hs, ha, hO, hq⟩; have H8 := Lib.hid (H7.out.arrNew hI hO hq); have HV8 := Lib.hid (And.intro hs ha); simp only [Ar.v]; clear hI hs ha hO hq hreq C4 y0 y1 x0 x1 x2 x3; have y0 := H8.out.cell (i := 0) rfl 0 _ rfl; have y1 := H8.out.cell (i := 0) rfl 1 _ rfl; have x0 := H8.out.cell (i := 1) rfl 0 _ rfl; have x1 := H8.out.cell (i := 1) rfl 1 _ rfl; have x2 := H8.out.frozen (i := 1) rfl 0; have x3 := H8.out.frozen (i := 1) rfl 1)
        )
      all_goals
        go_wp2_with fail
        go_meet
        first
        | exact ⟨v2.heap.size, ⟨sa8, sn8, sc8, aa8, an8, ac8, s8, a8⟩, rfl, rfl, (H8.out.alloc 38 2 1 #[.slice sa8 sn8 sc8, .slice aa8 an8 ac8] rfl (by decide)).pick [0, 1, 2] (by decide), HV8⟩
        | exact ⟨v1.heap.size, ⟨sa8, sn8, sc8, aa8, an8, ac8, s8, a8⟩, rfl, rfl, ((H8.out.put (i := 1) rfl 0 (.slice sa8 sn8 sc8)).put (i := 1) rfl 1 (.slice aa8 an8 ac8)).pick [0, 2, 1] (by decide), HV8⟩
        | exact ⟨wc.heap.size, ⟨sa8, sn8, sc8, aa8, an8, ac8, s8, a8⟩, rfl, rfl, ((H8.out.put (i := 1) rfl 0 (.slice sa8 sn8 sc8)).put (i := 1) rfl 1 (.slice aa8 an8 ac8)).pick [0, 2, 1] (by decide), HV8⟩
    case rest =>
      obtain ⟨g1, ⟨sa1, sn1, sc1, aa1, an1, ac1, s1, a1⟩, rfl, rfl, HO1, HV1⟩ := hcut
      simp only at HO1 HV1
      obtain ⟨U1, hU⟩ : ∃ z : World, z = wc := ⟨_, rfl⟩
      subst hU
      clear ne1 ne2 HD1 HG5' y0 y1
      have CLQ := Lib.hid (fun (w9 : World) (hb : Below U1.heap.size U1 w9) => CS.out w9)
      have CYT : Hid (∀ (w9 : World) (X : Ar), Below U1.heap.size U1 w9 → X.Is w9 → X.s = [] → X.a = [n] → Calls Tryz.prog 29 #[.int .i64 29, X.v, .agg #[.slice (some ⟨b3, o3, none⟩) tn tc, .slice ba bn bc]] w9 (MadeE w9 dS dA 0)) := fun w9 X hb hX hs ha =>
        drv_any (Y := ⟨some ⟨b3, o3, none⟩, tn, tc, ba, bn, bc, t, b⟩) hX (HY.out.below (HO1.out.via hb).belowN (Nat.le_refl _)) hs ha HM.out HdS.out HdA.out HE2.out
      have y0 := HO1.out.cell (i := 0) rfl 0 _ rfl
      have y1 := HO1.out.cell (i := 0) rfl 1 _ rfl
      clear H3
      have hg5 := (HO1.out.rlt (i := 0) rfl).1
      have ne1 : ¬ g = U1.heap.size := by omega
      have ne2 : ¬ U1.heap.size = g := by omega
      have HD1 : Hid (Below U1.heap.size U1 (U1.alloc (.cells #[.slice none 0 0, .slice none 0 0] 38)).drew) := abvia (abal U1 _) (adrew1 _)
      have HG5' := Lib.hid hg5
      clear hg5
      go_upto_region 8 with fail
      go_cut [8, 9] from 48 to 55 (fun v8 v9 wx => ∃ (g8 : Nat) (R : Ar), v8 = .pointer (some ⟨g8, 0, none⟩) ∧ v9 = .int .i64 0 ∧ Hid (Sp Non w wx [Pt.row ⟨38, 2, some ⟨g, 0, none⟩, 1, 1, [.slice (some ⟨b3, o3, none⟩) tn tc, .slice ba bn bc]⟩, Pt.arr ⟨sa1, sn1, sc1, aa1, an1, ac1, s1, a1⟩, Pt.row ⟨38, 2, some ⟨g1, 0, none⟩, 1, 1, [.slice sa1 sn1 sc1, .slice aa1 an1 ac1]⟩, Pt.arr R, Pt.row ⟨38, 2, some ⟨g8, 0, none⟩, 1, 1, [.slice R.sa R.sn R.sc, .slice R.aa R.an R.ac]⟩]) ∧ Hid (R.s = dS ∧ R.a = dA))
      case first =>
        go_region_held3 (fun v => v.cell? ⟨g, 0, none⟩ = some (.slice (some ⟨b3, o3, none⟩) tn tc) ∧ v.cell? ⟨g, 1, none⟩ = some (.slice ba bn bc)) (go_keep)
          (first
          | (go_at_call 28; (with_reducible refine Calls.mono (CLQ.out _ (adrew1 _)) ?_); rintro e v1 ⟨⟨sa7, sn7, sc7, aa7, an7, ac7, s7, a7⟩, rfl, hI, hs, ha, hO, hq⟩; have H7 := Lib.hid ((HO1.out.via (adrew1 U1)).via hq); have C2 := Lib.hid (CYT.out v1 _ (abvia (adrew1 U1) hq) hI hs ha); have C3 := Lib.hid (CYT.out (v1.alloc (.cells #[.slice none 0 0, .slice none 0 0] 38)) _ (abvia (abvia (adrew1 U1) hq) (abal _ _)) (hI.via (abal _ _)) hs ha); simp only [Ar.v] at C2 C3 ⊢; have hsz := hq.size; have hg5 := HG5'.out; have ne3 : ¬ g = v1.heap.size := (by simp at hsz; omega); have ne4 : ¬ v1.heap.size = g := (by simp at hsz; omega); clear CLQ hI hs ha hO hq y0 y1 hsz hg5; have y0 := H7.out.cell (i := 0) rfl 0 _ rfl; have y1 := H7.out.cell (i := 0) rfl 1 _ rfl)
          | (go_at_call 28; (with_reducible refine Calls.mono (CLQ.out _ HD1.out) ?_); rintro e v1 ⟨⟨sa7, sn7, sc7, aa7, an7, ac7, s7, a7⟩, rfl, hI, hs, ha, hO, hq⟩; have H7 := Lib.hid (((HO1.out.alloc 38 2 1 #[.slice none 0 0, .slice none 0 0] rfl (by decide)).via (adrew1 _)).via hq); have C4 := Lib.hid (CYT.out v1 _ (abvia HD1.out hq) hI hs ha); simp only [Ar.v] at C4 ⊢; clear CLQ hI hs ha hO hq y0 y1; have y0 := H7.out.cell (i := 0) rfl 0 _ rfl; have y1 := H7.out.cell (i := 0) rfl 1 _ rfl; have x0 := H7.out.cell (i := 3) rfl 0 _ rfl; have x1 := H7.out.cell (i := 3) rfl 1 _ rfl; have x2 := H7.out.frozen (i := 3) rfl 0; have x3 := H7.out.frozen (i := 3) rfl 1)
          | (have hreq := C2; go_at_call 29; (with_reducible refine Calls.mono C2.out ?_); rintro e v2 ⟨⟨sa8, sn8, sc8, aa8, an8, ac8, s8, a8⟩, rfl, hI, hs, ha, hO, hq⟩; have hlt := (H7.out.rlt (i := 0) rfl).1; have hsz := hq.size; have ne5 : ¬ g = v2.heap.size := (by omega); have ne6 : ¬ v2.heap.size = g := (by omega); have H8 := Lib.hid (H7.out.arrNew hI hO hq); have HV8 := Lib.hid (And.intro hs ha); simp only [Ar.v]; clear hI hs ha hO hq hreq C2 C3 y0 y1 hlt hsz; have y0 := H8.out.cell (i := 0) rfl 0 _ rfl; have y1 := H8.out.cell (i := 0) rfl 1 _ rfl)
          | (have hreq := C3; go_at_call 29; (with_reducible refine Calls.mono C3.out ?_); rintro e v2 ⟨⟨sa8, sn8, sc8, aa8, an8, ac8, s8, a8⟩, rfl, hI, hs, ha, hO, hq⟩; have H8 := Lib.hid ((H7.out.alloc 38 2 1 #[.slice none 0 0, .slice none 0 0] rfl (by decide)).arrNew hI hO hq); have HV8 := Lib.hid (And.intro hs ha); simp only [Ar.v]; clear hI hs ha hO hq hreq C2 C3 y0 y1; have y0 := H8.out.cell (i := 0) rfl 0 _ rfl; have y1 := H8.out.cell (i := 0) rfl 1 _ rfl; have x0 := H8.out.cell (i := 3) rfl 0 _ rfl; have x1 := H8.out.cell (i := 3) rfl 1 _ rfl; have x2 := H8.out.frozen (i := 3) rfl 0; have x3 := H8.out.frozen (i := 3) rfl 1)
          | (have hreq := C4; go_at_call 29; (with_reducible refine Calls.mono C4.out ?_); rintro e v2 ⟨⟨sa8, sn8, sc8, aa8, an8, ac8, s8, a8⟩, rfl, hI, hs, ha, hO, hq⟩; have H8 := Lib.hid (H7.out.arrNew hI hO hq); have HV8 := Lib.hid (And.intro hs ha); simp only [Ar.v]; clear hI hs ha hO hq hreq C4 y0 y1 x0 x1 x2 x3; have y0 := H8.out.cell (i := 0) rfl 0 _ rfl; have y1 := H8.out.cell (i := 0) rfl 1 _ rfl; have x0 := H8.out.cell (i := 3) rfl 0 _ rfl; have x1 := H8.out.cell (i := 3) rfl 1 _ rfl; have x2 := H8.out.frozen (i := 3) rfl 0; have x3 := H8.out.frozen (i := 3) rfl 1)
          )
        all_goals
          go_wp2_with fail
          go_meet
          first
          | exact ⟨v2.heap.size, ⟨sa8, sn8, sc8, aa8, an8, ac8, s8, a8⟩, rfl, rfl, (H8.out.alloc 38 2 1 #[.slice sa8 sn8 sc8, .slice aa8 an8 ac8] rfl (by decide)).pick [0, 1, 2, 3, 4] (by decide), HV8⟩
          | exact ⟨v1.heap.size, ⟨sa8, sn8, sc8, aa8, an8, ac8, s8, a8⟩, rfl, rfl, ((H8.out.put (i := 3) rfl 0 (.slice sa8 sn8 sc8)).put (i := 3) rfl 1 (.slice aa8 an8 ac8)).pick [0, 1, 2, 4, 3] (by decide), HV8⟩
          | exact ⟨U1.heap.size, ⟨sa8, sn8, sc8, aa8, an8, ac8, s8, a8⟩, rfl, rfl, ((H8.out.put (i := 3) rfl 0 (.slice sa8 sn8 sc8)).put (i := 3) rfl 1 (.slice aa8 an8 ac8)).pick [0, 1, 2, 4, 3] (by decide), HV8⟩
      case rest =>
        obtain ⟨g2, ⟨sa2, sn2, sc2, aa2, an2, ac2, s2, a2⟩, rfl, rfl, HO2, HV2⟩ := hcut
        simp only at HO2 HV2
        obtain ⟨U2, hU⟩ : ∃ z : World, z = wc := ⟨_, rfl⟩
        subst hU
        clear ne1 ne2 HD1 HG5' y0 y1
        have z0 := HO2.out.cell (i := 0) rfl 0 _ rfl
        have z1 := HO2.out.cell (i := 0) rfl 1 _ rfl
        have z2 := HO2.out.cell (i := 2) rfl 0 _ rfl
        have z3 := HO2.out.cell (i := 2) rfl 1 _ rfl
        have z4 := HO2.out.cell (i := 4) rfl 0 _ rfl
        have z5 := HO2.out.cell (i := 4) rfl 1 _ rfl
        obtain rfl : an2 = 0 := by
          have h := (HO2.out.isA (i := 3) rfl).ats.len
          simp only at h
          have h2 := HV2.out.2
          rw [← HdA.out, HQ2.out] at h2
          rw [h2] at h
          simpa using h.symm
        have HB := Lib.hid HO2.out.belowN
        go_wp2
        go_ret
        exact RetB.mk rfl HB.out
set_option maxRecDepth 100000 in
set_option maxHeartbeats 12800000 in
theorem walkMoldCuts_out {n : Int} (hn : -9223372036854775808 ≤ n ∧ n ≤ 9223372036854775807) {w : World} {Y : Ar} (hY : Y.Is w) (hm : amE Y.s Y.a = 0) (hl0 : Y.s.length ≠ 0) (hnm : n < -(Y.s.getD 0 0) ∨ Y.s.getD 0 0 < n) (hE : tkE [n] Y.s = 0) :
    Calls Tryz.prog 7 #[.int .i64 n, Y.v] w (RetB w (.bool true)) := by
  obtain ⟨q1, q2, -, q4⟩ := cuts_out hm hl0 hnm
  obtain ⟨E1, HE0⟩ : ∃ z : Int, Hid (z = 0) := ⟨_, rfl⟩
  have HE1 : Hid (tkE [n] Y.s = E1) := by rw [HE0.out]; exact hE
  have HE2 := Lib.hid q1
  have HQ2 := Lib.hid q2
  have HQ4 : Hid (Y.a.length ≤ (tkA [n] Y.s Y.a).length ∧ (0 < n → ∀ i, i < (tkA [n] Y.s Y.a).length → (tkA [n] Y.s Y.a).getD i 0 = if i < Y.a.length then Y.a.getD i 0 else 0) ∧
      (n < 0 → ∀ i, i < (tkA [n] Y.s Y.a).length → (tkA [n] Y.s Y.a).getD i 0 = if (tkA [n] Y.s Y.a).length - Y.a.length ≤ i then Y.a.getD (i - ((tkA [n] Y.s Y.a).length - Y.a.length)) 0 else 0)) := q4 hE
  have hbl := hY.ats.len
  have HBL := Lib.hid hbl
  clear q1 q2 q4 hE hbl
  have hl := hY.shp.len
  have hmb := may_bd (amE_zero hm).1 0
  obtain ⟨ta, tn, tc, ba, bn, bc, t, b⟩ := Y
  simp only [Ar.v] at *
  obtain ⟨tS, HtS⟩ : ∃ z, Hid (tkS [n] t = z) := ⟨_, rfl⟩
  obtain ⟨tA, HtA⟩ : ∃ z, Hid (tkA [n] t b = z) := ⟨_, rfl⟩
  obtain ⟨dS, HdS⟩ : ∃ z, Hid (drS [n] t = z) := ⟨_, rfl⟩
  obtain ⟨dA, HdA⟩ : ∃ z, Hid (drA [n] t b = z) := ⟨_, rfl⟩
  obtain ⟨m, HK⟩ : ∃ z, Hid (t.getD 0 0 = z) := ⟨_, rfl⟩
  rw [HK.out] at hnm hmb
  have hp : 0 < tn := by omega
  have hp' : (0 : Int) < tn := by omega
  have k5 : ((tn : Int) == 0) = false := by simp; omega
  obtain ⟨b3, o3, e3, hc3⟩ := hY.shp.at (by simp only; omega)
  have d3 := hc3 0 (by simp only; omega)
  simp only [Nat.add_zero] at e3 d3
  have hlt3 : b3 < w.heap.size := World.block_lt_of_cell? w _ d3
  subst e3
  rw [HK.out] at d3
  have HD3 := Lib.hid (fun (w9 : World) (hb : Below w.heap.size w w9) => (hb.cell (p := ⟨b3, o3, none⟩) hlt3).trans d3)
  have CS := Lib.hid (fun w9 => scalar6_any n w9 hn)
  have h0 := (Sp.start Non w).alloc 38 2 1 #[.slice (some ⟨b3, o3, none⟩) tn tc, .slice ba bn bc] rfl (by decide)
  obtain ⟨W0, HW0⟩ : ∃ z, Hid (w.alloc (.cells #[.slice (some ⟨b3, o3, none⟩) tn tc, .slice ba bn bc] 38) = z) := ⟨_, rfl⟩
  rw [HW0.out] at h0
  have H1_ := h0
  try simp only [List.cons_append, List.nil_append, List.set_cons_zero, List.set_cons_succ, List.map_cons, List.map_nil, List.getD_cons_zero, List.getD_cons_succ, World.size_alloc] at H1_
  have H1 := Lib.hid H1_
  clear H1_
  obtain ⟨g, HG⟩ : ∃ z, Hid (w.heap.size = z) := ⟨_, rfl⟩
  rw [HG.out] at H1
  have CB := Lib.hid (begun6_any W0)
  have HY := Lib.hid hY
  have HM := Lib.hid hm
  have HMB := Lib.hid hmb
  have HNM := Lib.hid hnm
  clear hY hm h0 hl hl0 hc3 d3 hlt3 hmb hnm
  go_enter Tryz.func7, Tryz.ntmps7
  go_wp2_with fail
  rw [HW0.out, HG.out]
  refine CB.out.mono ?_; rintro e w2 ⟨rfl, hb⟩
  have H2_ := H1.out.via hb
  try simp only [List.cons_append, List.nil_append, List.set_cons_zero, List.set_cons_succ, List.map_cons, List.map_nil, List.getD_cons_zero, List.getD_cons_succ, World.size_alloc] at H2_
  have H2 := Lib.hid H2_
  clear H2_
  have cm := may6_any (HY.out.below H2.out.belowN (Nat.le_refl _))
  rw [decide_eq_true (by simp only; exact HM.out)] at cm
  simp only [Ar.v] at cm
  have CM := Lib.hid cm
  have y0 := H2.out.cell (i := 0) rfl 0 _ rfl
  have y1 := H2.out.cell (i := 0) rfl 1 _ rfl
  clear hb cm CB H1
  go_wp2_with fail
  refine CM.out.mono ?_; rintro e w3 ⟨rfl, hb⟩
  have H3_ := H2.out.via hb
  try simp only [List.cons_append, List.nil_append, List.set_cons_zero, List.set_cons_succ, List.map_cons, List.map_nil, List.getD_cons_zero, List.getD_cons_succ, World.size_alloc] at H3_
  have H3 := Lib.hid H3_
  clear H3_
  clear hb H2 y0 y1 CM
  have y0 := H3.out.cell (i := 0) rfl 0 _ rfl
  have y1 := H3.out.cell (i := 0) rfl 1 _ rfl
  have y2 := HD3.out _ H3.out.belowN
  have CLQ := Lib.hid (fun (w9 : World) (hb : Below w3.heap.size w3 w9) => CS.out w9)
  have CYT : Hid (∀ (w9 : World) (X : Ar), Below w3.heap.size w3 w9 → X.Is w9 → X.s = [] → X.a = [n] → Calls Tryz.prog 29 #[.int .i64 28, X.v, .agg #[.slice (some ⟨b3, o3, none⟩) tn tc, .slice ba bn bc]] w9 (MadeE w9 tS tA E1)) := fun w9 X hb hX hs ha =>
    tkv_any (Y := ⟨some ⟨b3, o3, none⟩, tn, tc, ba, bn, bc, t, b⟩) hX (HY.out.below (H3.out.via hb).belowN (Nat.le_refl _)) hs ha HM.out HtS.out HtA.out HE1.out
  have hE := HE0.out
  subst hE
  rw [HtA.out] at HQ4
  have w1 : IntKind.i64.wrap (-m) = -m := IntWalk.i64_in _ (by have := HMB.out; omega)
  go_upto_region 6 with fail
  have K6 : Hid (n < -m ∨ ¬ n < -m ∧ m < n) := by have := HNM.out; show _ ∨ _; omega
  go_cut [40] from 32 to 41 (fun v40 wx => v40 = .bool true ∧ wx = w3)
  case first =>
    rcases K6.out with h9 | ⟨h8, h9⟩
    · have k1 : decide (n < -m) = true := by simpa using h9
      clear h9
      go_wp2_with fail
      go_meet
      exact ⟨rfl, rfl⟩
    · have k1 : decide (n < -m) = false := by simpa using h8
      have k2 : decide (n > m) = true := by simpa using h9
      clear h8 h9
      go_wp2_with fail
      go_meet
      exact ⟨rfl, rfl⟩
  case rest =>
    obtain ⟨rfl, rfl⟩ := hcut
    go_upto_region 7 with fail
    have hg5 := (H3.out.rlt (i := 0) rfl).1
    have ne1 : ¬ g = wc.heap.size := by omega
    have ne2 : ¬ wc.heap.size = g := by omega
    have HD1 : Hid (Below wc.heap.size wc (wc.alloc (.cells #[.slice none 0 0, .slice none 0 0] 38)).drew) := abvia (abal wc _) (adrew1 _)
    have HG5' := Lib.hid hg5
    clear hg5
    go_upto_region 7 with fail
    go_cut [6, 7] from 41 to 48 (fun v6 v7 wx => ∃ (g8 : Nat) (R : Ar), v6 = .pointer (some ⟨g8, 0, none⟩) ∧ v7 = .int .i64 0 ∧ Hid (Sp Non w wx [Pt.row ⟨38, 2, some ⟨g, 0, none⟩, 1, 1, [.slice (some ⟨b3, o3, none⟩) tn tc, .slice ba bn bc]⟩, Pt.arr R, Pt.row ⟨38, 2, some ⟨g8, 0, none⟩, 1, 1, [.slice R.sa R.sn R.sc, .slice R.aa R.an R.ac]⟩]) ∧ Hid (R.s = tS ∧ R.a = tA))
    case first =>
      go_region_held3 (fun v => v.cell? ⟨g, 0, none⟩ = some (.slice (some ⟨b3, o3, none⟩) tn tc) ∧ v.cell? ⟨g, 1, none⟩ = some (.slice ba bn bc)) (go_keep)
        (first
        | (go_at_call 28; (with_reducible refine Calls.mono (CLQ.out _ (adrew1 _)) ?_); rintro e v1 ⟨⟨sa7, sn7, sc7, aa7, an7, ac7, s7, a7⟩, rfl, hI, hs, ha, hO, hq⟩; have H7 := Lib.hid ((H3.out.via (adrew1 wc)).via hq); have C2 := Lib.hid (CYT.out v1 _ (abvia (adrew1 wc) hq) hI hs ha); have C3 := Lib.hid (CYT.out (v1.alloc (.cells #[.slice none 0 0, .slice none 0 0] 38)) _ (abvia (abvia (adrew1 wc) hq) (abal _ _)) (hI.via (abal _ _)) hs ha); simp only [Ar.v] at C2 C3 ⊢; have hsz := hq.size; have hg5 := HG5'.out; have ne3 : ¬ g = v1.heap.size := (by simp at hsz; omega); have ne4 : ¬ v1.heap.size = g := (by simp at hsz; omega); clear CLQ hI hs ha hO hq y0 y1 hsz hg5; have y0 := H7.out.cell (i := 0) rfl 0 _ rfl; have y1 := H7.out.cell (i := 0) rfl 1 _ rfl)
        | (go_at_call 28; (with_reducible refine Calls.mono (CLQ.out _ HD1.out) ?_); rintro e v1 ⟨⟨sa7, sn7, sc7, aa7, an7, ac7, s7, a7⟩, rfl, hI, hs, ha, hO, hq⟩; have H7 := Lib.hid (((H3.out.alloc 38 2 1 #[.slice none 0 0, .slice none 0 0] rfl (by decide)).via (adrew1 _)).via hq); have C4 := Lib.hid (CYT.out v1 _ (abvia HD1.out hq) hI hs ha); simp only [Ar.v] at C4 ⊢; clear CLQ hI hs ha hO hq y0 y1; have y0 := H7.out.cell (i := 0) rfl 0 _ rfl; have y1 := H7.out.cell (i := 0) rfl 1 _ rfl; have x0 := H7.out.cell (i := 1) rfl 0 _ rfl; have x1 := H7.out.cell (i := 1) rfl 1 _ rfl; have x2 := H7.out.frozen (i := 1) rfl 0; have x3 := H7.out.frozen (i := 1) rfl 1)
        | (have hreq := C2; go_at_call 29; (with_reducible refine Calls.mono C2.out ?_); rintro e v2 ⟨⟨sa8, sn8, sc8, aa8, an8, ac8, s8, a8⟩, rfl, hI, hs, ha, hO, hq⟩; have hlt := (H7.out.rlt (i := 0) rfl).1; have hsz := hq.size; have ne5 : ¬ g = v2.heap.size := (by omega); have ne6 : ¬ v2.heap.size = g := (by omega); have H8 := Lib.hid (H7.out.arrNew hI hO hq); have HV8 := Lib.hid (And.intro hs ha); simp only [Ar.v]; clear hI hs ha hO hq hreq C2 C3 y0 y1 hlt hsz; have y0 := H8.out.cell (i := 0) rfl 0 _ rfl; have y1 := H8.out.cell (i := 0) rfl 1 _ rfl)
        | (have hreq := C3; go_at_call 29; (with_reducible refine Calls.mono C3.out ?_); rintro e v2 ⟨⟨sa8, sn8, sc8, aa8, an8, ac8, s8, a8⟩, rfl, hI, hs, ha, hO, hq⟩; have H8 := Lib.hid ((H7.out.alloc 38 2 1 #[.slice none 0 0, .slice none 0 0] rfl (by decide)).arrNew hI hO hq); have HV8 := Lib.hid (And.intro hs ha); simp only [Ar.v]; clear hI hs ha hO hq hreq C2 C3 y0 y1; have y0 := H8.out.cell (i := 0) rfl 0 _ rfl; have y1 := H8.out.cell (i := 0) rfl 1 _ rfl; have x0 := H8.out.cell (i := 1) rfl 0 _ rfl; have x1 := H8.out.cell (i := 1) rfl 1 _ rfl; have x2 := H8.out.frozen (i := 1) rfl 0; have x3 := H8.out.frozen (i := 1) rfl 1)
        | (have hreq := C4; go_at_call 29; (with_reducible refine Calls.mono C4.out ?_); rintro e v2 ⟨⟨sa8, sn8, sc8, aa8, an8, ac8, s8, a8⟩, rfl, hI, hs, ha, hO, hq⟩; have H8 := Lib.hid (H7.out.arrNew hI hO hq); have HV8 := Lib.hid (And.intro hs ha); simp only [Ar.v]; clear hI hs ha hO hq hreq C4 y0 y1 x0 x1 x2 x3; have y0 := H8.out.cell (i := 0) rfl 0 _ rfl; have y1 := H8.out.cell (i := 0) rfl 1 _ rfl; have x0 := H8.out.cell (i := 1) rfl 0 _ rfl; have x1 := H8.out.cell (i := 1) rfl 1 _ rfl; have x2 := H8.out.frozen (i := 1) rfl 0; have x3 := H8.out.frozen (i := 1) rfl 1)
        )
      all_goals
        go_wp2_with fail
        go_meet
        first
        | exact ⟨v2.heap.size, ⟨sa8, sn8, sc8, aa8, an8, ac8, s8, a8⟩, rfl, rfl, (H8.out.alloc 38 2 1 #[.slice sa8 sn8 sc8, .slice aa8 an8 ac8] rfl (by decide)).pick [0, 1, 2] (by decide), HV8⟩
        | exact ⟨v1.heap.size, ⟨sa8, sn8, sc8, aa8, an8, ac8, s8, a8⟩, rfl, rfl, ((H8.out.put (i := 1) rfl 0 (.slice sa8 sn8 sc8)).put (i := 1) rfl 1 (.slice aa8 an8 ac8)).pick [0, 2, 1] (by decide), HV8⟩
        | exact ⟨wc.heap.size, ⟨sa8, sn8, sc8, aa8, an8, ac8, s8, a8⟩, rfl, rfl, ((H8.out.put (i := 1) rfl 0 (.slice sa8 sn8 sc8)).put (i := 1) rfl 1 (.slice aa8 an8 ac8)).pick [0, 2, 1] (by decide), HV8⟩
    case rest =>
      obtain ⟨g1, ⟨sa1, sn1, sc1, aa1, an1, ac1, s1, a1⟩, rfl, rfl, HO1, HV1⟩ := hcut
      simp only at HO1 HV1
      obtain ⟨U1, hU⟩ : ∃ z : World, z = wc := ⟨_, rfl⟩
      subst hU
      clear ne1 ne2 HD1 HG5' y0 y1
      have CLQ := Lib.hid (fun (w9 : World) (hb : Below U1.heap.size U1 w9) => CS.out w9)
      have CYT : Hid (∀ (w9 : World) (X : Ar), Below U1.heap.size U1 w9 → X.Is w9 → X.s = [] → X.a = [n] → Calls Tryz.prog 29 #[.int .i64 29, X.v, .agg #[.slice (some ⟨b3, o3, none⟩) tn tc, .slice ba bn bc]] w9 (MadeE w9 dS dA 0)) := fun w9 X hb hX hs ha =>
        drv_any (Y := ⟨some ⟨b3, o3, none⟩, tn, tc, ba, bn, bc, t, b⟩) hX (HY.out.below (HO1.out.via hb).belowN (Nat.le_refl _)) hs ha HM.out HdS.out HdA.out HE2.out
      have y0 := HO1.out.cell (i := 0) rfl 0 _ rfl
      have y1 := HO1.out.cell (i := 0) rfl 1 _ rfl
      clear H3
      have hg5 := (HO1.out.rlt (i := 0) rfl).1
      have ne1 : ¬ g = U1.heap.size := by omega
      have ne2 : ¬ U1.heap.size = g := by omega
      have HD1 : Hid (Below U1.heap.size U1 (U1.alloc (.cells #[.slice none 0 0, .slice none 0 0] 38)).drew) := abvia (abal U1 _) (adrew1 _)
      have HG5' := Lib.hid hg5
      clear hg5
      go_upto_region 8 with fail
      go_cut [8, 9] from 48 to 55 (fun v8 v9 wx => ∃ (g8 : Nat) (R : Ar), v8 = .pointer (some ⟨g8, 0, none⟩) ∧ v9 = .int .i64 0 ∧ Hid (Sp Non w wx [Pt.row ⟨38, 2, some ⟨g, 0, none⟩, 1, 1, [.slice (some ⟨b3, o3, none⟩) tn tc, .slice ba bn bc]⟩, Pt.arr ⟨sa1, sn1, sc1, aa1, an1, ac1, s1, a1⟩, Pt.row ⟨38, 2, some ⟨g1, 0, none⟩, 1, 1, [.slice sa1 sn1 sc1, .slice aa1 an1 ac1]⟩, Pt.arr R, Pt.row ⟨38, 2, some ⟨g8, 0, none⟩, 1, 1, [.slice R.sa R.sn R.sc, .slice R.aa R.an R.ac]⟩]) ∧ Hid (R.s = dS ∧ R.a = dA))
      case first =>
        go_region_held3 (fun v => v.cell? ⟨g, 0, none⟩ = some (.slice (some ⟨b3, o3, none⟩) tn tc) ∧ v.cell? ⟨g, 1, none⟩ = some (.slice ba bn bc)) (go_keep)
          (first
          | (go_at_call 28; (with_reducible refine Calls.mono (CLQ.out _ (adrew1 _)) ?_); rintro e v1 ⟨⟨sa7, sn7, sc7, aa7, an7, ac7, s7, a7⟩, rfl, hI, hs, ha, hO, hq⟩; have H7 := Lib.hid ((HO1.out.via (adrew1 U1)).via hq); have C2 := Lib.hid (CYT.out v1 _ (abvia (adrew1 U1) hq) hI hs ha); have C3 := Lib.hid (CYT.out (v1.alloc (.cells #[.slice none 0 0, .slice none 0 0] 38)) _ (abvia (abvia (adrew1 U1) hq) (abal _ _)) (hI.via (abal _ _)) hs ha); simp only [Ar.v] at C2 C3 ⊢; have hsz := hq.size; have hg5 := HG5'.out; have ne3 : ¬ g = v1.heap.size := (by simp at hsz; omega); have ne4 : ¬ v1.heap.size = g := (by simp at hsz; omega); clear CLQ hI hs ha hO hq y0 y1 hsz hg5; have y0 := H7.out.cell (i := 0) rfl 0 _ rfl; have y1 := H7.out.cell (i := 0) rfl 1 _ rfl)
          | (go_at_call 28; (with_reducible refine Calls.mono (CLQ.out _ HD1.out) ?_); rintro e v1 ⟨⟨sa7, sn7, sc7, aa7, an7, ac7, s7, a7⟩, rfl, hI, hs, ha, hO, hq⟩; have H7 := Lib.hid (((HO1.out.alloc 38 2 1 #[.slice none 0 0, .slice none 0 0] rfl (by decide)).via (adrew1 _)).via hq); have C4 := Lib.hid (CYT.out v1 _ (abvia HD1.out hq) hI hs ha); simp only [Ar.v] at C4 ⊢; clear CLQ hI hs ha hO hq y0 y1; have y0 := H7.out.cell (i := 0) rfl 0 _ rfl; have y1 := H7.out.cell (i := 0) rfl 1 _ rfl; have x0 := H7.out.cell (i := 3) rfl 0 _ rfl; have x1 := H7.out.cell (i := 3) rfl 1 _ rfl; have x2 := H7.out.frozen (i := 3) rfl 0; have x3 := H7.out.frozen (i := 3) rfl 1)
          | (have hreq := C2; go_at_call 29; (with_reducible refine Calls.mono C2.out ?_); rintro e v2 ⟨⟨sa8, sn8, sc8, aa8, an8, ac8, s8, a8⟩, rfl, hI, hs, ha, hO, hq⟩; have hlt := (H7.out.rlt (i := 0) rfl).1; have hsz := hq.size; have ne5 : ¬ g = v2.heap.size := (by omega); have ne6 : ¬ v2.heap.size = g := (by omega); have H8 := Lib.hid (H7.out.arrNew hI hO hq); have HV8 := Lib.hid (And.intro hs ha); simp only [Ar.v]; clear hI hs ha hO hq hreq C2 C3 y0 y1 hlt hsz; have y0 := H8.out.cell (i := 0) rfl 0 _ rfl; have y1 := H8.out.cell (i := 0) rfl 1 _ rfl)
          | (have hreq := C3; go_at_call 29; (with_reducible refine Calls.mono C3.out ?_); rintro e v2 ⟨⟨sa8, sn8, sc8, aa8, an8, ac8, s8, a8⟩, rfl, hI, hs, ha, hO, hq⟩; have H8 := Lib.hid ((H7.out.alloc 38 2 1 #[.slice none 0 0, .slice none 0 0] rfl (by decide)).arrNew hI hO hq); have HV8 := Lib.hid (And.intro hs ha); simp only [Ar.v]; clear hI hs ha hO hq hreq C2 C3 y0 y1; have y0 := H8.out.cell (i := 0) rfl 0 _ rfl; have y1 := H8.out.cell (i := 0) rfl 1 _ rfl; have x0 := H8.out.cell (i := 3) rfl 0 _ rfl; have x1 := H8.out.cell (i := 3) rfl 1 _ rfl; have x2 := H8.out.frozen (i := 3) rfl 0; have x3 := H8.out.frozen (i := 3) rfl 1)
          | (have hreq := C4; go_at_call 29; (with_reducible refine Calls.mono C4.out ?_); rintro e v2 ⟨⟨sa8, sn8, sc8, aa8, an8, ac8, s8, a8⟩, rfl, hI, hs, ha, hO, hq⟩; have H8 := Lib.hid (H7.out.arrNew hI hO hq); have HV8 := Lib.hid (And.intro hs ha); simp only [Ar.v]; clear hI hs ha hO hq hreq C4 y0 y1 x0 x1 x2 x3; have y0 := H8.out.cell (i := 0) rfl 0 _ rfl; have y1 := H8.out.cell (i := 0) rfl 1 _ rfl; have x0 := H8.out.cell (i := 3) rfl 0 _ rfl; have x1 := H8.out.cell (i := 3) rfl 1 _ rfl; have x2 := H8.out.frozen (i := 3) rfl 0; have x3 := H8.out.frozen (i := 3) rfl 1)
          )
        all_goals
          go_wp2_with fail
          go_meet
          first
          | exact ⟨v2.heap.size, ⟨sa8, sn8, sc8, aa8, an8, ac8, s8, a8⟩, rfl, rfl, (H8.out.alloc 38 2 1 #[.slice sa8 sn8 sc8, .slice aa8 an8 ac8] rfl (by decide)).pick [0, 1, 2, 3, 4] (by decide), HV8⟩
          | exact ⟨v1.heap.size, ⟨sa8, sn8, sc8, aa8, an8, ac8, s8, a8⟩, rfl, rfl, ((H8.out.put (i := 3) rfl 0 (.slice sa8 sn8 sc8)).put (i := 3) rfl 1 (.slice aa8 an8 ac8)).pick [0, 1, 2, 4, 3] (by decide), HV8⟩
          | exact ⟨U1.heap.size, ⟨sa8, sn8, sc8, aa8, an8, ac8, s8, a8⟩, rfl, rfl, ((H8.out.put (i := 3) rfl 0 (.slice sa8 sn8 sc8)).put (i := 3) rfl 1 (.slice aa8 an8 ac8)).pick [0, 1, 2, 4, 3] (by decide), HV8⟩
      case rest =>
        obtain ⟨g2, ⟨sa2, sn2, sc2, aa2, an2, ac2, s2, a2⟩, rfl, rfl, HO2, HV2⟩ := hcut
        simp only at HO2 HV2
        obtain ⟨U2, hU⟩ : ∃ z : World, z = wc := ⟨_, rfl⟩
        subst hU
        clear ne1 ne2 HD1 HG5' y0 y1
        have z0 := HO2.out.cell (i := 0) rfl 0 _ rfl
        have z1 := HO2.out.cell (i := 0) rfl 1 _ rfl
        have z2 := HO2.out.cell (i := 2) rfl 0 _ rfl
        have z3 := HO2.out.cell (i := 2) rfl 1 _ rfl
        have z4 := HO2.out.cell (i := 4) rfl 0 _ rfl
        have z5 := HO2.out.cell (i := 4) rfl 1 _ rfl
        obtain rfl : an2 = 0 := by
          have h := (HO2.out.isA (i := 3) rfl).ats.len
          simp only at h
          have h2 := HV2.out.2
          rw [← HdA.out, HQ2.out] at h2
          rw [h2] at h
          simpa using h.symm
        have hq := HQ4.out
        rw [HBL.out] at hq
        have hal := (HO2.out.isA (i := 1) rfl).ats.len
        simp only at hal
        have ha1 := HV1.out.2
        rw [← ha1, hal] at hq
        obtain ⟨h1, h2, h3⟩ := hq
        obtain ⟨kk, hkk⟩ : ∃ kk : Nat, an1 = bn + kk := ⟨an1 - bn, by omega⟩
        rw [show an1 - bn = kk by omega] at h3
        have HP := Lib.hid h2
        have HN := Lib.hid h3
        have hbn := HY.out.ats.len
        have htop := (HO2.out.isA (i := 1) rfl).ats.big
        have HKK := Lib.hid hkk
        have w2 : IntKind.i64.wrap ((an1 : Int) - bn) = kk := by
          rw [IntWalk.i64_in _ (by simp only at htop; omega)]; omega
        clear h1 h2 h3 hkk hal ha1 hbn htop w1
        go_wp2_with fail
        have HB2 := Lib.hid (HO2.out.belowN)
        go_loopw [11] (fun v wr => ∃ i : Nat, i ≤ an1 ∧ v = .int .i64 i ∧ wr = U2) (fun v _ => an1 - (RowKit.intOf v).toNat)
        case atStart => exact ⟨0, Nat.zero_le _, rfl, rfl⟩
        case round =>
          obtain ⟨i, hi, rfl, rfl⟩ := hrel
          have hbg := (HO2.out.isA (i := 1) rfl).ats.big
          simp only at hbg
          have hbnd : an1 ≤ 1000000000000000 := by omega
          clear hbg
          by_cases hlt : i < an1
          · have hlt' : (i : Int) < an1 := by omega
            obtain ⟨e1, o1, h1, hc1⟩ := (HO2.out.isA (i := 1) rfl).ats.at (by simp only; omega)
            have x1 := hc1 i (by simp only; exact hlt)
            simp only at h1 x1
            subst h1
            clear hc1
            by_cases hn0 : 0 < n
            · have hv := HP.out hn0 i hlt
              have k1 : decide (n > 0) = true := by simpa using hn0
              have k2 : decide (n < 0) = false := by simp; omega
              clear hn0
              by_cases hib : i < bn
              · rw [if_pos hib] at hv
                obtain ⟨e2, o2, h2, hc2⟩ := (HY.out.below HB2.out (Nat.le_refl _)).ats.at (by simp only; omega)
                have x2 := hc2 i (by simp only; exact hib)
                simp only at h2 x2
                subst h2
                rw [hv] at x1
                obtain ⟨x, HX⟩ : ∃ z, Hid (b.getD i 0 = z) := ⟨_, rfl⟩
                rw [HX.out] at x1 x2
                have hib' : (i : Int) < bn := by omega
                clear hc2 hv HX HO2 HO1
                go_wp2_with fail
                go_roundw
                case rel => exact ⟨i + 1, by omega, by go_num, by trivial⟩
                case measure => simp [RowKit.intOf]; omega
              · rw [if_neg hib] at hv
                rw [hv] at x1
                have hib' : ¬ (i : Int) < bn := by omega
                clear hv HO2 HO1
                go_wp2_with fail
                go_roundw
                case rel => exact ⟨i + 1, by omega, by go_num, by trivial⟩
                case measure => simp [RowKit.intOf]; omega
            · have hn1 : n < 0 := by have := HNM.out; have := HMB.out; omega
              have hv := HN.out hn1 i hlt
              have k1 : decide (n > 0) = false := by simp; omega
              have k2 : decide (n < 0) = true := by simpa using hn1
              clear hn0 hn1
              by_cases hib : kk ≤ i
              · rw [if_pos hib] at hv
                obtain ⟨q, hq⟩ : ∃ q : Nat, i = kk + q := ⟨i - kk, by omega⟩
                rw [show i - kk = q by omega] at hv
                have hqb : q < bn := by have := HKK.out; omega
                obtain ⟨e2, o2, h2, hc2⟩ := (HY.out.below HB2.out (Nat.le_refl _)).ats.at (by simp only; omega)
                have x2 := hc2 q (by simp only; exact hqb)
                simp only at h2 x2
                subst h2
                rw [hv] at x1
                obtain ⟨x, HX⟩ : ∃ z, Hid (b.getD q 0 = z) := ⟨_, rfl⟩
                rw [HX.out] at x1 x2
                have w3 : IntKind.i64.wrap ((i : Int) - kk) = q := by
                  have hbg := (HO2.out.isA (i := 1) rfl).ats.big
                  simp only at hbg
                  rw [IntWalk.i64_in _ (by omega)]; omega
                have hib' : (kk : Int) ≤ i := by omega
                have hqb' : (q : Int) < bn := by omega
                have HIQ := Lib.hid hq
                clear hc2 hv HX HO2 HO1 hq
                go_wp2_with fail
                go_roundw
                case rel => exact ⟨i + 1, by omega, by go_num, by trivial⟩
                case measure => simp [RowKit.intOf]; omega
              · rw [if_neg hib] at hv
                rw [hv] at x1
                have hib' : ¬ (kk : Int) ≤ i := by omega
                clear hv HO2 HO1
                go_wp2_with fail
                go_roundw
                case rel => exact ⟨i + 1, by omega, by go_num, by trivial⟩
                case measure => simp [RowKit.intOf]; omega
          · obtain rfl : an1 = i := by omega
            have hge : ¬ ((an1 : Int) < an1) := by omega
            clear HO2 HO1
            go_wp2
            go_ret
            exact RetB.mk rfl HB2.out
set_option maxRecDepth 100000 in
theorem walkMoldCuts {n : Int} (hn : -9223372036854775808 ≤ n ∧ n ≤ 9223372036854775807) {w : World} {Y : Ar} (hY : Y.Is w) : Calls Tryz.prog 7 #[.int .i64 n, Y.v] w (RetB w (.bool true)) := by
  by_cases hm : amE Y.s Y.a = 0
  · by_cases h1 : Y.s.length = 0
    · exact walkMoldCuts_no hn hY (.inr ⟨hm, h1⟩)
    · by_cases h2 : -(Y.s.getD 0 0) ≤ n ∧ n ≤ Y.s.getD 0 0
      · exact walkMoldCuts_in hn hY hm h1 h2
      · have h3 : n < -(Y.s.getD 0 0) ∨ Y.s.getD 0 0 < n := by omega
        rcases (cuts_out hm h1 h3).2.2.1 with h4 | h4
        · exact walkMoldCuts_out hn hY hm h1 h3 h4
        · exact walkMoldCuts_err hn hY hm h1 h3 h4
  · exact walkMoldCuts_no hn hY (.inl hm)
end Go.Proofs.YthackmkdicpdeaaGreat
