/- DigitCopies: the walk of the statement's function. -/
import Derived.Test.YtoippfoeghjdoaaDigCopPlain
import Derived.Test.YtoippfoeghjdoaaDigMay8
namespace Go.Proofs.Ytoippfoeghjdoaa
open Go.RowKit Go.Lib
set_option linter.unusedVariables false
set_option linter.unusedSimpArgs false
attribute [local go_sem] alloc_drewN setCell_drewN
set_option maxRecDepth 100000 in
set_option maxHeartbeats 12800000 in
theorem walkDigitCopies {w : World} {ao : Option Addr} {n c : Nat} {x : List Int} (hS : Ls w ao n c x) {Y : Ar} (hY : Y.Is w) :
    Calls Try.prog 6 #[.slice ao n c, Y.v] w (RetB w (.bool true)) := by
  obtain ⟨ta, tn, tc, ba, bn, bc, t, b⟩ := Y
  simp only [Ar.v]
  have BG := Lib.hid (fun w1 => begun8_any w1)
  have hl := hS.len
  have hb := hS.big
  have HS := Lib.hid hS
  have HY := Lib.hid hY
  have HLB := Lib.hid (show t.length = tn ∧ b.length = bn from ⟨hY.shp.len, hY.ats.len⟩)
  have hbb := hY.ats.big
  have htb := hY.shp.big
  simp only at hbb htb
  have H0 := (Sp.start Non w).alloc 38 2 1 #[.slice ta tn tc, .slice ba bn bc] rfl (by decide)
  obtain ⟨W0, HW⟩ : ∃ z, Hid (w.alloc (.cells #[.slice ta tn tc, .slice ba bn bc] 38) = z) := ⟨_, rfl⟩
  rw [HW.out] at H0
  obtain ⟨g, HG⟩ : ∃ z, Hid (w.heap.size = z) := ⟨_, rfl⟩
  have H1_ := H0
  try simp only [List.cons_append, List.nil_append, List.set_cons_zero, List.set_cons_succ, List.map_cons, List.map_nil, List.getD_cons_zero, List.getD_cons_succ, World.size_alloc] at H1_
  have H1 := Lib.hid H1_
  clear H1_
  rw [HG.out] at H1
  have CM : Hid (∀ (op : Int) (w1 : World) (A : Ar) (s a S B : List Int) (E : Int), A.Is w1 → A.s = s → A.a = a → dMon op s a = (S, B, E) → Calls Try.prog 20 #[.int .i64 op, A.v] w1 (MadeE w1 S B E)) := by
    intro op w1 A s a S B E hA hs ha h
    have q := dmonad_any hA op
    rw [hs, ha, h] at q
    exact q
  have CY : Hid (∀ (op : Int) (w1 : World) (X Y : Ar) (s a t b S B : List Int) (E : Int), X.Is w1 → Y.Is w1 → X.s = s → X.a = a → Y.s = t → Y.a = b → dDya op s a t b = (S, B, E) → Calls Try.prog 24 #[.int .i64 op, X.v, Y.v] w1 (MadeE w1 S B E)) := by
    intro op w1 X Y s a t b S B E hX hY hs ha ht hb h
    have q := ddyad_any hX hY op
    rw [hs, ha, ht, hb, h] at q
    exact q
  have C8 := Lib.hid (fun (w1 : World) (hb : Below w.heap.size w w1) => may8_any (hY.below hb (Nat.le_refl _)))
  have YIS := Lib.hid (fun (w1 : World) (hb : Below w.heap.size w w1) => hY.below hb (Nat.le_refl _))
  simp only [Ar.v] at C8
  clear H0 hY hS
  by_cases hbig : 4096 < n
  · have hbig' : (4096 : Int) < n := by omega
    go_enter Try.func6, Try.ntmps6
    go_wp2_with fail
    rw [HW.out, HG.out]
    refine (BG.out _).mono ?_; rintro e w1 ⟨rfl, hb1⟩
    have HB := Lib.hid (H1.out.via hb1).belowN
    clear H1 hb1
    go_wp2
    go_ret
    exact RetB.mk rfl HB.out
  have hbig' : ¬ (4096 : Int) < n := by omega
  have HL := Lib.hid hl
  obtain ⟨SW, AW, EW, hw1, hw2⟩ := where_copies (x := x) (I := pcA [(n : Int)]) hl (by omega) ((iota_one (x := (n : Int)) (by omega)).2.1.trans (by omega)) (fun i hi => by rw [(iota_one (x := (n : Int)) (by omega)).2.2 i (by omega), if_neg (by omega)])
  have hio := (iota_one (x := (n : Int)) (by omega)).1
  rw [Int.natAbs_natCast] at hio
  obtain ⟨I, HI⟩ : ∃ z, Hid (pcA [(n : Int)] = z) := ⟨_, rfl⟩
  rw [HI.out] at hio hw2
  have HWH := Lib.hid (And.intro hw1 (And.intro hw2 hio))
  clear hl hw1 hw2 hio
  go_enter Try.func6, Try.ntmps6
  go_wp2_with fail
  rw [HW.out, HG.out]
  refine (BG.out _).mono ?_; rintro e w1 ⟨rfl, hb1⟩
  have H2 := Lib.hid (H1.out.via hb1)
  have CLX := Lib.hid (fun (w3 : World) (hb : Below w.heap.size w w3) => list8_any (HS.out.below hb (Nat.le_refl _)) (by omega))
  have CS0 := Lib.hid (fun w3 => scalar8_any (n : Int) w3 (by omega))
  have CL := Lib.hid (CLX.out _ H2.out.belowN)
  clear H1 hb1 BG
  go_wp2_with fail
  refine CL.out.mono ?_; rintro e w2 ⟨⟨sa2, sn2, sc2, aa2, an2, ac2, s2, a2⟩, rfl, hI, hs, ha, -, hb2⟩
  have H3 := Lib.hid (H2.out.via hb2)
  have C1 := Lib.hid (CM.out 43 w2 _ _ _ _ _ _ hI hs ha HWH.out.1)
  simp only [Ar.v] at C1 ⊢
  clear hI hs ha hb2 CL H2
  go_wp2_with fail
  refine C1.out.mono ?_; rintro e w3 ⟨⟨sa3, sn3, sc3, aa3, an3, ac3, s3, a3⟩, rfl, hI, hs, ha, hO, hb3⟩
  simp only at hs ha
  have H4_ := (H3.out.arrNew hI hO hb3).alloc 38 2 1 #[.slice sa3 sn3 sc3, .slice aa3 an3 ac3] rfl (by decide)
  try simp only [List.cons_append, List.nil_append, List.set_cons_zero, List.set_cons_succ, List.map_cons, List.map_nil, List.getD_cons_zero, List.getD_cons_succ, World.size_alloc] at H4_
  have H4 := Lib.hid H4_
  clear H4_
  have HV3 := Lib.hid (And.intro hs ha)
  simp only [Ar.v]
  clear hI hs ha hO hb3 C1 H3
  go_wp2_with fail
  refine (CS0.out _).mono ?_; rintro e w4 ⟨⟨sa4, sn4, sc4, aa4, an4, ac4, s4, a4⟩, rfl, hI, hs, ha, -, hb4⟩
  obtain ⟨g3, HG3⟩ : ∃ z, Hid (w3.heap.size = z) := ⟨_, rfl⟩
  have H5 := Lib.hid (H4.out.via hb4)
  rw [HG3.out] at H5 ⊢
  have C1 := Lib.hid (CM.out 34 w4 _ _ _ _ _ _ hI hs ha HWH.out.2.2)
  simp only [Ar.v] at C1 ⊢
  clear hI hs ha hb4 H4
  go_wp2_with fail
  refine C1.out.mono ?_; rintro e w5 ⟨⟨sa5, sn5, sc5, aa5, an5, ac5, s5, a5⟩, rfl, hI, hs, ha, hO, hb5⟩
  simp only at hs ha
  have h6 := (H5.out.arrNew hI hO hb5).alloc 38 2 1 #[.slice sa5 sn5 sc5, .slice aa5 an5 ac5] rfl (by decide)
  obtain ⟨W, HWW⟩ : ∃ z, Hid (w5.alloc (.cells #[.slice sa5 sn5 sc5, .slice aa5 an5 ac5] 38) = z) := ⟨_, rfl⟩
  obtain ⟨g5, HG5⟩ : ∃ z, Hid (w5.heap.size = z) := ⟨_, rfl⟩
  rw [HWW.out] at h6
  have H6_ := h6
  try simp only [List.cons_append, List.nil_append, List.set_cons_zero, List.set_cons_succ, List.map_cons, List.map_nil, List.getD_cons_zero, List.getD_cons_succ, World.size_alloc] at H6_
  have H6 := Lib.hid H6_
  clear H6_
  rw [HG5.out] at H6
  have HV5 := Lib.hid (And.intro hs ha)
  have y0 := H6.out.cell (i := 4) rfl 0 _ rfl
  have y1 := H6.out.cell (i := 4) rfl 1 _ rfl
  simp only [Ar.v]
  clear hI hs ha hO hb5 h6 C1 H5
  have CLQ := Lib.hid (fun (w9 : World) (hb : Below W.heap.size W w9) => CLX.out w9 (H6.out.via hb).belowN)
  have CYT : Hid (∀ (w9 : World) (X : Ar), Below W.heap.size W w9 → X.Is w9 → X.s = [(n : Int)] → X.a = x → Calls Try.prog 24 #[.int .i64 22, X.v, .agg #[.slice sa5 sn5 sc5, .slice aa5 an5 ac5]] w9 (MadeE w9 SW AW EW)) := fun w9 X hb hX hs ha =>
    CY.out 22 w9 X ⟨sa5, sn5, sc5, aa5, an5, ac5, s5, a5⟩ _ _ _ _ _ _ _ hX ((H6.out.via hb).isA (i := 3) rfl) hs ha HV5.out.1 HV5.out.2 HWH.out.2.1
  go_upto_region 7 with fail
  rw [HWW.out, HG5.out]
  have hg5 := (H6.out.rlt (i := 4) rfl).1
  have ne1 : ¬ g5 = W.heap.size := by omega
  have ne2 : ¬ W.heap.size = g5 := by omega
  have HD1 : Hid (Below W.heap.size W (W.alloc (.cells #[.slice none 0 0, .slice none 0 0] 38)).drew) := abvia (abal W _) (adrew1 _)
  have HG5' := Lib.hid hg5
  clear hg5
  go_upto_region 7 with fail
  go_cut [9, 10] from 39 to 46 (fun v9 v10 wx => ∃ (g8 : Nat) (R : Ar), v9 = .pointer (some ⟨g8, 0, none⟩) ∧ v10 = .int .i64 EW ∧ Hid (Sp Non w wx [Pt.row ⟨38, 2, some ⟨g, 0, none⟩, 1, 1, [.slice ta tn tc, .slice ba bn bc]⟩, Pt.arr ⟨sa3, sn3, sc3, aa3, an3, ac3, s3, a3⟩, Pt.row ⟨38, 2, some ⟨g3, 0, none⟩, 1, 1, [.slice sa3 sn3 sc3, .slice aa3 an3 ac3]⟩, Pt.arr R, Pt.row ⟨38, 2, some ⟨g8, 0, none⟩, 1, 1, [.slice R.sa R.sn R.sc, .slice R.aa R.an R.ac]⟩]) ∧ Hid (R.s = SW ∧ R.a = AW))
  case first =>
    go_region_held3 (fun v => v.cell? ⟨g5, 0, none⟩ = some (.slice sa5 sn5 sc5) ∧ v.cell? ⟨g5, 1, none⟩ = some (.slice aa5 an5 ac5)) (go_keep)
      (first
      | (go_at_call 21; (with_reducible refine Calls.mono (CLQ.out _ (adrew1 _)) ?_); rintro e v1 ⟨⟨sa7, sn7, sc7, aa7, an7, ac7, s7, a7⟩, rfl, hI, hs, ha, hO, hq⟩; have H7 := Lib.hid ((H6.out.via (adrew1 W)).via hq); have C2 := Lib.hid (CYT.out v1 _ (abvia (adrew1 W) hq) hI hs ha); have C3 := Lib.hid (CYT.out (v1.alloc (.cells #[.slice none 0 0, .slice none 0 0] 38)) _ (abvia (abvia (adrew1 W) hq) (abal _ _)) (hI.via (abal _ _)) hs ha); simp only [Ar.v] at C2 C3 ⊢; have hsz := hq.size; have hg5 := HG5'.out; have ne3 : ¬ g5 = v1.heap.size := (by simp at hsz; omega); have ne4 : ¬ v1.heap.size = g5 := (by simp at hsz; omega); clear CLQ hI hs ha hO hq y0 y1 hsz hg5; have y0 := H7.out.cell (i := 4) rfl 0 _ rfl; have y1 := H7.out.cell (i := 4) rfl 1 _ rfl)
      | (go_at_call 21; (with_reducible refine Calls.mono (CLQ.out _ HD1.out) ?_); rintro e v1 ⟨⟨sa7, sn7, sc7, aa7, an7, ac7, s7, a7⟩, rfl, hI, hs, ha, hO, hq⟩; have H7 := Lib.hid (((H6.out.alloc 38 2 1 #[.slice none 0 0, .slice none 0 0] rfl (by decide)).via (adrew1 _)).via hq); have C4 := Lib.hid (CYT.out v1 _ (abvia HD1.out hq) hI hs ha); simp only [Ar.v] at C4 ⊢; clear CLQ hI hs ha hO hq y0 y1; have y0 := H7.out.cell (i := 4) rfl 0 _ rfl; have y1 := H7.out.cell (i := 4) rfl 1 _ rfl; have x0 := H7.out.cell (i := 5) rfl 0 _ rfl; have x1 := H7.out.cell (i := 5) rfl 1 _ rfl; have x2 := H7.out.frozen (i := 5) rfl 0; have x3 := H7.out.frozen (i := 5) rfl 1)
      | (have hreq := C2; go_at_call 24; (with_reducible refine Calls.mono C2.out ?_); rintro e v2 ⟨⟨sa8, sn8, sc8, aa8, an8, ac8, s8, a8⟩, rfl, hI, hs, ha, hO, hq⟩; have hlt := (H7.out.rlt (i := 4) rfl).1; have hsz := hq.size; have ne5 : ¬ g5 = v2.heap.size := (by omega); have ne6 : ¬ v2.heap.size = g5 := (by omega); have H8 := Lib.hid (H7.out.arrNew hI hO hq); have HV8 := Lib.hid (And.intro hs ha); simp only [Ar.v]; clear hI hs ha hO hq hreq C2 C3 y0 y1 hlt hsz; have y0 := H8.out.cell (i := 4) rfl 0 _ rfl; have y1 := H8.out.cell (i := 4) rfl 1 _ rfl)
      | (have hreq := C3; go_at_call 24; (with_reducible refine Calls.mono C3.out ?_); rintro e v2 ⟨⟨sa8, sn8, sc8, aa8, an8, ac8, s8, a8⟩, rfl, hI, hs, ha, hO, hq⟩; have H8 := Lib.hid ((H7.out.alloc 38 2 1 #[.slice none 0 0, .slice none 0 0] rfl (by decide)).arrNew hI hO hq); have HV8 := Lib.hid (And.intro hs ha); simp only [Ar.v]; clear hI hs ha hO hq hreq C2 C3 y0 y1; have y0 := H8.out.cell (i := 4) rfl 0 _ rfl; have y1 := H8.out.cell (i := 4) rfl 1 _ rfl; have x0 := H8.out.cell (i := 5) rfl 0 _ rfl; have x1 := H8.out.cell (i := 5) rfl 1 _ rfl; have x2 := H8.out.frozen (i := 5) rfl 0; have x3 := H8.out.frozen (i := 5) rfl 1)
      | (have hreq := C4; go_at_call 24; (with_reducible refine Calls.mono C4.out ?_); rintro e v2 ⟨⟨sa8, sn8, sc8, aa8, an8, ac8, s8, a8⟩, rfl, hI, hs, ha, hO, hq⟩; have H8 := Lib.hid (H7.out.arrNew hI hO hq); have HV8 := Lib.hid (And.intro hs ha); simp only [Ar.v]; clear hI hs ha hO hq hreq C4 y0 y1 x0 x1 x2 x3; have y0 := H8.out.cell (i := 4) rfl 0 _ rfl; have y1 := H8.out.cell (i := 4) rfl 1 _ rfl; have x0 := H8.out.cell (i := 5) rfl 0 _ rfl; have x1 := H8.out.cell (i := 5) rfl 1 _ rfl; have x2 := H8.out.frozen (i := 5) rfl 0; have x3 := H8.out.frozen (i := 5) rfl 1)
      )
    all_goals
      go_wp2_with fail
      go_meet
      first
      | exact ⟨v2.heap.size, ⟨sa8, sn8, sc8, aa8, an8, ac8, s8, a8⟩, rfl, rfl, (H8.out.alloc 38 2 1 #[.slice sa8 sn8 sc8, .slice aa8 an8 ac8] rfl (by decide)).pick [0, 1, 2, 5, 6] (by decide), HV8⟩
      | exact ⟨v1.heap.size, ⟨sa8, sn8, sc8, aa8, an8, ac8, s8, a8⟩, rfl, rfl, ((H8.out.put (i := 5) rfl 0 (.slice sa8 sn8 sc8)).put (i := 5) rfl 1 (.slice aa8 an8 ac8)).pick [0, 1, 2, 6, 5] (by decide), HV8⟩
      | exact ⟨W.heap.size, ⟨sa8, sn8, sc8, aa8, an8, ac8, s8, a8⟩, rfl, rfl, ((H8.out.put (i := 5) rfl 0 (.slice sa8 sn8 sc8)).put (i := 5) rfl 1 (.slice aa8 an8 ac8)).pick [0, 1, 2, 6, 5] (by decide), HV8⟩
  case rest =>
    obtain ⟨gb, ⟨sab, snb, scb, aab, anb, acb, sb, ab⟩, rfl, rfl, HOb, HVb⟩ := hcut
    simp only at HOb HVb
    obtain ⟨Ub, hU⟩ : ∃ z : World, z = wc := ⟨_, rfl⟩
    subst hU
    clear ne1 ne2 HD1 HG5' y0 y1
    have qe : (EW != EW) = false := by simp
    have z0 := HOb.out.cell (i := 2) rfl 0 _ rfl
    have z1 := HOb.out.cell (i := 2) rfl 1 _ rfl
    have z2 := HOb.out.cell (i := 4) rfl 0 _ rfl
    have z3 := HOb.out.cell (i := 4) rfl 1 _ rfl
    go_upto_region 8 with fail
    go_cut [62] from 46 to 63 (fun v62 wx => v62 = .bool false ∧ Hid (Sp Non w wx [Pt.row ⟨38, 2, some ⟨g, 0, none⟩, 1, 1, [.slice ta tn tc, .slice ba bn bc]⟩]))
    case first =>
      by_cases hE : EW = 0
      · have q1 : (EW == 0) = true := by simpa using hE
        have HE : Hid (Calls Try.prog 15 #[.agg #[.slice sa3 sn3 sc3, .slice aa3 an3 ac3], .agg #[.slice sab snb scb, .slice aab anb acb]] Ub (RetB Ub (.bool true))) := by
          have q := eq4_any (HOb.out.isA (i := 1) rfl) (HOb.out.isA (i := 3) rfl)
          simp only [HV3.out.1, HV3.out.2, HVb.out.1, HVb.out.2, and_self, decide_true, Ar.v] at q
          exact q
        clear hE
        go_wp2_with fail
        refine HE.out.mono ?_; rintro e v9 ⟨rfl, hb9⟩
        have HR := Lib.hid ((HOb.out.via hb9).pick [0] (by decide))
        clear hb9 z0 z1 z2 z3
        go_wp2_with fail
        go_meet
        exact ⟨rfl, HR⟩
      · have q1 : (EW == 0) = false := by simpa using hE
        have HR := Lib.hid (HOb.out.pick [0] (by decide))
        clear hE z0 z1 z2 z3
        go_wp2_with fail
        go_meet
        exact ⟨rfl, HR⟩
    case rest =>
      obtain ⟨rfl, HY1⟩ := hcut
      obtain ⟨U1, hU⟩ : ∃ z : World, z = wc := ⟨_, rfl⟩
      subst hU
      have CM8 := Lib.hid (C8.out _ HY1.out.belowN)
      have y0 := HY1.out.cell (i := 0) rfl 0 _ rfl
      have y1 := HY1.out.cell (i := 0) rfl 1 _ rfl
      clear qe z0 z1 z2 z3 HOb C8 H6
      go_wp2_with fail
      refine CM8.out.mono ?_; rintro e w6 ⟨rfl, hb6⟩
      have HY2 := Lib.hid (HY1.out.via hb6)
      clear hb6 y0 y1 HY1 CM8
      have y0 := HY2.out.cell (i := 0) rfl 0 _ rfl
      have y1 := HY2.out.cell (i := 0) rfl 1 _ rfl
      by_cases hm : amE t b = 0
      · by_cases htn : tn = 0
        · have HB := Lib.hid HY2.out.belowN
          have k1 : decide (amE t b = 0) = true := by simpa using hm
          subst htn
          clear HY2 hm
          go_wp2
          go_ret
          exact RetB.mk rfl HB.out
        · have k1 : decide (amE t b = 0) = true := by simpa using hm
          have k2 : ((tn : Int) == 0) = false := by simp; omega
          have htl : 0 < t.length := by rw [HLB.out.1]; omega
          obtain ⟨k, hk⟩ : ∃ k : Nat, t.getD 0 0 = k := ⟨(t.getD 0 0).toNat, (Int.toNat_of_nonneg ((mayE_zero (amE_zero hm).1).1 0)).symm⟩
          have hk4 : k ≤ 4096 := by
            have q1 := (pm_up t 0).2.2
            have q2 := pm_all t 1
            have q3 := (mayE_zero (amE_zero hm).1).2.2
            rw [hk, Nat.zero_add] at q1
            omega
          obtain ⟨b3, o3, e3, hc3⟩ := HY.out.shp.at (by simp only; omega)
          have d3 := hc3 0 (by simp only; omega)
          simp only [Nat.add_zero] at e3 d3
          rw [hk] at d3
          have hlt3 : b3 < w.heap.size := World.block_lt_of_cell? w _ d3
          subst e3
          have HD3 := Lib.hid (fun (w9 : World) (hb : Below w.heap.size w w9) => (hb.cell (p := ⟨b3, o3, none⟩) hlt3).trans d3)
          have V1 := Lib.hid (dya_one htl hm)
          have V2 := Lib.hid (dya_ones htl hm hk)
          have V3 := Lib.hid (cp_tells HL.out (by omega) htl hm)
          have HK := Lib.hid hk
          have HTN := Lib.hid (show 0 < tn by omega)
          have H7 : Hid (Sp Non w w6 [Pt.row ⟨38, 2, some ⟨g, 0, none⟩, 1, 1, [.slice (some ⟨b3, o3, none⟩) tn tc, .slice ba bn bc]⟩, Pt.ints 2 none 0 0 []]) := HY2.out.intsNew (E := 2) (zs := []) (World.ownsRow_nil _ _ _ _) (Below.refl _ _) (by omega) (fun i => by simp [List.getD])
          obtain ⟨i0, hi0, hz0, hz1, hz2⟩ := info_parts (P := Try.prog) (e := 2) (z := .int .i64 0) (size := 1) (bytes := 8) (by kernel_rfl)
          have HI0 := Lib.hid (And.intro hi0 (And.intro hz0 (And.intro hz1 hz2)))
          clear hi0 hz0 hz1 hz2 hm htl hk hc3 d3 hlt3 HY2
          go_wp2_with fail
          clear y0 y1 k1 k2
          go_loopw [11, 12] (fun v11 v12 wr => ∃ (i : Nat) (lo : Option Addr) (lc : Nat), i ≤ k ∧ v12 = .int .i64 i ∧ v11 = .slice lo i lc ∧ Hid (Sp Non w wr [Pt.row ⟨38, 2, some ⟨g, 0, none⟩, 1, 1, [.slice (some ⟨b3, o3, none⟩) tn tc, .slice ba bn bc]⟩, Pt.ints 2 lo i lc (List.replicate i 1)])) (fun _ v12 _ => k - (RowKit.intOf v12).toNat)
          case atStart => exact ⟨0, none, 0, by omega, rfl, rfl, H7⟩
          case round =>
            clear H7
            obtain ⟨i, lo, lc, hi, rfl, rfl, HO⟩ := hrel
            have y0 := HO.out.cell (i := 0) rfl 0 _ rfl
            have y1 := HO.out.cell (i := 0) rfl 1 _ rfl
            have d3 := HD3.out _ HO.out.belowN
            have k3 : (0 : Int) < tn := by have := HTN.out; omega
            by_cases hlt : i < k
            · have hlt' : (i : Int) < k := by omega
              have HV := Lib.hid (HO.out.via (abal wr (.cells #[.int .i64 1] 2)))
              have HLL := Lib.hid (ls_lit1 wr 2 (x := 1) (by omega))
              have hb1 : (i + 1) * 8 ≤ 140737488351232 := by omega
              go_wp2_with (at_builtin; refine Sp.wpList_loc (i := 1) HV.out rfl _ _ 28 rfl 2 i0 Try.underlying28 HI0.out.1 HI0.out.2.1 HI0.out.2.2.1 HI0.out.2.2.2 rfl rfl rfl HLL.out hb1 ?_)
              intro b9 d9 w9 h9
              have H9 : Hid (Sp Non w w9 [Pt.row ⟨38, 2, some ⟨g, 0, none⟩, 1, 1, [.slice (some ⟨b3, o3, none⟩) tn tc, .slice ba bn bc]⟩, Pt.ints 2 b9 (i + 1) d9 (List.replicate (i + 1) 1)]) := by
                show Sp _ _ _ _
                rw [List.replicate_succ']
                exact h9
              clear h9 HV HO y0 y1 d3
              go_wp2
              go_roundw
              case rel => exact ⟨i + 1, b9, d9, by omega, by go_num, rfl, H9⟩
              case measure => simp [RowKit.intOf]; omega
            · have hge : ¬ ((i : Int) < k) := by omega
              obtain rfl : i = k := by omega
              have HONES := Lib.hid (HO.out.ls (i := 1) rfl)
              go_wp2_with fail
              obtain ⟨W1, hW1⟩ : ∃ z : World, z = wr := ⟨_, rfl⟩
              subst hW1
              have HBW := Lib.hid HO.out.belowN
              have CLQ := Lib.hid (fun (w9 : World) (hb : Below W1.heap.size W1 w9) => scalar8_any 1 w9 (by decide))
              have CYT : Hid (∀ (w9 : World) (X : Ar), Below W1.heap.size W1 w9 → X.Is w9 → X.s = [] → X.a = [1] → Calls Try.prog 24 #[.int .i64 22, X.v, .agg #[.slice (some ⟨b3, o3, none⟩) tn tc, .slice ba bn bc]] w9 (MadeE w9 t b 0)) := fun w9 X hb hX hs ha =>
                CY.out 22 w9 X ⟨some ⟨b3, o3, none⟩, tn, tc, ba, bn, bc, t, b⟩ _ _ _ _ _ _ _ hX (YIS.out w9 (HBW.out.trans (hb.mono HBW.out.size))) hs ha rfl rfl V1.out
              clear d3
              have hg5 := (HO.out.rlt (i := 0) rfl).1
              have ne1 : ¬ g = W1.heap.size := by omega
              have ne2 : ¬ W1.heap.size = g := by omega
              have HD1 : Hid (Below W1.heap.size W1 (W1.alloc (.cells #[.slice none 0 0, .slice none 0 0] 38)).drew) := abvia (abal W1 _) (adrew1 _)
              have HG5' := Lib.hid hg5
              clear hg5
              go_upto_region 17 with fail
              go_cut [13, 14] from 83 to 89 (fun v13 v14 wx => ∃ (g8 : Nat) (R : Ar), v13 = .pointer (some ⟨g8, 0, none⟩) ∧ v14 = .int .i64 0 ∧ Hid (Sp Non w wx [Pt.row ⟨38, 2, some ⟨g, 0, none⟩, 1, 1, [.slice (some ⟨b3, o3, none⟩) tn tc, .slice ba bn bc]⟩, Pt.ints 2 lo i lc (List.replicate i 1), Pt.arr R, Pt.row ⟨38, 2, some ⟨g8, 0, none⟩, 1, 1, [.slice R.sa R.sn R.sc, .slice R.aa R.an R.ac]⟩]) ∧ Hid (R.s = t ∧ R.a = b))
              case first =>
                go_region_held3 (fun v => v.cell? ⟨g, 0, none⟩ = some (.slice (some ⟨b3, o3, none⟩) tn tc) ∧ v.cell? ⟨g, 1, none⟩ = some (.slice ba bn bc)) (go_keep)
                  (first
                  | (go_at_call 23; (with_reducible refine Calls.mono (CLQ.out _ (adrew1 _)) ?_); rintro e v1 ⟨⟨sa7, sn7, sc7, aa7, an7, ac7, s7, a7⟩, rfl, hI, hs, ha, hO, hq⟩; have H7 := Lib.hid ((HO.out.via (adrew1 W1)).via hq); have C2 := Lib.hid (CYT.out v1 _ (abvia (adrew1 W1) hq) hI hs ha); have C3 := Lib.hid (CYT.out (v1.alloc (.cells #[.slice none 0 0, .slice none 0 0] 38)) _ (abvia (abvia (adrew1 W1) hq) (abal _ _)) (hI.via (abal _ _)) hs ha); simp only [Ar.v] at C2 C3 ⊢; have hsz := hq.size; have hg5 := HG5'.out; have ne3 : ¬ g = v1.heap.size := (by simp at hsz; omega); have ne4 : ¬ v1.heap.size = g := (by simp at hsz; omega); clear CLQ hI hs ha hO hq y0 y1 hsz hg5; have y0 := H7.out.cell (i := 0) rfl 0 _ rfl; have y1 := H7.out.cell (i := 0) rfl 1 _ rfl)
                  | (go_at_call 23; (with_reducible refine Calls.mono (CLQ.out _ HD1.out) ?_); rintro e v1 ⟨⟨sa7, sn7, sc7, aa7, an7, ac7, s7, a7⟩, rfl, hI, hs, ha, hO, hq⟩; have H7 := Lib.hid (((HO.out.alloc 38 2 1 #[.slice none 0 0, .slice none 0 0] rfl (by decide)).via (adrew1 _)).via hq); have C4 := Lib.hid (CYT.out v1 _ (abvia HD1.out hq) hI hs ha); simp only [Ar.v] at C4 ⊢; clear CLQ hI hs ha hO hq y0 y1; have y0 := H7.out.cell (i := 0) rfl 0 _ rfl; have y1 := H7.out.cell (i := 0) rfl 1 _ rfl; have x0 := H7.out.cell (i := 2) rfl 0 _ rfl; have x1 := H7.out.cell (i := 2) rfl 1 _ rfl; have x2 := H7.out.frozen (i := 2) rfl 0; have x3 := H7.out.frozen (i := 2) rfl 1)
                  | (have hreq := C2; go_at_call 24; (with_reducible refine Calls.mono C2.out ?_); rintro e v2 ⟨⟨sa8, sn8, sc8, aa8, an8, ac8, s8, a8⟩, rfl, hI, hs, ha, hO, hq⟩; have hlt := (H7.out.rlt (i := 0) rfl).1; have hsz := hq.size; have ne5 : ¬ g = v2.heap.size := (by omega); have ne6 : ¬ v2.heap.size = g := (by omega); have H8 := Lib.hid (H7.out.arrNew hI hO hq); have HV8 := Lib.hid (And.intro hs ha); simp only [Ar.v]; clear hI hs ha hO hq hreq C2 C3 y0 y1 hlt hsz; have y0 := H8.out.cell (i := 0) rfl 0 _ rfl; have y1 := H8.out.cell (i := 0) rfl 1 _ rfl)
                  | (have hreq := C3; go_at_call 24; (with_reducible refine Calls.mono C3.out ?_); rintro e v2 ⟨⟨sa8, sn8, sc8, aa8, an8, ac8, s8, a8⟩, rfl, hI, hs, ha, hO, hq⟩; have H8 := Lib.hid ((H7.out.alloc 38 2 1 #[.slice none 0 0, .slice none 0 0] rfl (by decide)).arrNew hI hO hq); have HV8 := Lib.hid (And.intro hs ha); simp only [Ar.v]; clear hI hs ha hO hq hreq C2 C3 y0 y1; have y0 := H8.out.cell (i := 0) rfl 0 _ rfl; have y1 := H8.out.cell (i := 0) rfl 1 _ rfl; have x0 := H8.out.cell (i := 2) rfl 0 _ rfl; have x1 := H8.out.cell (i := 2) rfl 1 _ rfl; have x2 := H8.out.frozen (i := 2) rfl 0; have x3 := H8.out.frozen (i := 2) rfl 1)
                  | (have hreq := C4; go_at_call 24; (with_reducible refine Calls.mono C4.out ?_); rintro e v2 ⟨⟨sa8, sn8, sc8, aa8, an8, ac8, s8, a8⟩, rfl, hI, hs, ha, hO, hq⟩; have H8 := Lib.hid (H7.out.arrNew hI hO hq); have HV8 := Lib.hid (And.intro hs ha); simp only [Ar.v]; clear hI hs ha hO hq hreq C4 y0 y1 x0 x1 x2 x3; have y0 := H8.out.cell (i := 0) rfl 0 _ rfl; have y1 := H8.out.cell (i := 0) rfl 1 _ rfl; have x0 := H8.out.cell (i := 2) rfl 0 _ rfl; have x1 := H8.out.cell (i := 2) rfl 1 _ rfl; have x2 := H8.out.frozen (i := 2) rfl 0; have x3 := H8.out.frozen (i := 2) rfl 1)
                  )
                all_goals
                  go_wp2_with fail
                  go_meet
                  first
                  | exact ⟨v2.heap.size, ⟨sa8, sn8, sc8, aa8, an8, ac8, s8, a8⟩, rfl, rfl, (H8.out.alloc 38 2 1 #[.slice sa8 sn8 sc8, .slice aa8 an8 ac8] rfl (by decide)).pick [0, 1, 2, 3] (by decide), HV8⟩
                  | exact ⟨v1.heap.size, ⟨sa8, sn8, sc8, aa8, an8, ac8, s8, a8⟩, rfl, rfl, ((H8.out.put (i := 2) rfl 0 (.slice sa8 sn8 sc8)).put (i := 2) rfl 1 (.slice aa8 an8 ac8)).pick [0, 1, 3, 2] (by decide), HV8⟩
                  | exact ⟨W1.heap.size, ⟨sa8, sn8, sc8, aa8, an8, ac8, s8, a8⟩, rfl, rfl, ((H8.out.put (i := 2) rfl 0 (.slice sa8 sn8 sc8)).put (i := 2) rfl 1 (.slice aa8 an8 ac8)).pick [0, 1, 3, 2] (by decide), HV8⟩
              case rest =>
                obtain ⟨gc, ⟨sac, snc, scc, aac, anc, acc, sc, ac⟩, rfl, rfl, HOc, HVc⟩ := hcut
                simp only at HOc HVc
                obtain ⟨Uc, hU⟩ : ∃ z : World, z = wc := ⟨_, rfl⟩
                subst hU
                clear ne1 ne2 HD1 HG5' y0 y1
                clear CYT HBW HO
                have y0 := HOc.out.cell (i := 0) rfl 0 _ rfl
                have y1 := HOc.out.cell (i := 0) rfl 1 _ rfl
                have HBW := Lib.hid HOc.out.belowN
                have CLQ := Lib.hid (fun (w9 : World) (hb : Below Uc.heap.size Uc w9) => list8_any ((HOc.out.via hb).ls (i := 1) rfl) (by omega))
                have CYT : Hid (∀ (w9 : World) (X : Ar), Below Uc.heap.size Uc w9 → X.Is w9 → X.s = [(i : Int)] → X.a = List.replicate i 1 → Calls Try.prog 24 #[.int .i64 22, X.v, .agg #[.slice (some ⟨b3, o3, none⟩) tn tc, .slice ba bn bc]] w9 (MadeE w9 t b 0)) := fun w9 X hb hX hs ha =>
                  CY.out 22 w9 X ⟨some ⟨b3, o3, none⟩, tn, tc, ba, bn, bc, t, b⟩ _ _ _ _ _ _ _ hX (YIS.out w9 (HBW.out.trans (hb.mono HBW.out.size))) hs ha rfl rfl V2.out
                have hg5 := (HOc.out.rlt (i := 0) rfl).1
                have ne1 : ¬ g = Uc.heap.size := by omega
                have ne2 : ¬ Uc.heap.size = g := by omega
                have HD1 : Hid (Below Uc.heap.size Uc (Uc.alloc (.cells #[.slice none 0 0, .slice none 0 0] 38)).drew) := abvia (abal Uc _) (adrew1 _)
                have HG5' := Lib.hid hg5
                clear hg5
                go_upto_region 18 with fail
                go_cut [15, 16] from 89 to 96 (fun v15 v16 wx => ∃ (g8 : Nat) (R : Ar), v15 = .pointer (some ⟨g8, 0, none⟩) ∧ v16 = .int .i64 0 ∧ Hid (Sp Non w wx [Pt.row ⟨38, 2, some ⟨g, 0, none⟩, 1, 1, [.slice (some ⟨b3, o3, none⟩) tn tc, .slice ba bn bc]⟩, Pt.arr ⟨sac, snc, scc, aac, anc, acc, sc, ac⟩, Pt.row ⟨38, 2, some ⟨gc, 0, none⟩, 1, 1, [.slice sac snc scc, .slice aac anc acc]⟩, Pt.arr R, Pt.row ⟨38, 2, some ⟨g8, 0, none⟩, 1, 1, [.slice R.sa R.sn R.sc, .slice R.aa R.an R.ac]⟩]) ∧ Hid (R.s = t ∧ R.a = b))
                case first =>
                  go_region_held3 (fun v => v.cell? ⟨g, 0, none⟩ = some (.slice (some ⟨b3, o3, none⟩) tn tc) ∧ v.cell? ⟨g, 1, none⟩ = some (.slice ba bn bc)) (go_keep)
                    (first
                    | (go_at_call 21; (with_reducible refine Calls.mono (CLQ.out _ (adrew1 _)) ?_); rintro e v1 ⟨⟨sa7, sn7, sc7, aa7, an7, ac7, s7, a7⟩, rfl, hI, hs, ha, hO, hq⟩; have H7 := Lib.hid ((HOc.out.via (adrew1 Uc)).via hq); have C2 := Lib.hid (CYT.out v1 _ (abvia (adrew1 Uc) hq) hI hs ha); have C3 := Lib.hid (CYT.out (v1.alloc (.cells #[.slice none 0 0, .slice none 0 0] 38)) _ (abvia (abvia (adrew1 Uc) hq) (abal _ _)) (hI.via (abal _ _)) hs ha); simp only [Ar.v] at C2 C3 ⊢; have hsz := hq.size; have hg5 := HG5'.out; have ne3 : ¬ g = v1.heap.size := (by simp at hsz; omega); have ne4 : ¬ v1.heap.size = g := (by simp at hsz; omega); clear CLQ hI hs ha hO hq y0 y1 hsz hg5; have y0 := H7.out.cell (i := 0) rfl 0 _ rfl; have y1 := H7.out.cell (i := 0) rfl 1 _ rfl)
                    | (go_at_call 21; (with_reducible refine Calls.mono (CLQ.out _ HD1.out) ?_); rintro e v1 ⟨⟨sa7, sn7, sc7, aa7, an7, ac7, s7, a7⟩, rfl, hI, hs, ha, hO, hq⟩; have H7 := Lib.hid (((HOc.out.alloc 38 2 1 #[.slice none 0 0, .slice none 0 0] rfl (by decide)).via (adrew1 _)).via hq); have C4 := Lib.hid (CYT.out v1 _ (abvia HD1.out hq) hI hs ha); simp only [Ar.v] at C4 ⊢; clear CLQ hI hs ha hO hq y0 y1; have y0 := H7.out.cell (i := 0) rfl 0 _ rfl; have y1 := H7.out.cell (i := 0) rfl 1 _ rfl; have x0 := H7.out.cell (i := 4) rfl 0 _ rfl; have x1 := H7.out.cell (i := 4) rfl 1 _ rfl; have x2 := H7.out.frozen (i := 4) rfl 0; have x3 := H7.out.frozen (i := 4) rfl 1)
                    | (have hreq := C2; go_at_call 24; (with_reducible refine Calls.mono C2.out ?_); rintro e v2 ⟨⟨sa8, sn8, sc8, aa8, an8, ac8, s8, a8⟩, rfl, hI, hs, ha, hO, hq⟩; have hlt := (H7.out.rlt (i := 0) rfl).1; have hsz := hq.size; have ne5 : ¬ g = v2.heap.size := (by omega); have ne6 : ¬ v2.heap.size = g := (by omega); have H8 := Lib.hid (H7.out.arrNew hI hO hq); have HV8 := Lib.hid (And.intro hs ha); simp only [Ar.v]; clear hI hs ha hO hq hreq C2 C3 y0 y1 hlt hsz; have y0 := H8.out.cell (i := 0) rfl 0 _ rfl; have y1 := H8.out.cell (i := 0) rfl 1 _ rfl)
                    | (have hreq := C3; go_at_call 24; (with_reducible refine Calls.mono C3.out ?_); rintro e v2 ⟨⟨sa8, sn8, sc8, aa8, an8, ac8, s8, a8⟩, rfl, hI, hs, ha, hO, hq⟩; have H8 := Lib.hid ((H7.out.alloc 38 2 1 #[.slice none 0 0, .slice none 0 0] rfl (by decide)).arrNew hI hO hq); have HV8 := Lib.hid (And.intro hs ha); simp only [Ar.v]; clear hI hs ha hO hq hreq C2 C3 y0 y1; have y0 := H8.out.cell (i := 0) rfl 0 _ rfl; have y1 := H8.out.cell (i := 0) rfl 1 _ rfl; have x0 := H8.out.cell (i := 4) rfl 0 _ rfl; have x1 := H8.out.cell (i := 4) rfl 1 _ rfl; have x2 := H8.out.frozen (i := 4) rfl 0; have x3 := H8.out.frozen (i := 4) rfl 1)
                    | (have hreq := C4; go_at_call 24; (with_reducible refine Calls.mono C4.out ?_); rintro e v2 ⟨⟨sa8, sn8, sc8, aa8, an8, ac8, s8, a8⟩, rfl, hI, hs, ha, hO, hq⟩; have H8 := Lib.hid (H7.out.arrNew hI hO hq); have HV8 := Lib.hid (And.intro hs ha); simp only [Ar.v]; clear hI hs ha hO hq hreq C4 y0 y1 x0 x1 x2 x3; have y0 := H8.out.cell (i := 0) rfl 0 _ rfl; have y1 := H8.out.cell (i := 0) rfl 1 _ rfl; have x0 := H8.out.cell (i := 4) rfl 0 _ rfl; have x1 := H8.out.cell (i := 4) rfl 1 _ rfl; have x2 := H8.out.frozen (i := 4) rfl 0; have x3 := H8.out.frozen (i := 4) rfl 1)
                    )
                  all_goals
                    go_wp2_with fail
                    go_meet
                    first
                    | exact ⟨v2.heap.size, ⟨sa8, sn8, sc8, aa8, an8, ac8, s8, a8⟩, rfl, rfl, (H8.out.alloc 38 2 1 #[.slice sa8 sn8 sc8, .slice aa8 an8 ac8] rfl (by decide)).pick [0, 2, 3, 4, 5] (by decide), HV8⟩
                    | exact ⟨v1.heap.size, ⟨sa8, sn8, sc8, aa8, an8, ac8, s8, a8⟩, rfl, rfl, ((H8.out.put (i := 4) rfl 0 (.slice sa8 sn8 sc8)).put (i := 4) rfl 1 (.slice aa8 an8 ac8)).pick [0, 2, 3, 5, 4] (by decide), HV8⟩
                    | exact ⟨Uc.heap.size, ⟨sa8, sn8, sc8, aa8, an8, ac8, s8, a8⟩, rfl, rfl, ((H8.out.put (i := 4) rfl 0 (.slice sa8 sn8 sc8)).put (i := 4) rfl 1 (.slice aa8 an8 ac8)).pick [0, 2, 3, 5, 4] (by decide), HV8⟩
                case rest =>
                  obtain ⟨gd, ⟨sad, snd_, scd, aad, and_, acd, sd, ad⟩, rfl, rfl, HOd, HVd⟩ := hcut
                  simp only at HOd HVd
                  obtain ⟨Ud, hU⟩ : ∃ z : World, z = wc := ⟨_, rfl⟩
                  subst hU
                  clear ne1 ne2 HD1 HG5' y0 y1
                  clear CYT HBW HOc
                  have y0 := HOd.out.cell (i := 0) rfl 0 _ rfl
                  have y1 := HOd.out.cell (i := 0) rfl 1 _ rfl
                  have z0 := HOd.out.cell (i := 2) rfl 0 _ rfl
                  have z1 := HOd.out.cell (i := 2) rfl 1 _ rfl
                  have HE : Hid (∀ (w9 : World), Below Ud.heap.size Ud w9 → Calls Try.prog 15 #[.agg #[.slice sac snc scc, .slice aac anc acc], .agg #[.slice (some ⟨b3, o3, none⟩) tn tc, .slice ba bn bc]] w9 (RetB w9 (.bool true))) := fun w9 hb => by
                    have q := eq4_any ((HOd.out.via hb).isA (i := 1) rfl) (YIS.out w9 (HOd.out.via hb).belowN)
                    simp only [HVc.out.1, HVc.out.2, and_self, decide_true, Ar.v] at q
                    exact q
                  have HE2 : Hid (∀ (w9 : World), Below Ud.heap.size Ud w9 → Calls Try.prog 15 #[.agg #[.slice sad snd_ scd, .slice aad and_ acd], .agg #[.slice (some ⟨b3, o3, none⟩) tn tc, .slice ba bn bc]] w9 (RetB w9 (.bool true))) := fun w9 hb => by
                    have q := eq4_any ((HOd.out.via hb).isA (i := 3) rfl) (YIS.out w9 (HOd.out.via hb).belowN)
                    simp only [HVd.out.1, HVd.out.2, and_self, decide_true, Ar.v] at q
                    exact q
                  go_wp2_with fail
                  refine (HE.out _ (Below.refl _ _)).mono ?_; rintro e w10 ⟨rfl, hb10⟩
                  have H10 := Lib.hid (HOd.out.via hb10)
                  have C10 := Lib.hid (HE2.out w10 hb10)
                  clear y0 y1 z0 z1 hb10 HE HE2
                  have y0 := H10.out.cell (i := 0) rfl 0 _ rfl
                  have y1 := H10.out.cell (i := 0) rfl 1 _ rfl
                  have z0 := H10.out.cell (i := 4) rfl 0 _ rfl
                  have z1 := H10.out.cell (i := 4) rfl 1 _ rfl
                  go_wp2_with fail
                  refine C10.out.mono ?_; rintro e W5 ⟨rfl, hb11⟩
                  have H11 : Hid (Sp Non w W5 [Pt.row ⟨38, 2, some ⟨g, 0, none⟩, 1, 1, [.slice (some ⟨b3, o3, none⟩) tn tc, .slice ba bn bc]⟩]) := (H10.out.via hb11).pick [0] (by decide)
                  clear y0 y1 z0 z1 hb11 H10 C10 HOd
                  have y0 := H11.out.cell (i := 0) rfl 0 _ rfl
                  have y1 := H11.out.cell (i := 0) rfl 1 _ rfl
                  obtain ⟨ZS, ZA, ZE, hv1, hv2, hv3⟩ := V3.out
                  have HZ := Lib.hid (And.intro hv2 hv3)
                  have HZ1 := Lib.hid hv1
                  clear hv1 hv2 hv3 V1 V2 V3
                  have HBW := Lib.hid H11.out.belowN
                  have CLQ := Lib.hid (fun (w9 : World) (hb : Below W5.heap.size W5 w9) => CLX.out w9 (HBW.out.trans (hb.mono HBW.out.size)))
                  have CYT : Hid (∀ (w9 : World) (X : Ar), Below W5.heap.size W5 w9 → X.Is w9 → X.s = [(n : Int)] → X.a = x → Calls Try.prog 24 #[.int .i64 22, X.v, .agg #[.slice (some ⟨b3, o3, none⟩) tn tc, .slice ba bn bc]] w9 (MadeE w9 ZS ZA ZE)) := fun w9 X hb hX hs ha =>
                    CY.out 22 w9 X ⟨some ⟨b3, o3, none⟩, tn, tc, ba, bn, bc, t, b⟩ _ _ _ _ _ _ _ hX (YIS.out w9 (HBW.out.trans (hb.mono HBW.out.size))) hs ha rfl rfl HZ1.out
                  go_wp2_with fail
                  have hg5 := (H11.out.rlt (i := 0) rfl).1
                  have ne1 : ¬ g = W5.heap.size := by omega
                  have ne2 : ¬ W5.heap.size = g := by omega
                  have HD1 : Hid (Below W5.heap.size W5 (W5.alloc (.cells #[.slice none 0 0, .slice none 0 0] 38)).drew) := abvia (abal W5 _) (adrew1 _)
                  have HG5' := Lib.hid hg5
                  clear hg5
                  go_upto_region 21 with fail
                  go_cut [17, 18] from 114 to 121 (fun v17 v18 wx => ∃ (g8 : Nat) (R : Ar), v17 = .pointer (some ⟨g8, 0, none⟩) ∧ v18 = .int .i64 ZE ∧ Hid (Sp Non w wx [Pt.row ⟨38, 2, some ⟨g, 0, none⟩, 1, 1, [.slice (some ⟨b3, o3, none⟩) tn tc, .slice ba bn bc]⟩, Pt.arr R, Pt.row ⟨38, 2, some ⟨g8, 0, none⟩, 1, 1, [.slice R.sa R.sn R.sc, .slice R.aa R.an R.ac]⟩]) ∧ Hid (R.s = ZS ∧ R.a = ZA))
                  case first =>
                    go_region_held3 (fun v => v.cell? ⟨g, 0, none⟩ = some (.slice (some ⟨b3, o3, none⟩) tn tc) ∧ v.cell? ⟨g, 1, none⟩ = some (.slice ba bn bc)) (go_keep)
                      (first
                      | (go_at_call 21; (with_reducible refine Calls.mono (CLQ.out _ (adrew1 _)) ?_); rintro e v1 ⟨⟨sa7, sn7, sc7, aa7, an7, ac7, s7, a7⟩, rfl, hI, hs, ha, hO, hq⟩; have H7 := Lib.hid ((H11.out.via (adrew1 W5)).via hq); have C2 := Lib.hid (CYT.out v1 _ (abvia (adrew1 W5) hq) hI hs ha); have C3 := Lib.hid (CYT.out (v1.alloc (.cells #[.slice none 0 0, .slice none 0 0] 38)) _ (abvia (abvia (adrew1 W5) hq) (abal _ _)) (hI.via (abal _ _)) hs ha); simp only [Ar.v] at C2 C3 ⊢; have hsz := hq.size; have hg5 := HG5'.out; have ne3 : ¬ g = v1.heap.size := (by simp at hsz; omega); have ne4 : ¬ v1.heap.size = g := (by simp at hsz; omega); clear CLQ hI hs ha hO hq y0 y1 hsz hg5; have y0 := H7.out.cell (i := 0) rfl 0 _ rfl; have y1 := H7.out.cell (i := 0) rfl 1 _ rfl)
                      | (go_at_call 21; (with_reducible refine Calls.mono (CLQ.out _ HD1.out) ?_); rintro e v1 ⟨⟨sa7, sn7, sc7, aa7, an7, ac7, s7, a7⟩, rfl, hI, hs, ha, hO, hq⟩; have H7 := Lib.hid (((H11.out.alloc 38 2 1 #[.slice none 0 0, .slice none 0 0] rfl (by decide)).via (adrew1 _)).via hq); have C4 := Lib.hid (CYT.out v1 _ (abvia HD1.out hq) hI hs ha); simp only [Ar.v] at C4 ⊢; clear CLQ hI hs ha hO hq y0 y1; have y0 := H7.out.cell (i := 0) rfl 0 _ rfl; have y1 := H7.out.cell (i := 0) rfl 1 _ rfl; have x0 := H7.out.cell (i := 1) rfl 0 _ rfl; have x1 := H7.out.cell (i := 1) rfl 1 _ rfl; have x2 := H7.out.frozen (i := 1) rfl 0; have x3 := H7.out.frozen (i := 1) rfl 1)
                      | (have hreq := C2; go_at_call 24; (with_reducible refine Calls.mono C2.out ?_); rintro e v2 ⟨⟨sa8, sn8, sc8, aa8, an8, ac8, s8, a8⟩, rfl, hI, hs, ha, hO, hq⟩; have hlt := (H7.out.rlt (i := 0) rfl).1; have hsz := hq.size; have ne5 : ¬ g = v2.heap.size := (by omega); have ne6 : ¬ v2.heap.size = g := (by omega); have H8 := Lib.hid (H7.out.arrNew hI hO hq); have HV8 := Lib.hid (And.intro hs ha); simp only [Ar.v]; clear hI hs ha hO hq hreq C2 C3 y0 y1 hlt hsz; have y0 := H8.out.cell (i := 0) rfl 0 _ rfl; have y1 := H8.out.cell (i := 0) rfl 1 _ rfl)
                      | (have hreq := C3; go_at_call 24; (with_reducible refine Calls.mono C3.out ?_); rintro e v2 ⟨⟨sa8, sn8, sc8, aa8, an8, ac8, s8, a8⟩, rfl, hI, hs, ha, hO, hq⟩; have H8 := Lib.hid ((H7.out.alloc 38 2 1 #[.slice none 0 0, .slice none 0 0] rfl (by decide)).arrNew hI hO hq); have HV8 := Lib.hid (And.intro hs ha); simp only [Ar.v]; clear hI hs ha hO hq hreq C2 C3 y0 y1; have y0 := H8.out.cell (i := 0) rfl 0 _ rfl; have y1 := H8.out.cell (i := 0) rfl 1 _ rfl; have x0 := H8.out.cell (i := 1) rfl 0 _ rfl; have x1 := H8.out.cell (i := 1) rfl 1 _ rfl; have x2 := H8.out.frozen (i := 1) rfl 0; have x3 := H8.out.frozen (i := 1) rfl 1)
                      | (have hreq := C4; go_at_call 24; (with_reducible refine Calls.mono C4.out ?_); rintro e v2 ⟨⟨sa8, sn8, sc8, aa8, an8, ac8, s8, a8⟩, rfl, hI, hs, ha, hO, hq⟩; have H8 := Lib.hid (H7.out.arrNew hI hO hq); have HV8 := Lib.hid (And.intro hs ha); simp only [Ar.v]; clear hI hs ha hO hq hreq C4 y0 y1 x0 x1 x2 x3; have y0 := H8.out.cell (i := 0) rfl 0 _ rfl; have y1 := H8.out.cell (i := 0) rfl 1 _ rfl; have x0 := H8.out.cell (i := 1) rfl 0 _ rfl; have x1 := H8.out.cell (i := 1) rfl 1 _ rfl; have x2 := H8.out.frozen (i := 1) rfl 0; have x3 := H8.out.frozen (i := 1) rfl 1)
                      )
                    all_goals
                      go_wp2_with fail
                      go_meet
                      first
                      | exact ⟨v2.heap.size, ⟨sa8, sn8, sc8, aa8, an8, ac8, s8, a8⟩, rfl, rfl, (H8.out.alloc 38 2 1 #[.slice sa8 sn8 sc8, .slice aa8 an8 ac8] rfl (by decide)).pick [0, 1, 2] (by decide), HV8⟩
                      | exact ⟨v1.heap.size, ⟨sa8, sn8, sc8, aa8, an8, ac8, s8, a8⟩, rfl, rfl, ((H8.out.put (i := 1) rfl 0 (.slice sa8 sn8 sc8)).put (i := 1) rfl 1 (.slice aa8 an8 ac8)).pick [0, 2, 1] (by decide), HV8⟩
                      | exact ⟨W5.heap.size, ⟨sa8, sn8, sc8, aa8, an8, ac8, s8, a8⟩, rfl, rfl, ((H8.out.put (i := 1) rfl 0 (.slice sa8 sn8 sc8)).put (i := 1) rfl 1 (.slice aa8 an8 ac8)).pick [0, 2, 1] (by decide), HV8⟩
                  case rest =>
                    obtain ⟨gz, ⟨saz, snz, scz, aaz, anz, acz, sz, az⟩, rfl, rfl, HOz, HVz⟩ := hcut
                    simp only at HOz HVz
                    obtain ⟨Uz, hU⟩ : ∃ z : World, z = wc := ⟨_, rfl⟩
                    subst hU
                    clear ne1 ne2 HD1 HG5' y0 y1
                    clear CYT HBW H11
                    have y0 := HOz.out.cell (i := 0) rfl 0 _ rfl
                    have y1 := HOz.out.cell (i := 0) rfl 1 _ rfl
                    have z0 := HOz.out.cell (i := 2) rfl 0 _ rfl
                    have z1 := HOz.out.cell (i := 2) rfl 1 _ rfl
                    have HBZ := Lib.hid HOz.out.belowN
                    have hsl := (HOz.out.isA (i := 1) rfl).shp.len
                    have hal := (HOz.out.isA (i := 1) rfl).ats.len
                    simp only at hsl hal
                    rw [HVz.out.1] at hsl
                    rw [HVz.out.2] at hal
                    by_cases hE : ZE = 0
                    · have q1 : (ZE != 0) = false := by simp [hE]
                      obtain ⟨v1, v2, v3, v4, v5⟩ := HZ.out.2 hE
                      have hsn : snz = tn := by rw [← hsl, v2, HLB.out.1]
                      obtain ⟨b6, o6, e6, hc6⟩ := (HOz.out.isA (i := 1) rfl).shp.at (by simp only; have := HTN.out; omega)
                      have d6 := hc6 0 (by simp only; have := HTN.out; omega)
                      simp only [Nat.add_zero] at e6 d6
                      rw [HVz.out.1, v4] at d6
                      subst e6 hsn
                      have d3 := HD3.out _ HOz.out.belowN
                      have hni : (n : Int) = i := by rw [v1, HK.out]
                      have hni' : n = i := by omega
                      have HVV := Lib.hid (And.intro v3 v5)
                      have HSX := Lib.hid (HS.out.below HBZ.out (Nat.le_refl _))
                      obtain ⟨Z, HZZ⟩ : ∃ z, Hid (cpU [(n : Int)] x n = z) := ⟨_, rfl⟩
                      rw [HZZ.out] at d6
                      have q2 : ((n : Int) == i) = true := by simp; omega
                      have q3 : ((snz : Int) == snz) = true := by simp
                      have q4 : (Z == Z) = true := by simp
                      have k3 : (0 : Int) < snz := by have := HTN.out; omega
                      clear hE v1 v2 v3 v4 v5 hc6 hsl hal HOz
                      go_wp2_with fail
                      go_loop [19, 20] (fun v19 v20 => ∃ j : Nat, ∃ u : Int, j ≤ n ∧ v20 = .int .i64 j ∧ v19 = .int .i64 u ∧ Hid (u = cpU [(n : Int)] x j)) (fun _ v20 => n - (RowKit.intOf v20).toNat)
                      case atStart => exact ⟨0, 0, by omega, rfl, rfl, rfl⟩
                      case round =>
                        obtain ⟨j, u, hj, rfl, rfl, HU⟩ := hrel
                        by_cases hlt : j < n
                        · have hlt' : (j : Int) < n := by omega
                          obtain ⟨b1, o1, e1, hc1⟩ := HSX.out.at (by omega)
                          have d1 := hc1 j hlt
                          obtain ⟨v, HV1⟩ : ∃ z, Hid (x.getD j 0 = z) := ⟨_, rfl⟩
                          have hv := HVV.out.1 j
                          have hu1 := HVV.out.2 j (by omega)
                          have hu2 := HVV.out.2 (j + 1) (by omega)
                          have HU' : Hid (u + v = cpU [(n : Int)] x (j + 1)) := by show _ = _; rw [cpU_step, HU.out, HV1.out]
                          rw [← HU'.out] at hu2
                          rw [← HU.out] at hu1
                          rw [HV1.out] at d1 hv
                          subst e1
                          have k5 : ¬ v < 0 := by omega
                          have k6 : ¬ 4096 < v := by omega
                          clear hc1
                          go_wp2
                          go_round
                          case rel => exact ⟨j + 1, u + v, by omega, by go_num, by go_num, HU'⟩
                          case measure => simp [RowKit.intOf]; omega
                        · have hge : ¬ ((j : Int) < n) := by omega
                          obtain rfl : j = n := by omega
                          have hu : u = Z := by rw [HU.out, HZZ.out]
                          subst hu
                          go_wp2
                          go_ret
                          exact RetB.mk rfl HBZ.out
                    · have q1 : (ZE != 0) = true := by simpa using hE
                      obtain ⟨v1, v2⟩ := HZ.out.1 hE
                      rw [v1] at hsl
                      rw [v2] at hal
                      have hs0 : snz = 0 := hsl.symm
                      have ha0 : anz = 0 := hal.symm
                      subst hs0 ha0
                      clear hE v1 v2 hsl hal HOz
                      go_wp2
                      go_ret
                      exact RetB.mk rfl HBZ.out
      · have HB := Lib.hid HY2.out.belowN
        have k1 : decide (amE t b = 0) = false := by simpa using hm
        clear HY2 hm
        go_wp2
        go_ret
        exact RetB.mk rfl HB.out

end Go.Proofs.Ytoippfoeghjdoaa
