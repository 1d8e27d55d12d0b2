/- What DigitFresh and MoldFresh ask: gives. -/
import Derived.Test.YtoippfoeghjdoaaAllXY
import Derived.Test.YtoippfoeghjdoaaQuiet4U
import Derived.Test.YtoippfoeghjdoaaOwn3
import Derived.Deep.RegionLaw
namespace Go.Proofs.Ytoippfoeghjdoaa
open Go.RowKit Go.Lib
set_option linter.unusedVariables false
set_option linter.unusedSimpArgs false
attribute [local go_sem] alloc_drewN setCell_drewN
/-- What a call of the layer answers. -/
def givS (mon : Int → List Int → List Int → List Int × List Int × Int) (dya : Int → List Int → List Int → List Int → List Int → List Int × List Int × Int) (k op : Int) (s a t b : List Int) : List Int × List Int × Int :=
  if k = 2 then mon op t b else dya op s a t b
/-- Two arrays of the call's own with the same lengths and atoms. -/
def GivP (w : World) (r : List Int × List Int × Int) (e : Ending) (w' : World) : Prop :=
  ∃ B C : Ar, e = .returned (.tuple #[B.v, C.v]) ∧ Sp Non w w' [Pt.arr B, Pt.arr C] ∧ B.s = r.1 ∧ B.a = r.2.1 ∧ C.s = r.1 ∧ C.a = r.2.1
section
variable {has : Int → Int → Bool} {mon : Int → List Int → List Int → List Int × List Int × Int} {dya : Int → List Int → List Int → List Int → List Int → List Int × List Int × Int}
set_option maxRecDepth 100000 in
set_option maxHeartbeats 3200000 in
theorem gives8_any (PK : Pkg8 has mon dya) {w : World} {X Y O1 O2 : Ar} (hX : X.Is w) (hY : Y.Is w) (k op nn : Int) :
    Calls Try.prog 13 #[.agg (Opv.cells ⟨k, op, nn, O1, O2⟩), X.v, Y.v] w (GivP w (givS mon dya k op X.s X.a Y.s Y.a)) := by
  obtain ⟨sa, sn, sc, aa, an, ac, s, a⟩ := X
  obtain ⟨ta, tn, tc, ba, bn, bc, t, b⟩ := Y
  obtain ⟨ua, un, uc, va, vn, vc, u, v⟩ := O1
  obtain ⟨xa, xn, xc, ya, yn, yc, x, y⟩ := O2
  simp only [Opv.cells, Ar.v]
  have HPK := Lib.hid PK
  have h0 := (((((Sp.start Non w).alloc 40 7 1 #[.int .i64 k, .int .i64 op, .int .i64 nn, .slice ua un uc, .slice va vn vc, .slice xa xn xc, .slice ya yn yc] rfl (by decide)).alloc 38 2 1 #[.slice sa sn sc, .slice aa an ac] rfl (by decide)).alloc 38 2 1 #[.slice ta tn tc, .slice ba bn bc] rfl (by decide)).alloc 38 2 1 #[.slice none 0 0, .slice none 0 0] rfl (by decide)).alloc 38 2 1 #[.slice none 0 0, .slice none 0 0] rfl (by decide)
  obtain ⟨W, HW⟩ : ∃ z, Hid (((((w.alloc (.cells #[.int .i64 k, .int .i64 op, .int .i64 nn, .slice ua un uc, .slice va vn vc, .slice xa xn xc, .slice ya yn yc] 40)).alloc (.cells #[.slice sa sn sc, .slice aa an ac] 38)).alloc (.cells #[.slice ta tn tc, .slice ba bn bc] 38)).alloc (.cells #[.slice none 0 0, .slice none 0 0] 38)).alloc (.cells #[.slice none 0 0, .slice none 0 0] 38) = z) := ⟨_, rfl⟩
  rw [HW.out] at h0
  obtain ⟨g, HG⟩ : ∃ z, Hid (w.heap.size = z) := ⟨_, rfl⟩
  have H1_ := h0
  try simp only [List.cons_append, List.nil_append, List.set_cons_zero, List.set_cons_succ, List.map_cons, List.map_nil, List.getD_cons_zero, List.getD_cons_succ, World.size_alloc] at H1_
  have H1 := Lib.hid H1_
  clear H1_
  simp only [World.size_alloc, HG.out] at H1
  have XI := Lib.hid (fun (w1 : World) (h : Below w.heap.size w w1) => hX.below h (Nat.le_refl _))
  have YI := Lib.hid (fun (w1 : World) (h : Below w.heap.size w w1) => hY.below h (Nat.le_refl _))
  have o0 := H1.out.cell (i := 0) rfl 0 _ rfl
  have o1 := H1.out.cell (i := 0) rfl 1 _ rfl
  have z0 := H1.out.cell (i := 1) rfl 0 _ rfl
  have z1 := H1.out.cell (i := 1) rfl 1 _ rfl
  have y0 := H1.out.cell (i := 2) rfl 0 _ rfl
  have y1 := H1.out.cell (i := 2) rfl 1 _ rfl
  clear h0 hX hY PK
  by_cases hk : k = 2
  · subst hk
    rw [show givS mon dya 2 op s a t b = mon op t b from if_pos rfl]
    obtain ⟨S, HSS⟩ : ∃ z, Hid ((mon op t b).1 = z) := ⟨_, rfl⟩
    obtain ⟨A, HAA⟩ : ∃ z, Hid ((mon op t b).2.1 = z) := ⟨_, rfl⟩
    obtain ⟨E, HEE⟩ : ∃ z, Hid ((mon op t b).2.2 = z) := ⟨_, rfl⟩
    have CR : Hid (∀ (w1 : World), Below w.heap.size w w1 → Calls Try.prog 32 #[.int .i64 op, .agg #[.slice ta tn tc, .slice ba bn bc]] w1 (MadeE w1 S A E)) := fun w1 h => by
      have q := HPK.out.crmon (YI.out w1 h) op
      simp only [HSS.out, HAA.out, HEE.out, Ar.v] at q
      exact q
    have CM : Hid (∀ (w1 : World), Below w.heap.size w w1 → Calls Try.prog 20 #[.int .i64 op, .agg #[.slice ta tn tc, .slice ba bn bc]] w1 (MadeE w1 S A E)) := fun w1 h => by
      have q := HPK.out.cmon (YI.out w1 h) op
      simp only [HSS.out, HAA.out, HEE.out, Ar.v] at q
      exact q
    go_enter Try.func13, Try.ntmps13
    go_upto_region 1 with fail
    rw [HW.out, HG.out]
    go_wp2_with fail
    refine (CR.out _ H1.out.belowN).mono ?_; rintro e w2 ⟨⟨sa2, sn2, sc2, aa2, an2, ac2, s2, a2⟩, rfl, hI, hs, ha, hO, hb⟩
    simp only at hs ha
    have HV2 := Lib.hid (And.intro hs ha)
    obtain ⟨g8, HG8⟩ : ∃ z, Hid (w2.heap.size = z) := ⟨_, rfl⟩
    have m4 : g + 1 + 1 + 1 + 1 < g8 := by
      have q1 := (H1.out.rlt (i := 4) rfl).1
      have q2 := hb.size
      have q3 := HG8.out
      omega
    have h2 := (H1.out.arrNew hI hO hb).alloc 38 2 1 #[.slice sa2 sn2 sc2, .slice aa2 an2 ac2] rfl (by decide)
    obtain ⟨W2, HW2⟩ : ∃ z, Hid (w2.alloc (.cells #[.slice sa2 sn2 sc2, .slice aa2 an2 ac2] 38) = z) := ⟨_, rfl⟩
    rw [HW2.out] at h2
    have H2_ := h2
    try simp only [List.cons_append, List.nil_append, List.set_cons_zero, List.set_cons_succ, List.map_cons, List.map_nil, List.getD_cons_zero, List.getD_cons_succ, World.size_alloc] at H2_
    have H2 := Lib.hid H2_
    clear H2_
    rw [HG8.out] at H2
    clear hI hs ha hO hb h2 o0 o1 z0 z1 y0 y1
    have o1 := H2.out.cell (i := 0) rfl 1 _ rfl
    have y0 := H2.out.cell (i := 2) rfl 0 _ rfl
    have y1 := H2.out.cell (i := 2) rfl 1 _ rfl
    simp only [Ar.v]
    go_upto_region 3 with fail
    rw [HW2.out, HG8.out]
    go_wp2_with fail
    refine (CM.out _ H2.out.belowN).mono ?_; rintro e w3 ⟨⟨sa3, sn3, sc3, aa3, an3, ac3, s3, a3⟩, rfl, hI, hs, ha, hO, hb⟩
    simp only at hs ha
    have HV3 := Lib.hid (And.intro hs ha)
    obtain ⟨g10, HG10⟩ : ∃ z, Hid (w3.heap.size = z) := ⟨_, rfl⟩
    have m5 : g8 < g10 := by
      have q1 := (H2.out.rlt (i := 6) rfl).1
      have q2 := hb.size
      have q3 := HG10.out
      omega
    have h3 := (H2.out.arrNew hI hO hb).alloc 38 2 1 #[.slice sa3 sn3 sc3, .slice aa3 an3 ac3] rfl (by decide)
    obtain ⟨W3, HW3⟩ : ∃ z, Hid (w3.alloc (.cells #[.slice sa3 sn3 sc3, .slice aa3 an3 ac3] 38) = z) := ⟨_, rfl⟩
    rw [HW3.out] at h3
    have H3_ := h3.via (adrew1 W3)
    try simp only [List.cons_append, List.nil_append, List.set_cons_zero, List.set_cons_succ, List.map_cons, List.map_nil, List.getD_cons_zero, List.getD_cons_succ, World.size_alloc] at H3_
    have H3 := Lib.hid H3_
    clear H3_
    rw [HG10.out] at H3
    have H4_ := h3
    try simp only [List.cons_append, List.nil_append, List.set_cons_zero, List.set_cons_succ, List.map_cons, List.map_nil, List.getD_cons_zero, List.getD_cons_succ, World.size_alloc] at H4_
    have H4 := Lib.hid H4_
    clear H4_
    rw [HG10.out] at H4
    clear hI hs ha hO hb h3 o1 y0 y1
    simp only [Ar.v]
    have a0 := H4.out.cell (i := 6) rfl 0 _ rfl
    have a1 := H4.out.cell (i := 6) rfl 1 _ rfl
    have b0 := H4.out.cell (i := 8) rfl 0 _ rfl
    have b1 := H4.out.cell (i := 8) rfl 1 _ rfl
    have c0 := H4.out.cell (i := 3) rfl 0 _ rfl
    have c1 := H4.out.cell (i := 3) rfl 1 _ rfl
    have c2 := H4.out.frozen (i := 3) rfl 0
    have c3 := H4.out.frozen (i := 3) rfl 1
    have e0 := H4.out.cell (i := 4) rfl 0 _ rfl
    have e1 := H4.out.cell (i := 4) rfl 1 _ rfl
    have e2 := H4.out.frozen (i := 4) rfl 0
    have e3 := H4.out.frozen (i := 4) rfl 1
    have x20 : ¬ g8 = g + 1 + 1 + 1 := by omega
    have x21 : ¬ g + 1 + 1 + 1 = g8 := by omega
    have x22 : ¬ g8 = g + 1 + 1 + 1 + 1 := by omega
    have x23 : ¬ g + 1 + 1 + 1 + 1 = g8 := by omega
    have x24 : ¬ g10 = g + 1 + 1 + 1 := by omega
    have x25 : ¬ g + 1 + 1 + 1 = g10 := by omega
    have x26 : ¬ g10 = g + 1 + 1 + 1 + 1 := by omega
    have x27 : ¬ g + 1 + 1 + 1 + 1 = g10 := by omega
    go_upto_region 4 with fail
    rw [HW3.out, HG10.out]
    have H5 := ((((H4.out.put (i := 3) rfl 0 (.slice sa3 sn3 sc3)).put (i := 3) rfl 1 (.slice aa3 an3 ac3)).put (i := 4) rfl 0 (.slice sa2 sn2 sc2)).put (i := 4) rfl 1 (.slice aa2 an2 ac2)).via (adrew1 _)
    have HF : Hid (∀ r : List Int × List Int × Int, r.1 = S → r.2.1 = A → GivP w r (.returned (.tuple #[.agg #[.slice sa3 sn3 sc3, .slice aa3 an3 ac3], .agg #[.slice sa2 sn2 sc2, .slice aa2 an2 ac2]])) ((((W3.setCell ⟨g + 1 + 1 + 1, 0, none⟩ (.slice sa3 sn3 sc3)).setCell ⟨g + 1 + 1 + 1, 1, none⟩ (.slice aa3 an3 ac3)).setCell ⟨g + 1 + 1 + 1 + 1, 0, none⟩ (.slice sa2 sn2 sc2)).setCell ⟨g + 1 + 1 + 1 + 1, 1, none⟩ (.slice aa2 an2 ac2)).drew) := fun r h1 h2 =>
      ⟨⟨sa3, sn3, sc3, aa3, an3, ac3, s3, a3⟩, ⟨sa2, sn2, sc2, aa2, an2, ac2, s2, a2⟩, rfl, H5.pick [7, 5] (by decide), by rw [h1]; exact HV3.out.1, by rw [h2]; exact HV3.out.2, by rw [h1]; exact HV2.out.1, by rw [h2]; exact HV2.out.2⟩
    clear H5
    go_region_law fail
    all_goals
      clear a0 a1 b0 b1
      go_wp2
      exact bodyPost_ret (v := .tuple #[.agg #[.slice sa3 sn3 sc3, .slice aa3 an3 ac3], .agg #[.slice sa2 sn2 sc2, .slice aa2 an2 ac2]]) (by simp [results, Try.results13, go_sem, *]) rfl (HF.out _ HSS.out HAA.out)
  · have hkk : (k == 2) = false := by simpa using hk
    rw [show givS mon dya k op s a t b = dya op s a t b from if_neg hk]
    obtain ⟨S, HSS⟩ : ∃ z, Hid ((dya op s a t b).1 = z) := ⟨_, rfl⟩
    obtain ⟨A, HAA⟩ : ∃ z, Hid ((dya op s a t b).2.1 = z) := ⟨_, rfl⟩
    obtain ⟨E, HEE⟩ : ∃ z, Hid ((dya op s a t b).2.2 = z) := ⟨_, rfl⟩
    have CR : Hid (∀ (w1 : World), Below w.heap.size w w1 → Calls Try.prog 33 #[.int .i64 op, .agg #[.slice sa sn sc, .slice aa an ac], .agg #[.slice ta tn tc, .slice ba bn bc]] w1 (MadeE w1 S A E)) := fun w1 h => by
      have q := HPK.out.crdya (XI.out w1 h) (YI.out w1 h) op
      simp only [HSS.out, HAA.out, HEE.out, Ar.v] at q
      exact q
    have CM : Hid (∀ (w1 : World), Below w.heap.size w w1 → Calls Try.prog 24 #[.int .i64 op, .agg #[.slice sa sn sc, .slice aa an ac], .agg #[.slice ta tn tc, .slice ba bn bc]] w1 (MadeE w1 S A E)) := fun w1 h => by
      have q := HPK.out.cdya (XI.out w1 h) (YI.out w1 h) op
      simp only [HSS.out, HAA.out, HEE.out, Ar.v] at q
      exact q
    go_enter Try.func13, Try.ntmps13
    go_upto_region 1 with fail
    rw [HW.out, HG.out]
    go_wp2_with fail
    refine (CR.out _ H1.out.belowN).mono ?_; rintro e w2 ⟨⟨sa2, sn2, sc2, aa2, an2, ac2, s2, a2⟩, rfl, hI, hs, ha, hO, hb⟩
    simp only at hs ha
    have HV2 := Lib.hid (And.intro hs ha)
    obtain ⟨g8, HG8⟩ : ∃ z, Hid (w2.heap.size = z) := ⟨_, rfl⟩
    have m4 : g + 1 + 1 + 1 + 1 < g8 := by
      have q1 := (H1.out.rlt (i := 4) rfl).1
      have q2 := hb.size
      have q3 := HG8.out
      omega
    have h2 := (H1.out.arrNew hI hO hb).alloc 38 2 1 #[.slice sa2 sn2 sc2, .slice aa2 an2 ac2] rfl (by decide)
    obtain ⟨W2, HW2⟩ : ∃ z, Hid (w2.alloc (.cells #[.slice sa2 sn2 sc2, .slice aa2 an2 ac2] 38) = z) := ⟨_, rfl⟩
    rw [HW2.out] at h2
    have H2_ := h2
    try simp only [List.cons_append, List.nil_append, List.set_cons_zero, List.set_cons_succ, List.map_cons, List.map_nil, List.getD_cons_zero, List.getD_cons_succ, World.size_alloc] at H2_
    have H2 := Lib.hid H2_
    clear H2_
    rw [HG8.out] at H2
    clear hI hs ha hO hb h2 o0 o1 z0 z1 y0 y1
    have o1 := H2.out.cell (i := 0) rfl 1 _ rfl
    have z0 := H2.out.cell (i := 1) rfl 0 _ rfl
    have z1 := H2.out.cell (i := 1) rfl 1 _ rfl
    have y0 := H2.out.cell (i := 2) rfl 0 _ rfl
    have y1 := H2.out.cell (i := 2) rfl 1 _ rfl
    simp only [Ar.v]
    go_upto_region 6 with fail
    rw [HW2.out, HG8.out]
    go_wp2_with fail
    refine (CM.out _ H2.out.belowN).mono ?_; rintro e w3 ⟨⟨sa3, sn3, sc3, aa3, an3, ac3, s3, a3⟩, rfl, hI, hs, ha, hO, hb⟩
    simp only at hs ha
    have HV3 := Lib.hid (And.intro hs ha)
    obtain ⟨g10, HG10⟩ : ∃ z, Hid (w3.heap.size = z) := ⟨_, rfl⟩
    have m5 : g8 < g10 := by
      have q1 := (H2.out.rlt (i := 6) rfl).1
      have q2 := hb.size
      have q3 := HG10.out
      omega
    have h3 := (H2.out.arrNew hI hO hb).alloc 38 2 1 #[.slice sa3 sn3 sc3, .slice aa3 an3 ac3] rfl (by decide)
    obtain ⟨W3, HW3⟩ : ∃ z, Hid (w3.alloc (.cells #[.slice sa3 sn3 sc3, .slice aa3 an3 ac3] 38) = z) := ⟨_, rfl⟩
    rw [HW3.out] at h3
    have H3_ := h3.via (adrew1 W3)
    try simp only [List.cons_append, List.nil_append, List.set_cons_zero, List.set_cons_succ, List.map_cons, List.map_nil, List.getD_cons_zero, List.getD_cons_succ, World.size_alloc] at H3_
    have H3 := Lib.hid H3_
    clear H3_
    rw [HG10.out] at H3
    have H4_ := h3
    try simp only [List.cons_append, List.nil_append, List.set_cons_zero, List.set_cons_succ, List.map_cons, List.map_nil, List.getD_cons_zero, List.getD_cons_succ, World.size_alloc] at H4_
    have H4 := Lib.hid H4_
    clear H4_
    rw [HG10.out] at H4
    clear hI hs ha hO hb h3 o1 z0 z1 y0 y1
    simp only [Ar.v]
    have a0 := H4.out.cell (i := 6) rfl 0 _ rfl
    have a1 := H4.out.cell (i := 6) rfl 1 _ rfl
    have b0 := H4.out.cell (i := 8) rfl 0 _ rfl
    have b1 := H4.out.cell (i := 8) rfl 1 _ rfl
    have c0 := H4.out.cell (i := 3) rfl 0 _ rfl
    have c1 := H4.out.cell (i := 3) rfl 1 _ rfl
    have c2 := H4.out.frozen (i := 3) rfl 0
    have c3 := H4.out.frozen (i := 3) rfl 1
    have e0 := H4.out.cell (i := 4) rfl 0 _ rfl
    have e1 := H4.out.cell (i := 4) rfl 1 _ rfl
    have e2 := H4.out.frozen (i := 4) rfl 0
    have e3 := H4.out.frozen (i := 4) rfl 1
    have x20 : ¬ g8 = g + 1 + 1 + 1 := by omega
    have x21 : ¬ g + 1 + 1 + 1 = g8 := by omega
    have x22 : ¬ g8 = g + 1 + 1 + 1 + 1 := by omega
    have x23 : ¬ g + 1 + 1 + 1 + 1 = g8 := by omega
    have x24 : ¬ g10 = g + 1 + 1 + 1 := by omega
    have x25 : ¬ g + 1 + 1 + 1 = g10 := by omega
    have x26 : ¬ g10 = g + 1 + 1 + 1 + 1 := by omega
    have x27 : ¬ g + 1 + 1 + 1 + 1 = g10 := by omega
    go_upto_region 7 with fail
    rw [HW3.out, HG10.out]
    have H5 := ((((H4.out.put (i := 3) rfl 0 (.slice sa3 sn3 sc3)).put (i := 3) rfl 1 (.slice aa3 an3 ac3)).put (i := 4) rfl 0 (.slice sa2 sn2 sc2)).put (i := 4) rfl 1 (.slice aa2 an2 ac2)).via (adrew1 _)
    have HF : Hid (∀ r : List Int × List Int × Int, r.1 = S → r.2.1 = A → GivP w r (.returned (.tuple #[.agg #[.slice sa3 sn3 sc3, .slice aa3 an3 ac3], .agg #[.slice sa2 sn2 sc2, .slice aa2 an2 ac2]])) ((((W3.setCell ⟨g + 1 + 1 + 1, 0, none⟩ (.slice sa3 sn3 sc3)).setCell ⟨g + 1 + 1 + 1, 1, none⟩ (.slice aa3 an3 ac3)).setCell ⟨g + 1 + 1 + 1 + 1, 0, none⟩ (.slice sa2 sn2 sc2)).setCell ⟨g + 1 + 1 + 1 + 1, 1, none⟩ (.slice aa2 an2 ac2)).drew) := fun r h1 h2 =>
      ⟨⟨sa3, sn3, sc3, aa3, an3, ac3, s3, a3⟩, ⟨sa2, sn2, sc2, aa2, an2, ac2, s2, a2⟩, rfl, H5.pick [7, 5] (by decide), by rw [h1]; exact HV3.out.1, by rw [h2]; exact HV3.out.2, by rw [h1]; exact HV2.out.1, by rw [h2]; exact HV2.out.2⟩
    clear H5
    go_region_law fail
    all_goals
      clear a0 a1 b0 b1
      go_wp2
      exact bodyPost_ret (v := .tuple #[.agg #[.slice sa3 sn3 sc3, .slice aa3 an3 ac3], .agg #[.slice sa2 sn2 sc2, .slice aa2 an2 ac2]]) (by simp [results, Try.results13, go_sem, *]) rfl (HF.out _ HSS.out HAA.out)
end
end Go.Proofs.Ytoippfoeghjdoaa
