/- The document's Dyad of layer 8. The document's Monad of layer 8. -/
import Derived.Test.YtoippfoeghjdoaaDigRefCop
import Derived.Test.YtoippfoeghjdoaaDigRefReb
import Derived.Test.YtoippfoeghjdoaaDigRefPla
import Derived.Test.YtoippfoeghjdoaaDigRefBin
namespace Go.Proofs.Ytoippfoeghjdoaa
open Go.RowKit Go.Lib
set_option linter.unusedVariables false
set_option linter.unusedSimpArgs false
attribute [local go_sem] alloc_drewN setCell_drewN
set_option maxRecDepth 100000 in
set_option maxHeartbeats 3200000 in
theorem rdyad8_any {w : World} {X Y : Ar} (hX : X.Is w) (hY : Y.Is w) (op : Int) :
    Calls Try.prog 33 #[.int .i64 op, X.v, Y.v] w (MadeT w (dDya op X.s X.a Y.s Y.a)) := by
  obtain ⟨sa, sn, sc, aa, an, ac, s, a⟩ := X
  obtain ⟨ta, tn, tc, ba, bn, bc, t, b⟩ := Y
  simp only [Ar.v]
  have hsl : s.length = sn := hX.shp.len
  have hal : a.length = an := hX.ats.len
  have htl : t.length = tn := hY.shp.len
  have hbl : b.length = bn := hY.ats.len
  obtain ⟨W, HW⟩ : ∃ z, Hid (((w.alloc (.cells #[.slice sa sn sc, .slice aa an ac] 38)).alloc (.cells #[.slice ta tn tc, .slice ba bn bc] 38)).alloc (.cells #[.slice none 0 0, .slice none 0 0] 38) = z) := ⟨_, rfl⟩
  have H0 := (((Sp.start Non w).alloc 38 2 1 #[.slice sa sn sc, .slice aa an ac] rfl (by decide)).alloc 38 2 1 #[.slice ta tn tc, .slice ba bn bc] rfl (by decide)).alloc 38 2 1 #[.slice none 0 0, .slice none 0 0] rfl (by decide)
  rw [HW.out] at H0
  obtain ⟨g, HG⟩ : ∃ z, Hid (w.heap.size = z) := ⟨_, rfl⟩
  have H1_ := H0
  try simp only [List.cons_append, List.nil_append, List.set_cons_zero, List.set_cons_succ, List.map_cons, List.map_nil, List.getD_cons_zero, List.getD_cons_succ, World.size_alloc] at H1_
  have H1 := Lib.hid H1_
  clear H1_
  rw [HG.out] at H1
  have CMX := rmay4_any (hX.below H1.out.belowN (Nat.le_refl _))
  have CMY := fun w1 (hb : Below W.heap.size W w1) => rmay4_any (hY.below (H1.out.via hb).belowN (Nat.le_refl _))
  simp only [Ar.v] at CMX CMY
  have HX := Lib.hid hX
  have HY := Lib.hid hY
  have x0 := H1.out.cell (i := 0) rfl 0 _ rfl
  have x1 := H1.out.cell (i := 0) rfl 1 _ rfl
  have y0 := H1.out.cell (i := 1) rfl 0 _ rfl
  have y1 := H1.out.cell (i := 1) rfl 1 _ rfl
  have BAD : Hid (∀ w1, Below W.heap.size W w1 → ∀ e u v, MadeE w [] [] e (.returned (.tuple #[.agg #[.slice none 0 0, .slice none 0 0], .int .i64 e])) ((w1.setCell ⟨g + 1 + 1, 0, none⟩ u).setCell ⟨g + 1 + 1, 1, none⟩ v)) := fun w1 hb e u v => made_nil e (((H1.out.via hb).put (i := 2) rfl 0 u).put (i := 2) rfl 1 v).belowN
  clear H0 hX hY
  by_cases hmx : ¬ amE s a = 0
  · refine calls_madeT (S := []) (A := []) (E := 1) (by unfold dDya; rw [if_pos (.inl hmx)]) ?_
    rw [show decide (amE s a = 0) = false by simpa using hmx] at CMX
    have CMXH := Lib.hid CMX
    clear CMX CMY hmx
    have CMX := Lib.hid CMXH.out
    go_enter Try.func33, Try.ntmps33
    go_wp2_with fail
    rw [HW.out, HG.out]
    refine CMXH.out.mono ?_; rintro e w4 ⟨rfl, hb4⟩
    have H4 := Lib.hid (H1.out.via hb4)
    clear x0 x1 y0 y1 CMX
    have z0 := H4.out.cell (i := 2) rfl 0 _ rfl
    have z1 := H4.out.cell (i := 2) rfl 1 _ rfl
    have z2 := H4.out.frozen (i := 2) rfl 0
    have z3 := H4.out.frozen (i := 2) rfl 1
    go_wp2
    exact bodyPost_ret (v := .tuple #[.agg #[.slice none 0 0, .slice none 0 0], .int .i64 1]) (by simp [results, Try.results33, go_sem, *]) rfl (BAD.out _ hb4 _ _ _)
  have hmx : amE s a = 0 := Decidable.not_not.1 hmx
  have han : an ≤ 4096 := by have := amE_an hmx; omega
  have hsc : sn = 0 → an = 1 := fun h => by have := amE_scalar hmx (by omega); omega
  rw [show decide (amE s a = 0) = true by simpa using hmx] at CMX
  have CMXH := Lib.hid CMX
  have CMYH := Lib.hid CMY
  clear CMX CMY
  have CMX := CMXH
  clear CMXH
  by_cases hmy : ¬ amE t b = 0
  · refine calls_madeT (S := []) (A := []) (E := 1) (by unfold dDya; rw [if_pos (.inr (.inl hmy))]) ?_
    have CMYQ := CMYH.out
    simp only [show decide (amE t b = 0) = false by simpa using hmy] at CMYQ
    have CMY := Lib.hid CMYQ
    clear hmx hmy CMYQ CMYH
    go_enter Try.func33, Try.ntmps33
    go_wp2_with fail
    rw [HW.out, HG.out]
    refine CMX.out.mono ?_; rintro e w4 ⟨rfl, hb4⟩
    have H4 := Lib.hid (H1.out.via hb4)
    clear x0 x1 y0 y1
    have y0 := H4.out.cell (i := 1) rfl 0 _ rfl
    have y1 := H4.out.cell (i := 1) rfl 1 _ rfl
    go_wp2_with fail
    refine (CMY.out _ hb4).mono ?_; rintro e w5 ⟨rfl, hb5'⟩
    have hb5 := abvia hb4 hb5'
    have H5 := Lib.hid (H4.out.via hb5')
    clear y0 y1 hb5'
    have z0 := H5.out.cell (i := 2) rfl 0 _ rfl
    have z1 := H5.out.cell (i := 2) rfl 1 _ rfl
    have z2 := H5.out.frozen (i := 2) rfl 0
    have z3 := H5.out.frozen (i := 2) rfl 1
    go_wp2
    exact bodyPost_ret (v := .tuple #[.agg #[.slice none 0 0, .slice none 0 0], .int .i64 1]) (by simp [results, Try.results33, go_sem, *]) rfl (BAD.out _ hb5 _ _ _)
  have hmy : amE t b = 0 := Decidable.not_not.1 hmy
  have hbn : bn ≤ 4096 := by have := amE_an hmy; omega
  have htc : tn = 0 → bn = 1 := fun h => by have := amE_scalar hmy (by omega); omega
  have CMYQ := CMYH.out
  simp only [show decide (amE t b = 0) = true by simpa using hmy] at CMYQ
  have CMY := Lib.hid CMYQ
  clear CMYQ CMYH
  by_cases hmi : dMine op = false
  · refine calls_madeT (S := []) (A := []) (E := 1) (by unfold dDya; rw [if_pos (.inr (.inr hmi))]) ?_
    have hme := dMine_eq op
    rw [hmi, Bool.or_eq_false_iff] at hme
    have CH1 := Lib.hid (fun q => rhas8_any op 1 q)
    have CH2 := Lib.hid (fun q => rhas8_any op 2 q)
    rw [hme.1] at CH1
    rw [hme.2] at CH2
    clear hmx hmy hmi hme
    go_enter Try.func33, Try.ntmps33
    go_wp2_with fail
    rw [HW.out, HG.out]
    refine CMX.out.mono ?_; rintro e w4 ⟨rfl, hb4⟩
    have H4 := Lib.hid (H1.out.via hb4)
    clear x0 x1 y0 y1
    have y0 := H4.out.cell (i := 1) rfl 0 _ rfl
    have y1 := H4.out.cell (i := 1) rfl 1 _ rfl
    go_wp2_with fail
    refine (CMY.out _ hb4).mono ?_; rintro e w5 ⟨rfl, hb5'⟩
    have hb5 := abvia hb4 hb5'
    have H5 := Lib.hid (H4.out.via hb5')
    clear y0 y1 hb5'
    go_wp2_with fail
    refine (CH2.out _).mono ?_; rintro e w' ⟨rfl, hw'⟩
    have hw'' := hw'.symm
    subst hw''
    clear hw'
    go_wp2_with fail
    refine (CH1.out _).mono ?_; rintro e w' ⟨rfl, hw'⟩
    have hw'' := hw'.symm
    subst hw''
    clear hw'
    have z0 := H5.out.cell (i := 2) rfl 0 _ rfl
    have z1 := H5.out.cell (i := 2) rfl 1 _ rfl
    have z2 := H5.out.frozen (i := 2) rfl 0
    have z3 := H5.out.frozen (i := 2) rfl 1
    go_wp2
    exact bodyPost_ret (v := .tuple #[.agg #[.slice none 0 0, .slice none 0 0], .int .i64 1]) (by simp [results, Try.results33, go_sem, *]) rfl (BAD.out _ hb5 _ _ _)
  have hmt : dMine op = true := by simpa using hmi
  have hop : op = 34 ∨ op = 43 ∨ op = 22 ∨ op = 39 ∨ op = 40 := by simpa [dMine] using hmt
  clear hmt
  have hno : ¬ (amE s a ≠ 0 ∨ amE t b ≠ 0 ∨ dMine op = false) := fun h => h.elim (fun h => h hmx) (fun h => h.elim (fun h => h hmy) (fun h => hmi h))
  have HSC := Lib.hid (And.intro hsc (And.intro htc (And.intro han hbn)))
  have HMM := Lib.hid (And.intro hmx hmy)
  clear hsc htc han hbn
  rcases hop with rfl | rfl | rfl | rfl | rfl
  · have CH := Lib.hid (fun q => rhas8_any 34 2 q)
    rw [show dHas 34 2 = false by decide] at CH
    refine calls_madeT (S := []) (A := []) (E := 16) (by unfold dDya; rw [if_neg hno, if_pos (by decide)]) ?_
    clear hmx hmy hmi hno
    have CH1 := Lib.hid (fun q => rhas8_any 34 1 q)
    rw [show dHas 34 1 = true by decide] at CH1
    go_enter Try.func33, Try.ntmps33
    go_wp2_with fail
    rw [HW.out, HG.out]
    refine CMX.out.mono ?_; rintro e w4 ⟨rfl, hb4⟩
    have H4 := Lib.hid (H1.out.via hb4)
    clear x0 x1 y0 y1
    have y0 := H4.out.cell (i := 1) rfl 0 _ rfl
    have y1 := H4.out.cell (i := 1) rfl 1 _ rfl
    go_wp2_with fail
    refine (CMY.out _ hb4).mono ?_; rintro e w5 ⟨rfl, hb5'⟩
    have hb5 := abvia hb4 hb5'
    have H5 := Lib.hid (H4.out.via hb5')
    clear y0 y1 hb5'
    go_wp2_with fail
    refine (CH.out _).mono ?_; rintro e w' ⟨rfl, hw'⟩
    have hw'' := hw'.symm
    subst hw''
    clear hw'
    go_wp2_with fail
    refine (CH1.out _).mono ?_; rintro e w' ⟨rfl, hw'⟩
    have hw'' := hw'.symm
    subst hw''
    clear hw'
    have z0 := H5.out.cell (i := 2) rfl 0 _ rfl
    have z1 := H5.out.cell (i := 2) rfl 1 _ rfl
    have z2 := H5.out.frozen (i := 2) rfl 0
    have z3 := H5.out.frozen (i := 2) rfl 1
    go_wp2
    exact bodyPost_ret (v := .tuple #[.agg #[.slice none 0 0, .slice none 0 0], .int .i64 16]) (by simp [results, Try.results33, go_sem, *]) rfl (BAD.out _ hb5 _ _ _)
  · have CH := Lib.hid (fun q => rhas8_any 43 2 q)
    rw [show dHas 43 2 = false by decide] at CH
    refine calls_madeT (S := []) (A := []) (E := 16) (by unfold dDya; rw [if_neg hno, if_pos (by decide)]) ?_
    clear hmx hmy hmi hno
    have CH1 := Lib.hid (fun q => rhas8_any 43 1 q)
    rw [show dHas 43 1 = true by decide] at CH1
    go_enter Try.func33, Try.ntmps33
    go_wp2_with fail
    rw [HW.out, HG.out]
    refine CMX.out.mono ?_; rintro e w4 ⟨rfl, hb4⟩
    have H4 := Lib.hid (H1.out.via hb4)
    clear x0 x1 y0 y1
    have y0 := H4.out.cell (i := 1) rfl 0 _ rfl
    have y1 := H4.out.cell (i := 1) rfl 1 _ rfl
    go_wp2_with fail
    refine (CMY.out _ hb4).mono ?_; rintro e w5 ⟨rfl, hb5'⟩
    have hb5 := abvia hb4 hb5'
    have H5 := Lib.hid (H4.out.via hb5')
    clear y0 y1 hb5'
    go_wp2_with fail
    refine (CH.out _).mono ?_; rintro e w' ⟨rfl, hw'⟩
    have hw'' := hw'.symm
    subst hw''
    clear hw'
    go_wp2_with fail
    refine (CH1.out _).mono ?_; rintro e w' ⟨rfl, hw'⟩
    have hw'' := hw'.symm
    subst hw''
    clear hw'
    have z0 := H5.out.cell (i := 2) rfl 0 _ rfl
    have z1 := H5.out.cell (i := 2) rfl 1 _ rfl
    have z2 := H5.out.frozen (i := 2) rfl 0
    have z3 := H5.out.frozen (i := 2) rfl 1
    go_wp2
    exact bodyPost_ret (v := .tuple #[.agg #[.slice none 0 0, .slice none 0 0], .int .i64 16]) (by simp [results, Try.results33, go_sem, *]) rfl (BAD.out _ hb5 _ _ _)
  · have CH := Lib.hid (fun q => rhas8_any 22 2 q)
    rw [show dHas 22 2 = true by decide] at CH
    by_cases hr : 1 < sn
    · have hr' : (1 : Int) < sn := by omega
      refine calls_madeT (S := []) (A := []) (E := 12) (by unfold dDya; rw [if_neg hno, if_neg (by decide), if_pos (.inl (by omega))]) ?_
      clear hmx hmy hmi hno hr
      go_enter Try.func33, Try.ntmps33
      go_wp2_with fail
      rw [HW.out, HG.out]
      refine CMX.out.mono ?_; rintro e w4 ⟨rfl, hb4⟩
      have H4 := Lib.hid (H1.out.via hb4)
      clear x0 x1 y0 y1
      have y0 := H4.out.cell (i := 1) rfl 0 _ rfl
      have y1 := H4.out.cell (i := 1) rfl 1 _ rfl
      go_wp2_with fail
      refine (CMY.out _ hb4).mono ?_; rintro e w5 ⟨rfl, hb5'⟩
      have hb5 := abvia hb4 hb5'
      have H5 := Lib.hid (H4.out.via hb5')
      clear y0 y1 hb5'
      go_wp2_with fail
      refine (CH.out _).mono ?_; rintro e w' ⟨rfl, hw'⟩
      have hw'' := hw'.symm
      subst hw''
      clear hw'
      have x0 := H5.out.cell (i := 0) rfl 0 _ rfl
      have x1 := H5.out.cell (i := 0) rfl 1 _ rfl
      have y0 := H5.out.cell (i := 1) rfl 0 _ rfl
      have y1 := H5.out.cell (i := 1) rfl 1 _ rfl
      have z0 := H5.out.cell (i := 2) rfl 0 _ rfl
      have z1 := H5.out.cell (i := 2) rfl 1 _ rfl
      have z2 := H5.out.frozen (i := 2) rfl 0
      have z3 := H5.out.frozen (i := 2) rfl 1
      go_wp2
      exact bodyPost_ret (v := .tuple #[.agg #[.slice none 0 0, .slice none 0 0], .int .i64 12]) (by simp [results, Try.results33, go_sem, *]) rfl (BAD.out _ hb5 _ _ _)
    have hr' : ¬ (1 : Int) < sn := by omega
    obtain ⟨E, HE⟩ : ∃ z, Hid (cpE s a t = z) := ⟨_, rfl⟩
    refine calls_madeT (S := cpS s a t) (A := cpA s a t b) (E := E) (by unfold dDya; rw [if_neg hno, if_neg (by decide), if_neg (by omega), if_pos rfl, HE.out]) ?_
    have HSN := Lib.hid (show sn ≤ 1 by omega)
    clear hmx hmy hmi hno hr
    go_enter Try.func33, Try.ntmps33
    go_wp2_with fail
    rw [HW.out, HG.out]
    refine CMX.out.mono ?_; rintro e w4 ⟨rfl, hb4⟩
    have H4 := Lib.hid (H1.out.via hb4)
    clear x0 x1 y0 y1
    have y0 := H4.out.cell (i := 1) rfl 0 _ rfl
    have y1 := H4.out.cell (i := 1) rfl 1 _ rfl
    go_wp2_with fail
    refine (CMY.out _ hb4).mono ?_; rintro e w5 ⟨rfl, hb5'⟩
    have hb5 := abvia hb4 hb5'
    have H5 := Lib.hid (H4.out.via hb5')
    clear y0 y1 hb5'
    go_wp2_with fail
    refine (CH.out _).mono ?_; rintro e w' ⟨rfl, hw'⟩
    have hw'' := hw'.symm
    subst hw''
    clear hw'
    have x0 := H5.out.cell (i := 0) rfl 0 _ rfl
    have x1 := H5.out.cell (i := 0) rfl 1 _ rfl
    have y0 := H5.out.cell (i := 1) rfl 0 _ rfl
    have y1 := H5.out.cell (i := 1) rfl 1 _ rfl
    have CP := Lib.hid (rcopied_any (HX.out.below H5.out.belowN (Nat.le_refl _)) (HY.out.below H5.out.belowN (Nat.le_refl _)) HSN.out HMM.out.1 HMM.out.2)
    simp only [Ar.v, HE.out] at CP
    go_wp2_with fail
    refine CP.out.mono ?_; rintro e w6 ⟨B, rfl, hI, hs, ha, hO, hb6⟩
    simp only [Ar.v]
    have HR := Lib.hid (H5.out.relay (i := 2) rfl hI hO hb6 E)
    rw [hs, ha] at HR
    have H6 := Lib.hid (H5.out.via hb6)
    clear hs ha hI hO x0 x1 y0 y1
    have z0 := H6.out.cell (i := 2) rfl 0 _ rfl
    have z1 := H6.out.cell (i := 2) rfl 1 _ rfl
    have z2 := H6.out.frozen (i := 2) rfl 0
    have z3 := H6.out.frozen (i := 2) rfl 1
    go_wp2
    exact bodyPost_ret (v := .tuple #[.agg #[.slice B.sa B.sn B.sc, .slice B.aa B.an B.ac], .int .i64 E]) (by simp [results, Try.results33, go_sem, *]) rfl (HR.out _ _)
  · have CH := Lib.hid (fun q => rhas8_any 39 2 q)
    rw [show dHas 39 2 = true by decide] at CH
    by_cases hr : 1 < sn
    · have hr' : (1 : Int) < sn := by omega
      refine calls_madeT (S := []) (A := []) (E := 12) (by unfold dDya; rw [if_neg hno, if_neg (by decide), if_pos (.inl (by omega))]) ?_
      clear hmx hmy hmi hno hr
      go_enter Try.func33, Try.ntmps33
      go_wp2_with fail
      rw [HW.out, HG.out]
      refine CMX.out.mono ?_; rintro e w4 ⟨rfl, hb4⟩
      have H4 := Lib.hid (H1.out.via hb4)
      clear x0 x1 y0 y1
      have y0 := H4.out.cell (i := 1) rfl 0 _ rfl
      have y1 := H4.out.cell (i := 1) rfl 1 _ rfl
      go_wp2_with fail
      refine (CMY.out _ hb4).mono ?_; rintro e w5 ⟨rfl, hb5'⟩
      have hb5 := abvia hb4 hb5'
      have H5 := Lib.hid (H4.out.via hb5')
      clear y0 y1 hb5'
      go_wp2_with fail
      refine (CH.out _).mono ?_; rintro e w' ⟨rfl, hw'⟩
      have hw'' := hw'.symm
      subst hw''
      clear hw'
      have x0 := H5.out.cell (i := 0) rfl 0 _ rfl
      have x1 := H5.out.cell (i := 0) rfl 1 _ rfl
      have y0 := H5.out.cell (i := 1) rfl 0 _ rfl
      have y1 := H5.out.cell (i := 1) rfl 1 _ rfl
      have z0 := H5.out.cell (i := 2) rfl 0 _ rfl
      have z1 := H5.out.cell (i := 2) rfl 1 _ rfl
      have z2 := H5.out.frozen (i := 2) rfl 0
      have z3 := H5.out.frozen (i := 2) rfl 1
      go_wp2
      exact bodyPost_ret (v := .tuple #[.agg #[.slice none 0 0, .slice none 0 0], .int .i64 12]) (by simp [results, Try.results33, go_sem, *]) rfl (BAD.out _ hb5 _ _ _)
    have hr' : ¬ (1 : Int) < sn := by omega
    by_cases hr2 : 1 < tn
    · have hr2' : (1 : Int) < tn := by omega
      refine calls_madeT (S := []) (A := []) (E := 12) (by unfold dDya; rw [if_neg hno, if_neg (by decide), if_pos (.inr (.inl ⟨rfl, by omega⟩))]) ?_
      clear hmx hmy hmi hno hr hr2
      go_enter Try.func33, Try.ntmps33
      go_wp2_with fail
      rw [HW.out, HG.out]
      refine CMX.out.mono ?_; rintro e w4 ⟨rfl, hb4⟩
      have H4 := Lib.hid (H1.out.via hb4)
      clear x0 x1 y0 y1
      have y0 := H4.out.cell (i := 1) rfl 0 _ rfl
      have y1 := H4.out.cell (i := 1) rfl 1 _ rfl
      go_wp2_with fail
      refine (CMY.out _ hb4).mono ?_; rintro e w5 ⟨rfl, hb5'⟩
      have hb5 := abvia hb4 hb5'
      have H5 := Lib.hid (H4.out.via hb5')
      clear y0 y1 hb5'
      go_wp2_with fail
      refine (CH.out _).mono ?_; rintro e w' ⟨rfl, hw'⟩
      have hw'' := hw'.symm
      subst hw''
      clear hw'
      have x0 := H5.out.cell (i := 0) rfl 0 _ rfl
      have x1 := H5.out.cell (i := 0) rfl 1 _ rfl
      have y0 := H5.out.cell (i := 1) rfl 0 _ rfl
      have y1 := H5.out.cell (i := 1) rfl 1 _ rfl
      have z0 := H5.out.cell (i := 2) rfl 0 _ rfl
      have z1 := H5.out.cell (i := 2) rfl 1 _ rfl
      have z2 := H5.out.frozen (i := 2) rfl 0
      have z3 := H5.out.frozen (i := 2) rfl 1
      go_wp2
      exact bodyPost_ret (v := .tuple #[.agg #[.slice none 0 0, .slice none 0 0], .int .i64 12]) (by simp [results, Try.results33, go_sem, *]) rfl (BAD.out _ hb5 _ _ _)
    have hr2' : ¬ (1 : Int) < tn := by omega
    obtain ⟨E, HE⟩ : ∃ z, Hid (bsE s a t b = z) := ⟨_, rfl⟩
    refine calls_madeT (S := []) (A := bsA s a t b) (E := E) (by unfold dDya; rw [if_neg hno, if_neg (by decide), if_neg (by omega), if_neg (by decide), if_pos rfl, HE.out]) ?_
    have HSN := Lib.hid (show sn ≤ 1 by omega)
    have HTN := Lib.hid (show tn ≤ 1 by omega)
    clear hmx hmy hmi hno hr hr2
    go_enter Try.func33, Try.ntmps33
    go_wp2_with fail
    rw [HW.out, HG.out]
    refine CMX.out.mono ?_; rintro e w4 ⟨rfl, hb4⟩
    have H4 := Lib.hid (H1.out.via hb4)
    clear x0 x1 y0 y1
    have y0 := H4.out.cell (i := 1) rfl 0 _ rfl
    have y1 := H4.out.cell (i := 1) rfl 1 _ rfl
    go_wp2_with fail
    refine (CMY.out _ hb4).mono ?_; rintro e w5 ⟨rfl, hb5'⟩
    have hb5 := abvia hb4 hb5'
    have H5 := Lib.hid (H4.out.via hb5')
    clear y0 y1 hb5'
    go_wp2_with fail
    refine (CH.out _).mono ?_; rintro e w' ⟨rfl, hw'⟩
    have hw'' := hw'.symm
    subst hw''
    clear hw'
    have x0 := H5.out.cell (i := 0) rfl 0 _ rfl
    have x1 := H5.out.cell (i := 0) rfl 1 _ rfl
    have y0 := H5.out.cell (i := 1) rfl 0 _ rfl
    have y1 := H5.out.cell (i := 1) rfl 1 _ rfl
    have CP := Lib.hid (rbased_any (HX.out.below H5.out.belowN (Nat.le_refl _)) (HY.out.below H5.out.belowN (Nat.le_refl _)) HSN.out HTN.out HSC.out.1 HSC.out.2.1 HSC.out.2.2.1 HSC.out.2.2.2)
    simp only [Ar.v, HE.out] at CP
    go_wp2_with fail
    refine CP.out.mono ?_; rintro e w6 ⟨B, rfl, hI, hs, ha, hO, hb6⟩
    simp only [Ar.v]
    have HR := Lib.hid (H5.out.relay (i := 2) rfl hI hO hb6 E)
    rw [hs, ha] at HR
    have H6 := Lib.hid (H5.out.via hb6)
    clear hs ha hI hO x0 x1 y0 y1
    have z0 := H6.out.cell (i := 2) rfl 0 _ rfl
    have z1 := H6.out.cell (i := 2) rfl 1 _ rfl
    have z2 := H6.out.frozen (i := 2) rfl 0
    have z3 := H6.out.frozen (i := 2) rfl 1
    go_wp2
    exact bodyPost_ret (v := .tuple #[.agg #[.slice B.sa B.sn B.sc, .slice B.aa B.an B.ac], .int .i64 E]) (by simp [results, Try.results33, go_sem, *]) rfl (HR.out _ _)
  · have CH := Lib.hid (fun q => rhas8_any 40 2 q)
    rw [show dHas 40 2 = true by decide] at CH
    by_cases hr : 1 < sn
    · have hr' : (1 : Int) < sn := by omega
      refine calls_madeT (S := []) (A := []) (E := 12) (by unfold dDya; rw [if_neg hno, if_neg (by decide), if_pos (.inl (by omega))]) ?_
      clear hmx hmy hmi hno hr
      go_enter Try.func33, Try.ntmps33
      go_wp2_with fail
      rw [HW.out, HG.out]
      refine CMX.out.mono ?_; rintro e w4 ⟨rfl, hb4⟩
      have H4 := Lib.hid (H1.out.via hb4)
      clear x0 x1 y0 y1
      have y0 := H4.out.cell (i := 1) rfl 0 _ rfl
      have y1 := H4.out.cell (i := 1) rfl 1 _ rfl
      go_wp2_with fail
      refine (CMY.out _ hb4).mono ?_; rintro e w5 ⟨rfl, hb5'⟩
      have hb5 := abvia hb4 hb5'
      have H5 := Lib.hid (H4.out.via hb5')
      clear y0 y1 hb5'
      go_wp2_with fail
      refine (CH.out _).mono ?_; rintro e w' ⟨rfl, hw'⟩
      have hw'' := hw'.symm
      subst hw''
      clear hw'
      have x0 := H5.out.cell (i := 0) rfl 0 _ rfl
      have x1 := H5.out.cell (i := 0) rfl 1 _ rfl
      have y0 := H5.out.cell (i := 1) rfl 0 _ rfl
      have y1 := H5.out.cell (i := 1) rfl 1 _ rfl
      have z0 := H5.out.cell (i := 2) rfl 0 _ rfl
      have z1 := H5.out.cell (i := 2) rfl 1 _ rfl
      have z2 := H5.out.frozen (i := 2) rfl 0
      have z3 := H5.out.frozen (i := 2) rfl 1
      go_wp2
      exact bodyPost_ret (v := .tuple #[.agg #[.slice none 0 0, .slice none 0 0], .int .i64 12]) (by simp [results, Try.results33, go_sem, *]) rfl (BAD.out _ hb5 _ _ _)
    have hr' : ¬ (1 : Int) < sn := by omega
    by_cases hr2 : 0 < tn
    · have hr2' : (0 : Int) < tn := by omega
      refine calls_madeT (S := []) (A := []) (E := 12) (by unfold dDya; rw [if_neg hno, if_neg (by decide), if_pos (.inr (.inr ⟨rfl, by omega⟩))]) ?_
      clear hmx hmy hmi hno hr hr2
      go_enter Try.func33, Try.ntmps33
      go_wp2_with fail
      rw [HW.out, HG.out]
      refine CMX.out.mono ?_; rintro e w4 ⟨rfl, hb4⟩
      have H4 := Lib.hid (H1.out.via hb4)
      clear x0 x1 y0 y1
      have y0 := H4.out.cell (i := 1) rfl 0 _ rfl
      have y1 := H4.out.cell (i := 1) rfl 1 _ rfl
      go_wp2_with fail
      refine (CMY.out _ hb4).mono ?_; rintro e w5 ⟨rfl, hb5'⟩
      have hb5 := abvia hb4 hb5'
      have H5 := Lib.hid (H4.out.via hb5')
      clear y0 y1 hb5'
      go_wp2_with fail
      refine (CH.out _).mono ?_; rintro e w' ⟨rfl, hw'⟩
      have hw'' := hw'.symm
      subst hw''
      clear hw'
      have x0 := H5.out.cell (i := 0) rfl 0 _ rfl
      have x1 := H5.out.cell (i := 0) rfl 1 _ rfl
      have y0 := H5.out.cell (i := 1) rfl 0 _ rfl
      have y1 := H5.out.cell (i := 1) rfl 1 _ rfl
      have z0 := H5.out.cell (i := 2) rfl 0 _ rfl
      have z1 := H5.out.cell (i := 2) rfl 1 _ rfl
      have z2 := H5.out.frozen (i := 2) rfl 0
      have z3 := H5.out.frozen (i := 2) rfl 1
      go_wp2
      exact bodyPost_ret (v := .tuple #[.agg #[.slice none 0 0, .slice none 0 0], .int .i64 12]) (by simp [results, Try.results33, go_sem, *]) rfl (BAD.out _ hb5 _ _ _)
    have hr2' : ¬ (0 : Int) < tn := by omega
    obtain ⟨E, HE⟩ : ∃ z, Hid (anE a (b.getD 0 0) = z) := ⟨_, rfl⟩
    refine calls_madeT (S := anS s a (b.getD 0 0)) (A := anA a (b.getD 0 0)) (E := E) (by unfold dDya; rw [if_neg hno, if_neg (by decide), if_neg (by omega), if_neg (by decide), if_neg (by decide), HE.out]) ?_
    have HSN := Lib.hid (show sn ≤ 1 by omega)
    have HTN := Lib.hid (show tn ≤ 0 by omega)
    have hbn1 : (0 : Int) < bn := by have := HSC.out.2.1 (by omega); omega
    have hbn2 : 0 < bn := by omega
    clear hmx hmy hmi hno hr hr2
    go_enter Try.func33, Try.ntmps33
    go_wp2_with fail
    rw [HW.out, HG.out]
    refine CMX.out.mono ?_; rintro e w4 ⟨rfl, hb4⟩
    have H4 := Lib.hid (H1.out.via hb4)
    clear x0 x1 y0 y1
    have y0 := H4.out.cell (i := 1) rfl 0 _ rfl
    have y1 := H4.out.cell (i := 1) rfl 1 _ rfl
    go_wp2_with fail
    refine (CMY.out _ hb4).mono ?_; rintro e w5 ⟨rfl, hb5'⟩
    have hb5 := abvia hb4 hb5'
    have H5 := Lib.hid (H4.out.via hb5')
    clear y0 y1 hb5'
    go_wp2_with fail
    refine (CH.out _).mono ?_; rintro e w' ⟨rfl, hw'⟩
    have hw'' := hw'.symm
    subst hw''
    clear hw'
    have x0 := H5.out.cell (i := 0) rfl 0 _ rfl
    have x1 := H5.out.cell (i := 0) rfl 1 _ rfl
    have y0 := H5.out.cell (i := 1) rfl 0 _ rfl
    have y1 := H5.out.cell (i := 1) rfl 1 _ rfl
    obtain ⟨b3, o3, e3, hc3⟩ := HY.out.ats.at (by simp only; omega)
    have hd0 := hc3 0 (by simp only; omega)
    simp only [Nat.add_zero] at hd0 e3
    have hlt3 : b3 < w.heap.size := World.block_lt_of_cell? w _ hd0
    have hd := (H5.out.belowN.cell (p := ⟨b3, o3, none⟩) hlt3).trans hd0
    rw [HG.out] at hlt3
    have ne3 : ¬ b3 = g + 1 + 1 := by omega
    have ne4 : ¬ g + 1 + 1 = b3 := by omega
    have ne5 : ¬ g = g + 1 + 1 := by omega
    have ne6 : ¬ g + 1 + 1 = g := by omega
    clear hd0 hlt3
    obtain ⟨d, HD⟩ : ∃ d, Hid (b.getD 0 0 = d) := ⟨_, rfl⟩
    have hdr := HY.out.ats.rng 0
    simp only at hdr
    rw [HD.out] at hd hdr
    rw [HD.out] at HE
    subst e3
    have CP := Lib.hid (fun w1 (hb : Below w5.heap.size w5 w1) => rrebased_any (HX.out.below (H5.out.via hb).belowN (Nat.le_refl _)) d hdr HSC.out.2.2.1 (by have := HSN.out; simp only; omega))
    simp only [Ar.v, HE.out] at CP
    clear hc3 hdr
    go_wp2_with fail
    go_region_held3 (fun w'' => w''.cell? ⟨g, 0, none⟩ = some (.slice sa sn sc) ∧ w''.cell? ⟨g, 1, none⟩ = some (.slice aa an ac) ∧ w''.cell? ⟨g + 1, 1, none⟩ = some (.slice (some ⟨b3, o3, none⟩) bn bc) ∧ w''.cell? ⟨b3, o3, none⟩ = some (.int .i64 d)) (go_keep)
      (first
      | (go_at_call 62; (with_reducible refine Calls.mono (CP.out _ ?_) ?_); (first | assumption | exact adrew1 _); rintro e w6 ⟨B, rfl, hI, hs, ha, hO, hb6⟩; simp only [Ar.v]; have HQ := Lib.hid (H5.out.via (adrew1 w5)); have HR := Lib.hid (HQ.out.relay (i := 2) rfl hI hO hb6 E); rw [hs, ha, ← HD.out] at HR; have H6 := Lib.hid (HQ.out.via hb6); have hd6 := ((abvia (adrew1 w5) hb6).cell (p := ⟨b3, o3, none⟩) (World.block_lt_of_cell? w5 _ hd)).trans hd; clear hs ha hI hO; have x0' := H6.out.cell (i := 0) rfl 0 _ rfl; have x1' := H6.out.cell (i := 0) rfl 1 _ rfl; have y1' := H6.out.cell (i := 1) rfl 1 _ rfl; have z0 := H6.out.cell (i := 2) rfl 0 _ rfl; have z1 := H6.out.cell (i := 2) rfl 1 _ rfl; have z2 := H6.out.frozen (i := 2) rfl 0; have z3 := H6.out.frozen (i := 2) rfl 1))
    all_goals
      go_wp2
      exact bodyPost_ret (v := .tuple #[.agg #[.slice B.sa B.sn B.sc, .slice B.aa B.an B.ac], .int .i64 E]) (by simp [results, Try.results33, go_sem, *]) rfl (HR.out _ _)
end Go.Proofs.Ytoippfoeghjdoaa
namespace Go.Proofs.Ytoippfoeghjdoaa
open Go.RowKit Go.Lib
set_option linter.unusedVariables false
set_option linter.unusedSimpArgs false
attribute [local go_sem] alloc_drewN setCell_drewN
set_option maxRecDepth 100000 in
set_option maxHeartbeats 3200000 in
theorem rmonad8_any {w : World} {Y : Ar} (hY : Y.Is w) (op : Int) :
    Calls Try.prog 32 #[.int .i64 op, Y.v] w (MadeT w (dMon op Y.s Y.a)) := by
  obtain ⟨ta, tn, tc, ba, bn, bc, t, b⟩ := Y
  simp only [Ar.v]
  have htl : t.length = tn := hY.shp.len
  have hbl : b.length = bn := hY.ats.len
  obtain ⟨W, HW⟩ : ∃ z, Hid ((w.alloc (.cells #[.slice ta tn tc, .slice ba bn bc] 38)).alloc (.cells #[.slice none 0 0, .slice none 0 0] 38) = z) := ⟨_, rfl⟩
  have H0 := ((Sp.start Non w).alloc 38 2 1 #[.slice ta tn tc, .slice ba bn bc] rfl (by decide)).alloc 38 2 1 #[.slice none 0 0, .slice none 0 0] rfl (by decide)
  rw [HW.out] at H0
  obtain ⟨g, HG⟩ : ∃ z, Hid (w.heap.size = z) := ⟨_, rfl⟩
  have H1_ := H0
  try simp only [List.cons_append, List.nil_append, List.set_cons_zero, List.set_cons_succ, List.map_cons, List.map_nil, List.getD_cons_zero, List.getD_cons_succ, World.size_alloc] at H1_
  have H1 := Lib.hid H1_
  clear H1_
  rw [HG.out] at H1
  have CM := rmay4_any (hY.below H1.out.belowN (Nat.le_refl _))
  simp only [Ar.v] at CM
  have HY := Lib.hid hY
  have y0 := H1.out.cell (i := 0) rfl 0 _ rfl
  have y1 := H1.out.cell (i := 0) rfl 1 _ rfl
  have BAD : Hid (∀ w1, Below W.heap.size W w1 → ∀ e u v, MadeE w [] [] e (.returned (.tuple #[.agg #[.slice none 0 0, .slice none 0 0], .int .i64 e])) ((w1.setCell ⟨g + 1, 0, none⟩ u).setCell ⟨g + 1, 1, none⟩ v)) := fun w1 hb e u v => made_nil e (((H1.out.via hb).put (i := 1) rfl 0 u).put (i := 1) rfl 1 v).belowN
  clear H0 hY
  by_cases hm : amE t b = 0
  · have han : bn ≤ 4096 := by have := amE_an hm; omega
    have ht8 : tn ≤ 8 := by rw [← htl]; exact (mayE_zero (amE_zero hm).1).2.1
    rw [show decide (amE t b = 0) = true by simpa using hm] at CM
    have CMH := Lib.hid CM
    clear CM
    by_cases hmi : dMine op = false
    · refine calls_madeT (S := []) (A := []) (E := 1) (by unfold dMon; rw [if_pos (.inr hmi)]) ?_
      have hme := dMine_eq op
      rw [hmi, Bool.or_eq_false_iff] at hme
      have CH1 := Lib.hid (fun q => rhas8_any op 1 q)
      have CH2 := Lib.hid (fun q => rhas8_any op 2 q)
      rw [hme.1] at CH1
      rw [hme.2] at CH2
      clear hm hmi hme
      go_enter Try.func32, Try.ntmps32
      go_wp2_with fail
      rw [HW.out, HG.out]
      refine CMH.out.mono ?_; rintro e w5 ⟨rfl, hb5⟩
      have H5 := Lib.hid (H1.out.via hb5)
      go_wp2_with fail
      refine (CH1.out _).mono ?_; rintro e w' ⟨rfl, hw'⟩
      have hw'' := hw'.symm
      subst hw''
      clear hw'
      go_wp2_with fail
      refine (CH2.out _).mono ?_; rintro e w' ⟨rfl, hw'⟩
      have hw'' := hw'.symm
      subst hw''
      clear y0 y1
      have z0 := H5.out.cell (i := 1) rfl 0 _ rfl
      have z1 := H5.out.cell (i := 1) rfl 1 _ rfl
      have z2 := H5.out.frozen (i := 1) rfl 0
      have z3 := H5.out.frozen (i := 1) rfl 1
      go_wp2
      exact bodyPost_ret (v := .tuple #[.agg #[.slice none 0 0, .slice none 0 0], .int .i64 1]) (by simp [results, Try.results32, go_sem, *]) rfl (BAD.out _ hb5 _ _ _)
    have hmt : dMine op = true := by simpa using hmi
    have hop : op = 34 ∨ op = 43 ∨ op = 22 ∨ op = 39 ∨ op = 40 := by simpa [dMine] using hmt
    clear hmt
    have hno : ¬ (amE t b ≠ 0 ∨ dMine op = false) := fun h => h.elim (fun h => h hm) (fun h => hmi h)
    rcases hop with rfl | rfl | rfl | rfl | rfl
    · have CH := Lib.hid (fun q => rhas8_any 34 1 q)
      rw [show dHas 34 1 = true by decide] at CH
      by_cases hr : 1 < tn
      · have hr' : (1 : Int) < tn := by omega
        refine calls_madeT (S := []) (A := []) (E := 12) (by unfold dMon; rw [if_neg hno, if_neg (by decide), if_pos ⟨by decide, by omega⟩]) ?_
        clear hm hmi hno hr
        go_enter Try.func32, Try.ntmps32
        go_wp2_with fail
        rw [HW.out, HG.out]
        refine CMH.out.mono ?_; rintro e w5 ⟨rfl, hb5⟩
        have H5 := Lib.hid (H1.out.via hb5)
        go_wp2_with fail
        refine (CH.out _).mono ?_; rintro e w' ⟨rfl, hw'⟩
        have hw'' := hw'.symm
        subst hw''
        clear y0 y1
        have y0 := H5.out.cell (i := 0) rfl 0 _ rfl
        have z0 := H5.out.cell (i := 1) rfl 0 _ rfl
        have z1 := H5.out.cell (i := 1) rfl 1 _ rfl
        have z2 := H5.out.frozen (i := 1) rfl 0
        have z3 := H5.out.frozen (i := 1) rfl 1
        go_wp2
        exact bodyPost_ret (v := .tuple #[.agg #[.slice none 0 0, .slice none 0 0], .int .i64 12]) (by simp [results, Try.results32, go_sem, *]) rfl (BAD.out _ hb5 _ _ _)
      have hr' : ¬ (1 : Int) < tn := by omega
      obtain ⟨E, HE⟩ : ∃ z, Hid (pcE b = z) := ⟨_, rfl⟩
      refine calls_madeT (S := pcS b) (A := pcA b) (E := E) (by unfold dMon; rw [if_neg hno, if_neg (by decide), if_neg (by omega), if_pos rfl, HE.out]) ?_
      have hsc : tn = 0 → bn = 1 := fun h => by have := amE_scalar hm (by omega); omega
      have HSC := Lib.hid (And.intro hsc (And.intro han ht8))
      clear hm hmi hno hsc han ht8
      clear hr
      go_enter Try.func32, Try.ntmps32
      go_wp2_with fail
      rw [HW.out, HG.out]
      refine CMH.out.mono ?_; rintro e w5 ⟨rfl, hb5⟩
      have H5 := Lib.hid (H1.out.via hb5)
      go_wp2_with fail
      refine (CH.out _).mono ?_; rintro e w' ⟨rfl, hw'⟩
      have hw'' := hw'.symm
      subst hw''
      clear y0 y1 hw'
      have y0 := H5.out.cell (i := 0) rfl 0 _ rfl
      have y1 := H5.out.cell (i := 0) rfl 1 _ rfl
      have CP := Lib.hid (rcounted_any (HY.out.below H5.out.belowN (Nat.le_refl _)).ats)
      simp only [Ar.v, HE.out] at CP
      go_wp2_with fail
      refine CP.out.mono ?_; rintro e w6 ⟨B, rfl, hI, hs, ha, hO, hb6⟩
      simp only [Ar.v]
      have HR := Lib.hid (H5.out.relay (i := 1) rfl hI hO hb6 E)
      rw [hs, ha] at HR
      have H6 := Lib.hid (H5.out.via hb6)
      clear hs ha hI hO y0 y1
      have z0 := H6.out.cell (i := 1) rfl 0 _ rfl
      have z1 := H6.out.cell (i := 1) rfl 1 _ rfl
      have z2 := H6.out.frozen (i := 1) rfl 0
      have z3 := H6.out.frozen (i := 1) rfl 1
      go_wp2
      exact bodyPost_ret (v := .tuple #[.agg #[.slice B.sa B.sn B.sc, .slice B.aa B.an B.ac], .int .i64 E]) (by simp [results, Try.results32, go_sem, *]) rfl (HR.out _ _)
    · have CH := Lib.hid (fun q => rhas8_any 43 1 q)
      rw [show dHas 43 1 = true by decide] at CH
      by_cases hr : 1 < tn
      · have hr' : (1 : Int) < tn := by omega
        refine calls_madeT (S := []) (A := []) (E := 12) (by unfold dMon; rw [if_neg hno, if_neg (by decide), if_pos ⟨by decide, by omega⟩]) ?_
        clear hm hmi hno hr
        go_enter Try.func32, Try.ntmps32
        go_wp2_with fail
        rw [HW.out, HG.out]
        refine CMH.out.mono ?_; rintro e w5 ⟨rfl, hb5⟩
        have H5 := Lib.hid (H1.out.via hb5)
        go_wp2_with fail
        refine (CH.out _).mono ?_; rintro e w' ⟨rfl, hw'⟩
        have hw'' := hw'.symm
        subst hw''
        clear y0 y1
        have y0 := H5.out.cell (i := 0) rfl 0 _ rfl
        have z0 := H5.out.cell (i := 1) rfl 0 _ rfl
        have z1 := H5.out.cell (i := 1) rfl 1 _ rfl
        have z2 := H5.out.frozen (i := 1) rfl 0
        have z3 := H5.out.frozen (i := 1) rfl 1
        go_wp2
        exact bodyPost_ret (v := .tuple #[.agg #[.slice none 0 0, .slice none 0 0], .int .i64 12]) (by simp [results, Try.results32, go_sem, *]) rfl (BAD.out _ hb5 _ _ _)
      have hr' : ¬ (1 : Int) < tn := by omega
      obtain ⟨E, HE⟩ : ∃ z, Hid (whE b = z) := ⟨_, rfl⟩
      refine calls_madeT (S := whS b) (A := whA b) (E := E) (by unfold dMon; rw [if_neg hno, if_neg (by decide), if_neg (by omega), if_neg (by decide), if_pos rfl, HE.out]) ?_
      have hsc : tn = 0 → bn = 1 := fun h => by have := amE_scalar hm (by omega); omega
      have HSC := Lib.hid (And.intro hsc (And.intro han ht8))
      clear hm hmi hno hsc han ht8
      clear hr
      go_enter Try.func32, Try.ntmps32
      go_wp2_with fail
      rw [HW.out, HG.out]
      refine CMH.out.mono ?_; rintro e w5 ⟨rfl, hb5⟩
      have H5 := Lib.hid (H1.out.via hb5)
      go_wp2_with fail
      refine (CH.out _).mono ?_; rintro e w' ⟨rfl, hw'⟩
      have hw'' := hw'.symm
      subst hw''
      clear y0 y1 hw'
      have y0 := H5.out.cell (i := 0) rfl 0 _ rfl
      have y1 := H5.out.cell (i := 0) rfl 1 _ rfl
      have CP := Lib.hid (rplaces_any (HY.out.below H5.out.belowN (Nat.le_refl _)).ats HSC.out.2.1)
      simp only [Ar.v, HE.out] at CP
      go_wp2_with fail
      refine CP.out.mono ?_; rintro e w6 ⟨B, rfl, hI, hs, ha, hO, hb6⟩
      simp only [Ar.v]
      have HR := Lib.hid (H5.out.relay (i := 1) rfl hI hO hb6 E)
      rw [hs, ha] at HR
      have H6 := Lib.hid (H5.out.via hb6)
      clear hs ha hI hO y0 y1
      have z0 := H6.out.cell (i := 1) rfl 0 _ rfl
      have z1 := H6.out.cell (i := 1) rfl 1 _ rfl
      have z2 := H6.out.frozen (i := 1) rfl 0
      have z3 := H6.out.frozen (i := 1) rfl 1
      go_wp2
      exact bodyPost_ret (v := .tuple #[.agg #[.slice B.sa B.sn B.sc, .slice B.aa B.an B.ac], .int .i64 E]) (by simp [results, Try.results32, go_sem, *]) rfl (HR.out _ _)
    · have CH := Lib.hid (fun q => rhas8_any 22 1 q)
      rw [show dHas 22 1 = false by decide] at CH
      have CH2 := Lib.hid (fun q => rhas8_any 22 2 q)
      rw [show dHas 22 2 = true by decide] at CH2
      refine calls_madeT (S := []) (A := []) (E := 16) (by unfold dMon; rw [if_neg hno, if_pos (by decide)]) ?_
      clear hm hmi hno
      go_enter Try.func32, Try.ntmps32
      go_wp2_with fail
      rw [HW.out, HG.out]
      refine CMH.out.mono ?_; rintro e w5 ⟨rfl, hb5⟩
      have H5 := Lib.hid (H1.out.via hb5)
      go_wp2_with fail
      refine (CH.out _).mono ?_; rintro e w' ⟨rfl, hw'⟩
      have hw'' := hw'.symm
      subst hw''
      clear hw'
      go_wp2_with fail
      refine (CH2.out _).mono ?_; rintro e w' ⟨rfl, hw'⟩
      have hw'' := hw'.symm
      subst hw''
      clear y0 y1
      have z0 := H5.out.cell (i := 1) rfl 0 _ rfl
      have z1 := H5.out.cell (i := 1) rfl 1 _ rfl
      have z2 := H5.out.frozen (i := 1) rfl 0
      have z3 := H5.out.frozen (i := 1) rfl 1
      go_wp2
      exact bodyPost_ret (v := .tuple #[.agg #[.slice none 0 0, .slice none 0 0], .int .i64 16]) (by simp [results, Try.results32, go_sem, *]) rfl (BAD.out _ hb5 _ _ _)
    · have CH := Lib.hid (fun q => rhas8_any 39 1 q)
      rw [show dHas 39 1 = true by decide] at CH
      by_cases hr : 1 < tn
      · have hr' : (1 : Int) < tn := by omega
        refine calls_madeT (S := []) (A := []) (E := 12) (by unfold dMon; rw [if_neg hno, if_neg (by decide), if_pos ⟨by decide, by omega⟩]) ?_
        clear hm hmi hno hr
        go_enter Try.func32, Try.ntmps32
        go_wp2_with fail
        rw [HW.out, HG.out]
        refine CMH.out.mono ?_; rintro e w5 ⟨rfl, hb5⟩
        have H5 := Lib.hid (H1.out.via hb5)
        go_wp2_with fail
        refine (CH.out _).mono ?_; rintro e w' ⟨rfl, hw'⟩
        have hw'' := hw'.symm
        subst hw''
        clear y0 y1
        have y0 := H5.out.cell (i := 0) rfl 0 _ rfl
        have z0 := H5.out.cell (i := 1) rfl 0 _ rfl
        have z1 := H5.out.cell (i := 1) rfl 1 _ rfl
        have z2 := H5.out.frozen (i := 1) rfl 0
        have z3 := H5.out.frozen (i := 1) rfl 1
        go_wp2
        exact bodyPost_ret (v := .tuple #[.agg #[.slice none 0 0, .slice none 0 0], .int .i64 12]) (by simp [results, Try.results32, go_sem, *]) rfl (BAD.out _ hb5 _ _ _)
      have hr' : ¬ (1 : Int) < tn := by omega
      obtain ⟨E, HE⟩ : ∃ z, Hid (bsE [] [2] t b = z) := ⟨_, rfl⟩
      refine calls_madeT (S := []) (A := bsA [] [2] t b) (E := E) (by unfold dMon; rw [if_neg hno, if_neg (by decide), if_neg (by omega), if_neg (by decide), if_neg (by decide), if_pos rfl, HE.out]) ?_
      have CS := Lib.hid (fun q => rscalar8_any 2 q (by decide)); have DY2 : Hid (dDya 39 [] [2] t b = ([], bsA [] [2] t b, E)) := (by show _ = _; unfold dDya; rw [if_neg (by rw [amE_scal, hm]; decide), if_neg (by decide), if_neg (by rw [htl]; simp; omega), if_neg (by decide), if_pos rfl, HE.out])
      have hsc : tn = 0 → bn = 1 := fun h => by have := amE_scalar hm (by omega); omega
      have HSC := Lib.hid (And.intro hsc (And.intro han ht8))
      clear hm hmi hno hsc han ht8
      clear hr
      go_enter Try.func32, Try.ntmps32
      go_wp2_with fail
      rw [HW.out, HG.out]
      refine CMH.out.mono ?_; rintro e w5 ⟨rfl, hb5⟩
      have H5 := Lib.hid (H1.out.via hb5)
      go_wp2_with fail
      refine (CH.out _).mono ?_; rintro e w' ⟨rfl, hw'⟩
      have hw'' := hw'.symm
      subst hw''
      clear y0 y1 hw'
      have y0 := H5.out.cell (i := 0) rfl 0 _ rfl
      have y1 := H5.out.cell (i := 0) rfl 1 _ rfl
      go_wp2_with fail
      go_region_law (first
        | (go_simp; go_at_call 58; (with_reducible refine Calls.mono (CS.out _) ?_); rintro e w6 ⟨X, rfl, hXI, hXs, hXa, hXO, hb6⟩; simp only [Ar.v]; have H6 := Lib.hid ((H5.out.via (adrew1 _)).arrNew hXI hXO hb6); have HX := Lib.hid (And.intro hXI (And.intro hXs hXa)); clear y0 y1 hXI hXs hXa hXO; have y0 := H6.out.cell (i := 0) rfl 0 _ rfl; have y1 := H6.out.cell (i := 0) rfl 1 _ rfl; have CP0 := rdyad8_any HX.out.1 (HY.out.below H6.out.belowN (Nat.le_refl _)) 39; rw [HX.out.2.1, HX.out.2.2] at CP0; simp only [Ar.v] at CP0; rw [DY2.out] at CP0; have CP : Calls Try.prog 33 _ _ (MadeE _ [] (bsA [] [2] t b) E) := CP0)
        | (go_simp; go_at_call 33; (with_reducible refine Calls.mono CP ?_); rintro e w7 ⟨B, rfl, hI, hs, ha, hO, hb7⟩; simp only [Ar.v]; have HR := Lib.hid (H6.out.relay (i := 1) rfl hI hO hb7 E); rw [hs, ha] at HR; have H7 := Lib.hid (H6.out.via hb7); clear hs ha hI hO y0 y1; have z0 := H7.out.cell (i := 1) rfl 0 _ rfl; have z1 := H7.out.cell (i := 1) rfl 1 _ rfl; have z2 := H7.out.frozen (i := 1) rfl 0; have z3 := H7.out.frozen (i := 1) rfl 1))
      all_goals
        go_wp2
        exact bodyPost_ret (v := .tuple #[.agg #[.slice B.sa B.sn B.sc, .slice B.aa B.an B.ac], .int .i64 E]) (by simp [results, Try.results32, go_sem, *]) rfl (HR.out _ _)
    · have CH := Lib.hid (fun q => rhas8_any 40 1 q)
      rw [show dHas 40 1 = true by decide] at CH
      obtain ⟨E, HE⟩ : ∃ z, Hid (biE t b = z) := ⟨_, rfl⟩
      refine calls_madeT (S := biS t b) (A := biA t b) (E := E) (by unfold dMon; rw [if_neg hno, if_neg (by decide), if_neg (by omega), if_neg (by decide), if_neg (by decide), if_neg (by decide), HE.out]) ?_
      have hsc : tn = 0 → bn = 1 := fun h => by have := amE_scalar hm (by omega); omega
      have HSC := Lib.hid (And.intro hsc (And.intro han ht8))
      clear hm hmi hno hsc han ht8
      go_enter Try.func32, Try.ntmps32
      go_wp2_with fail
      rw [HW.out, HG.out]
      refine CMH.out.mono ?_; rintro e w5 ⟨rfl, hb5⟩
      have H5 := Lib.hid (H1.out.via hb5)
      go_wp2_with fail
      refine (CH.out _).mono ?_; rintro e w' ⟨rfl, hw'⟩
      have hw'' := hw'.symm
      subst hw''
      clear y0 y1 hw'
      have y0 := H5.out.cell (i := 0) rfl 0 _ rfl
      have y1 := H5.out.cell (i := 0) rfl 1 _ rfl
      have CP := Lib.hid (rbinary8_any (HY.out.below H5.out.belowN (Nat.le_refl _)) HSC.out.2.1 HSC.out.2.2)
      simp only [Ar.v, HE.out] at CP
      go_wp2_with fail
      refine CP.out.mono ?_; rintro e w6 ⟨B, rfl, hI, hs, ha, hO, hb6⟩
      simp only [Ar.v]
      have HR := Lib.hid (H5.out.relay (i := 1) rfl hI hO hb6 E)
      rw [hs, ha] at HR
      have H6 := Lib.hid (H5.out.via hb6)
      clear hs ha hI hO y0 y1
      have z0 := H6.out.cell (i := 1) rfl 0 _ rfl
      have z1 := H6.out.cell (i := 1) rfl 1 _ rfl
      have z2 := H6.out.frozen (i := 1) rfl 0
      have z3 := H6.out.frozen (i := 1) rfl 1
      go_wp2
      exact bodyPost_ret (v := .tuple #[.agg #[.slice B.sa B.sn B.sc, .slice B.aa B.an B.ac], .int .i64 E]) (by simp [results, Try.results32, go_sem, *]) rfl (HR.out _ _)
  · refine calls_madeT (S := []) (A := []) (E := 1) (by unfold dMon; rw [if_pos (.inl hm)]) ?_
    rw [show decide (amE t b = 0) = false by simpa using hm] at CM
    have CMH := Lib.hid CM
    clear CM hm
    go_enter Try.func32, Try.ntmps32
    go_wp2_with fail
    rw [HW.out, HG.out]
    refine CMH.out.mono ?_; rintro e w5 ⟨rfl, hb5⟩
    have H5 := Lib.hid (H1.out.via hb5)
    clear y0 y1
    have z0 := H5.out.cell (i := 1) rfl 0 _ rfl
    have z1 := H5.out.cell (i := 1) rfl 1 _ rfl
    have z2 := H5.out.frozen (i := 1) rfl 0
    have z3 := H5.out.frozen (i := 1) rfl 1
    go_wp2
    exact bodyPost_ret (v := .tuple #[.agg #[.slice none 0 0, .slice none 0 0], .int .i64 1]) (by simp [results, Try.results32, go_sem, *]) rfl (BAD.out _ hb5 _ _ _)
end Go.Proofs.Ytoippfoeghjdoaa
