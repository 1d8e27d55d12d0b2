/- Contracts of digit.copies (all cases), digit.Monad and digit.Dyad. What every statement of layer 8 asks ahead: begun; its list and scalar. Plain laws of layer 8: counting. -/
import Derived.Test.YtoippfoeghjdoaaDigCopiesW
import Derived.Test.YtoippfoeghjdoaaDigPlacesW
import Derived.Test.YtoippfoeghjdoaaDigBinary
import Derived.Test.YtoippfoeghjdoaaEq4
import Derived.Deep.RegionHeld3
import Derived.Test.YtoippfoeghjdoaaCellPlain2
namespace Go.Proofs.Ytoippfoeghjdoaa
open Go.RowKit Go.Lib
set_option linter.unusedVariables false
set_option linter.unusedSimpArgs false
attribute [local go_sem] alloc_drewN setCell_drewN
set_option maxRecDepth 100000 in
set_option maxHeartbeats 800000 in
theorem copies_w {w : World} {X Y : Ar} (hX : X.Is w) (hY : Y.Is w) (h1 : X.sn = 1) (h2 : 0 < Y.sn) (h3 : (X.an : Int) ≠ Y.s.getD 0 0) :
    Calls Try.prog 50 #[X.v, Y.v] w (MadeE w [] [] 11) := by
  obtain ⟨sa, sn, sc, aa, an, ac, s, a⟩ := X
  obtain ⟨ta, tn, tc, ba, bn, bc, t, b⟩ := Y
  simp only [Ar.v]
  simp only at h1 h2 h3
  subst h1
  obtain ⟨x, HX⟩ : ∃ x, Hid (t.getD 0 0 = x) := ⟨_, rfl⟩
  rw [HX.out] at h3
  have q1 : ((an : Int) != x) = true := by simp; omega
  have q2 : (0 : Int) < tn := by omega
  obtain ⟨b3, o3, e3, hc3⟩ := hY.shp.at (by simp only; omega)
  have ht := hc3 0 (by simp only; omega)
  simp only [Nat.add_zero] at ht e3
  rw [HX.out] at ht
  subst e3
  obtain ⟨W, HW⟩ : ∃ z, Hid (((w.alloc (.cells #[.slice sa 1 sc, .slice aa an ac] 38)).alloc (.cells #[.slice (some ⟨b3, o3, none⟩) tn tc, .slice ba bn bc] 38)).alloc (.cells #[.slice none 0 0, .slice none 0 0] 38) = z) := ⟨_, rfl⟩
  have H0 := (((Sp.start Non w).alloc 38 2 1 #[.slice sa 1 sc, .slice aa an ac] rfl (by decide)).alloc 38 2 1 #[.slice (some ⟨b3, o3, none⟩) tn tc, .slice ba bn bc] rfl (by decide)).alloc 38 2 1 #[.slice none 0 0, .slice none 0 0] rfl (by decide)
  rw [HW.out] at H0
  obtain ⟨b2, HB2⟩ : ∃ z, Hid (w.heap.size = z) := ⟨_, rfl⟩
  have H1_ := H0
  try simp only [List.cons_append, List.nil_append, List.set_cons_zero, List.set_cons_succ, List.map_cons, List.map_nil, List.getD_cons_zero, List.getD_cons_succ, World.size_alloc] at H1_
  have H1 := Lib.hid H1_
  clear H1_
  rw [HB2.out] at H1
  have ht2 : W.cell? ⟨b3, o3, none⟩ = some (.int .i64 x) := (H1.out.belowN.cell (p := ⟨b3, o3, none⟩) (World.block_lt_of_cell? w _ ht)).trans ht
  have x0 := H1.out.cell (i := 0) rfl 0 _ rfl
  have x1 := H1.out.cell (i := 0) rfl 1 _ rfl
  have y0 := H1.out.cell (i := 1) rfl 0 _ rfl
  have y1 := H1.out.cell (i := 1) rfl 1 _ rfl
  have z0 := H1.out.cell (i := 2) rfl 0 _ rfl
  have z1 := H1.out.cell (i := 2) rfl 1 _ rfl
  have z2 := H1.out.frozen (i := 2) rfl 0
  have z3 := H1.out.frozen (i := 2) rfl 1
  have HF : Hid (∀ q u v, MadeE w [] [] 11 (.returned (.tuple #[.agg #[.slice none 0 0, .slice none 0 0], .int .i64 11])) (((W.drewN q).setCell ⟨b2 + 1 + 1, 0, none⟩ u).setCell ⟨b2 + 1 + 1, 1, none⟩ v)) := fun q u v => made_nil 11 (((H1.out.via (adrew W q)).put (i := 2) rfl 0 u).put (i := 2) rfl 1 v).belowN
  clear hX hY H0 h3 hc3 ht
  go_enter Try.func50, Try.ntmps50
  go_wp2_with fail
  rw [HW.out, HB2.out]
  go_step3
  go_wp2_with fail
  go_quiet (fail)
  go_wp2
  exact bodyPost_ret (v := .tuple #[.agg #[.slice none 0 0, .slice none 0 0], .int .i64 11]) (by simp [results, Try.results50, go_sem, *]) rfl (HF.out _ _ _)
theorem amE_an {s a : List Int} (h : amE s a = 0) : a.length ≤ 4096 := by
  obtain ⟨h1, h2⟩ := amE_zero h
  have := pr_nonneg h1
  omega
theorem amE_scalar {s a : List Int} (h : amE s a = 0) (h0 : s.length = 0) : a.length = 1 := by
  obtain ⟨h1, h2⟩ := amE_zero h
  have e : s = [] := List.eq_nil_of_length_eq_zero h0
  rw [e] at h2
  have : pr [] = (1 : Int) := rfl
  omega
theorem copies_any {w : World} {X Y : Ar} (hX : X.Is w) (hY : Y.Is w) (h1 : X.sn ≤ 1) (hmx : amE X.s X.a = 0) (hmy : amE Y.s Y.a = 0) :
    Calls Try.prog 50 #[X.v, Y.v] w (MadeE w (cpS X.s X.a Y.s) (cpA X.s X.a Y.s Y.a) (cpE X.s X.a Y.s)) := by
  have hxl : X.s.length = X.sn := hX.shp.len
  have hxa : X.a.length = X.an := hX.ats.len
  have hyl : Y.s.length = Y.sn := hY.shp.len
  have hxn : X.an ≤ 4096 := by have := amE_an hmx; omega
  rcases (show X.sn = 0 ∨ X.sn = 1 by omega) with e1 | e1
  · have h3 : X.an = 1 := by have := amE_scalar hmx (by omega); omega
    by_cases e2 : Y.sn = 0
    · exact copies_0 hX hY e1 hmy hxn e2 h3
    · exact copies_1 hX hY e1 hmy hxn (by omega) h3
  · by_cases e2 : Y.sn = 0
    · exact copies_2 hX hY e1 hmy hxn e2
    · by_cases h : (X.an : Int) = Y.s.getD 0 0
      · exact copies_3 hX hY e1 hmy hxn (by omega) h
      · have hw : cpW X.s X.a Y.s := ⟨by omega, by omega, by rw [hxa]; exact h⟩
        have eE : cpE X.s X.a Y.s = 11 := by unfold cpE; rw [if_pos hw]
        have eS : cpS X.s X.a Y.s = [] := by unfold cpS; rw [if_neg (by omega)]
        have eA : cpA X.s X.a Y.s Y.a = [] := by unfold cpA; rw [if_neg (by omega)]
        rw [eE, eS, eA]
        exact copies_w hX hY e1 (by omega) h
/-- What digit.Monad and digit.Dyad tell: lengths, atoms, the error's number. -/
def dMon (op : Int) (t b : List Int) : List Int × List Int × Int :=
  if amE t b ≠ 0 ∨ dMine op = false then ([], [], 1)
  else if dHas op 1 = false then ([], [], 16)
  else if op ≠ 40 ∧ 1 < t.length then ([], [], 12)
  else if op = 34 then (pcS b, pcA b, pcE b)
  else if op = 43 then (whS b, whA b, whE b)
  else if op = 39 then ([], bsA [] [2] t b, bsE [] [2] t b)
  else (biS t b, biA t b, biE t b)
def dDya (op : Int) (s a t b : List Int) : List Int × List Int × Int :=
  if amE s a ≠ 0 ∨ amE t b ≠ 0 ∨ dMine op = false then ([], [], 1)
  else if dHas op 2 = false then ([], [], 16)
  else if 1 < s.length ∨ (op = 39 ∧ 1 < t.length) ∨ (op = 40 ∧ 0 < t.length) then ([], [], 12)
  else if op = 22 then (cpS s a t, cpA s a t b, cpE s a t)
  else if op = 39 then ([], bsA s a t b, bsE s a t b)
  else (anS s a (b.getD 0 0), anA a (b.getD 0 0), anE a (b.getD 0 0))
def MadeT (w : World) (r : List Int × List Int × Int) (e : Ending) (w' : World) : Prop := MadeE w r.1 r.2.1 r.2.2 e w'
/-- An answer that a call made is laid into the result's cell. -/
theorem Sp.relay {w w1 w2 : World} {L : List Pt} {i g : Nat} {T : TypeId} {u v : Value} (H : Sp Non w w1 L) (e : L[i]? = some (Pt.row ⟨T, 2, some ⟨g, 0, none⟩, 1, 1, [u, v]⟩)) {B : Ar} (hI : B.Is w2) (hO : B.Own w2 w1.heap.size) (hb : Below w1.heap.size w1 w2) (err : Int) (p q : Value) :
    MadeE w B.s B.a err (.returned (.tuple #[.agg #[.slice B.sa B.sn B.sc, .slice B.aa B.an B.ac], .int .i64 err])) ((w2.setCell ⟨g, 0, none⟩ p).setCell ⟨g, 1, none⟩ q) := by
  have hl : i < L.length := (List.getElem?_eq_some_iff.1 e).1
  have h1 : (L ++ [Pt.arr B])[i]? = some (Pt.row ⟨T, 2, some ⟨g, 0, none⟩, 1, 1, [u, v]⟩) := by rw [List.getElem?_append_left hl]; exact e
  have h2 := (H.arrNew hI hO hb).put h1 0 p
  have h3 := h2.put (i := i) (n := 1) (c := 1) (E := T) (sz := 2) (xs := [p, v]) (by rw [List.getElem?_set_self (by rw [List.length_append]; omega)]; rfl) 1 q
  exact h3.madeE (i := L.length) (B := B) (by rw [List.getElem?_set_ne (by omega), List.getElem?_set_ne (by omega), List.getElem?_append_right (Nat.le_refl _)]; simp) err
/-- A call's answer as a triple. -/
theorem calls_madeT {f : Nat} {xs : Array Value} {w : World} {r : List Int × List Int × Int} {S A : List Int} {E : Int} (e : r = (S, A, E)) (h : Calls Try.prog f xs w (MadeE w S A E)) : Calls Try.prog f xs w (MadeT w r) := by
  subst e; exact h
set_option maxRecDepth 100000 in
set_option maxHeartbeats 3200000 in
theorem dmonad_any {w : World} {Y : Ar} (hY : Y.Is w) (op : Int) :
    Calls Try.prog 20 #[.int .i64 op, Y.v] w (MadeT w (dMon op Y.s Y.a)) := by
  obtain ⟨ta, tn, tc, ba, bn, bc, t, b⟩ := Y
  simp only [Ar.v]
  have htl : t.length = tn := hY.shp.len
  have hbl : b.length = bn := hY.ats.len
  obtain ⟨W, HW⟩ : ∃ z, Hid ((w.alloc (.cells #[.slice ta tn tc, .slice ba bn bc] 38)).alloc (.cells #[.slice none 0 0, .slice none 0 0] 38) = z) := ⟨_, rfl⟩
  have H0 := ((Sp.start Non w).alloc 38 2 1 #[.slice ta tn tc, .slice ba bn bc] rfl (by decide)).alloc 38 2 1 #[.slice none 0 0, .slice none 0 0] rfl (by decide)
  rw [HW.out] at H0
  obtain ⟨g, HG⟩ : ∃ z, Hid (w.heap.size = z) := ⟨_, rfl⟩
  have H1_ := H0
  try simp only [List.cons_append, List.nil_append, List.set_cons_zero, List.set_cons_succ, List.map_cons, List.map_nil, List.getD_cons_zero, List.getD_cons_succ, World.size_alloc] at H1_
  have H1 := Lib.hid H1_
  clear H1_
  rw [HG.out] at H1
  have CM := arrmay_any (hY.below H1.out.belowN (Nat.le_refl _))
  simp only [Ar.v] at CM
  have HY := Lib.hid hY
  have y0 := H1.out.cell (i := 0) rfl 0 _ rfl
  have y1 := H1.out.cell (i := 0) rfl 1 _ rfl
  have BAD : Hid (∀ w1, Below W.heap.size W w1 → ∀ e u v, MadeE w [] [] e (.returned (.tuple #[.agg #[.slice none 0 0, .slice none 0 0], .int .i64 e])) ((w1.setCell ⟨g + 1, 0, none⟩ u).setCell ⟨g + 1, 1, none⟩ v)) := fun w1 hb e u v => made_nil e (((H1.out.via hb).put (i := 1) rfl 0 u).put (i := 1) rfl 1 v).belowN
  clear H0 hY
  by_cases hm : amE t b = 0
  · have han : bn ≤ 4096 := by have := amE_an hm; omega
    have ht8 : tn ≤ 8 := by rw [← htl]; exact (mayE_zero (amE_zero hm).1).2.1
    rw [hm] at CM
    have CMH := Lib.hid CM
    have CD := Lib.hid (fun q => dmine_any op q)
    clear CM
    by_cases hmi : dMine op = false
    · refine calls_madeT (S := []) (A := []) (E := 1) (by unfold dMon; rw [if_pos (.inr hmi)]) ?_
      rw [hmi] at CD
      clear hm hmi
      go_enter Try.func20, Try.ntmps20
      go_wp2_with fail
      rw [HW.out, HG.out]
      refine CMH.out.mono ?_; rintro e w5 ⟨rfl, hb5⟩
      have H5 := Lib.hid (H1.out.via hb5)
      go_wp2_with fail
      refine (CD.out _).mono ?_; rintro e w' ⟨rfl, hw'⟩
      have hw'' := hw'.symm
      subst hw''
      clear y0 y1
      have z0 := H5.out.cell (i := 1) rfl 0 _ rfl
      have z1 := H5.out.cell (i := 1) rfl 1 _ rfl
      have z2 := H5.out.frozen (i := 1) rfl 0
      have z3 := H5.out.frozen (i := 1) rfl 1
      go_wp2
      exact bodyPost_ret (v := .tuple #[.agg #[.slice none 0 0, .slice none 0 0], .int .i64 1]) (by simp [results, Try.results20, go_sem, *]) rfl (BAD.out _ hb5 _ _ _)
    have hmt : dMine op = true := by simpa using hmi
    have hop : op = 34 ∨ op = 43 ∨ op = 22 ∨ op = 39 ∨ op = 40 := by simpa [dMine] using hmt
    rw [hmt] at CD
    clear hmt
    have hno : ¬ (amE t b ≠ 0 ∨ dMine op = false) := fun h => h.elim (fun h => h hm) (fun h => hmi h)
    rcases hop with rfl | rfl | rfl | rfl | rfl
    · have CH := Lib.hid (fun q => dhas_any 34 1 q)
      rw [show dHas 34 1 = true by decide] at CH
      by_cases hr : 1 < tn
      · have hr' : (1 : Int) < tn := by omega
        refine calls_madeT (S := []) (A := []) (E := 12) (by unfold dMon; rw [if_neg hno, if_neg (by decide), if_pos ⟨by decide, by omega⟩]) ?_
        clear hm hmi hno hr
        go_enter Try.func20, Try.ntmps20
        go_wp2_with fail
        rw [HW.out, HG.out]
        refine CMH.out.mono ?_; rintro e w5 ⟨rfl, hb5⟩
        have H5 := Lib.hid (H1.out.via hb5)
        go_wp2_with fail
        refine (CD.out _).mono ?_; rintro e w' ⟨rfl, hw'⟩
        have hw'' := hw'.symm
        subst hw''
        clear hw'
        go_wp2_with fail
        refine (CH.out _).mono ?_; rintro e w' ⟨rfl, hw'⟩
        have hw'' := hw'.symm
        subst hw''
        clear y0 y1
        have y0 := H5.out.cell (i := 0) rfl 0 _ rfl
        have z0 := H5.out.cell (i := 1) rfl 0 _ rfl
        have z1 := H5.out.cell (i := 1) rfl 1 _ rfl
        have z2 := H5.out.frozen (i := 1) rfl 0
        have z3 := H5.out.frozen (i := 1) rfl 1
        go_wp2
        exact bodyPost_ret (v := .tuple #[.agg #[.slice none 0 0, .slice none 0 0], .int .i64 12]) (by simp [results, Try.results20, go_sem, *]) rfl (BAD.out _ hb5 _ _ _)
      have hr' : ¬ (1 : Int) < tn := by omega
      obtain ⟨E, HE⟩ : ∃ z, Hid (pcE b = z) := ⟨_, rfl⟩
      refine calls_madeT (S := pcS b) (A := pcA b) (E := E) (by unfold dMon; rw [if_neg hno, if_neg (by decide), if_neg (by omega), if_pos rfl, HE.out]) ?_
      have hsc : tn = 0 → bn = 1 := fun h => by have := amE_scalar hm (by omega); omega
      have HSC := Lib.hid (And.intro hsc (And.intro han ht8))
      clear hm hmi hno hsc han ht8
      clear hr
      go_enter Try.func20, Try.ntmps20
      go_wp2_with fail
      rw [HW.out, HG.out]
      refine CMH.out.mono ?_; rintro e w5 ⟨rfl, hb5⟩
      have H5 := Lib.hid (H1.out.via hb5)
      go_wp2_with fail
      refine (CD.out _).mono ?_; rintro e w' ⟨rfl, hw'⟩
      have hw'' := hw'.symm
      subst hw''
      clear hw'
      go_wp2_with fail
      refine (CH.out _).mono ?_; rintro e w' ⟨rfl, hw'⟩
      have hw'' := hw'.symm
      subst hw''
      clear y0 y1 hw'
      have y0 := H5.out.cell (i := 0) rfl 0 _ rfl
      have y1 := H5.out.cell (i := 0) rfl 1 _ rfl
      have CP := Lib.hid (places_any (HY.out.below H5.out.belowN (Nat.le_refl _)).ats)
      simp only [Ar.v, HE.out] at CP
      go_wp2_with fail
      refine CP.out.mono ?_; rintro e w6 ⟨B, rfl, hI, hs, ha, hO, hb6⟩
      simp only [Ar.v]
      have HR := Lib.hid (H5.out.relay (i := 1) rfl hI hO hb6 E)
      rw [hs, ha] at HR
      have H6 := Lib.hid (H5.out.via hb6)
      clear hs ha hI hO y0 y1
      have z0 := H6.out.cell (i := 1) rfl 0 _ rfl
      have z1 := H6.out.cell (i := 1) rfl 1 _ rfl
      have z2 := H6.out.frozen (i := 1) rfl 0
      have z3 := H6.out.frozen (i := 1) rfl 1
      go_wp2
      exact bodyPost_ret (v := .tuple #[.agg #[.slice B.sa B.sn B.sc, .slice B.aa B.an B.ac], .int .i64 E]) (by simp [results, Try.results20, go_sem, *]) rfl (HR.out _ _)
    · have CH := Lib.hid (fun q => dhas_any 43 1 q)
      rw [show dHas 43 1 = true by decide] at CH
      by_cases hr : 1 < tn
      · have hr' : (1 : Int) < tn := by omega
        refine calls_madeT (S := []) (A := []) (E := 12) (by unfold dMon; rw [if_neg hno, if_neg (by decide), if_pos ⟨by decide, by omega⟩]) ?_
        clear hm hmi hno hr
        go_enter Try.func20, Try.ntmps20
        go_wp2_with fail
        rw [HW.out, HG.out]
        refine CMH.out.mono ?_; rintro e w5 ⟨rfl, hb5⟩
        have H5 := Lib.hid (H1.out.via hb5)
        go_wp2_with fail
        refine (CD.out _).mono ?_; rintro e w' ⟨rfl, hw'⟩
        have hw'' := hw'.symm
        subst hw''
        clear hw'
        go_wp2_with fail
        refine (CH.out _).mono ?_; rintro e w' ⟨rfl, hw'⟩
        have hw'' := hw'.symm
        subst hw''
        clear y0 y1
        have y0 := H5.out.cell (i := 0) rfl 0 _ rfl
        have z0 := H5.out.cell (i := 1) rfl 0 _ rfl
        have z1 := H5.out.cell (i := 1) rfl 1 _ rfl
        have z2 := H5.out.frozen (i := 1) rfl 0
        have z3 := H5.out.frozen (i := 1) rfl 1
        go_wp2
        exact bodyPost_ret (v := .tuple #[.agg #[.slice none 0 0, .slice none 0 0], .int .i64 12]) (by simp [results, Try.results20, go_sem, *]) rfl (BAD.out _ hb5 _ _ _)
      have hr' : ¬ (1 : Int) < tn := by omega
      obtain ⟨E, HE⟩ : ∃ z, Hid (whE b = z) := ⟨_, rfl⟩
      refine calls_madeT (S := whS b) (A := whA b) (E := E) (by unfold dMon; rw [if_neg hno, if_neg (by decide), if_neg (by omega), if_neg (by decide), if_pos rfl, HE.out]) ?_
      have hsc : tn = 0 → bn = 1 := fun h => by have := amE_scalar hm (by omega); omega
      have HSC := Lib.hid (And.intro hsc (And.intro han ht8))
      clear hm hmi hno hsc han ht8
      clear hr
      go_enter Try.func20, Try.ntmps20
      go_wp2_with fail
      rw [HW.out, HG.out]
      refine CMH.out.mono ?_; rintro e w5 ⟨rfl, hb5⟩
      have H5 := Lib.hid (H1.out.via hb5)
      go_wp2_with fail
      refine (CD.out _).mono ?_; rintro e w' ⟨rfl, hw'⟩
      have hw'' := hw'.symm
      subst hw''
      clear hw'
      go_wp2_with fail
      refine (CH.out _).mono ?_; rintro e w' ⟨rfl, hw'⟩
      have hw'' := hw'.symm
      subst hw''
      clear y0 y1 hw'
      have y0 := H5.out.cell (i := 0) rfl 0 _ rfl
      have y1 := H5.out.cell (i := 0) rfl 1 _ rfl
      have CP := Lib.hid (dwhere_any (HY.out.below H5.out.belowN (Nat.le_refl _)).ats)
      simp only [Ar.v, HE.out] at CP
      go_wp2_with fail
      refine CP.out.mono ?_; rintro e w6 ⟨B, rfl, hI, hs, ha, hO, hb6⟩
      simp only [Ar.v]
      have HR := Lib.hid (H5.out.relay (i := 1) rfl hI hO hb6 E)
      rw [hs, ha] at HR
      have H6 := Lib.hid (H5.out.via hb6)
      clear hs ha hI hO y0 y1
      have z0 := H6.out.cell (i := 1) rfl 0 _ rfl
      have z1 := H6.out.cell (i := 1) rfl 1 _ rfl
      have z2 := H6.out.frozen (i := 1) rfl 0
      have z3 := H6.out.frozen (i := 1) rfl 1
      go_wp2
      exact bodyPost_ret (v := .tuple #[.agg #[.slice B.sa B.sn B.sc, .slice B.aa B.an B.ac], .int .i64 E]) (by simp [results, Try.results20, go_sem, *]) rfl (HR.out _ _)
    · have CH := Lib.hid (fun q => dhas_any 22 1 q)
      rw [show dHas 22 1 = false by decide] at CH
      refine calls_madeT (S := []) (A := []) (E := 16) (by unfold dMon; rw [if_neg hno, if_pos (by decide)]) ?_
      clear hm hmi hno
      go_enter Try.func20, Try.ntmps20
      go_wp2_with fail
      rw [HW.out, HG.out]
      refine CMH.out.mono ?_; rintro e w5 ⟨rfl, hb5⟩
      have H5 := Lib.hid (H1.out.via hb5)
      go_wp2_with fail
      refine (CD.out _).mono ?_; rintro e w' ⟨rfl, hw'⟩
      have hw'' := hw'.symm
      subst hw''
      clear hw'
      go_wp2_with fail
      refine (CH.out _).mono ?_; rintro e w' ⟨rfl, hw'⟩
      have hw'' := hw'.symm
      subst hw''
      clear y0 y1
      have z0 := H5.out.cell (i := 1) rfl 0 _ rfl
      have z1 := H5.out.cell (i := 1) rfl 1 _ rfl
      have z2 := H5.out.frozen (i := 1) rfl 0
      have z3 := H5.out.frozen (i := 1) rfl 1
      go_wp2
      exact bodyPost_ret (v := .tuple #[.agg #[.slice none 0 0, .slice none 0 0], .int .i64 16]) (by simp [results, Try.results20, go_sem, *]) rfl (BAD.out _ hb5 _ _ _)
    · have CH := Lib.hid (fun q => dhas_any 39 1 q)
      rw [show dHas 39 1 = true by decide] at CH
      by_cases hr : 1 < tn
      · have hr' : (1 : Int) < tn := by omega
        refine calls_madeT (S := []) (A := []) (E := 12) (by unfold dMon; rw [if_neg hno, if_neg (by decide), if_pos ⟨by decide, by omega⟩]) ?_
        clear hm hmi hno hr
        go_enter Try.func20, Try.ntmps20
        go_wp2_with fail
        rw [HW.out, HG.out]
        refine CMH.out.mono ?_; rintro e w5 ⟨rfl, hb5⟩
        have H5 := Lib.hid (H1.out.via hb5)
        go_wp2_with fail
        refine (CD.out _).mono ?_; rintro e w' ⟨rfl, hw'⟩
        have hw'' := hw'.symm
        subst hw''
        clear hw'
        go_wp2_with fail
        refine (CH.out _).mono ?_; rintro e w' ⟨rfl, hw'⟩
        have hw'' := hw'.symm
        subst hw''
        clear y0 y1
        have y0 := H5.out.cell (i := 0) rfl 0 _ rfl
        have z0 := H5.out.cell (i := 1) rfl 0 _ rfl
        have z1 := H5.out.cell (i := 1) rfl 1 _ rfl
        have z2 := H5.out.frozen (i := 1) rfl 0
        have z3 := H5.out.frozen (i := 1) rfl 1
        go_wp2
        exact bodyPost_ret (v := .tuple #[.agg #[.slice none 0 0, .slice none 0 0], .int .i64 12]) (by simp [results, Try.results20, go_sem, *]) rfl (BAD.out _ hb5 _ _ _)
      have hr' : ¬ (1 : Int) < tn := by omega
      obtain ⟨E, HE⟩ : ∃ z, Hid (bsE [] [2] t b = z) := ⟨_, rfl⟩
      refine calls_madeT (S := []) (A := bsA [] [2] t b) (E := E) (by unfold dMon; rw [if_neg hno, if_neg (by decide), if_neg (by omega), if_neg (by decide), if_neg (by decide), if_pos rfl, HE.out]) ?_
      have CS := Lib.hid (fun q => scalar_any 2 q (by decide))
      have hsc : tn = 0 → bn = 1 := fun h => by have := amE_scalar hm (by omega); omega
      have HSC := Lib.hid (And.intro hsc (And.intro han ht8))
      clear hm hmi hno hsc han ht8
      clear hr
      go_enter Try.func20, Try.ntmps20
      go_wp2_with fail
      rw [HW.out, HG.out]
      refine CMH.out.mono ?_; rintro e w5 ⟨rfl, hb5⟩
      have H5 := Lib.hid (H1.out.via hb5)
      go_wp2_with fail
      refine (CD.out _).mono ?_; rintro e w' ⟨rfl, hw'⟩
      have hw'' := hw'.symm
      subst hw''
      clear hw'
      go_wp2_with fail
      refine (CH.out _).mono ?_; rintro e w' ⟨rfl, hw'⟩
      have hw'' := hw'.symm
      subst hw''
      clear y0 y1 hw'
      have y0 := H5.out.cell (i := 0) rfl 0 _ rfl
      have y1 := H5.out.cell (i := 0) rfl 1 _ rfl
      go_wp2_with fail
      go_region_law (first
        | (go_simp; go_at_call 46; (with_reducible refine Calls.mono (CS.out _) ?_); rintro e w6 ⟨X, rfl, hXI, hXs, hXa, hXO, hb6⟩; simp only [Ar.v]; have H6 := Lib.hid ((H5.out.via (adrew1 _)).arrNew hXI hXO hb6); have HX := Lib.hid (And.intro hXI (And.intro hXs hXa)); clear y0 y1 hXI hXs hXa hXO; have y0 := H6.out.cell (i := 0) rfl 0 _ rfl; have y1 := H6.out.cell (i := 0) rfl 1 _ rfl; have CP := base_any HX.out.1 (HY.out.below H6.out.belowN (Nat.le_refl _)) (by rw [← HX.out.1.shp.len, HX.out.2.1]; decide) (by simp only; omega) (fun _ => by rw [← HX.out.1.ats.len, HX.out.2.2]; rfl) HSC.out.1 (by rw [← HX.out.1.ats.len, HX.out.2.2]; decide) HSC.out.2.1; rw [HX.out.2.1, HX.out.2.2] at CP; simp only [Ar.v, HE.out] at CP)
        | (go_simp; go_at_call 45; (with_reducible refine Calls.mono CP ?_); rintro e w7 ⟨B, rfl, hI, hs, ha, hO, hb7⟩; simp only [Ar.v]; have HR := Lib.hid (H6.out.relay (i := 1) rfl hI hO hb7 E); rw [hs, ha] at HR; have H7 := Lib.hid (H6.out.via hb7); clear hs ha hI hO y0 y1; have z0 := H7.out.cell (i := 1) rfl 0 _ rfl; have z1 := H7.out.cell (i := 1) rfl 1 _ rfl; have z2 := H7.out.frozen (i := 1) rfl 0; have z3 := H7.out.frozen (i := 1) rfl 1))
      all_goals
        go_wp2
        exact bodyPost_ret (v := .tuple #[.agg #[.slice B.sa B.sn B.sc, .slice B.aa B.an B.ac], .int .i64 E]) (by simp [results, Try.results20, go_sem, *]) rfl (HR.out _ _)
    · have CH := Lib.hid (fun q => dhas_any 40 1 q)
      rw [show dHas 40 1 = true by decide] at CH
      obtain ⟨E, HE⟩ : ∃ z, Hid (biE t b = z) := ⟨_, rfl⟩
      refine calls_madeT (S := biS t b) (A := biA t b) (E := E) (by unfold dMon; rw [if_neg hno, if_neg (by decide), if_neg (by omega), if_neg (by decide), if_neg (by decide), if_neg (by decide), HE.out]) ?_
      have hsc : tn = 0 → bn = 1 := fun h => by have := amE_scalar hm (by omega); omega
      have HSC := Lib.hid (And.intro hsc (And.intro han ht8))
      clear hm hmi hno hsc han ht8
      go_enter Try.func20, Try.ntmps20
      go_wp2_with fail
      rw [HW.out, HG.out]
      refine CMH.out.mono ?_; rintro e w5 ⟨rfl, hb5⟩
      have H5 := Lib.hid (H1.out.via hb5)
      go_wp2_with fail
      refine (CD.out _).mono ?_; rintro e w' ⟨rfl, hw'⟩
      have hw'' := hw'.symm
      subst hw''
      clear hw'
      go_wp2_with fail
      refine (CH.out _).mono ?_; rintro e w' ⟨rfl, hw'⟩
      have hw'' := hw'.symm
      subst hw''
      clear y0 y1 hw'
      have y0 := H5.out.cell (i := 0) rfl 0 _ rfl
      have y1 := H5.out.cell (i := 0) rfl 1 _ rfl
      have CP := Lib.hid (binary_any (HY.out.below H5.out.belowN (Nat.le_refl _)) HSC.out.2.1 HSC.out.2.2)
      simp only [Ar.v, HE.out] at CP
      go_wp2_with fail
      refine CP.out.mono ?_; rintro e w6 ⟨B, rfl, hI, hs, ha, hO, hb6⟩
      simp only [Ar.v]
      have HR := Lib.hid (H5.out.relay (i := 1) rfl hI hO hb6 E)
      rw [hs, ha] at HR
      have H6 := Lib.hid (H5.out.via hb6)
      clear hs ha hI hO y0 y1
      have z0 := H6.out.cell (i := 1) rfl 0 _ rfl
      have z1 := H6.out.cell (i := 1) rfl 1 _ rfl
      have z2 := H6.out.frozen (i := 1) rfl 0
      have z3 := H6.out.frozen (i := 1) rfl 1
      go_wp2
      exact bodyPost_ret (v := .tuple #[.agg #[.slice B.sa B.sn B.sc, .slice B.aa B.an B.ac], .int .i64 E]) (by simp [results, Try.results20, go_sem, *]) rfl (HR.out _ _)
  · refine calls_madeT (S := []) (A := []) (E := 1) (by unfold dMon; rw [if_pos (.inl hm)]) ?_
    obtain ⟨me, HME⟩ : ∃ z, Hid (amE t b = z) := ⟨_, rfl⟩
    rw [HME.out] at CM hm
    have q0 : (me != 0) = true := by simpa using hm
    have CMH := Lib.hid CM
    clear CM hm
    go_enter Try.func20, Try.ntmps20
    go_wp2_with fail
    rw [HW.out, HG.out]
    refine CMH.out.mono ?_; rintro e w5 ⟨rfl, hb5⟩
    have H5 := Lib.hid (H1.out.via hb5)
    clear y0 y1
    have z0 := H5.out.cell (i := 1) rfl 0 _ rfl
    have z1 := H5.out.cell (i := 1) rfl 1 _ rfl
    have z2 := H5.out.frozen (i := 1) rfl 0
    have z3 := H5.out.frozen (i := 1) rfl 1
    go_wp2
    exact bodyPost_ret (v := .tuple #[.agg #[.slice none 0 0, .slice none 0 0], .int .i64 1]) (by simp [results, Try.results20, go_sem, *]) rfl (BAD.out _ hb5 _ _ _)
set_option maxRecDepth 100000 in
set_option maxHeartbeats 3200000 in
theorem ddyad_any {w : World} {X Y : Ar} (hX : X.Is w) (hY : Y.Is w) (op : Int) :
    Calls Try.prog 24 #[.int .i64 op, X.v, Y.v] w (MadeT w (dDya op X.s X.a Y.s Y.a)) := by
  obtain ⟨sa, sn, sc, aa, an, ac, s, a⟩ := X
  obtain ⟨ta, tn, tc, ba, bn, bc, t, b⟩ := Y
  simp only [Ar.v]
  have hsl : s.length = sn := hX.shp.len
  have hal : a.length = an := hX.ats.len
  have htl : t.length = tn := hY.shp.len
  have hbl : b.length = bn := hY.ats.len
  obtain ⟨W, HW⟩ : ∃ z, Hid (((w.alloc (.cells #[.slice sa sn sc, .slice aa an ac] 38)).alloc (.cells #[.slice ta tn tc, .slice ba bn bc] 38)).alloc (.cells #[.slice none 0 0, .slice none 0 0] 38) = z) := ⟨_, rfl⟩
  have H0 := (((Sp.start Non w).alloc 38 2 1 #[.slice sa sn sc, .slice aa an ac] rfl (by decide)).alloc 38 2 1 #[.slice ta tn tc, .slice ba bn bc] rfl (by decide)).alloc 38 2 1 #[.slice none 0 0, .slice none 0 0] rfl (by decide)
  rw [HW.out] at H0
  obtain ⟨g, HG⟩ : ∃ z, Hid (w.heap.size = z) := ⟨_, rfl⟩
  have H1_ := H0
  try simp only [List.cons_append, List.nil_append, List.set_cons_zero, List.set_cons_succ, List.map_cons, List.map_nil, List.getD_cons_zero, List.getD_cons_succ, World.size_alloc] at H1_
  have H1 := Lib.hid H1_
  clear H1_
  rw [HG.out] at H1
  have CMX := arrmay_any (hX.below H1.out.belowN (Nat.le_refl _))
  have CMY := fun w1 (hb : Below W.heap.size W w1) => arrmay_any (hY.below (H1.out.via hb).belowN (Nat.le_refl _))
  simp only [Ar.v] at CMX CMY
  have HX := Lib.hid hX
  have HY := Lib.hid hY
  have x0 := H1.out.cell (i := 0) rfl 0 _ rfl
  have x1 := H1.out.cell (i := 0) rfl 1 _ rfl
  have y0 := H1.out.cell (i := 1) rfl 0 _ rfl
  have y1 := H1.out.cell (i := 1) rfl 1 _ rfl
  have BAD : Hid (∀ w1, Below W.heap.size W w1 → ∀ e u v, MadeE w [] [] e (.returned (.tuple #[.agg #[.slice none 0 0, .slice none 0 0], .int .i64 e])) ((w1.setCell ⟨g + 1 + 1, 0, none⟩ u).setCell ⟨g + 1 + 1, 1, none⟩ v)) := fun w1 hb e u v => made_nil e (((H1.out.via hb).put (i := 2) rfl 0 u).put (i := 2) rfl 1 v).belowN
  clear H0 hX hY
  by_cases hmx : ¬ amE s a = 0
  · refine calls_madeT (S := []) (A := []) (E := 1) (by unfold dDya; rw [if_pos (.inl hmx)]) ?_
    obtain ⟨me, HME⟩ : ∃ z, Hid (amE s a = z) := ⟨_, rfl⟩
    rw [HME.out] at CMX hmx
    have q0 : (me != 0) = true := by simpa using hmx
    have CMXH := Lib.hid CMX
    clear CMX CMY hmx
    have CMX := Lib.hid CMXH.out
    go_enter Try.func24, Try.ntmps24
    go_wp2_with fail
    rw [HW.out, HG.out]
    refine CMXH.out.mono ?_; rintro e w4 ⟨rfl, hb4⟩
    have H4 := Lib.hid (H1.out.via hb4)
    clear x0 x1 y0 y1 CMX
    have z0 := H4.out.cell (i := 2) rfl 0 _ rfl
    have z1 := H4.out.cell (i := 2) rfl 1 _ rfl
    have z2 := H4.out.frozen (i := 2) rfl 0
    have z3 := H4.out.frozen (i := 2) rfl 1
    go_wp2
    exact bodyPost_ret (v := .tuple #[.agg #[.slice none 0 0, .slice none 0 0], .int .i64 1]) (by simp [results, Try.results24, go_sem, *]) rfl (BAD.out _ hb4 _ _ _)
  have hmx : amE s a = 0 := Decidable.not_not.1 hmx
  have han : an ≤ 4096 := by have := amE_an hmx; omega
  have hsc : sn = 0 → an = 1 := fun h => by have := amE_scalar hmx (by omega); omega
  rw [hmx] at CMX
  have CMXH := Lib.hid CMX
  have CMYH := Lib.hid CMY
  clear CMX CMY
  have CMX := CMXH
  clear CMXH
  by_cases hmy : ¬ amE t b = 0
  · refine calls_madeT (S := []) (A := []) (E := 1) (by unfold dDya; rw [if_pos (.inr (.inl hmy))]) ?_
    obtain ⟨me, HME⟩ : ∃ z, Hid (amE t b = z) := ⟨_, rfl⟩
    have CMYQ := CMYH.out
    rw [HME.out] at hmy CMYQ
    have CMY := Lib.hid CMYQ
    have q0 : (me != 0) = true := by simpa using hmy
    clear hmx hmy CMYQ CMYH
    go_enter Try.func24, Try.ntmps24
    go_wp2_with fail
    rw [HW.out, HG.out]
    refine CMX.out.mono ?_; rintro e w4 ⟨rfl, hb4⟩
    have H4 := Lib.hid (H1.out.via hb4)
    clear x0 x1 y0 y1
    have y0 := H4.out.cell (i := 1) rfl 0 _ rfl
    have y1 := H4.out.cell (i := 1) rfl 1 _ rfl
    go_wp2_with fail
    refine (CMY.out _ hb4).mono ?_; rintro e w5 ⟨rfl, hb5'⟩
    have hb5 := abvia hb4 hb5'
    have H5 := Lib.hid (H4.out.via hb5')
    clear y0 y1 hb5'
    have z0 := H5.out.cell (i := 2) rfl 0 _ rfl
    have z1 := H5.out.cell (i := 2) rfl 1 _ rfl
    have z2 := H5.out.frozen (i := 2) rfl 0
    have z3 := H5.out.frozen (i := 2) rfl 1
    go_wp2
    exact bodyPost_ret (v := .tuple #[.agg #[.slice none 0 0, .slice none 0 0], .int .i64 1]) (by simp [results, Try.results24, go_sem, *]) rfl (BAD.out _ hb5 _ _ _)
  have hmy : amE t b = 0 := Decidable.not_not.1 hmy
  have hbn : bn ≤ 4096 := by have := amE_an hmy; omega
  have htc : tn = 0 → bn = 1 := fun h => by have := amE_scalar hmy (by omega); omega
  have CMYQ := CMYH.out
  rw [hmy] at CMYQ
  have CMY := Lib.hid CMYQ
  clear CMYQ CMYH
  have CD := Lib.hid (fun q => dmine_any op q)
  by_cases hmi : dMine op = false
  · refine calls_madeT (S := []) (A := []) (E := 1) (by unfold dDya; rw [if_pos (.inr (.inr hmi))]) ?_
    rw [hmi] at CD
    clear hmx hmy hmi
    go_enter Try.func24, Try.ntmps24
    go_wp2_with fail
    rw [HW.out, HG.out]
    refine CMX.out.mono ?_; rintro e w4 ⟨rfl, hb4⟩
    have H4 := Lib.hid (H1.out.via hb4)
    clear x0 x1 y0 y1
    have y0 := H4.out.cell (i := 1) rfl 0 _ rfl
    have y1 := H4.out.cell (i := 1) rfl 1 _ rfl
    go_wp2_with fail
    refine (CMY.out _ hb4).mono ?_; rintro e w5 ⟨rfl, hb5'⟩
    have hb5 := abvia hb4 hb5'
    have H5 := Lib.hid (H4.out.via hb5')
    clear y0 y1 hb5'
    go_wp2_with fail
    refine (CD.out _).mono ?_; rintro e w' ⟨rfl, hw'⟩
    have hw'' := hw'.symm
    subst hw''
    clear hw'
    have z0 := H5.out.cell (i := 2) rfl 0 _ rfl
    have z1 := H5.out.cell (i := 2) rfl 1 _ rfl
    have z2 := H5.out.frozen (i := 2) rfl 0
    have z3 := H5.out.frozen (i := 2) rfl 1
    go_wp2
    exact bodyPost_ret (v := .tuple #[.agg #[.slice none 0 0, .slice none 0 0], .int .i64 1]) (by simp [results, Try.results24, go_sem, *]) rfl (BAD.out _ hb5 _ _ _)
  have hmt : dMine op = true := by simpa using hmi
  have hop : op = 34 ∨ op = 43 ∨ op = 22 ∨ op = 39 ∨ op = 40 := by simpa [dMine] using hmt
  rw [hmt] at CD
  clear hmt
  have hno : ¬ (amE s a ≠ 0 ∨ amE t b ≠ 0 ∨ dMine op = false) := fun h => h.elim (fun h => h hmx) (fun h => h.elim (fun h => h hmy) (fun h => hmi h))
  have HSC := Lib.hid (And.intro hsc (And.intro htc (And.intro han hbn)))
  have HMM := Lib.hid (And.intro hmx hmy)
  clear hsc htc han hbn
  rcases hop with rfl | rfl | rfl | rfl | rfl
  · have CH := Lib.hid (fun q => dhas_any 34 2 q)
    rw [show dHas 34 2 = false by decide] at CH
    refine calls_madeT (S := []) (A := []) (E := 16) (by unfold dDya; rw [if_neg hno, if_pos (by decide)]) ?_
    clear hmx hmy hmi hno
    go_enter Try.func24, Try.ntmps24
    go_wp2_with fail
    rw [HW.out, HG.out]
    refine CMX.out.mono ?_; rintro e w4 ⟨rfl, hb4⟩
    have H4 := Lib.hid (H1.out.via hb4)
    clear x0 x1 y0 y1
    have y0 := H4.out.cell (i := 1) rfl 0 _ rfl
    have y1 := H4.out.cell (i := 1) rfl 1 _ rfl
    go_wp2_with fail
    refine (CMY.out _ hb4).mono ?_; rintro e w5 ⟨rfl, hb5'⟩
    have hb5 := abvia hb4 hb5'
    have H5 := Lib.hid (H4.out.via hb5')
    clear y0 y1 hb5'
    go_wp2_with fail
    refine (CD.out _).mono ?_; rintro e w' ⟨rfl, hw'⟩
    have hw'' := hw'.symm
    subst hw''
    clear hw'
    go_wp2_with fail
    refine (CH.out _).mono ?_; rintro e w' ⟨rfl, hw'⟩
    have hw'' := hw'.symm
    subst hw''
    clear hw'
    have z0 := H5.out.cell (i := 2) rfl 0 _ rfl
    have z1 := H5.out.cell (i := 2) rfl 1 _ rfl
    have z2 := H5.out.frozen (i := 2) rfl 0
    have z3 := H5.out.frozen (i := 2) rfl 1
    go_wp2
    exact bodyPost_ret (v := .tuple #[.agg #[.slice none 0 0, .slice none 0 0], .int .i64 16]) (by simp [results, Try.results24, go_sem, *]) rfl (BAD.out _ hb5 _ _ _)
  · have CH := Lib.hid (fun q => dhas_any 43 2 q)
    rw [show dHas 43 2 = false by decide] at CH
    refine calls_madeT (S := []) (A := []) (E := 16) (by unfold dDya; rw [if_neg hno, if_pos (by decide)]) ?_
    clear hmx hmy hmi hno
    go_enter Try.func24, Try.ntmps24
    go_wp2_with fail
    rw [HW.out, HG.out]
    refine CMX.out.mono ?_; rintro e w4 ⟨rfl, hb4⟩
    have H4 := Lib.hid (H1.out.via hb4)
    clear x0 x1 y0 y1
    have y0 := H4.out.cell (i := 1) rfl 0 _ rfl
    have y1 := H4.out.cell (i := 1) rfl 1 _ rfl
    go_wp2_with fail
    refine (CMY.out _ hb4).mono ?_; rintro e w5 ⟨rfl, hb5'⟩
    have hb5 := abvia hb4 hb5'
    have H5 := Lib.hid (H4.out.via hb5')
    clear y0 y1 hb5'
    go_wp2_with fail
    refine (CD.out _).mono ?_; rintro e w' ⟨rfl, hw'⟩
    have hw'' := hw'.symm
    subst hw''
    clear hw'
    go_wp2_with fail
    refine (CH.out _).mono ?_; rintro e w' ⟨rfl, hw'⟩
    have hw'' := hw'.symm
    subst hw''
    clear hw'
    have z0 := H5.out.cell (i := 2) rfl 0 _ rfl
    have z1 := H5.out.cell (i := 2) rfl 1 _ rfl
    have z2 := H5.out.frozen (i := 2) rfl 0
    have z3 := H5.out.frozen (i := 2) rfl 1
    go_wp2
    exact bodyPost_ret (v := .tuple #[.agg #[.slice none 0 0, .slice none 0 0], .int .i64 16]) (by simp [results, Try.results24, go_sem, *]) rfl (BAD.out _ hb5 _ _ _)
  · have CH := Lib.hid (fun q => dhas_any 22 2 q)
    rw [show dHas 22 2 = true by decide] at CH
    by_cases hr : 1 < sn
    · have hr' : (1 : Int) < sn := by omega
      refine calls_madeT (S := []) (A := []) (E := 12) (by unfold dDya; rw [if_neg hno, if_neg (by decide), if_pos (.inl (by omega))]) ?_
      clear hmx hmy hmi hno hr
      go_enter Try.func24, Try.ntmps24
      go_wp2_with fail
      rw [HW.out, HG.out]
      refine CMX.out.mono ?_; rintro e w4 ⟨rfl, hb4⟩
      have H4 := Lib.hid (H1.out.via hb4)
      clear x0 x1 y0 y1
      have y0 := H4.out.cell (i := 1) rfl 0 _ rfl
      have y1 := H4.out.cell (i := 1) rfl 1 _ rfl
      go_wp2_with fail
      refine (CMY.out _ hb4).mono ?_; rintro e w5 ⟨rfl, hb5'⟩
      have hb5 := abvia hb4 hb5'
      have H5 := Lib.hid (H4.out.via hb5')
      clear y0 y1 hb5'
      go_wp2_with fail
      refine (CD.out _).mono ?_; rintro e w' ⟨rfl, hw'⟩
      have hw'' := hw'.symm
      subst hw''
      clear hw'
      go_wp2_with fail
      refine (CH.out _).mono ?_; rintro e w' ⟨rfl, hw'⟩
      have hw'' := hw'.symm
      subst hw''
      clear hw'
      have x0 := H5.out.cell (i := 0) rfl 0 _ rfl
      have x1 := H5.out.cell (i := 0) rfl 1 _ rfl
      have y0 := H5.out.cell (i := 1) rfl 0 _ rfl
      have y1 := H5.out.cell (i := 1) rfl 1 _ rfl
      have z0 := H5.out.cell (i := 2) rfl 0 _ rfl
      have z1 := H5.out.cell (i := 2) rfl 1 _ rfl
      have z2 := H5.out.frozen (i := 2) rfl 0
      have z3 := H5.out.frozen (i := 2) rfl 1
      go_wp2
      exact bodyPost_ret (v := .tuple #[.agg #[.slice none 0 0, .slice none 0 0], .int .i64 12]) (by simp [results, Try.results24, go_sem, *]) rfl (BAD.out _ hb5 _ _ _)
    have hr' : ¬ (1 : Int) < sn := by omega
    obtain ⟨E, HE⟩ : ∃ z, Hid (cpE s a t = z) := ⟨_, rfl⟩
    refine calls_madeT (S := cpS s a t) (A := cpA s a t b) (E := E) (by unfold dDya; rw [if_neg hno, if_neg (by decide), if_neg (by omega), if_pos rfl, HE.out]) ?_
    have HSN := Lib.hid (show sn ≤ 1 by omega)
    clear hmx hmy hmi hno hr
    go_enter Try.func24, Try.ntmps24
    go_wp2_with fail
    rw [HW.out, HG.out]
    refine CMX.out.mono ?_; rintro e w4 ⟨rfl, hb4⟩
    have H4 := Lib.hid (H1.out.via hb4)
    clear x0 x1 y0 y1
    have y0 := H4.out.cell (i := 1) rfl 0 _ rfl
    have y1 := H4.out.cell (i := 1) rfl 1 _ rfl
    go_wp2_with fail
    refine (CMY.out _ hb4).mono ?_; rintro e w5 ⟨rfl, hb5'⟩
    have hb5 := abvia hb4 hb5'
    have H5 := Lib.hid (H4.out.via hb5')
    clear y0 y1 hb5'
    go_wp2_with fail
    refine (CD.out _).mono ?_; rintro e w' ⟨rfl, hw'⟩
    have hw'' := hw'.symm
    subst hw''
    clear hw'
    go_wp2_with fail
    refine (CH.out _).mono ?_; rintro e w' ⟨rfl, hw'⟩
    have hw'' := hw'.symm
    subst hw''
    clear hw'
    have x0 := H5.out.cell (i := 0) rfl 0 _ rfl
    have x1 := H5.out.cell (i := 0) rfl 1 _ rfl
    have y0 := H5.out.cell (i := 1) rfl 0 _ rfl
    have y1 := H5.out.cell (i := 1) rfl 1 _ rfl
    have CP := Lib.hid (copies_any (HX.out.below H5.out.belowN (Nat.le_refl _)) (HY.out.below H5.out.belowN (Nat.le_refl _)) HSN.out HMM.out.1 HMM.out.2)
    simp only [Ar.v, HE.out] at CP
    go_wp2_with fail
    refine CP.out.mono ?_; rintro e w6 ⟨B, rfl, hI, hs, ha, hO, hb6⟩
    simp only [Ar.v]
    have HR := Lib.hid (H5.out.relay (i := 2) rfl hI hO hb6 E)
    rw [hs, ha] at HR
    have H6 := Lib.hid (H5.out.via hb6)
    clear hs ha hI hO x0 x1 y0 y1
    have z0 := H6.out.cell (i := 2) rfl 0 _ rfl
    have z1 := H6.out.cell (i := 2) rfl 1 _ rfl
    have z2 := H6.out.frozen (i := 2) rfl 0
    have z3 := H6.out.frozen (i := 2) rfl 1
    go_wp2
    exact bodyPost_ret (v := .tuple #[.agg #[.slice B.sa B.sn B.sc, .slice B.aa B.an B.ac], .int .i64 E]) (by simp [results, Try.results24, go_sem, *]) rfl (HR.out _ _)
  · have CH := Lib.hid (fun q => dhas_any 39 2 q)
    rw [show dHas 39 2 = true by decide] at CH
    by_cases hr : 1 < sn
    · have hr' : (1 : Int) < sn := by omega
      refine calls_madeT (S := []) (A := []) (E := 12) (by unfold dDya; rw [if_neg hno, if_neg (by decide), if_pos (.inl (by omega))]) ?_
      clear hmx hmy hmi hno hr
      go_enter Try.func24, Try.ntmps24
      go_wp2_with fail
      rw [HW.out, HG.out]
      refine CMX.out.mono ?_; rintro e w4 ⟨rfl, hb4⟩
      have H4 := Lib.hid (H1.out.via hb4)
      clear x0 x1 y0 y1
      have y0 := H4.out.cell (i := 1) rfl 0 _ rfl
      have y1 := H4.out.cell (i := 1) rfl 1 _ rfl
      go_wp2_with fail
      refine (CMY.out _ hb4).mono ?_; rintro e w5 ⟨rfl, hb5'⟩
      have hb5 := abvia hb4 hb5'
      have H5 := Lib.hid (H4.out.via hb5')
      clear y0 y1 hb5'
      go_wp2_with fail
      refine (CD.out _).mono ?_; rintro e w' ⟨rfl, hw'⟩
      have hw'' := hw'.symm
      subst hw''
      clear hw'
      go_wp2_with fail
      refine (CH.out _).mono ?_; rintro e w' ⟨rfl, hw'⟩
      have hw'' := hw'.symm
      subst hw''
      clear hw'
      have x0 := H5.out.cell (i := 0) rfl 0 _ rfl
      have x1 := H5.out.cell (i := 0) rfl 1 _ rfl
      have y0 := H5.out.cell (i := 1) rfl 0 _ rfl
      have y1 := H5.out.cell (i := 1) rfl 1 _ rfl
      have z0 := H5.out.cell (i := 2) rfl 0 _ rfl
      have z1 := H5.out.cell (i := 2) rfl 1 _ rfl
      have z2 := H5.out.frozen (i := 2) rfl 0
      have z3 := H5.out.frozen (i := 2) rfl 1
      go_wp2
      exact bodyPost_ret (v := .tuple #[.agg #[.slice none 0 0, .slice none 0 0], .int .i64 12]) (by simp [results, Try.results24, go_sem, *]) rfl (BAD.out _ hb5 _ _ _)
    have hr' : ¬ (1 : Int) < sn := by omega
    by_cases hr2 : 1 < tn
    · have hr2' : (1 : Int) < tn := by omega
      refine calls_madeT (S := []) (A := []) (E := 12) (by unfold dDya; rw [if_neg hno, if_neg (by decide), if_pos (.inr (.inl ⟨rfl, by omega⟩))]) ?_
      clear hmx hmy hmi hno hr hr2
      go_enter Try.func24, Try.ntmps24
      go_wp2_with fail
      rw [HW.out, HG.out]
      refine CMX.out.mono ?_; rintro e w4 ⟨rfl, hb4⟩
      have H4 := Lib.hid (H1.out.via hb4)
      clear x0 x1 y0 y1
      have y0 := H4.out.cell (i := 1) rfl 0 _ rfl
      have y1 := H4.out.cell (i := 1) rfl 1 _ rfl
      go_wp2_with fail
      refine (CMY.out _ hb4).mono ?_; rintro e w5 ⟨rfl, hb5'⟩
      have hb5 := abvia hb4 hb5'
      have H5 := Lib.hid (H4.out.via hb5')
      clear y0 y1 hb5'
      go_wp2_with fail
      refine (CD.out _).mono ?_; rintro e w' ⟨rfl, hw'⟩
      have hw'' := hw'.symm
      subst hw''
      clear hw'
      go_wp2_with fail
      refine (CH.out _).mono ?_; rintro e w' ⟨rfl, hw'⟩
      have hw'' := hw'.symm
      subst hw''
      clear hw'
      have x0 := H5.out.cell (i := 0) rfl 0 _ rfl
      have x1 := H5.out.cell (i := 0) rfl 1 _ rfl
      have y0 := H5.out.cell (i := 1) rfl 0 _ rfl
      have y1 := H5.out.cell (i := 1) rfl 1 _ rfl
      have z0 := H5.out.cell (i := 2) rfl 0 _ rfl
      have z1 := H5.out.cell (i := 2) rfl 1 _ rfl
      have z2 := H5.out.frozen (i := 2) rfl 0
      have z3 := H5.out.frozen (i := 2) rfl 1
      go_wp2
      exact bodyPost_ret (v := .tuple #[.agg #[.slice none 0 0, .slice none 0 0], .int .i64 12]) (by simp [results, Try.results24, go_sem, *]) rfl (BAD.out _ hb5 _ _ _)
    have hr2' : ¬ (1 : Int) < tn := by omega
    obtain ⟨E, HE⟩ : ∃ z, Hid (bsE s a t b = z) := ⟨_, rfl⟩
    refine calls_madeT (S := []) (A := bsA s a t b) (E := E) (by unfold dDya; rw [if_neg hno, if_neg (by decide), if_neg (by omega), if_neg (by decide), if_pos rfl, HE.out]) ?_
    have HSN := Lib.hid (show sn ≤ 1 by omega)
    have HTN := Lib.hid (show tn ≤ 1 by omega)
    clear hmx hmy hmi hno hr hr2
    go_enter Try.func24, Try.ntmps24
    go_wp2_with fail
    rw [HW.out, HG.out]
    refine CMX.out.mono ?_; rintro e w4 ⟨rfl, hb4⟩
    have H4 := Lib.hid (H1.out.via hb4)
    clear x0 x1 y0 y1
    have y0 := H4.out.cell (i := 1) rfl 0 _ rfl
    have y1 := H4.out.cell (i := 1) rfl 1 _ rfl
    go_wp2_with fail
    refine (CMY.out _ hb4).mono ?_; rintro e w5 ⟨rfl, hb5'⟩
    have hb5 := abvia hb4 hb5'
    have H5 := Lib.hid (H4.out.via hb5')
    clear y0 y1 hb5'
    go_wp2_with fail
    refine (CD.out _).mono ?_; rintro e w' ⟨rfl, hw'⟩
    have hw'' := hw'.symm
    subst hw''
    clear hw'
    go_wp2_with fail
    refine (CH.out _).mono ?_; rintro e w' ⟨rfl, hw'⟩
    have hw'' := hw'.symm
    subst hw''
    clear hw'
    have x0 := H5.out.cell (i := 0) rfl 0 _ rfl
    have x1 := H5.out.cell (i := 0) rfl 1 _ rfl
    have y0 := H5.out.cell (i := 1) rfl 0 _ rfl
    have y1 := H5.out.cell (i := 1) rfl 1 _ rfl
    have CP := Lib.hid (base_any (HX.out.below H5.out.belowN (Nat.le_refl _)) (HY.out.below H5.out.belowN (Nat.le_refl _)) HSN.out HTN.out HSC.out.1 HSC.out.2.1 HSC.out.2.2.1 HSC.out.2.2.2)
    simp only [Ar.v, HE.out] at CP
    go_wp2_with fail
    refine CP.out.mono ?_; rintro e w6 ⟨B, rfl, hI, hs, ha, hO, hb6⟩
    simp only [Ar.v]
    have HR := Lib.hid (H5.out.relay (i := 2) rfl hI hO hb6 E)
    rw [hs, ha] at HR
    have H6 := Lib.hid (H5.out.via hb6)
    clear hs ha hI hO x0 x1 y0 y1
    have z0 := H6.out.cell (i := 2) rfl 0 _ rfl
    have z1 := H6.out.cell (i := 2) rfl 1 _ rfl
    have z2 := H6.out.frozen (i := 2) rfl 0
    have z3 := H6.out.frozen (i := 2) rfl 1
    go_wp2
    exact bodyPost_ret (v := .tuple #[.agg #[.slice B.sa B.sn B.sc, .slice B.aa B.an B.ac], .int .i64 E]) (by simp [results, Try.results24, go_sem, *]) rfl (HR.out _ _)
  · have CH := Lib.hid (fun q => dhas_any 40 2 q)
    rw [show dHas 40 2 = true by decide] at CH
    by_cases hr : 1 < sn
    · have hr' : (1 : Int) < sn := by omega
      refine calls_madeT (S := []) (A := []) (E := 12) (by unfold dDya; rw [if_neg hno, if_neg (by decide), if_pos (.inl (by omega))]) ?_
      clear hmx hmy hmi hno hr
      go_enter Try.func24, Try.ntmps24
      go_wp2_with fail
      rw [HW.out, HG.out]
      refine CMX.out.mono ?_; rintro e w4 ⟨rfl, hb4⟩
      have H4 := Lib.hid (H1.out.via hb4)
      clear x0 x1 y0 y1
      have y0 := H4.out.cell (i := 1) rfl 0 _ rfl
      have y1 := H4.out.cell (i := 1) rfl 1 _ rfl
      go_wp2_with fail
      refine (CMY.out _ hb4).mono ?_; rintro e w5 ⟨rfl, hb5'⟩
      have hb5 := abvia hb4 hb5'
      have H5 := Lib.hid (H4.out.via hb5')
      clear y0 y1 hb5'
      go_wp2_with fail
      refine (CD.out _).mono ?_; rintro e w' ⟨rfl, hw'⟩
      have hw'' := hw'.symm
      subst hw''
      clear hw'
      go_wp2_with fail
      refine (CH.out _).mono ?_; rintro e w' ⟨rfl, hw'⟩
      have hw'' := hw'.symm
      subst hw''
      clear hw'
      have x0 := H5.out.cell (i := 0) rfl 0 _ rfl
      have x1 := H5.out.cell (i := 0) rfl 1 _ rfl
      have y0 := H5.out.cell (i := 1) rfl 0 _ rfl
      have y1 := H5.out.cell (i := 1) rfl 1 _ rfl
      have z0 := H5.out.cell (i := 2) rfl 0 _ rfl
      have z1 := H5.out.cell (i := 2) rfl 1 _ rfl
      have z2 := H5.out.frozen (i := 2) rfl 0
      have z3 := H5.out.frozen (i := 2) rfl 1
      go_wp2
      exact bodyPost_ret (v := .tuple #[.agg #[.slice none 0 0, .slice none 0 0], .int .i64 12]) (by simp [results, Try.results24, go_sem, *]) rfl (BAD.out _ hb5 _ _ _)
    have hr' : ¬ (1 : Int) < sn := by omega
    by_cases hr2 : 0 < tn
    · have hr2' : (0 : Int) < tn := by omega
      refine calls_madeT (S := []) (A := []) (E := 12) (by unfold dDya; rw [if_neg hno, if_neg (by decide), if_pos (.inr (.inr ⟨rfl, by omega⟩))]) ?_
      clear hmx hmy hmi hno hr hr2
      go_enter Try.func24, Try.ntmps24
      go_wp2_with fail
      rw [HW.out, HG.out]
      refine CMX.out.mono ?_; rintro e w4 ⟨rfl, hb4⟩
      have H4 := Lib.hid (H1.out.via hb4)
      clear x0 x1 y0 y1
      have y0 := H4.out.cell (i := 1) rfl 0 _ rfl
      have y1 := H4.out.cell (i := 1) rfl 1 _ rfl
      go_wp2_with fail
      refine (CMY.out _ hb4).mono ?_; rintro e w5 ⟨rfl, hb5'⟩
      have hb5 := abvia hb4 hb5'
      have H5 := Lib.hid (H4.out.via hb5')
      clear y0 y1 hb5'
      go_wp2_with fail
      refine (CD.out _).mono ?_; rintro e w' ⟨rfl, hw'⟩
      have hw'' := hw'.symm
      subst hw''
      clear hw'
      go_wp2_with fail
      refine (CH.out _).mono ?_; rintro e w' ⟨rfl, hw'⟩
      have hw'' := hw'.symm
      subst hw''
      clear hw'
      have x0 := H5.out.cell (i := 0) rfl 0 _ rfl
      have x1 := H5.out.cell (i := 0) rfl 1 _ rfl
      have y0 := H5.out.cell (i := 1) rfl 0 _ rfl
      have y1 := H5.out.cell (i := 1) rfl 1 _ rfl
      have z0 := H5.out.cell (i := 2) rfl 0 _ rfl
      have z1 := H5.out.cell (i := 2) rfl 1 _ rfl
      have z2 := H5.out.frozen (i := 2) rfl 0
      have z3 := H5.out.frozen (i := 2) rfl 1
      go_wp2
      exact bodyPost_ret (v := .tuple #[.agg #[.slice none 0 0, .slice none 0 0], .int .i64 12]) (by simp [results, Try.results24, go_sem, *]) rfl (BAD.out _ hb5 _ _ _)
    have hr2' : ¬ (0 : Int) < tn := by omega
    obtain ⟨E, HE⟩ : ∃ z, Hid (anE a (b.getD 0 0) = z) := ⟨_, rfl⟩
    refine calls_madeT (S := anS s a (b.getD 0 0)) (A := anA a (b.getD 0 0)) (E := E) (by unfold dDya; rw [if_neg hno, if_neg (by decide), if_neg (by omega), if_neg (by decide), if_neg (by decide), HE.out]) ?_
    have HSN := Lib.hid (show sn ≤ 1 by omega)
    have HTN := Lib.hid (show tn ≤ 0 by omega)
    have hbn1 : (0 : Int) < bn := by have := HSC.out.2.1 (by omega); omega
    have hbn2 : 0 < bn := by omega
    clear hmx hmy hmi hno hr hr2
    go_enter Try.func24, Try.ntmps24
    go_wp2_with fail
    rw [HW.out, HG.out]
    refine CMX.out.mono ?_; rintro e w4 ⟨rfl, hb4⟩
    have H4 := Lib.hid (H1.out.via hb4)
    clear x0 x1 y0 y1
    have y0 := H4.out.cell (i := 1) rfl 0 _ rfl
    have y1 := H4.out.cell (i := 1) rfl 1 _ rfl
    go_wp2_with fail
    refine (CMY.out _ hb4).mono ?_; rintro e w5 ⟨rfl, hb5'⟩
    have hb5 := abvia hb4 hb5'
    have H5 := Lib.hid (H4.out.via hb5')
    clear y0 y1 hb5'
    go_wp2_with fail
    refine (CD.out _).mono ?_; rintro e w' ⟨rfl, hw'⟩
    have hw'' := hw'.symm
    subst hw''
    clear hw'
    go_wp2_with fail
    refine (CH.out _).mono ?_; rintro e w' ⟨rfl, hw'⟩
    have hw'' := hw'.symm
    subst hw''
    clear hw'
    have x0 := H5.out.cell (i := 0) rfl 0 _ rfl
    have x1 := H5.out.cell (i := 0) rfl 1 _ rfl
    have y0 := H5.out.cell (i := 1) rfl 0 _ rfl
    have y1 := H5.out.cell (i := 1) rfl 1 _ rfl
    obtain ⟨b3, o3, e3, hc3⟩ := HY.out.ats.at (by simp only; omega)
    have hd0 := hc3 0 (by simp only; omega)
    simp only [Nat.add_zero] at hd0 e3
    have hlt3 : b3 < w.heap.size := World.block_lt_of_cell? w _ hd0
    have hd := (H5.out.belowN.cell (p := ⟨b3, o3, none⟩) hlt3).trans hd0
    rw [HG.out] at hlt3
    have ne3 : ¬ b3 = g + 1 + 1 := by omega
    have ne4 : ¬ g + 1 + 1 = b3 := by omega
    have ne5 : ¬ g = g + 1 + 1 := by omega
    have ne6 : ¬ g + 1 + 1 = g := by omega
    clear hd0 hlt3
    obtain ⟨d, HD⟩ : ∃ d, Hid (b.getD 0 0 = d) := ⟨_, rfl⟩
    have hdr := HY.out.ats.rng 0
    simp only at hdr
    rw [HD.out] at hd hdr
    rw [HD.out] at HE
    subst e3
    have CP := Lib.hid (fun w1 (hb : Below w5.heap.size w5 w1) => anti_any (HX.out.below (H5.out.via hb).belowN (Nat.le_refl _)) d hdr HSC.out.2.2.1)
    simp only [Ar.v, HE.out] at CP
    clear hc3 hdr
    go_wp2_with fail
    go_region_held3 (fun w'' => w''.cell? ⟨g, 0, none⟩ = some (.slice sa sn sc) ∧ w''.cell? ⟨g, 1, none⟩ = some (.slice aa an ac) ∧ w''.cell? ⟨g + 1, 1, none⟩ = some (.slice (some ⟨b3, o3, none⟩) bn bc) ∧ w''.cell? ⟨b3, o3, none⟩ = some (.int .i64 d)) (go_keep)
      (first
      | (go_at_call 51; (with_reducible refine Calls.mono (CP.out _ ?_) ?_); (first | assumption | exact adrew1 _); rintro e w6 ⟨B, rfl, hI, hs, ha, hO, hb6⟩; simp only [Ar.v]; have HQ := Lib.hid (H5.out.via (adrew1 w5)); have HR := Lib.hid (HQ.out.relay (i := 2) rfl hI hO hb6 E); rw [hs, ha, ← HD.out] at HR; have H6 := Lib.hid (HQ.out.via hb6); have hd6 := ((abvia (adrew1 w5) hb6).cell (p := ⟨b3, o3, none⟩) (World.block_lt_of_cell? w5 _ hd)).trans hd; clear hs ha hI hO; have x0' := H6.out.cell (i := 0) rfl 0 _ rfl; have x1' := H6.out.cell (i := 0) rfl 1 _ rfl; have y1' := H6.out.cell (i := 1) rfl 1 _ rfl; have z0 := H6.out.cell (i := 2) rfl 0 _ rfl; have z1 := H6.out.cell (i := 2) rfl 1 _ rfl; have z2 := H6.out.frozen (i := 2) rfl 0; have z3 := H6.out.frozen (i := 2) rfl 1))
    all_goals
      go_wp2
      exact bodyPost_ret (v := .tuple #[.agg #[.slice B.sa B.sn B.sc, .slice B.aa B.an B.ac], .int .i64 E]) (by simp [results, Try.results24, go_sem, *]) rfl (HR.out _ _)
end Go.Proofs.Ytoippfoeghjdoaa
namespace Go.Proofs.Ytoippfoeghjdoaa
open Go.RowKit Go.Lib
set_option linter.unusedVariables false
set_option linter.unusedSimpArgs false
attribute [local go_sem] alloc_drewN setCell_drewN
/-- An array's atoms, read off its value. -/
theorem field_atoms (x y : Value) (w : World) : (Instr.field 38 (.agg #[x, y]) 1).run Try.prog w = .ok y w := by simp [Instr.field, go_sem, asAgg]
theorem field_shape (x y : Value) (w : World) : (Instr.field 38 (.agg #[x, y]) 0).run Try.prog w = .ok x w := by simp [Instr.field, go_sem, asAgg]
attribute [local go_sem] field_atoms field_shape
theorem lit8 (w : World) (zs : List Int) (T : TypeId) (vs : Array Value) (hv : vs = (zs.map (Value.int .i64)).toArray) (h : (zs.length < 1000 && zs.all fun x => decide (-1000 ≤ x) && decide (x ≤ 1000)) = true) (m : Nat) (hm : m = zs.length) :
    Ls (w.alloc (.cells vs T)) (some ⟨w.heap.size, 0, none⟩) m m zs := by
  rw [Bool.and_eq_true, decide_eq_true_eq, List.all_eq_true] at h
  subst hv hm
  refine ls_alloc w zs T (by omega) fun i => ?_
  rcases Nat.lt_or_ge i zs.length with hi | hi
  · have := h.2 (zs.getD i 0) (by rw [List.getD_eq_getElem?_getD, List.getElem?_eq_getElem hi]; exact List.getElem_mem hi)
    simp only [Bool.and_eq_true, decide_eq_true_eq] at this
    omega
  · rw [List.getD_eq_getElem?_getD, List.getElem?_eq_none hi]; simp
set_option maxHeartbeats 400000 in
theorem scalar8_any (n : Int) (w : World) (hn : -9223372036854775808 ≤ n ∧ n ≤ 9223372036854775807) :
    Calls Try.prog 23 #[.int .i64 n] w (MadeA w [] [n]) := by
  have HE : Hid (MadeA w [] [n] (.returned (.agg #[.slice none 0 0, .slice (some ⟨w.heap.size + 1, 0, none⟩) 1 1])) ((w.alloc (.cells #[.slice none 0 0, .slice (some ⟨w.heap.size + 1, 0, none⟩) 1 1] 38)).alloc (.cells #[.int .i64 n] 2))) := by
    have h := World.ownsRow_lit (base := w.heap.size) (e := 2) (size := 1) (w.alloc (.cells #[.slice none 0 0, .slice (some ⟨w.heap.size + 1, 0, none⟩) 1 1] 38)) #[.int .i64 n] 1 (by simp) (by simp [maxLen]) rfl
    have h' : World.ownsRow ((w.alloc (.cells #[.slice none 0 0, .slice (some ⟨w.heap.size + 1, 0, none⟩) 1 1] 38)).alloc (.cells #[.int .i64 n] 2)) w.heap.size 2 1 (.slice (some ⟨w.heap.size + 1, 0, none⟩) 1 1) 1 ([n].map (Value.int .i64)) := by simpa using World.ownsRow_lit (base := w.heap.size) (e := 2) (size := 1) (w.alloc (.cells #[.slice none 0 0, .slice (some ⟨w.heap.size + 1, 0, none⟩) 1 1] 38)) #[.int .i64 n] 1 (by simp) (by simp [maxLen]) (by simp)
    exact ⟨⟨none, 0, 0, some ⟨w.heap.size + 1, 0, none⟩, 1, 1, [], [n]⟩, rfl, ⟨Ls.zero _ _ (Nat.zero_le _), ls_of_own h' (show 1 * 8 ≤ 140737488351232 by omega) (rng_one hn)⟩, rfl, rfl, ⟨World.ownsRow_nil _ _ _ _, h', fun g h => by simp [Value.ownBlock] at h⟩, below_box2 _ _ _ _ _⟩
  clear hn
  go_enter Try.func23, Try.ntmps23
  go_wp2
  exact bodyPost_ret (v := .agg #[.slice none 0 0, .slice (some ⟨w.heap.size + 1, 0, none⟩) 1 1]) (by simp [results, Try.results23, go_sem, *]) rfl HE.out
set_option maxHeartbeats 400000 in
theorem rscalar8_any (n : Int) (w : World) (hn : -9223372036854775808 ≤ n ∧ n ≤ 9223372036854775807) :
    Calls Try.prog 58 #[.int .i64 n] w (MadeA w [] [n]) := by
  have HE : Hid (MadeA w [] [n] (.returned (.agg #[.slice none 0 0, .slice (some ⟨w.heap.size + 1, 0, none⟩) 1 1])) ((w.alloc (.cells #[.slice none 0 0, .slice (some ⟨w.heap.size + 1, 0, none⟩) 1 1] 38)).alloc (.cells #[.int .i64 n] 2))) := by
    have h := World.ownsRow_lit (base := w.heap.size) (e := 2) (size := 1) (w.alloc (.cells #[.slice none 0 0, .slice (some ⟨w.heap.size + 1, 0, none⟩) 1 1] 38)) #[.int .i64 n] 1 (by simp) (by simp [maxLen]) rfl
    have h' : World.ownsRow ((w.alloc (.cells #[.slice none 0 0, .slice (some ⟨w.heap.size + 1, 0, none⟩) 1 1] 38)).alloc (.cells #[.int .i64 n] 2)) w.heap.size 2 1 (.slice (some ⟨w.heap.size + 1, 0, none⟩) 1 1) 1 ([n].map (Value.int .i64)) := by simpa using World.ownsRow_lit (base := w.heap.size) (e := 2) (size := 1) (w.alloc (.cells #[.slice none 0 0, .slice (some ⟨w.heap.size + 1, 0, none⟩) 1 1] 38)) #[.int .i64 n] 1 (by simp) (by simp [maxLen]) (by simp)
    exact ⟨⟨none, 0, 0, some ⟨w.heap.size + 1, 0, none⟩, 1, 1, [], [n]⟩, rfl, ⟨Ls.zero _ _ (Nat.zero_le _), ls_of_own h' (show 1 * 8 ≤ 140737488351232 by omega) (rng_one hn)⟩, rfl, rfl, ⟨World.ownsRow_nil _ _ _ _, h', fun g h => by simp [Value.ownBlock] at h⟩, below_box2 _ _ _ _ _⟩
  clear hn
  go_enter Try.func58, Try.ntmps58
  go_wp2
  exact bodyPost_ret (v := .agg #[.slice none 0 0, .slice (some ⟨w.heap.size + 1, 0, none⟩) 1 1]) (by simp [results, Try.results58, go_sem, *]) rfl HE.out
theorem madeE_A8 {w w' : World} {s a : List Int} {u : Value} {err : Int} (h : MadeE w s a err (.returned (.tuple #[u, .int .i64 err])) w') : MadeA w s a (.returned u) w' := by
  obtain ⟨B, e, hI, hs, ha, hO, hb⟩ := h
  simp only [Ending.returned.injEq, Value.tuple.injEq, Array.mk.injEq, List.cons.injEq] at e
  exact ⟨B, by rw [e.1], hI, hs, ha, hO, hb⟩
set_option maxRecDepth 100000 in
set_option maxHeartbeats 800000 in
theorem list8_any {w : World} {ao : Option Addr} {n c : Nat} {zs : List Int} (h : Ls w ao n c zs) (hn : n ≤ 1000000) :
    Calls Try.prog 21 #[.slice ao n c] w (MadeA w [(n : Int)] zs) := by
  obtain ⟨i0, hi0, hza, hzb, hzc⟩ := info_parts (P := Try.prog) (e := 2) (z := .int .i64 0) (size := 1) (bytes := 8) (by kernel_rfl)
  obtain ⟨W, HW⟩ : ∃ z, Hid ((w.alloc (.cells #[.slice none 0 0, .slice none 0 0] 38)).alloc (.cells #[.int .i64 n] 3) = z) := ⟨_, rfl⟩
  have h0 := ((Sp.start Non w).alloc 38 2 1 #[.slice none 0 0, .slice none 0 0] rfl (by decide)).alloc 3 1 1 #[.int .i64 n] rfl (by decide)
  rw [HW.out] at h0
  obtain ⟨g, HG⟩ : ∃ z, Hid (w.heap.size = z) := ⟨_, rfl⟩
  have H1_ := h0
  try simp only [List.cons_append, List.nil_append, List.set_cons_zero, List.set_cons_succ, List.map_cons, List.map_nil, List.getD_cons_zero, List.getD_cons_succ, World.size_alloc] at H1_
  have H1 := Lib.hid H1_
  clear H1_
  rw [HG.out] at H1
  have H2 : Hid (Sp Non w W [Pt.row ⟨38, 2, some ⟨g, 0, none⟩, 1, 1, [.slice none 0 0, .slice none 0 0]⟩, Pt.ints 3 (some ⟨g + 1, 0, none⟩) 1 1 [(n : Int)], Pt.ints 2 none 0 0 []]) := by
    have q := (H1.out.toInts (i := 1) (zs := [(n : Int)]) rfl (by omega) (rng_one (by omega))).intsNew (E := 2) (zs := []) (World.ownsRow_nil _ _ _ _) (Below.refl _ _) (by omega) (fun i => by simp [List.getD])
    exact q
  have HL := Lib.hid (h.below H2.out.belowN (Nat.le_refl _))
  have hb : (0 + n) * 8 ≤ 140737488351232 := by omega
  have x0 := H2.out.cell (i := 0) rfl 0 _ rfl
  have x1 := H2.out.cell (i := 0) rfl 1 _ rfl
  have x2 := H2.out.frozen (i := 0) rfl 0
  have x3 := H2.out.frozen (i := 0) rfl 1
  clear h h0 H1
  go_enter Try.func21, Try.ntmps21
  go_wp2_with (at_builtin; rw [HW.out, HG.out]; refine Sp.wpList_loc H2.out rfl _ _ 28 (by rfl) 2 i0 Try.underlying28 hi0 hza hzb hzc (i := 2) rfl (by rfl) (by rfl) HL.out hb ?_)
  intro bo d w9 h9
  have h9 := h9
  have H9_ := h9
  try simp only [List.cons_append, List.nil_append, List.set_cons_zero, List.set_cons_succ, List.map_cons, List.map_nil, List.getD_cons_zero, List.getD_cons_succ, World.size_alloc] at H9_
  have H9 := Lib.hid H9_
  clear H9_
  have x0 := H9.out.cell (i := 0) rfl 0 _ rfl
  have x1 := H9.out.cell (i := 0) rfl 1 _ rfl
  have x2 := H9.out.frozen (i := 0) rfl 0
  have x3 := H9.out.frozen (i := 0) rfl 1
  have HF : Hid (∀ u v, MadeA w [(n : Int)] zs (.returned (.agg #[.slice (some ⟨g + 1, 0, none⟩) 1 1, .slice bo n d])) ((w9.setCell ⟨g, 0, none⟩ u).setCell ⟨g, 1, none⟩ v)) := fun u v => by
    have q := ((H9.out.put (i := 0) rfl 0 u).put (i := 0) rfl 1 v).arrOf (i := 1) (j := 2) rfl (by decide) rfl
    exact madeE_A8 (q.madeE (i := 2) (B := ⟨some ⟨g + 1, 0, none⟩, 1, 1, bo, n, d, [(n : Int)], zs⟩) rfl 0)
  go_wp2
  exact bodyPost_ret (v := .agg #[.slice (some ⟨g + 1, 0, none⟩) 1 1, .slice bo n d]) (by simp [results, Try.results21, go_sem, *]) rfl (HF.out _ _)

theorem val8_0 : dMon 34 [2] [2, -2] = ([2, 2], [1, 0, 3, 2], 0) := by decide +kernel
theorem val8_1 : dDya 22 [2] [0, 2] [2] [7, 8] = ([2], [8, 8], 0) := by decide +kernel
theorem val8_2 : dDya 40 [3] [24, 60, 60] [] [3723] = ([3], [1, 2, 3], 0) := by decide +kernel
theorem val8_3 : dDya 39 [] [10] [3] [3, 4, 5] = ([], [345], 0) := by decide +kernel
theorem val8_4 : dMon 43 [3] [0, 2, 1] = ([3], [1, 1, 2], 0) := by decide +kernel
theorem val8_5 : dMon 22 [] [1] = ([], [], 16) := by decide +kernel
set_option maxRecDepth 100000 in
set_option maxHeartbeats 3200000 in
theorem begun8_any (w : World) : Calls Try.prog 9 #[] w (RetB w (.bool true)) := by
  obtain ⟨T, HT⟩ : ∃ z, z = 2 := ⟨_, rfl⟩
  clear HT T
  have L0 : Hid (∀ (w1 : World) (b : Nat), w1.heap.size = b → Calls Try.prog 21 #[.slice (some ⟨b, 0, none⟩) 2 2] (w1.alloc (.cells #[.int .i64 2, .int .i64 (-2)] 2)) (MadeA (w1.alloc (.cells #[.int .i64 2, .int .i64 (-2)] 2)) [2] [2, -2])) := fun w1 b hb => by subst hb; exact list8_any (lit8 w1 [2, -2] 2 #[.int .i64 2, .int .i64 (-2)] rfl (by decide) 2 rfl) (by omega)
  have L1 : Hid (∀ (w1 : World) (b : Nat), w1.heap.size = b → Calls Try.prog 21 #[.slice (some ⟨b, 0, none⟩) 2 2] (w1.alloc (.cells #[.int .i64 0, .int .i64 2] 2)) (MadeA (w1.alloc (.cells #[.int .i64 0, .int .i64 2] 2)) [2] [0, 2])) := fun w1 b hb => by subst hb; exact list8_any (lit8 w1 [0, 2] 2 #[.int .i64 0, .int .i64 2] rfl (by decide) 2 rfl) (by omega)
  have L2 : Hid (∀ (w1 : World) (b : Nat), w1.heap.size = b → Calls Try.prog 21 #[.slice (some ⟨b, 0, none⟩) 2 2] (w1.alloc (.cells #[.int .i64 7, .int .i64 8] 2)) (MadeA (w1.alloc (.cells #[.int .i64 7, .int .i64 8] 2)) [2] [7, 8])) := fun w1 b hb => by subst hb; exact list8_any (lit8 w1 [7, 8] 2 #[.int .i64 7, .int .i64 8] rfl (by decide) 2 rfl) (by omega)
  have L3 : Hid (∀ (w1 : World) (b : Nat), w1.heap.size = b → Calls Try.prog 21 #[.slice (some ⟨b, 0, none⟩) 3 3] (w1.alloc (.cells #[.int .i64 24, .int .i64 60, .int .i64 60] 2)) (MadeA (w1.alloc (.cells #[.int .i64 24, .int .i64 60, .int .i64 60] 2)) [3] [24, 60, 60])) := fun w1 b hb => by subst hb; exact list8_any (lit8 w1 [24, 60, 60] 2 #[.int .i64 24, .int .i64 60, .int .i64 60] rfl (by decide) 3 rfl) (by omega)
  have L4 : Hid (∀ (w1 : World) (b : Nat), w1.heap.size = b → Calls Try.prog 21 #[.slice (some ⟨b, 0, none⟩) 3 3] (w1.alloc (.cells #[.int .i64 3, .int .i64 4, .int .i64 5] 2)) (MadeA (w1.alloc (.cells #[.int .i64 3, .int .i64 4, .int .i64 5] 2)) [3] [3, 4, 5])) := fun w1 b hb => by subst hb; exact list8_any (lit8 w1 [3, 4, 5] 2 #[.int .i64 3, .int .i64 4, .int .i64 5] rfl (by decide) 3 rfl) (by omega)
  have L5 : Hid (∀ (w1 : World) (b : Nat), w1.heap.size = b → Calls Try.prog 21 #[.slice (some ⟨b, 0, none⟩) 3 3] (w1.alloc (.cells #[.int .i64 0, .int .i64 2, .int .i64 1] 2)) (MadeA (w1.alloc (.cells #[.int .i64 0, .int .i64 2, .int .i64 1] 2)) [3] [0, 2, 1])) := fun w1 b hb => by subst hb; exact list8_any (lit8 w1 [0, 2, 1] 2 #[.int .i64 0, .int .i64 2, .int .i64 1] rfl (by decide) 3 rfl) (by omega)
  have L6 : Hid (∀ (w1 : World) (b : Nat), w1.heap.size = b → Calls Try.prog 21 #[.slice (some ⟨b, 0, none⟩) 2 2] (w1.alloc (.cells #[.int .i64 8, .int .i64 8] 2)) (MadeA (w1.alloc (.cells #[.int .i64 8, .int .i64 8] 2)) [2] [8, 8])) := fun w1 b hb => by subst hb; exact list8_any (lit8 w1 [8, 8] 2 #[.int .i64 8, .int .i64 8] rfl (by decide) 2 rfl) (by omega)
  have L7 : Hid (∀ (w1 : World) (b : Nat), w1.heap.size = b → Calls Try.prog 21 #[.slice (some ⟨b, 0, none⟩) 3 3] (w1.alloc (.cells #[.int .i64 1, .int .i64 2, .int .i64 3] 2)) (MadeA (w1.alloc (.cells #[.int .i64 1, .int .i64 2, .int .i64 3] 2)) [3] [1, 2, 3])) := fun w1 b hb => by subst hb; exact list8_any (lit8 w1 [1, 2, 3] 2 #[.int .i64 1, .int .i64 2, .int .i64 3] rfl (by decide) 3 rfl) (by omega)
  have L8 : Hid (∀ (w1 : World) (b : Nat), w1.heap.size = b → Calls Try.prog 21 #[.slice (some ⟨b, 0, none⟩) 3 3] (w1.alloc (.cells #[.int .i64 1, .int .i64 1, .int .i64 2] 2)) (MadeA (w1.alloc (.cells #[.int .i64 1, .int .i64 1, .int .i64 2] 2)) [3] [1, 1, 2])) := fun w1 b hb => by subst hb; exact list8_any (lit8 w1 [1, 1, 2] 2 #[.int .i64 1, .int .i64 1, .int .i64 2] rfl (by decide) 3 rfl) (by omega)
  have Sa : Hid (∀ w1 : World, Calls Try.prog 23 #[.int .i64 3723] w1 (MadeA w1 [] [3723])) := fun w1 => scalar8_any 3723 w1 (by decide)
  have Sb : Hid (∀ w1 : World, Calls Try.prog 23 #[.int .i64 10] w1 (MadeA w1 [] [10])) := fun w1 => scalar8_any 10 w1 (by decide)
  have Sc : Hid (∀ w1 : World, Calls Try.prog 23 #[.int .i64 1] w1 (MadeA w1 [] [1])) := fun w1 => scalar8_any 1 w1 (by decide)
  have Sd : Hid (∀ w1 : World, Calls Try.prog 23 #[.int .i64 345] w1 (MadeA w1 [] [345])) := fun w1 => scalar8_any 345 w1 (by decide)
  have CM : Hid (∀ (op : Int) (w1 : World) (A : Ar) (s a S B : List Int) (E : Int), A.Is w1 → A.s = s → A.a = a → dMon op s a = (S, B, E) → Calls Try.prog 20 #[.int .i64 op, A.v] w1 (MadeE w1 S B E)) := by
    intro op w1 A s a S B E hA hs ha h
    have q := dmonad_any hA op
    rw [hs, ha, h] at q
    exact q
  have CY : Hid (∀ (op : Int) (w1 : World) (X Y : Ar) (s a t b S B : List Int) (E : Int), X.Is w1 → Y.Is w1 → X.s = s → X.a = a → Y.s = t → Y.a = b → dDya op s a t b = (S, B, E) → Calls Try.prog 24 #[.int .i64 op, X.v, Y.v] w1 (MadeE w1 S B E)) := by
    intro op w1 X Y s a t b S B E hX hY hs ha ht hb h
    have q := ddyad_any hX hY op
    rw [hs, ha, ht, hb, h] at q
    exact q
  have CH := Lib.hid (fun w1 => dhas_any 39 2 w1)
  rw [show dHas 39 2 = true by decide] at CH
  go_enter Try.func9, Try.ntmps9
  go_wp2_with fail
  refine (L0.out _ _ (by simp)).mono ?_; rintro e w0p ⟨⟨sa0p, sn0p, sc0p, aa0p, an0p, ac0p, s0p, a0p⟩, rfl, hI0p, hs0p, ha0p, hO0p, hb0p⟩
  have H0p_ := ((Sp.start Non w).via (abal _ _)).arrNew hI0p hO0p hb0p
  try simp only [List.cons_append, List.nil_append, List.set_cons_zero, List.set_cons_succ, List.map_cons, List.map_nil, List.getD_cons_zero, List.getD_cons_succ, World.size_alloc] at H0p_
  have H0p := Lib.hid H0p_
  clear H0p_
  clear hI0p hO0p hb0p
  simp only at hs0p ha0p
  simp only [Ar.v]
  have C0 := Lib.hid (CM.out 34 _ _ [2] [2, -2] [2, 2] [1, 0, 3, 2] 0 (H0p.out.isA (i := 0) rfl) hs0p ha0p val8_0)
  simp only [Ar.v] at C0
  go_wp2_with fail
  refine C0.out.mono ?_; rintro e w0r ⟨⟨sa0r, sn0r, sc0r, aa0r, an0r, ac0r, s0r, a0r⟩, rfl, hI0r, hs0r, ha0r, hO0r, hb0r⟩
  have h0r := (H0p.out.arrNew hI0r hO0r hb0r).pick [1] (by decide)
  simp only [List.cons_append, List.nil_append, List.map_cons, List.map_nil, List.getD_cons_zero, List.getD_cons_succ] at h0r
  have H0r_ := h0r.alloc 38 2 1 #[.slice sa0r sn0r sc0r, .slice aa0r an0r ac0r] rfl (by decide)
  try simp only [List.cons_append, List.nil_append, List.set_cons_zero, List.set_cons_succ, List.map_cons, List.map_nil, List.getD_cons_zero, List.getD_cons_succ, World.size_alloc] at H0r_
  have H0r := Lib.hid H0r_
  clear H0r_
  simp only at hs0r ha0r
  have HV0r := Lib.hid (And.intro hs0r ha0r)
  simp only [Ar.v]
  clear hI0r hs0r ha0r hO0r hb0r h0r C0 hs0p ha0p H0p
  go_wp2_with fail
  refine (L1.out _ _ (by simp)).mono ?_; rintro e w1p ⟨⟨sa1p, sn1p, sc1p, aa1p, an1p, ac1p, s1p, a1p⟩, rfl, hI1p, hs1p, ha1p, hO1p, hb1p⟩
  have H1p_ := (H0r.out.via (abal _ _)).arrNew hI1p hO1p hb1p
  try simp only [List.cons_append, List.nil_append, List.set_cons_zero, List.set_cons_succ, List.map_cons, List.map_nil, List.getD_cons_zero, List.getD_cons_succ, World.size_alloc] at H1p_
  have H1p := Lib.hid H1p_
  clear H1p_
  clear hI1p hO1p hb1p
  simp only at hs1p ha1p
  simp only [Ar.v]
  go_wp2_with fail
  refine (L2.out _ _ (by simp)).mono ?_; rintro e w1q ⟨⟨sa1q, sn1q, sc1q, aa1q, an1q, ac1q, s1q, a1q⟩, rfl, hI1q, hs1q, ha1q, hO1q, hb1q⟩
  have H1q_ := (H1p.out.via (abal _ _)).arrNew hI1q hO1q hb1q
  try simp only [List.cons_append, List.nil_append, List.set_cons_zero, List.set_cons_succ, List.map_cons, List.map_nil, List.getD_cons_zero, List.getD_cons_succ, World.size_alloc] at H1q_
  have H1q := Lib.hid H1q_
  clear H1q_
  clear hI1q hO1q hb1q
  simp only at hs1q ha1q
  simp only [Ar.v]
  have C1 := Lib.hid (CY.out 22 _ _ _ [2] [0, 2] [2] [7, 8] [2] [8, 8] 0 (H1q.out.isA (i := 2) rfl) (H1q.out.isA (i := 3) rfl) hs1p ha1p hs1q ha1q val8_1)
  simp only [Ar.v] at C1
  go_wp2_with fail
  refine C1.out.mono ?_; rintro e w1r ⟨⟨sa1r, sn1r, sc1r, aa1r, an1r, ac1r, s1r, a1r⟩, rfl, hI1r, hs1r, ha1r, hO1r, hb1r⟩
  have h1r := (H1q.out.arrNew hI1r hO1r hb1r).pick [0, 1, 4] (by decide)
  simp only [List.cons_append, List.nil_append, List.map_cons, List.map_nil, List.getD_cons_zero, List.getD_cons_succ] at h1r
  have H1r_ := h1r.alloc 38 2 1 #[.slice sa1r sn1r sc1r, .slice aa1r an1r ac1r] rfl (by decide)
  try simp only [List.cons_append, List.nil_append, List.set_cons_zero, List.set_cons_succ, List.map_cons, List.map_nil, List.getD_cons_zero, List.getD_cons_succ, World.size_alloc] at H1r_
  have H1r := Lib.hid H1r_
  clear H1r_
  simp only at hs1r ha1r
  have HV1r := Lib.hid (And.intro hs1r ha1r)
  simp only [Ar.v]
  clear hI1r hs1r ha1r hO1r hb1r h1r C1 hs1p ha1p H1p hs1q ha1q H1q H0r
  go_wp2_with fail
  refine (L3.out _ _ (by simp)).mono ?_; rintro e w2p ⟨⟨sa2p, sn2p, sc2p, aa2p, an2p, ac2p, s2p, a2p⟩, rfl, hI2p, hs2p, ha2p, hO2p, hb2p⟩
  have H2p_ := (H1r.out.via (abal _ _)).arrNew hI2p hO2p hb2p
  try simp only [List.cons_append, List.nil_append, List.set_cons_zero, List.set_cons_succ, List.map_cons, List.map_nil, List.getD_cons_zero, List.getD_cons_succ, World.size_alloc] at H2p_
  have H2p := Lib.hid H2p_
  clear H2p_
  clear hI2p hO2p hb2p
  simp only at hs2p ha2p
  simp only [Ar.v]
  go_wp2_with fail
  refine (Sa.out _).mono ?_; rintro e w2q ⟨⟨sa2q, sn2q, sc2q, aa2q, an2q, ac2q, s2q, a2q⟩, rfl, hI2q, hs2q, ha2q, hO2q, hb2q⟩
  have H2q_ := H2p.out.arrNew hI2q hO2q hb2q
  try simp only [List.cons_append, List.nil_append, List.set_cons_zero, List.set_cons_succ, List.map_cons, List.map_nil, List.getD_cons_zero, List.getD_cons_succ, World.size_alloc] at H2q_
  have H2q := Lib.hid H2q_
  clear H2q_
  clear hI2q hO2q hb2q
  simp only at hs2q ha2q
  simp only [Ar.v]
  have C2 := Lib.hid (CY.out 40 _ _ _ [3] [24, 60, 60] [] [3723] [3] [1, 2, 3] 0 (H2q.out.isA (i := 4) rfl) (H2q.out.isA (i := 5) rfl) hs2p ha2p hs2q ha2q val8_2)
  simp only [Ar.v] at C2
  go_wp2_with fail
  refine C2.out.mono ?_; rintro e w2r ⟨⟨sa2r, sn2r, sc2r, aa2r, an2r, ac2r, s2r, a2r⟩, rfl, hI2r, hs2r, ha2r, hO2r, hb2r⟩
  have h2r := (H2q.out.arrNew hI2r hO2r hb2r).pick [0, 1, 2, 3, 6] (by decide)
  simp only [List.cons_append, List.nil_append, List.map_cons, List.map_nil, List.getD_cons_zero, List.getD_cons_succ] at h2r
  have H2r_ := h2r.alloc 38 2 1 #[.slice sa2r sn2r sc2r, .slice aa2r an2r ac2r] rfl (by decide)
  try simp only [List.cons_append, List.nil_append, List.set_cons_zero, List.set_cons_succ, List.map_cons, List.map_nil, List.getD_cons_zero, List.getD_cons_succ, World.size_alloc] at H2r_
  have H2r := Lib.hid H2r_
  clear H2r_
  simp only at hs2r ha2r
  have HV2r := Lib.hid (And.intro hs2r ha2r)
  simp only [Ar.v]
  clear hI2r hs2r ha2r hO2r hb2r h2r C2 hs2p ha2p H2p hs2q ha2q H2q H1r
  go_wp2_with fail
  refine (Sb.out _).mono ?_; rintro e w3p ⟨⟨sa3p, sn3p, sc3p, aa3p, an3p, ac3p, s3p, a3p⟩, rfl, hI3p, hs3p, ha3p, hO3p, hb3p⟩
  have H3p_ := H2r.out.arrNew hI3p hO3p hb3p
  try simp only [List.cons_append, List.nil_append, List.set_cons_zero, List.set_cons_succ, List.map_cons, List.map_nil, List.getD_cons_zero, List.getD_cons_succ, World.size_alloc] at H3p_
  have H3p := Lib.hid H3p_
  clear H3p_
  clear hI3p hO3p hb3p
  simp only at hs3p ha3p
  simp only [Ar.v]
  go_wp2_with fail
  refine (L4.out _ _ (by simp)).mono ?_; rintro e w3q ⟨⟨sa3q, sn3q, sc3q, aa3q, an3q, ac3q, s3q, a3q⟩, rfl, hI3q, hs3q, ha3q, hO3q, hb3q⟩
  have H3q_ := (H3p.out.via (abal _ _)).arrNew hI3q hO3q hb3q
  try simp only [List.cons_append, List.nil_append, List.set_cons_zero, List.set_cons_succ, List.map_cons, List.map_nil, List.getD_cons_zero, List.getD_cons_succ, World.size_alloc] at H3q_
  have H3q := Lib.hid H3q_
  clear H3q_
  clear hI3q hO3q hb3q
  simp only at hs3q ha3q
  simp only [Ar.v]
  have C3 := Lib.hid (CY.out 39 _ _ _ [] [10] [3] [3, 4, 5] [] [345] 0 (H3q.out.isA (i := 6) rfl) (H3q.out.isA (i := 7) rfl) hs3p ha3p hs3q ha3q val8_3)
  simp only [Ar.v] at C3
  go_wp2_with fail
  refine C3.out.mono ?_; rintro e w3r ⟨⟨sa3r, sn3r, sc3r, aa3r, an3r, ac3r, s3r, a3r⟩, rfl, hI3r, hs3r, ha3r, hO3r, hb3r⟩
  have h3r := (H3q.out.arrNew hI3r hO3r hb3r).pick [0, 1, 2, 3, 4, 5, 8] (by decide)
  simp only [List.cons_append, List.nil_append, List.map_cons, List.map_nil, List.getD_cons_zero, List.getD_cons_succ] at h3r
  have H3r_ := h3r.alloc 38 2 1 #[.slice sa3r sn3r sc3r, .slice aa3r an3r ac3r] rfl (by decide)
  try simp only [List.cons_append, List.nil_append, List.set_cons_zero, List.set_cons_succ, List.map_cons, List.map_nil, List.getD_cons_zero, List.getD_cons_succ, World.size_alloc] at H3r_
  have H3r := Lib.hid H3r_
  clear H3r_
  simp only at hs3r ha3r
  have HV3r := Lib.hid (And.intro hs3r ha3r)
  simp only [Ar.v]
  clear hI3r hs3r ha3r hO3r hb3r h3r C3 hs3p ha3p H3p hs3q ha3q H3q H2r
  go_wp2_with fail
  refine (L5.out _ _ (by simp)).mono ?_; rintro e w4p ⟨⟨sa4p, sn4p, sc4p, aa4p, an4p, ac4p, s4p, a4p⟩, rfl, hI4p, hs4p, ha4p, hO4p, hb4p⟩
  have H4p_ := (H3r.out.via (abal _ _)).arrNew hI4p hO4p hb4p
  try simp only [List.cons_append, List.nil_append, List.set_cons_zero, List.set_cons_succ, List.map_cons, List.map_nil, List.getD_cons_zero, List.getD_cons_succ, World.size_alloc] at H4p_
  have H4p := Lib.hid H4p_
  clear H4p_
  clear hI4p hO4p hb4p
  simp only at hs4p ha4p
  simp only [Ar.v]
  have C4 := Lib.hid (CM.out 43 _ _ [3] [0, 2, 1] [3] [1, 1, 2] 0 (H4p.out.isA (i := 8) rfl) hs4p ha4p val8_4)
  simp only [Ar.v] at C4
  go_wp2_with fail
  refine C4.out.mono ?_; rintro e w4r ⟨⟨sa4r, sn4r, sc4r, aa4r, an4r, ac4r, s4r, a4r⟩, rfl, hI4r, hs4r, ha4r, hO4r, hb4r⟩
  have h4r := (H4p.out.arrNew hI4r hO4r hb4r).pick [0, 1, 2, 3, 4, 5, 6, 7, 9] (by decide)
  simp only [List.cons_append, List.nil_append, List.map_cons, List.map_nil, List.getD_cons_zero, List.getD_cons_succ] at h4r
  have H4r_ := h4r.alloc 38 2 1 #[.slice sa4r sn4r sc4r, .slice aa4r an4r ac4r] rfl (by decide)
  try simp only [List.cons_append, List.nil_append, List.set_cons_zero, List.set_cons_succ, List.map_cons, List.map_nil, List.getD_cons_zero, List.getD_cons_succ, World.size_alloc] at H4r_
  have H4r := Lib.hid H4r_
  clear H4r_
  simp only at hs4r ha4r
  have HV4r := Lib.hid (And.intro hs4r ha4r)
  simp only [Ar.v]
  clear hI4r hs4r ha4r hO4r hb4r h4r C4 hs4p ha4p H4p H3r
  go_wp2_with fail
  refine (Sc.out _).mono ?_; rintro e w5p ⟨⟨sa5p, sn5p, sc5p, aa5p, an5p, ac5p, s5p, a5p⟩, rfl, hI5p, hs5p, ha5p, hO5p, hb5p⟩
  have H5p_ := H4r.out.arrNew hI5p hO5p hb5p
  try simp only [List.cons_append, List.nil_append, List.set_cons_zero, List.set_cons_succ, List.map_cons, List.map_nil, List.getD_cons_zero, List.getD_cons_succ, World.size_alloc] at H5p_
  have H5p := Lib.hid H5p_
  clear H5p_
  clear hI5p hO5p hb5p
  simp only at hs5p ha5p
  simp only [Ar.v]
  have C5 := Lib.hid (CM.out 22 _ _ [] [1] [] [] 16 (H5p.out.isA (i := 10) rfl) hs5p ha5p val8_5)
  simp only [Ar.v] at C5
  go_wp2_with fail
  refine C5.out.mono ?_; rintro e w5r ⟨⟨sa5r, sn5r, sc5r, aa5r, an5r, ac5r, s5r, a5r⟩, rfl, hI5r, hs5r, ha5r, hO5r, hb5r⟩
  have h5r := (H5p.out.arrNew hI5r hO5r hb5r).pick [0, 1, 2, 3, 4, 5, 6, 7, 8, 9, 11] (by decide)
  simp only [List.cons_append, List.nil_append, List.map_cons, List.map_nil, List.getD_cons_zero, List.getD_cons_succ] at h5r
  have H5r_ := h5r.alloc 38 2 1 #[.slice sa5r sn5r sc5r, .slice aa5r an5r ac5r] rfl (by decide)
  try simp only [List.cons_append, List.nil_append, List.set_cons_zero, List.set_cons_succ, List.map_cons, List.map_nil, List.getD_cons_zero, List.getD_cons_succ, World.size_alloc] at H5r_
  have H5r := Lib.hid H5r_
  clear H5r_
  simp only at hs5r ha5r
  have HV5r := Lib.hid (And.intro hs5r ha5r)
  simp only [Ar.v]
  clear hI5r hs5r ha5r hO5r hb5r h5r C5 hs5p ha5p H5p H4r
  go_wp2_with fail
  refine (CH.out _).mono ?_; rintro e w' ⟨rfl, hw'⟩
  have hw'' := hw'.symm
  subst hw''
  clear hw'
  obtain ⟨W, HW⟩ : ∃ z, Hid (w5r.alloc (.cells #[.slice sa5r sn5r sc5r, .slice aa5r an5r ac5r] 38) = z) := ⟨_, rfl⟩
  rw [HW.out] at H5r
  have HC : Hid (∀ v : World, Below W.heap.size W v → v.cell? ⟨w0r.heap.size, 1, none⟩ = some (.slice aa0r an0r ac0r) ∧ v.cell? ⟨w1r.heap.size, 0, none⟩ = some (.slice sa1r sn1r sc1r) ∧ v.cell? ⟨w1r.heap.size, 1, none⟩ = some (.slice aa1r an1r ac1r) ∧ v.cell? ⟨w2r.heap.size, 0, none⟩ = some (.slice sa2r sn2r sc2r) ∧ v.cell? ⟨w2r.heap.size, 1, none⟩ = some (.slice aa2r an2r ac2r) ∧ v.cell? ⟨w3r.heap.size, 0, none⟩ = some (.slice sa3r sn3r sc3r) ∧ v.cell? ⟨w3r.heap.size, 1, none⟩ = some (.slice aa3r an3r ac3r) ∧ v.cell? ⟨w4r.heap.size, 0, none⟩ = some (.slice sa4r sn4r sc4r) ∧ v.cell? ⟨w4r.heap.size, 1, none⟩ = some (.slice aa4r an4r ac4r)) := fun v hb => by
    have h := H5r.out.via hb
    exact ⟨h.cell (i := 1) rfl 1 _ rfl, h.cell (i := 3) rfl 0 _ rfl, h.cell (i := 3) rfl 1 _ rfl, h.cell (i := 5) rfl 0 _ rfl, h.cell (i := 5) rfl 1 _ rfl, h.cell (i := 7) rfl 0 _ rfl, h.cell (i := 7) rfl 1 _ rfl, h.cell (i := 9) rfl 0 _ rfl, h.cell (i := 9) rfl 1 _ rfl⟩
  have EA : Hid (∀ (W1 : World) (ao : Option Addr), Below W.heap.size W W1 → Ls W1 ao 4 4 [1, 0, 3, 2] → Calls Try.prog 27 #[.slice aa0r an0r ac0r, .slice ao 4 4] W1 (Ret W1 (.bool true))) := fun W1 ao hb hL => by
    have h := eqatoms4_any ((H5r.out.via hb).isA (i := 0) rfl).ats hL
    simp only [HV0r.out.2, decide_true] at h
    exact h
  have E1 : Hid (∀ (W1 : World) (B : Ar), Below W.heap.size W W1 → B.Is W1 → B.s = [2] → B.a = [8, 8] → Calls Try.prog 15 #[.agg #[.slice sa1r sn1r sc1r, .slice aa1r an1r ac1r], B.v] W1 (RetB W1 (.bool true))) := fun W1 B hb hB q1 q2 => by
    have h := eq4_any ((H5r.out.via hb).isA (i := 2) rfl) hB
    simp only [HV1r.out.1, HV1r.out.2, q1, q2, and_self, decide_true, Ar.v] at h
    exact h
  have E2 : Hid (∀ (W1 : World) (B : Ar), Below W.heap.size W W1 → B.Is W1 → B.s = [3] → B.a = [1, 2, 3] → Calls Try.prog 15 #[.agg #[.slice sa2r sn2r sc2r, .slice aa2r an2r ac2r], B.v] W1 (RetB W1 (.bool true))) := fun W1 B hb hB q1 q2 => by
    have h := eq4_any ((H5r.out.via hb).isA (i := 4) rfl) hB
    simp only [HV2r.out.1, HV2r.out.2, q1, q2, and_self, decide_true, Ar.v] at h
    exact h
  have E3 : Hid (∀ (W1 : World) (B : Ar), Below W.heap.size W W1 → B.Is W1 → B.s = [] → B.a = [345] → Calls Try.prog 15 #[.agg #[.slice sa3r sn3r sc3r, .slice aa3r an3r ac3r], B.v] W1 (RetB W1 (.bool true))) := fun W1 B hb hB q1 q2 => by
    have h := eq4_any ((H5r.out.via hb).isA (i := 6) rfl) hB
    simp only [HV3r.out.1, HV3r.out.2, q1, q2, and_self, decide_true, Ar.v] at h
    exact h
  have E4 : Hid (∀ (W1 : World) (B : Ar), Below W.heap.size W W1 → B.Is W1 → B.s = [3] → B.a = [1, 1, 2] → Calls Try.prog 15 #[.agg #[.slice sa4r sn4r sc4r, .slice aa4r an4r ac4r], B.v] W1 (RetB W1 (.bool true))) := fun W1 B hb hB q1 q2 => by
    have h := eq4_any ((H5r.out.via hb).isA (i := 8) rfl) hB
    simp only [HV4r.out.1, HV4r.out.2, q1, q2, and_self, decide_true, Ar.v] at h
    exact h
  have HBW := Lib.hid H5r.out.belowN
  obtain ⟨x0, x1, x2, x3, x4, x5, x6, x7, x8⟩ := HC.out W (Below.refl _ _)
  go_wp2_with fail
  rw [HW.out]
  go_region_held3 (fun v => v.cell? ⟨w0r.heap.size, 1, none⟩ = some (.slice aa0r an0r ac0r) ∧ v.cell? ⟨w1r.heap.size, 0, none⟩ = some (.slice sa1r sn1r sc1r) ∧ v.cell? ⟨w1r.heap.size, 1, none⟩ = some (.slice aa1r an1r ac1r) ∧ v.cell? ⟨w2r.heap.size, 0, none⟩ = some (.slice sa2r sn2r sc2r) ∧ v.cell? ⟨w2r.heap.size, 1, none⟩ = some (.slice aa2r an2r ac2r) ∧ v.cell? ⟨w3r.heap.size, 0, none⟩ = some (.slice sa3r sn3r sc3r) ∧ v.cell? ⟨w3r.heap.size, 1, none⟩ = some (.slice aa3r an3r ac3r) ∧ v.cell? ⟨w4r.heap.size, 0, none⟩ = some (.slice sa4r sn4r sc4r) ∧ v.cell? ⟨w4r.heap.size, 1, none⟩ = some (.slice aa4r an4r ac4r)) (go_keep)
    (first
    | (go_at_call 27; (with_reducible refine Calls.mono (EA.out _ _ (abvia (abal W (.cells #[.int .i64 1, .int .i64 0, .int .i64 3, .int .i64 2] 2)) (adrew1 _)) ((lit8 W [1, 0, 3, 2] 2 #[.int .i64 1, .int .i64 0, .int .i64 3, .int .i64 2] rfl (by decide) 4 rfl).via (adrew1 _))) ?_); rintro e v1 ⟨rfl, n1, hq⟩; have HC1 : Hid (Below W.heap.size W v1) := (by show Below _ _ _; rw [hq]; exact abvia (abvia (abal W _) (adrew1 _)) (adrew _ _)); clear hq; clear x0 x1 x2 x3 x4 x5 x6 x7 x8; obtain ⟨x0, x1, x2, x3, x4, x5, x6, x7, x8⟩ := HC.out _ HC1.out)
    | (have hreq := HC1; go_at_call 21; (with_reducible refine Calls.mono (L6.out _ _ ?_) ?_); (first | rfl | simp); rintro e v2 ⟨⟨ta2, tn2, tc2, ua2, un2, uc2, ts2, us2⟩, rfl, hI, hs, ha, -, hq⟩; have HC2 : Hid (Below W.heap.size W v2) := (by show Below _ _ _; exact abvia (abvia HC1.out (abal _ _)) hq); have F1 := Lib.hid (E1.out v2 _ HC2.out hI hs ha); simp only [Ar.v] at F1 ⊢; clear hI hs ha hq hreq L6; clear x0 x1 x2 x3 x4 x5 x6 x7 x8; obtain ⟨x0, x1, x2, x3, x4, x5, x6, x7, x8⟩ := HC.out _ HC2.out)
    | (go_at_call 15; (with_reducible refine Calls.mono F1.out ?_); rintro e v3 ⟨rfl, hq⟩; have HC3 : Hid (Below W.heap.size W v3) := (by show Below _ _ _; exact abvia HC2.out hq); clear hq F1; clear x0 x1 x2 x3 x4 x5 x6 x7 x8; obtain ⟨x0, x1, x2, x3, x4, x5, x6, x7, x8⟩ := HC.out _ HC3.out)
    | (have hreq := HC3; go_at_call 21; (with_reducible refine Calls.mono (L7.out _ _ ?_) ?_); (first | rfl | simp); rintro e v4 ⟨⟨ta4, tn4, tc4, ua4, un4, uc4, ts4, us4⟩, rfl, hI, hs, ha, -, hq⟩; have HC4 : Hid (Below W.heap.size W v4) := (by show Below _ _ _; exact abvia (abvia HC3.out (abal _ _)) hq); have F2 := Lib.hid (E2.out v4 _ HC4.out hI hs ha); simp only [Ar.v] at F2 ⊢; clear hI hs ha hq hreq L7; clear x0 x1 x2 x3 x4 x5 x6 x7 x8; obtain ⟨x0, x1, x2, x3, x4, x5, x6, x7, x8⟩ := HC.out _ HC4.out)
    | (go_at_call 15; (with_reducible refine Calls.mono F2.out ?_); rintro e v5 ⟨rfl, hq⟩; have HC5 : Hid (Below W.heap.size W v5) := (by show Below _ _ _; exact abvia HC4.out hq); clear hq F2; clear x0 x1 x2 x3 x4 x5 x6 x7 x8; obtain ⟨x0, x1, x2, x3, x4, x5, x6, x7, x8⟩ := HC.out _ HC5.out)
    | (have hreq := HC5; go_at_call 23; (with_reducible refine Calls.mono (Sd.out _) ?_); rintro e v6 ⟨⟨ta6, tn6, tc6, ua6, un6, uc6, ts6, us6⟩, rfl, hI, hs, ha, -, hq⟩; have HC6 : Hid (Below W.heap.size W v6) := (by show Below _ _ _; exact abvia HC5.out hq); have F3 := Lib.hid (E3.out v6 _ HC6.out hI hs ha); simp only [Ar.v] at F3 ⊢; clear hI hs ha hq hreq Sd; clear x0 x1 x2 x3 x4 x5 x6 x7 x8; obtain ⟨x0, x1, x2, x3, x4, x5, x6, x7, x8⟩ := HC.out _ HC6.out)
    | (go_at_call 15; (with_reducible refine Calls.mono F3.out ?_); rintro e v7 ⟨rfl, hq⟩; have HC7 : Hid (Below W.heap.size W v7) := (by show Below _ _ _; exact abvia HC6.out hq); clear hq F3; clear x0 x1 x2 x3 x4 x5 x6 x7 x8; obtain ⟨x0, x1, x2, x3, x4, x5, x6, x7, x8⟩ := HC.out _ HC7.out)
    | (have hreq := HC7; go_at_call 21; (with_reducible refine Calls.mono (L8.out _ _ ?_) ?_); (first | rfl | simp); rintro e v8 ⟨⟨ta8, tn8, tc8, ua8, un8, uc8, ts8, us8⟩, rfl, hI, hs, ha, -, hq⟩; have HC8 : Hid (Below W.heap.size W v8) := (by show Below _ _ _; exact abvia (abvia HC7.out (abal _ _)) hq); have F4 := Lib.hid (E4.out v8 _ HC8.out hI hs ha); simp only [Ar.v] at F4 ⊢; clear hI hs ha hq hreq L8; clear x0 x1 x2 x3 x4 x5 x6 x7 x8; obtain ⟨x0, x1, x2, x3, x4, x5, x6, x7, x8⟩ := HC.out _ HC8.out)
    | (go_at_call 15; (with_reducible refine Calls.mono F4.out ?_); rintro e v9 ⟨rfl, hq⟩; have HC9 : Hid (Below W.heap.size W v9) := (by show Below _ _ _; exact abvia HC8.out hq); clear hq F4; clear x0 x1 x2 x3 x4 x5 x6 x7 x8; obtain ⟨x0, x1, x2, x3, x4, x5, x6, x7, x8⟩ := HC.out _ HC9.out)
    )
  all_goals
    go_wp2
    go_ret
    exact RetB.mk rfl (abvia HBW.out HC9.out)
end Go.Proofs.Ytoippfoeghjdoaa
namespace Go.Proofs.Ytoippfoeghjdoaa
open Go.RowKit Go.Lib
set_option linter.unusedVariables false
set_option linter.unusedSimpArgs false
theorem mayE_one {n : Int} (h : 0 ≤ n ∧ n ≤ 4096) : mayE [n] = 0 := by
  unfold mayE
  rw [if_neg (by simp; omega), if_neg (by simp), if_neg (by simp [pm]; omega)]
theorem mayE_one_big {n : Int} (h : 4096 < n) : mayE [n] = 17 := by
  unfold mayE
  rw [if_neg (by simp; omega), if_neg (by simp), if_pos (by simp [pm]; omega)]
theorem pr_one (n : Int) : pr [n] = n := by simp [pr]
theorem amE_list {zs : List Int} {n : Nat} (hn : n = zs.length) (h : n ≤ 4096) : amE [(n : Int)] zs = 0 := by
  unfold amE
  rw [if_pos (mayE_one (by omega)), pr_one, if_pos (by omega)]
theorem amE_scal (x : Int) : amE [] [x] = 0 := by
  have h1 : mayE [] = 0 := by decide
  have h2 : pr [] = 1 := rfl
  unfold amE
  rw [if_pos h1, h2, if_pos (by simp)]
theorem absL_pos {s : List Int} (h : ∀ j, 0 ≤ s.getD j 0) : absL s = s := by
  unfold absL
  refine (List.map_congr_left (g := id) fun x hx => ?_).trans (List.map_id s)
  obtain ⟨i, hi, rfl⟩ := List.getElem_of_mem hx
  have := h i
  rw [List.getD_eq_getElem?_getD, List.getElem?_eq_getElem hi, Option.getD_some] at this
  simp only [id_eq]
  omega
theorem flG_pos {s t u : List Int} (h : ∀ j, 0 ≤ s.getD j 0) : ∀ i, flG s t u i = u
  | 0 => flG_zero _ _ _
  | i + 1 => by rw [flG_same (by have := h i; omega)]; exact flG_pos h i
/-- Counting by lengths: the numbers of the places. -/
theorem iota_ok {s : List Int} {n : Nat} (hl : s.length = n) (hn : n ≤ 4096) (h : ∀ j, 0 ≤ s.getD j 0) (hm : mayE s = 0) :
    dMon 34 [(n : Int)] s = (s, pcA s, 0) ∧ (pcA s).length = (pr s).toNat ∧ ∀ i, i < (pr s).toNat → (pcA s).getD i 0 = i := by
  have ha := absL_pos h
  have e : pcA s = (List.range (pr s).toNat).map fun (k : Nat) => pcAt s s k := by unfold pcA; rw [ha, if_pos hm]
  refine ⟨?_, ?_, fun i hi => ?_⟩
  · unfold dMon
    rw [if_neg (by rw [amE_list hl.symm hn]; decide), if_neg (by decide), if_neg (by simp), if_pos rfl]
    unfold pcS pcE
    rw [ha, if_pos hm, if_pos hm]
  · rw [e, List.length_map, List.length_range]
  · rw [e]
    have h0 : 0 < pr s := by omega
    simp only [List.getD_eq_getElem?_getD, List.getElem?_map, List.getElem?_range hi, Option.map_some, Option.getD_some]
    unfold pcAt
    rw [flG_pos h]
    exact plN_ixL (pos_all h h0) ⟨by omega, by omega⟩
theorem iota_no {s : List Int} {n : Nat} (hl : s.length = n) (hn : n ≤ 4096) (h : ∀ j, 0 ≤ s.getD j 0) (hm : mayE s ≠ 0) : dMon 34 [(n : Int)] s = ([], [], 17) := by
  have ha := absL_pos h
  unfold dMon
  rw [if_neg (by rw [amE_list hl.symm hn]; decide), if_neg (by decide), if_neg (by simp), if_pos rfl]
  unfold pcS pcE pcA
  rw [ha, if_neg hm, if_neg hm, if_neg hm]
/-- Counting by one number. -/
theorem iota_one {x : Int} (hx : x.natAbs ≤ 4096) :
    dMon 34 [] [x] = ([(x.natAbs : Int)], pcA [x], 0) ∧ (pcA [x]).length = x.natAbs ∧ ∀ i, i < x.natAbs → (pcA [x]).getD i 0 = if x < 0 then (x.natAbs : Int) - 1 - i else i := by
  have ha : absL [x] = [(x.natAbs : Int)] := rfl
  have hm := mayE_one (n := (x.natAbs : Int)) (by omega)
  have e : pcA [x] = (List.range x.natAbs).map fun (k : Nat) => pcAt [x] [(x.natAbs : Int)] k := by unfold pcA; rw [ha, if_pos hm, pr_one, Int.toNat_natCast]
  refine ⟨?_, by rw [e, List.length_map, List.length_range], fun i hi => ?_⟩
  · unfold dMon
    rw [if_neg (by rw [amE_scal]; decide), if_neg (by decide), if_neg (by simp), if_pos rfl]
    unfold pcS pcE
    rw [ha, if_pos hm, if_pos hm]
  · rw [e]
    simp only [List.getD_eq_getElem?_getD, List.getElem?_map, List.getElem?_range hi, Option.map_some, Option.getD_some]
    have hix : ixL [(x.natAbs : Int)] (i : Int) = [(i : Int)] := by
      unfold ixL
      have h1 : pr ([] : List Int) = 1 := rfl
      simp [h1]
      exact_mod_cast Nat.mod_eq_of_lt hi
    unfold pcAt
    rw [hix]
    by_cases h0 : x < 0
    · rw [if_pos h0]; simp [flG, plN, h0]
    · rw [if_neg h0]; simp [flG, plN, h0]
theorem iota_big {x : Int} (hx : 4096 < x.natAbs) : dMon 34 [] [x] = ([], [], 17) := by
  have ha : absL [x] = [(x.natAbs : Int)] := rfl
  have hm := mayE_one_big (n := (x.natAbs : Int)) (by omega)
  unfold dMon
  rw [if_neg (by rw [amE_scal]; decide), if_neg (by decide), if_neg (by simp), if_pos rfl]
  unfold pcS pcE pcA
  rw [ha, hm]
  simp
end Go.Proofs.Ytoippfoeghjdoaa
