/- Contract of the document's Joiner.Add (printed by gen_r4add.py). -/
import Derived.Test.YthackmkdicpdeaaR4Begin
import Derived.Test.YthackmkdicpdeaaCellAdd
import Derived.Test.YthackmkdicpdeaaShapeRef3
import Derived.Test.YthackmkdicpdeaaRegHd
namespace Go.Proofs.Ythackmkdicpdeaa
open Go.RowKit Go.Lib
set_option linter.unusedVariables false
set_option linter.unusedSimpArgs false
attribute [local go_sem] alloc_drewN setCell_drewN
theorem RetS.quiet {P : Program} {f : FuncId} {args : Array Value} {w : World} {n : Nat} {v : Value} (h : Calls P f args (w.drewN n) (RetS (w.drewN n) v)) :
    Calls P f args (w.drewN n) (Ret (w.drewN n) v) := h.mono fun e w' ⟨h1, h2⟩ => ⟨h1, 0, h2⟩
def RAddP (F : Nat → Prop) (w : World) (g : Nat) (fr c : List Int) (G : List (List Int × List Int)) (err : Int) (e : Ending) (w' : World) : Prop :=
  e = .returned (.int .i64 err) ∧ ∃ F', (Pt.rjoiner g fr c G).P w' F' ∧ (∀ k, F' k → F k ∨ w.heap.size ≤ k) ∧ Out F w w'
theorem raddP_mk {F : Nat → Prop} {w w' : World} {g : Nat} {fr c : List Int} {G : List (List Int × List Int)} {x : Jn} {L : List Pt} (H : Sp F w w' L) (hL : L.take 5 = rjnL g fr c G.length x) (h1 : mayE fr = 0) (h2 : 0 < pr fr) (h3 : Jok fr c G) (h4 : x.As.map Ar.sa2 = G) (err : Int) :
    RAddP F w g fr c G err (.returned (.int .i64 err)) w' := by
  obtain ⟨F', hF, hs⟩ := (H.group 5).get (i := 0) rfl
  rw [hL] at hF
  exact ⟨rfl, F', ⟨x, ⟨h1, h2, h3, h4⟩, hF⟩, hs, H.out⟩
set_option maxRecDepth 100000 in
set_option maxHeartbeats 6400000 in
theorem radd4_any {w : World} {F : Nat → Prop} {g : Nat} {fr c : List Int} {G : List (List Int × List Int)} (hJ : (Pt.rjoiner g fr c G).P w F) {A : Ar} (hA : A.Is w) (hof : A.Off F) :
    Calls Try.prog 37 #[.pointer (some ⟨g, 0, none⟩), A.v] w (RAddP F w g fr (adNC fr c G A.s A.a) (adNG fr c G A.s A.a) (adE fr c G A.s A.a)) := by
  obtain ⟨sa, sn, sc, aa, an, ac, s, a⟩ := A
  simp only [Ar.v]
  obtain ⟨⟨fo, fn, fc, co, cn, cc, go, gc, As⟩, ⟨hfr, hp, hjok, hG⟩, hall⟩ := hJ
  have h0 := Sp.of_all (Out.refl F w) hall (fun k h => .inl h)
  simp only [rjnL] at h0 hG
  obtain ⟨E, HE⟩ : ∃ z, Hid (adE fr c G s a = z) := ⟨_, rfl⟩
  have eC : adNC fr c G s a = if E = 0 then adC c G s else c := by unfold adNC; rw [HE.out]
  have eG : adNG fr c G s a = if E = 0 then G ++ [(s, a)] else G := by unfold adNG; rw [HE.out]
  obtain ⟨nC, HNC⟩ : ∃ z, Hid (z = adNC fr c G s a) := ⟨_, rfl⟩
  obtain ⟨nG, HNG⟩ : ∃ z, Hid (z = adNG fr c G s a) := ⟨_, rfl⟩
  rw [HE.out, ← HNC.out, ← HNG.out]
  rw [← HNC.out] at eC
  rw [← HNG.out] at eG
  obtain ⟨N, HN⟩ : ∃ z, Hid (G.length = z) := ⟨_, rfl⟩
  rw [HN.out] at h0
  have hle := hjok.le
  have hpb := pr_nonneg hfr
  rw [HN.out] at hle
  obtain ⟨P, hP⟩ : ∃ P : Nat, pr fr = P := ⟨(pr fr).toNat, by omega⟩
  rw [hP] at hle hpb
  have HPP := Lib.hid hP
  have hNP : N ≤ P := by omega
  have hPb : P ≤ 4096 := by omega
  obtain ⟨W, HW⟩ : ∃ z, Hid (w.alloc (.cells #[.slice sa sn sc, .slice aa an ac] 45) = z) := ⟨_, rfl⟩
  have h1 := h0.alloc 45 2 1 #[.slice sa sn sc, .slice aa an ac] rfl (by decide)
  rw [HW.out] at h1
  have H1_ := h1
  try simp only [List.cons_append, List.nil_append, List.set_cons_zero, List.set_cons_succ, List.map_cons, List.map_nil, List.getD_cons_zero, List.getD_cons_succ, World.size_alloc] at H1_
  have H1 := Lib.hid H1_
  clear H1_
  have HI := Lib.hid hA
  have HOF := Lib.hid hof
  have HJK := Lib.hid (And.intro hfr (And.intro hp (And.intro hjok hG)))
  have HKEEP : Hid (∀ (w' : World) (L : List Pt) (e : Int), E ≠ 0 → Sp F w w' L → L.take 5 = rjnL g fr c N ⟨fo, fn, fc, co, cn, cc, go, gc, As⟩ → RAddP F w g fr nC nG E (.returned (.int .i64 E)) w') := fun w' L e he H hL => by
    rw [eC, eG, if_neg he, if_neg he]
    rw [← HN.out] at hL
    exact raddP_mk H hL hfr hp hjok hG E
  have hEQ : E = if N = P then 4 else if amE s a = 0 then if mayE (fr ++ adC c G s) = 0 then 0 else 17 else 1 := by
    rw [← HE.out]; unfold adE; rw [HN.out, hP]; simp only [Int.natCast_inj]
  have HEQ := Lib.hid hEQ
  have HEC := Lib.hid eC
  have HEG := Lib.hid eG
  have HCN : Hid (∀ m, Calls Try.prog 74 #[.slice fo fn fc] (W.drewN m) (Ret (W.drewN m) (.int .i64 P))) := fun m => RetS.quiet (by
    have h := rcount_any ((H1.out.via (adrew W m)).ls (i := 1) rfl) HJK.out.1
    rw [HPP.out] at h
    exact h)
  have y0 := H1.out.cell (i := 0) rfl 0 _ rfl
  have y1 := H1.out.cell (i := 0) rfl 1 _ rfl
  clear h0 h1 hA hof hfr hp hjok hG hle hpb hP hall eC eG hEQ
  by_cases hNeq : N = P
  · have e4 : E = 4 := by rw [HEQ.out, if_pos hNeq]
    have HF := fun q => HKEEP.out (W.drewN q) _ 0 (by omega) (H1.out.via (adrew W q)) (by simp only [rjnL]; rfl)
    rw [e4] at HF ⊢
    have HFF := Lib.hid HF
    have q2 : (P : Int) ≤ N := by omega
    clear HF hNeq hNP
    go_enter Try.func37, Try.ntmps37
    go_wp2_with fail
    rw [HW.out]
    go_quiet (with_reducible exact Ret.quiet (HCN.out _))
    go_wp2
    exact bodyPost_ret (v := .int .i64 4) (by simp [results, Try.results37, go_sem, *]) rfl (HFF.out _)
  · have hlt : N < P := by omega
    have q2 : ¬ ((P : Int) ≤ N) := by omega
    by_cases hm : amE s a = 0
    · have hE2 : E = if mayE (fr ++ adC c G s) = 0 then 0 else 17 := by rw [HEQ.out, if_neg hNeq, if_pos hm]
      have HE2 := Lib.hid hE2
      have HM := Lib.hid hm
      clear hm hE2 HEQ hNeq
      go_enter Try.func37, Try.ntmps37
      go_wp2_with fail
      rw [HW.out]
      go_quiet (with_reducible exact Ret.quiet (HCN.out _))
      obtain ⟨W2, HW2⟩ : ∃ z, Hid (W.drewN nq = z) := ⟨_, rfl⟩
      have h2 := H1.out.via (adrew W nq)
      rw [HW2.out] at h2 ⊢
      have H2_ := h2
      try simp only [List.cons_append, List.nil_append, List.set_cons_zero, List.set_cons_succ, List.map_cons, List.map_nil, List.getD_cons_zero, List.getD_cons_succ, World.size_alloc] at H2_
      have H2 := Lib.hid H2_
      clear H2_
      clear h2 y0 y1
      have x0 := H2.out.cell (i := 5) rfl 0 _ rfl
      have x1 := H2.out.cell (i := 5) rfl 1 _ rfl
      have cm := rmay4_any (HI.out.off H2.out.out HOF.out)
      simp only [Ar.v] at cm
      rw [decide_eq_true HM.out] at cm
      have CM := Lib.hid cm
      clear cm
      go_wp2_with fail
      refine CM.out.mono ?_; rintro e w3 ⟨rfl, hb3⟩
      have H4_ := (H2.out.via hb3).intsNew (E := 3) (zs := []) (World.ownsRow_nil _ _ _ _) (Below.refl _ _) (by omega) (fun i => by simp [List.getD])
      try simp only [List.cons_append, List.nil_append, List.set_cons_zero, List.set_cons_succ, List.map_cons, List.map_nil, List.getD_cons_zero, List.getD_cons_succ, World.size_alloc] at H4_
      have H4 := Lib.hid H4_
      clear H4_
      clear hb3 x0 x1
      have x0 := H4.out.cell (i := 5) rfl 0 _ rfl
      have y1 := H4.out.cell (i := 0) rfl 1 _ rfl
      go_upto_if 29 with fail
      go_cut [5, 6, 7] from 29 to 43 (fun (v q q' : Value) (wx : World) => ∃ (ao : Option Addr) (n c' : Nat) (qo : Option Addr) (qn qc : Nat) (qs : List Int), v = Value.slice ao n c' ∧ Hid (Sp F w wx [Pt.row ⟨134, 3, some ⟨g, 0, none⟩, 1, 1, [.slice fo fn fc, .slice go N gc, .slice co cn cc]⟩, Pt.ints 3 fo fn fc fr, Pt.ints 3 co cn cc c, Pt.row ⟨45, 2, go, N, gc, cellsA As⟩, Pt.all (As.map Pt.arr), Pt.row ⟨45, 2, some ⟨w.heap.size, 0, none⟩, 1, 1, [.slice sa sn sc, .slice aa an ac]⟩, Pt.ints 3 qo qn qc qs]) ∧ Hid (∀ (w' : World) (L : List Pt), Sp F w w' L → L[6]? = some (Pt.ints 3 qo qn qc qs) → Ls w' ao n c' (adC c G s)))
      case first =>
        by_cases hz : N = 0
        · have eA : adC c G s = s := by unfold adC; rw [if_pos (by rw [HN.out]; exact hz)]
          have hz1 : ¬ ((0 : Int) < N) := by omega
          have HQ : Hid (∀ (w' : World) (L : List Pt), Sp F w w' L → L[6]? = some (Pt.ints 3 none 0 0 []) → Ls w' sa sn sc (adC c G s)) := fun w' L H _ => by rw [eA]; exact HI.out.shp.off H.out HOF.out.1
          clear eA hz
          go_wp2_with fail
          go_meet
          exact ⟨sa, sn, sc, none, 0, 0, [], rfl, H4, HQ⟩
        · have hz1 : (0 : Int) < N := by omega
          have eA : adC c G s = bthL c s := by unfold adC; rw [if_neg (by rw [HN.out]; exact hz)]
          have hcm : mayE c = 0 := (mayE_app (HJK.out.2.2.1.may (by rw [HN.out]; omega))).2
          have hsm : mayE s = 0 := (amE_zero HM.out).1
          have CV : Hid (∀ wx : World, Below w3.heap.size w3 wx → Calls Try.prog 76 #[.slice (some ⟨wx.heap.size, 0, none⟩) 2 2] (wx.alloc (.cells #[.slice co cn cc, .slice sa sn sc] 25)) (MadeS (wx.alloc (.cells #[.slice co cn cc, .slice sa sn sc] 25)) (cvR [c, s]).1 (cvR [c, s]).2)) := fun wx hb => by
            have hx := (H4.out.via hb)
            exact rcover_any (lss_pair wx ((hx.ls (i := 2) rfl)) (HI.out.shp.off hx.out HOF.out.1))
          have y2 := H4.out.cell (i := 0) rfl 2 _ rfl
          by_cases hb : mayE (bthL c s) = 0
          · have ecv : cvR [c, s] = (bthL c s, 0) := by
              show (if mayE c = 0 then cvGo c [s] else _) = _
              rw [if_pos hcm]
              show (if mayE s = 0 then if mayE (bthL c s) = 0 then cvGo (bthL c s) [] else _ else _) = _
              rw [if_pos hsm, if_pos hb]; rfl
            rw [ecv] at CV
            have HQ : Hid (∀ (wx w5 : World) (vo : Option Addr) (vn vc : Nat), Below w3.heap.size w3 wx → Ls w5 vo vn vc (bthL c s) → w5.ownsRow (wx.alloc (.cells #[.slice co cn cc, .slice sa sn sc] 25)).heap.size 3 1 (.slice vo vn vc) vn ((bthL c s).map (Value.int .i64)) → Below (wx.alloc (.cells #[.slice co cn cc, .slice sa sn sc] 25)).heap.size (wx.alloc (.cells #[.slice co cn cc, .slice sa sn sc] 25)) w5 →
                Sp F w w5 [Pt.row ⟨134, 3, some ⟨g, 0, none⟩, 1, 1, [.slice fo fn fc, .slice go N gc, .slice co cn cc]⟩, Pt.ints 3 fo fn fc fr, Pt.ints 3 co cn cc c, Pt.row ⟨45, 2, go, N, gc, cellsA As⟩, Pt.all (As.map Pt.arr), Pt.row ⟨45, 2, some ⟨w.heap.size, 0, none⟩, 1, 1, [.slice sa sn sc, .slice aa an ac]⟩, Pt.ints 3 vo vn vc (adC c G s)]) := fun wx w5 vo vn vc hb hL hO hB => by
              rw [eA]
              exact (((H4.out.via hb).via (abal wx _)).intsNew hO hB hL.big hL.rng).pick [0, 1, 2, 3, 4, 5, 7] (by decide)
            clear eA hz hcm hsm hb ecv
            go_wp2_with fail
            go_region_law (first
              | (go_simp; go_at_call 76; refine (CV.out w3.drew (adrew1 w3)).mono ?_; rintro e w5 ⟨vo, vn, vc, rfl, hL5, hO5, hB5⟩))
            all_goals
              have HQ5 := Lib.hid (HQ.out w3.drew w5 vo vn vc (adrew1 w3) hL5 hO5 hB5)
              clear hL5 hO5 hB5
              go_wp2_with fail
              go_meet
              exact ⟨vo, vn, vc, vo, vn, vc, _, rfl, HQ5, fun w' L H hr => H.ls (i := 6) hr⟩
          · have ecv : cvR [c, s] = ([], 17) := by
              show (if mayE c = 0 then cvGo c [s] else _) = _
              rw [if_pos hcm]
              show (if mayE s = 0 then if mayE (bthL c s) = 0 then cvGo (bthL c s) [] else _ else _) = _
              rw [if_pos hsm, if_neg hb]
            rw [ecv] at CV
            have e17 : E = 17 := by rw [HE2.out, if_neg (fun h => hb (by rw [← eA]; exact (mayE_app h).2))]
            have HF : Hid (∀ (w' : World) (L : List Pt), Sp F w w' L → L.take 5 = rjnL g fr c N ⟨fo, fn, fc, co, cn, cc, go, gc, As⟩ → RAddP F w g fr nC nG 17 (.returned (.int .i64 17)) w') := fun w' L => by have h := HKEEP.out w' L 0 (by omega); rw [e17] at h; exact h
            clear eA hz hcm hsm hb ecv
            subst e17
            go_wp2_with fail
            go_region_law (first
              | (go_simp; go_at_call 76; refine (CV.out w3.drew (adrew1 w3)).mono ?_; rintro e w5 ⟨vo, vn, vc, rfl, hL5, hO5, hB5⟩))
            all_goals
              have HG := Lib.hid (HF.out w5 _ (((H4.out.via (adrew1 w3)).via (abal w3.drew _)).via hB5) (by simp only [rjnL]; rfl))
              clear hL5 hO5 hB5
              go_wp2
              exact bodyPost_ret (v := .int .i64 17) (by simp [results, Try.results37, go_sem, *]) rfl HG.out
      case rest =>
        obtain ⟨ao, n, c', qo, qn, qc, qs, rfl, H5, HLS⟩ := hcut
        obtain ⟨U, hU⟩ : ∃ z : World, z = wc := ⟨_, rfl⟩
        subst hU
        clear y1
        have hlf : fn ≤ 8 := by have := (H5.out.ls (i := 1) rfl).len; have := (mayE_zero HJK.out.1).2.1; omega
        have hsl : sn ≤ 8 := by have := HI.out.shp.len; have := (mayE_zero (amE_zero HM.out).1).2.1; simp only at *; omega
        have hln : n ≤ 8 := by
          have h1 := (HLS.out _ _ H5.out rfl).len
          have h2 : (adC c G s).length ≤ 8 := by
            have hsm := (mayE_zero (amE_zero HM.out).1).2.1
            unfold adC
            split
            · exact hsm
            · have := (mayE_zero (mayE_app (HJK.out.2.2.1.may (by omega))).2).2.1
              rw [bthL_len]; omega
          omega
        have hal : an ≤ 4096 := by
          have h1 := HI.out.ats.len
          have h2 := (amE_zero HM.out).2
          have h3 := pr_nonneg (amE_zero HM.out).1
          simp only at h1
          omega
        obtain ⟨i0, hi0, hza, hzb, hzc⟩ := info_parts (P := Try.prog) (e := 3) (z := .int .i64 0) (size := 1) (bytes := 8) (by kernel_rfl)
        have HI0 := Lib.hid (And.intro hi0 (And.intro hza (And.intro hzb hzc)))
        obtain ⟨j0, hj0, hya, hyb, hyc⟩ := info_parts (P := Try.prog) (e := 2) (z := .int .i64 0) (size := 1) (bytes := 8) (by kernel_rfl)
        have HJ0 := Lib.hid (And.intro hj0 (And.intro hya (And.intro hyb hyc)))
        obtain ⟨i4, hi4, hza4, hzb4, hzc4⟩ := info_parts (P := Try.prog) (e := 45) (z := .agg #[.slice none 0 0, .slice none 0 0]) (size := 2) (bytes := 48) (by kernel_rfl)
        have HI4 := Lib.hid (And.intro hi4 (And.intro hza4 (And.intro hzb4 hzc4)))
        clear hi0 hza hzb hzc hj0 hya hyb hyc hi4 hza4 hzb4 hzc4
        have b1 : (0 + fn) * 8 ≤ 140737488351232 := by omega
        have b2 : (fn + n) * 8 ≤ 140737488351232 := by omega
        have b3 : (0 + n) * 8 ≤ 140737488351232 := by omega
        have y0 := H5.out.cell (i := 0) rfl 0 _ rfl
        have H6_ := (H5.out.intsNew (E := 3) (zs := []) (World.ownsRow_nil _ _ _ _) (Below.refl _ _) (by omega) (fun i => by simp [List.getD])).intsNew (E := 3) (zs := []) (World.ownsRow_nil _ _ _ _) (Below.refl _ _) (by omega) (fun i => by simp [List.getD])
        try simp only [List.cons_append, List.nil_append, List.set_cons_zero, List.set_cons_succ, List.map_cons, List.map_nil, List.getD_cons_zero, List.getD_cons_succ, World.size_alloc] at H6_
        have H6 := Lib.hid H6_
        clear H6_
        have LF := Lib.hid (H6.out.ls (i := 1) rfl)
        clear hlf hsl
        go_wp2_with (at_builtin; refine Sp.wpList_loc (i := 7) H6.out rfl _ _ 25 rfl 3 i0 Try.underlying25 HI0.out.1 HI0.out.2.1 HI0.out.2.2.1 HI0.out.2.2.2 rfl rfl rfl LF.out b1 ?_)
        intro bo bd w6 h6
        try simp only [List.nil_append, List.set_cons_zero, List.set_cons_succ] at h6
        have H7 := Lib.hid h6
        clear h6 LF y0
        have LF := Lib.hid (HLS.out _ _ H7.out rfl)
        go_wp2_with (at_builtin; refine Sp.wpList_loc (i := 7) H7.out rfl _ _ 25 rfl 3 i0 Try.underlying25 HI0.out.1 HI0.out.2.1 HI0.out.2.2.1 HI0.out.2.2.2 rfl rfl rfl LF.out b2 ?_)
        intro bo2 bd2 w7 h6
        try simp only [List.set_cons_zero, List.set_cons_succ] at h6
        have H8 := Lib.hid h6
        clear h6 LF
        have CY := Lib.hid (rmay_any (H8.out.ls (i := 7) rfl))
        by_cases hy : mayE (fr ++ adC c G s) = 0
        · have e0 : E = 0 := by rw [HE2.out, if_pos hy]
          have hnC : nC = adC c G s := by rw [HEC.out, if_pos e0]
          have hnG : nG = G ++ [(s, a)] := by rw [HEG.out, if_pos e0]
          have HJ2 : Hid (Jok fr (adC c G s) (G ++ [(s, a)])) := HJK.out.2.2.1.step (x := (s, a)) (by rw [HE.out]; exact e0)
          rw [hy] at CY
          have HLAST : Hid (∀ (wx : World) (ko : Option Addr) (kc : Nat) (ro : Option Addr) (rc : Nat) (Bs : List Ar), Bs.map Ar.sa2 = G ++ [(s, a)] → Sp F w wx [Pt.row ⟨134, 3, some ⟨g, 0, none⟩, 1, 1, [.slice fo fn fc, .slice ro (N + 1) rc, .slice ko n kc]⟩, Pt.ints 3 fo fn fc fr, Pt.ints 3 ko n kc (adC c G s), Pt.row ⟨45, 2, ro, N + 1, rc, cellsA Bs⟩, Pt.all (Bs.map Pt.arr)] → RAddP F w g fr nC nG 0 (.returned (.int .i64 0)) wx) := fun wx ko kc ro rc Bs hBs h => by
            rw [hnC, hnG]
            refine raddP_mk (x := ⟨fo, fn, fc, ko, n, kc, ro, rc, Bs⟩) h ?_ HJK.out.1 HJK.out.2.1 HJ2.out hBs 0
            simp only [rjnL, List.length_append, List.length_singleton, HN.out]
            rfl
          subst e0
          clear hnC hnG hy
          go_wp2_with fail
          refine CY.out.mono ?_; rintro e w8 ⟨rfl, hw⟩
          have hw' := hw.symm
          subst hw'
          have LF := Lib.hid (HLS.out _ _ H8.out rfl)
          go_wp2_with (at_builtin; refine Sp.wpList_loc (i := 8) H8.out rfl _ _ 25 rfl 3 i0 Try.underlying25 HI0.out.1 HI0.out.2.1 HI0.out.2.2.1 HI0.out.2.2.2 rfl rfl rfl LF.out b3 ?_)
          intro ko kc w9 h9
          try simp only [Nat.zero_add, List.nil_append, List.set_cons_zero, List.set_cons_succ] at h9
          have y2 := h9.cell (i := 0) rfl 2 _ rfl
          have f2 := h9.frozen (i := 0) rfl 2
          have H10_ := h9.put (i := 0) rfl 2 (.slice ko n kc)
          try simp only [List.cons_append, List.nil_append, List.set_cons_zero, List.set_cons_succ, List.map_cons, List.map_nil, List.getD_cons_zero, List.getD_cons_succ, World.size_alloc] at H10_
          have H10 := Lib.hid H10_
          clear H10_
          clear h9 CY LF
          go_upto_region 14 with fail
          obtain ⟨V, HV⟩ : ∃ z, Hid (w9.setCell ⟨g, 2, none⟩ (.slice ko n kc) = z) := ⟨_, rfl⟩
          rw [HV.out] at H10 ⊢
          have HS_ := (((H10.out.via (adrew1 V)).pick [0, 1, 2, 3, 4, 5, 6, 7, 8] (by decide)).intsNew (E := 3) (zs := []) (World.ownsRow_nil _ _ _ _) (Below.refl _ _) (by omega) (fun i => by simp [List.getD])).intsNew (E := 2) (zs := []) (World.ownsRow_nil _ _ _ _) (Below.refl _ _) (by omega) (fun i => by simp [List.getD])
          try simp only [List.cons_append, List.nil_append, List.set_cons_zero, List.set_cons_succ, List.map_cons, List.map_nil, List.getD_cons_zero, List.getD_cons_succ, World.size_alloc] at HS_
          have HS := Lib.hid HS_
          clear HS_
          have hmx : N + 1 ≤ maxLen := by unfold maxLen; omega
          have hbyt : (N + 1) * 48 ≤ 140737488355328 := by omega
          have bs0 : (0 + sn) * 8 ≤ 140737488351232 := by
            have h1 := HI.out.shp.len
            have h2 := (mayE_zero (amE_zero HM.out).1).2.1
            simp only at h1
            omega
          have ba0 : (0 + an) * 8 ≤ 140737488351232 := by omega
          clear y2 f2
          have HFIN : Hid (∀ (w9 : World) (so5 : Option Addr) (sc5 : Nat) (ao6 : Option Addr) (ac6 : Nat) (b9 : Option Addr) (d9 : Nat), Sp F w w9 [Pt.row ⟨134, 3, some ⟨g, 0, none⟩, 1, 1, [.slice fo fn fc, .slice go N gc, .slice ko n kc]⟩, Pt.ints 3 fo fn fc fr, Pt.ints 3 co cn cc c, Pt.row ⟨45, 2, b9, N + 1, d9, cellsA As ++ [.slice so5 sn sc5, .slice ao6 an ac6]⟩, Pt.all (As.map Pt.arr), Pt.row ⟨45, 2, some ⟨w.heap.size, 0, none⟩, 1, 1, [.slice sa sn sc, .slice aa an ac]⟩, Pt.ints 3 qo qn qc qs, Pt.ints 3 bo2 (fn + n) bd2 (fr ++ adC c G s), Pt.ints 3 ko n kc (adC c G s), Pt.ints 3 so5 sn sc5 s, Pt.ints 2 ao6 an ac6 a] → RAddP F w g fr nC nG 0 (.returned (.int .i64 0)) (w9.setCell ⟨g, 1, none⟩ (.slice b9 (N + 1) d9))) := by
            intro w9 so5 sc5 ao6 ac6 b9 d9 hH9
            have hX := hH9.put (i := 0) rfl 1 (.slice b9 (N + 1) d9)
            simp only [List.set_cons_zero, List.set_cons_succ] at hX
            have hX2 := hX.arrOf (i := 9) (j := 10) rfl (by decide) rfl
            simp only [List.set_cons_zero, List.set_cons_succ] at hX2
            have hX3 := hX2.arrMore (i := 4) (j := 10) rfl (by decide) rfl
            have HX_ := hX3.pick [0, 1, 8, 3, 4] (by decide)
            try simp only [List.cons_append, List.nil_append, List.set_cons_zero, List.set_cons_succ, List.map_cons, List.map_nil, List.getD_cons_zero, List.getD_cons_succ, World.size_alloc] at HX_
            have HX := Lib.hid HX_
            clear HX_
            refine HLAST.out _ ko kc b9 d9 (As ++ [⟨so5, sn, sc5, ao6, an, ac6, s, a⟩]) ?_ ?_
            · rw [List.map_append, HJK.out.2.2.2]; rfl
            · rw [cellsA_app]; exact HX.out
          clear HLAST H10
          have d0 := HS.out.cell (i := 0) rfl 1 _ rfl
          have d1 := HS.out.cell (i := 5) rfl 0 _ rfl
          have d2 := HS.out.cell (i := 5) rfl 1 _ rfl
          refine wp_region_noPanic ?_
          refine wp_region_hd (S := (fun wS => wS.cell? ⟨g, 1, none⟩ = some (.slice go N gc) ∧ wS.cell? ⟨w.heap.size, 0, none⟩ = some (.slice sa sn sc) ∧ wS.cell? ⟨w.heap.size, 1, none⟩ = some (.slice aa an ac))) 16 (by kernel_rfl) (by kernel_rfl) ?_ (fun hHeld => ?_)
          · exact ⟨d0, d1, d2⟩
          refine wpHd_take (i := 0) (v := ?_) (by kernel_rfl) (by simp only [List.getElem?_toArray, List.getElem?_cons_succ, List.getElem?_cons_zero] <;> rfl) (by kernel_rfl) (fun _ _ _ h => h) (Or.inl ⟨by rfl, ?_⟩) (by assumption) ?_
          rotate_left
          · (intro wS hSw; (try dsimp only at hSw); go_simp <;> with_reducible rfl)
          try simp only [Act.put, List.setIfInBounds_toArray, List.set_cons_zero, List.set_cons_succ]
          refine wpHd_take (i := 1) (v := ?_) (by kernel_rfl) (by simp only [List.getElem?_toArray, List.getElem?_cons_succ, List.getElem?_cons_zero] <;> rfl) (by kernel_rfl) (fun _ _ _ h => h) (Or.inl ⟨by rfl, ?_⟩) (by assumption) ?_
          rotate_left
          · (intro wS hSw; (try dsimp only at hSw); go_simp <;> with_reducible rfl)
          try simp only [Act.put, List.setIfInBounds_toArray, List.set_cons_zero, List.set_cons_succ]
          refine wpHd_take (i := 2) (v := ?_) (by kernel_rfl) (by simp only [List.getElem?_toArray, List.getElem?_cons_succ, List.getElem?_cons_zero] <;> rfl) (by kernel_rfl) (fun _ _ _ h => h) (Or.inl ⟨by rfl, ?_⟩) (by assumption) ?_
          rotate_left
          · (intro wS hSw; (try dsimp only at hSw); go_simp <;> with_reducible rfl)
          try simp only [Act.put, List.setIfInBounds_toArray, List.set_cons_zero, List.set_cons_succ]
          refine wpHd_take (i := 3) (v := ?_) (by kernel_rfl) (by simp only [List.getElem?_toArray, List.getElem?_cons_succ, List.getElem?_cons_zero] <;> rfl) (by kernel_rfl) (fun _ _ _ h => h) (Or.inl ⟨by rfl, ?_⟩) (by assumption) ?_
          rotate_left
          · (intro wS hSw; (try dsimp only at hSw); go_simp <;> with_reducible rfl)
          try simp only [Act.put, List.setIfInBounds_toArray, List.set_cons_zero, List.set_cons_succ]
          refine wpHd_take (i := 4) (v := ?_) (by kernel_rfl) (by simp only [List.getElem?_toArray, List.getElem?_cons_succ, List.getElem?_cons_zero] <;> rfl) (by kernel_rfl) (fun _ _ _ h => h) (Or.inl ⟨by rfl, ?_⟩) (by assumption) ?_
          rotate_left
          · (intro wS hSw; (try dsimp only at hSw); go_simp <;> with_reducible rfl)
          try simp only [Act.put, List.setIfInBounds_toArray, List.set_cons_zero, List.set_cons_succ]
          refine wpHd_take (i := 5) (v := ?_) (by kernel_rfl) (by simp only [List.getElem?_toArray, List.getElem?_cons_succ, List.getElem?_cons_zero] <;> rfl) (by kernel_rfl) (fun _ _ _ h => h) (Or.inl ⟨by rfl, ?_⟩) (by assumption) ?_
          rotate_left
          · (intro wS hSw; (try dsimp only at hSw); go_simp <;> with_reducible rfl)
          try simp only [Act.put, List.setIfInBounds_toArray, List.set_cons_zero, List.set_cons_succ]
          refine wpHd_take (i := 6) (v := ?_) (by kernel_rfl) (by simp only [List.getElem?_toArray, List.getElem?_cons_succ, List.getElem?_cons_zero] <;> rfl) (by kernel_rfl) (fun _ _ _ h => h) (Or.inl ⟨by rfl, ?_⟩) (by assumption) ?_
          rotate_left
          · (intro wS hSw; (try dsimp only at hSw); go_simp <;> with_reducible rfl)
          try simp only [Act.put, List.setIfInBounds_toArray, List.set_cons_zero, List.set_cons_succ]
          refine wpHd_take (i := 8) (v := ?_) (by kernel_rfl) (by simp only [List.getElem?_toArray, List.getElem?_cons_succ, List.getElem?_cons_zero] <;> rfl) (by kernel_rfl) (fun _ _ _ h => h) (Or.inl ⟨by rfl, ?_⟩) (by assumption) ?_
          rotate_left
          · (intro wS hSw; (try dsimp only at hSw); go_simp <;> with_reducible rfl)
          try simp only [Act.put, List.setIfInBounds_toArray, List.set_cons_zero, List.set_cons_succ]
          refine wpHd_take (i := 9) (v := ?_) (by kernel_rfl) (by simp only [List.getElem?_toArray, List.getElem?_cons_succ, List.getElem?_cons_zero] <;> rfl) (by kernel_rfl) (fun _ _ _ h => h) (Or.inl ⟨by rfl, ?_⟩) (by assumption) ?_
          rotate_left
          · (intro wS hSw; (try dsimp only at hSw); go_simp <;> with_reducible rfl)
          try simp only [Act.put, List.setIfInBounds_toArray, List.set_cons_zero, List.set_cons_succ]
          refine wpHd_ready (rs := [7]) (by kernel_rfl) (by simp) ?_
          refine (RdyHd.cons (by simp only [List.getElem?_toArray, List.getElem?_cons_succ, List.getElem?_cons_zero] <;> rfl) (by decide) (fun K hK => ?_) RdyHd.nil)
          · have LSX := Lib.hid (HI.out.shp.off HS.out.out HOF.out.1)
            refine Sp.step_loc HS.out rfl _ _ 25 (by rfl) 3 i0 Try.underlying25 HI0.out.1 HI0.out.2.1 HI0.out.2.2.1 HI0.out.2.2.2 (i := 9) rfl (by rfl) (by rfl) LSX.out bs0 ?_
            intro so5 sc5 w15 h5
            simp only [Nat.zero_add, List.nil_append, List.set_cons_zero, List.set_cons_succ] at h5
            have HT := Lib.hid h5
            clear h5 d0 d1 d2
            have d0 := HT.out.cell (i := 0) rfl 1 _ rfl; have d1 := HT.out.cell (i := 5) rfl 0 _ rfl; have d2 := HT.out.cell (i := 5) rfl 1 _ rfl
            refine hK.out _ _ ?_ (fun hHeld => ?_)
            · exact ⟨d0, d1, d2⟩
            clear hK K
            try simp only [Act.put, List.setIfInBounds_toArray, List.set_cons_zero, List.set_cons_succ]
            refine wpHd_ready (rs := [10]) (by kernel_rfl) (by simp) ?_
            refine (RdyHd.cons (by simp only [List.getElem?_toArray, List.getElem?_cons_succ, List.getElem?_cons_zero] <;> rfl) (by decide) (fun K hK => ?_) RdyHd.nil)
            · have LSX := Lib.hid (HI.out.ats.off HT.out.out HOF.out.2)
              refine Sp.step_loc HT.out rfl _ _ 28 (by rfl) 2 j0 Try.underlying28 HJ0.out.1 HJ0.out.2.1 HJ0.out.2.2.1 HJ0.out.2.2.2 (i := 10) rfl (by rfl) (by rfl) LSX.out ba0 ?_
              intro ao6 ac6 w16 h5
              simp only [Nat.zero_add, List.nil_append, List.set_cons_zero, List.set_cons_succ] at h5
              have HU := Lib.hid h5
              clear h5 d0 d1 d2
              have d0 := HU.out.cell (i := 0) rfl 1 _ rfl; have d1 := HU.out.cell (i := 5) rfl 0 _ rfl; have d2 := HU.out.cell (i := 5) rfl 1 _ rfl
              refine hK.out _ _ ?_ (fun hHeld => ?_)
              · exact ⟨d0, d1, d2⟩
              clear hK K
              try simp only [Act.put, List.setIfInBounds_toArray, List.set_cons_zero, List.set_cons_succ]
              refine wpHd_take (i := 11) (v := ?_) (by kernel_rfl) (by simp only [List.getElem?_toArray, List.getElem?_cons_succ, List.getElem?_cons_zero] <;> rfl) (by kernel_rfl) (fun _ _ _ h => h) (Or.inl ⟨by rfl, ?_⟩) (by assumption) ?_
              rotate_left
              · (intro wS hSw; (try dsimp only at hSw); go_simp <;> with_reducible rfl)
              try simp only [Act.put, List.setIfInBounds_toArray, List.set_cons_zero, List.set_cons_succ]
              refine wpHd_ready (rs := [12]) (by kernel_rfl) (by simp) ?_
              refine (RdyHd.cons (by simp only [List.getElem?_toArray, List.getElem?_cons_succ, List.getElem?_cons_zero] <;> rfl) (by decide) (fun K hK => ?_) RdyHd.nil)
              · go_simp
                have HV := Lib.hid (HU.out.via (abal w16 (.cells #[.slice so5 sn sc5, .slice ao6 an ac6] 45)))
                clear d0 d1 d2
                have d0 := HV.out.cell (i := 0) rfl 1 _ rfl; have d1 := HV.out.cell (i := 5) rfl 0 _ rfl; have d2 := HV.out.cell (i := 5) rfl 1 _ rfl
                refine hK.out _ _ ?_ (fun hHeld => ?_)
                · exact ⟨d0, d1, d2⟩
                clear hK K
                try simp only [Act.put, List.setIfInBounds_toArray, List.set_cons_zero, List.set_cons_succ]
                refine wpHd_ready (rs := [13]) (by kernel_rfl) (by simp) ?_
                refine (RdyHd.cons (by simp only [List.getElem?_toArray, List.getElem?_cons_succ, List.getElem?_cons_zero] <;> rfl) (by decide) (fun K hK => ?_) RdyHd.nil)
                · refine Sp.step_append HV.out rfl _ _ 32 (by rfl) 45 i4 (.agg #[.slice none 0 0, .slice none 0 0]) 2 48 Try.underlying32 HI4.out.1 HI4.out.2.1 HI4.out.2.2.1 HI4.out.2.2.2 rfl (by decide) (i := 3) rfl (by rfl) ⟨w16.heap.size, 0, none⟩ 1 1 (by rfl) [Value.slice so5 sn sc5, Value.slice ao6 an ac6] rfl (newsA w16 45 _ _) (by simp [Value.oneCell']) hmx hbyt ?_
                  intro b9 d9 w9 hH9
                  clear d0 d1 d2
                  have d0 := hH9.cell (i := 0) rfl 1 _ rfl
                  have d3 := hH9.frozen (i := 0) rfl 1
                  have d1 := hH9.cell (i := 5) rfl 0 _ rfl
                  have d2 := hH9.cell (i := 5) rfl 1 _ rfl
                  have q4 := Lib.hid (HFIN.out _ _ _ _ _ _ _ hH9)
                  refine hK.out _ _ ?_ (fun hHeld => ?_)
                  · exact ⟨d0, d1, d2⟩
                  clear hK K
                  try simp only [Act.put, List.setIfInBounds_toArray, List.set_cons_zero, List.set_cons_succ]
                  refine wpHd_take (i := 14) (v := ?_) (by kernel_rfl) (by simp only [List.getElem?_toArray, List.getElem?_cons_succ, List.getElem?_cons_zero] <;> rfl) (by kernel_rfl) (fun _ _ _ h => h) (Or.inl ⟨by rfl, ?_⟩) (by assumption) ?_
                  rotate_left
                  · (intro wS hSw; (try dsimp only at hSw); go_simp <;> with_reducible rfl)
                  try simp only [Act.put, List.setIfInBounds_toArray, List.set_cons_zero, List.set_cons_succ]
                  refine wpHd_take (i := 15) (v := ?_) (by kernel_rfl) (by simp only [List.getElem?_toArray, List.getElem?_cons_succ, List.getElem?_cons_zero] <;> rfl) (by kernel_rfl) (fun _ _ _ h => h) (Or.inl ⟨by rfl, ?_⟩) (by assumption) ?_
                  rotate_left
                  · (intro wS hSw; (try dsimp only at hSw); go_simp <;> with_reducible rfl)
                  try simp only [Act.put, List.setIfInBounds_toArray, List.set_cons_zero, List.set_cons_succ]
                  refine wpHd_done (by kernel_rfl) ?_
                  simp only [List.drop_succ_cons, List.drop_zero]
                  go_wp2_with fail
                  refine NoPanic.normal ?_
                  go_wp2
                  exact bodyPost_ret (v := .int .i64 0) (by simp [results, Try.results37, go_sem, *]) rfl q4.out
        · have e17 : E = 17 := by rw [HE2.out, if_neg hy]
          have HG := Lib.hid (HKEEP.out w7 _ 0 (by omega) H8.out (by simp only [rjnL]; rfl))
          obtain ⟨m, hmm⟩ : ∃ m, m = mayE (fr ++ adC c G s) := ⟨_, rfl⟩
          rw [← hmm] at CY hy
          have q0 : (m != 0) = true := by simpa using hy
          subst e17
          clear hy hmm
          go_wp2_with fail
          refine CY.out.mono ?_; rintro e w8 ⟨rfl, hw⟩
          have hw' := hw.symm
          subst hw'
          go_wp2
          exact bodyPost_ret (v := .int .i64 17) (by simp [results, Try.results37, go_sem, *]) rfl HG.out
    · have e1 : E = 1 := by rw [HEQ.out, if_neg hNeq, if_neg hm]
      have HF : Hid (∀ (w' : World) (L : List Pt), Sp F w w' L → L.take 5 = rjnL g fr c N ⟨fo, fn, fc, co, cn, cc, go, gc, As⟩ → RAddP F w g fr nC nG E (.returned (.int .i64 E)) w') := fun w' L => HKEEP.out w' L 0 (by omega)
      rw [e1] at HF ⊢
      have HM := Lib.hid hm
      clear hm HEQ hNeq
      go_enter Try.func37, Try.ntmps37
      go_wp2_with fail
      rw [HW.out]
      go_quiet (with_reducible exact Ret.quiet (HCN.out _))
      obtain ⟨W2, HW2⟩ : ∃ z, Hid (W.drewN nq = z) := ⟨_, rfl⟩
      have h2 := H1.out.via (adrew W nq)
      rw [HW2.out] at h2 ⊢
      have H2_ := h2
      try simp only [List.cons_append, List.nil_append, List.set_cons_zero, List.set_cons_succ, List.map_cons, List.map_nil, List.getD_cons_zero, List.getD_cons_succ, World.size_alloc] at H2_
      have H2 := Lib.hid H2_
      clear H2_
      clear h2 y0 y1
      have x0 := H2.out.cell (i := 5) rfl 0 _ rfl
      have x1 := H2.out.cell (i := 5) rfl 1 _ rfl
      have cm := rmay4_any (HI.out.off H2.out.out HOF.out)
      simp only [Ar.v] at cm
      rw [decide_eq_false HM.out] at cm
      have CM := Lib.hid cm
      clear cm
      go_wp2_with fail
      refine CM.out.mono ?_; rintro e w3 ⟨rfl, hb3⟩
      have HG := Lib.hid (HF.out _ _ (H2.out.via hb3) (by simp only [rjnL]; rfl))
      clear hb3
      go_wp2
      exact bodyPost_ret (v := .int .i64 1) (by simp [results, Try.results37, go_sem, *]) rfl HG.out
end Go.Proofs.Ythackmkdicpdeaa
