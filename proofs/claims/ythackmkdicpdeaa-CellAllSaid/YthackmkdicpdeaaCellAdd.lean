/- Contract of cell.Joiner.Add. -/
import Derived.Test.YthackmkdicpdeaaCellBegin
import Derived.Deep.RegionLaw
import Derived.Deep.CutRange
namespace Go.Proofs.Ythackmkdicpdeaa
open Go.RowKit Go.Lib
set_option linter.unusedVariables false
set_option linter.unusedSimpArgs false
attribute [local go_sem] alloc_drewN setCell_drewN
theorem Ls.off {w w' : World} {ao : Option Addr} {n c : Nat} {zs : List Int} {F : Nat → Prop} (h : Ls w ao n c zs) (ho : Out F w w') (hf : 0 < n → ∀ k, (Value.slice ao n c).ownBlock = some k → ¬ F k) : Ls w' ao n c zs :=
  ⟨h.len, h.cap, h.big, h.top, fun h0 => by
    obtain ⟨b, off, e, hlt, hc⟩ := h.mem h0
    subst e
    exact ⟨b, off, rfl, Nat.lt_of_lt_of_le hlt ho.size, fun i hi => (ho.cell (p := ⟨b, off + i, none⟩) hlt (hf h0 b rfl)).trans (hc i hi)⟩, h.rng⟩
/-- An array that lies beside some blocks. -/
def Ar.Off (A : Ar) (F : Nat → Prop) : Prop := (0 < A.sn → ∀ k, (Value.slice A.sa A.sn A.sc).ownBlock = some k → ¬ F k) ∧ (0 < A.an → ∀ k, (Value.slice A.aa A.an A.ac).ownBlock = some k → ¬ F k)
theorem Ls.off_old {w : World} {ao : Option Addr} {n c : Nat} {zs : List Int} {F : Nat → Prop} (h : Ls w ao n c zs) (hF : ∀ k, F k → w.heap.size ≤ k) : 0 < n → ∀ k, (Value.slice ao n c).ownBlock = some k → ¬ F k := fun h0 k hk hf => by
  obtain ⟨b, off, e, hlt, hc⟩ := h.mem h0
  subst e
  cases hk
  have h2 : w.heap.size ≤ b := hF _ hf
  omega
theorem Ar.Is.off_old {A : Ar} {w : World} {F : Nat → Prop} (h : A.Is w) (hF : ∀ k, F k → w.heap.size ≤ k) : A.Off F := ⟨h.shp.off_old hF, h.ats.off_old hF⟩
theorem Ar.Is.off {A : Ar} {w w' : World} {F : Nat → Prop} (h : A.Is w) (ho : Out F w w') (hf : A.Off F) : A.Is w' := ⟨h.shp.off ho hf.1, h.ats.off ho hf.2⟩
theorem lss_pair (w : World) {ao bo : Option Addr} {n c m d : Nat} {s t : List Int} (h1 : Ls w ao n c s) (h2 : Ls w bo m d t) :
    Lss (w.alloc (.cells #[.slice ao n c, .slice bo m d] 25)) (some ⟨w.heap.size, 0, none⟩) 2 2 [s, t] := by
  refine ⟨rfl, Nat.le_refl _, by omega, by decide, fun _ => ⟨w.heap.size, 0, rfl, by simp, fun i hi => ?_⟩⟩
  match i with
  | 0 => exact ⟨ao, n, c, by simp [go_sem], h1.below (abal _ _) (Nat.le_refl _)⟩
  | 1 => exact ⟨bo, m, d, by simp [go_sem], h2.below (abal _ _) (Nat.le_refl _)⟩
  | i + 2 => omega
/-- The joiner behind an Add. -/
def adNC (fr c : List Int) (G : List (List Int × List Int)) (s a : List Int) : List Int := if adE fr c G s a = 0 then adC c G s else c
def adNG (fr c : List Int) (G : List (List Int × List Int)) (s a : List Int) : List (List Int × List Int) := if adE fr c G s a = 0 then G ++ [(s, a)] else G
def AddP (F : Nat → Prop) (w : World) (g : Nat) (fr c : List Int) (G : List (List Int × List Int)) (err : Int) (e : Ending) (w' : World) : Prop :=
  e = .returned (.int .i64 err) ∧ ∃ F', (Pt.joiner g fr c G).P w' F' ∧ (∀ k, F' k → F k ∨ w.heap.size ≤ k) ∧ Out F w w'
theorem addP_mk {F : Nat → Prop} {w w' : World} {g : Nat} {fr c : List Int} {G : List (List Int × List Int)} {x : Jn} {L : List Pt} (H : Sp F w w' L) (hL : L.take 5 = jnL g fr c G.length x) (h1 : mayE fr = 0) (h2 : 0 < pr fr) (h3 : Jok fr c G) (h4 : x.As.map Ar.sa2 = G) (err : Int) :
    AddP F w g fr c G err (.returned (.int .i64 err)) w' := by
  obtain ⟨F', hF, hs⟩ := (H.group 5).get (i := 0) rfl
  rw [hL] at hF
  exact ⟨rfl, F', ⟨x, ⟨h1, h2, h3, h4⟩, hF⟩, hs, H.out⟩
set_option maxRecDepth 100000 in
set_option maxHeartbeats 3200000 in
theorem add4_any {w : World} {F : Nat → Prop} {g : Nat} {fr c : List Int} {G : List (List Int × List Int)} (hJ : (Pt.joiner g fr c G).P w F) {A : Ar} (hA : A.Is w) (hof : A.Off F) :
    Calls Try.prog 26 #[.pointer (some ⟨g, 0, none⟩), A.v] w (AddP F w g fr (adNC fr c G A.s A.a) (adNG fr c G A.s A.a) (adE fr c G A.s A.a)) := by
  obtain ⟨sa, sn, sc, aa, an, ac, s, a⟩ := A
  simp only [Ar.v]
  obtain ⟨⟨fo, fn, fc, co, cn, cc, go, gc, As⟩, ⟨hfr, hp, hjok, hG⟩, hall⟩ := hJ
  have h0 := Sp.of_all (Out.refl F w) hall (fun k h => .inl h)
  simp only [jnL] at h0 hG
  obtain ⟨E, HE⟩ : ∃ z, Hid (adE fr c G s a = z) := ⟨_, rfl⟩
  have eC : adNC fr c G s a = if E = 0 then adC c G s else c := by unfold adNC; rw [HE.out]
  have eG : adNG fr c G s a = if E = 0 then G ++ [(s, a)] else G := by unfold adNG; rw [HE.out]
  obtain ⟨nC, HNC⟩ : ∃ z, Hid (z = adNC fr c G s a) := ⟨_, rfl⟩
  obtain ⟨nG, HNG⟩ : ∃ z, Hid (z = adNG fr c G s a) := ⟨_, rfl⟩
  rw [HE.out, ← HNC.out, ← HNG.out]
  rw [← HNC.out] at eC
  rw [← HNG.out] at eG
  obtain ⟨N, HN⟩ : ∃ z, Hid (G.length = z) := ⟨_, rfl⟩
  rw [HN.out] at h0
  have hle := hjok.le
  have hpb := pr_nonneg hfr
  rw [HN.out] at hle
  obtain ⟨P, hP⟩ : ∃ P : Nat, pr fr = P := ⟨(pr fr).toNat, by omega⟩
  rw [hP] at h0 hle hpb
  have HPP := Lib.hid hP
  have hNP : N ≤ P := by omega
  have hPb : P ≤ 4096 := by omega
  obtain ⟨W, HW⟩ : ∃ z, Hid (w.alloc (.cells #[.slice sa sn sc, .slice aa an ac] 45) = z) := ⟨_, rfl⟩
  have h1 := h0.alloc 45 2 1 #[.slice sa sn sc, .slice aa an ac] rfl (by decide)
  rw [HW.out] at h1
  have H1_ := h1
  try simp only [List.cons_append, List.nil_append, List.set_cons_zero, List.set_cons_succ, List.map_cons, List.map_nil, List.getD_cons_zero, List.getD_cons_succ, World.size_alloc] at H1_
  have H1 := Lib.hid H1_
  clear H1_
  have HI := Lib.hid hA
  have HOF := Lib.hid hof
  have HJK := Lib.hid (And.intro hfr (And.intro hp (And.intro hjok hG)))
  have HKEEP : Hid (∀ (w' : World) (L : List Pt) (e : Int), E ≠ 0 → Sp F w w' L → L.take 5 = jnL g fr c N ⟨fo, fn, fc, co, cn, cc, go, gc, As⟩ → AddP F w g fr nC nG E (.returned (.int .i64 E)) w') := fun w' L e he H hL => by
    rw [eC, eG, if_neg he, if_neg he]
    rw [← HN.out] at hL
    exact addP_mk H hL hfr hp hjok hG E
  have hEQ : E = if N = P then 4 else if amE s a = 0 then if mayE (fr ++ adC c G s) = 0 then 0 else 17 else 1 := by
    rw [← HE.out]; unfold adE; rw [HN.out, hP]; simp only [Int.natCast_inj]
  have HEQ := Lib.hid hEQ
  have HEC := Lib.hid eC
  have HEG := Lib.hid eG
  have y0 := H1.out.cell (i := 0) rfl 0 _ rfl
  have y1 := H1.out.cell (i := 0) rfl 1 _ rfl
  have y2 := H1.out.cell (i := 0) rfl 2 _ rfl
  have y3 := H1.out.cell (i := 0) rfl 3 _ rfl
  have x0 := H1.out.cell (i := 5) rfl 0 _ rfl
  have x1 := H1.out.cell (i := 5) rfl 1 _ rfl
  clear h0 h1 hA hof hfr hp hjok hG hle hpb hP hall eC eG hEQ
  by_cases hNeq : N = P
  · have e4 : E = 4 := by rw [HEQ.out, if_pos hNeq]
    have HF := fun q => HKEEP.out (W.drewN q) _ 0 (by omega) (H1.out.via (adrew W q)) (by simp only [jnL]; rw [HPP.out]; rfl)
    rw [e4] at HF ⊢
    have HFF := Lib.hid HF
    have q1 : ((N : Int) == P) = true := by simp [hNeq]
    have q2 : (N : Int) = P := by omega
    clear HF hNeq hNP
    go_enter Try.func26, Try.ntmps26
    go_wp2_with fail
    rw [HW.out]
    go_quiet (fail)
    go_wp2
    exact bodyPost_ret (v := .int .i64 4) (by simp [results, Try.results26, go_sem, *]) rfl (HFF.out _)
  · have q2 : ¬ ((N : Int) = P) := by omega
    have hlt : N < P := by omega
    by_cases hm : amE s a = 0
    · have hE2 : E = if mayE (fr ++ adC c G s) = 0 then 0 else 17 := by rw [HEQ.out, if_neg hNeq, if_pos hm]
      have HE2 := Lib.hid hE2
      have HM := Lib.hid hm
      clear hm hE2 HEQ hNeq
      go_enter Try.func26, Try.ntmps26
      go_wp2_with fail
      rw [HW.out]
      go_quiet (fail)
      obtain ⟨W2, HW2⟩ : ∃ z, Hid (W.drewN nq = z) := ⟨_, rfl⟩
      have h2 := H1.out.via (adrew W nq)
      rw [HW2.out] at h2 ⊢
      have H2_ := h2
      try simp only [List.cons_append, List.nil_append, List.set_cons_zero, List.set_cons_succ, List.map_cons, List.map_nil, List.getD_cons_zero, List.getD_cons_succ, World.size_alloc] at H2_
      have H2 := Lib.hid H2_
      clear H2_
      clear h2 y0 y1 y2 y3 x0 x1
      have x0 := H2.out.cell (i := 5) rfl 0 _ rfl
      have x1 := H2.out.cell (i := 5) rfl 1 _ rfl
      have CM := Lib.hid (arrmay_any (HI.out.off H2.out.out HOF.out))
      simp only [Ar.v] at CM
      rw [HM.out] at CM
      go_wp2_with fail
      refine CM.out.mono ?_; rintro e w3 ⟨rfl, hb3⟩
      have H3_ := H2.out.via hb3
      try simp only [List.cons_append, List.nil_append, List.set_cons_zero, List.set_cons_succ, List.map_cons, List.map_nil, List.getD_cons_zero, List.getD_cons_succ, World.size_alloc] at H3_
      have H3 := Lib.hid H3_
      clear H3_
      clear hb3 x0 x1
      have x0 := H3.out.cell (i := 5) rfl 0 _ rfl
      have x1 := H3.out.cell (i := 5) rfl 1 _ rfl
      have CC := Lib.hid (clone_any (HI.out.shp.off H3.out.out HOF.out.1))
      simp only at CC
      go_wp2_with fail
      refine CC.out.mono ?_; rintro e w4 ⟨lo, lc, rfl, hL4, hO4, hb4⟩
      have H4_ := H3.out.intsNew hO4 hb4 hL4.big hL4.rng
      try simp only [List.cons_append, List.nil_append, List.set_cons_zero, List.set_cons_succ, List.map_cons, List.map_nil, List.getD_cons_zero, List.getD_cons_succ, World.size_alloc] at H4_
      have H4 := Lib.hid H4_
      clear H4_
      clear hL4 hO4 hb4 x0 x1
      have y3 := H4.out.cell (i := 0) rfl 3 _ rfl
      go_upto_if 28 with fail
      go_cut [5, 6] from 28 to 41 (fun (v q : Value) (wx : World) => ∃ (ao : Option Addr) (n c' : Nat), v = Value.slice ao n c' ∧ Hid (Sp F w wx [Pt.row ⟨126, 4, some ⟨g, 0, none⟩, 1, 1, [.slice fo fn fc, .int .i64 P, .slice co cn cc, .slice go N gc]⟩, Pt.ints 3 fo fn fc fr, Pt.ints 3 co cn cc c, Pt.row ⟨45, 2, go, N, gc, cellsA As⟩, Pt.all (As.map Pt.arr), Pt.row ⟨45, 2, some ⟨w.heap.size, 0, none⟩, 1, 1, [.slice sa sn sc, .slice aa an ac]⟩, Pt.ints 3 ao n c' (adC c G s)]))
      case first =>
        by_cases hz : N = 0
        · have eA : adC c G s = s := by unfold adC; rw [if_pos (by rw [HN.out]; exact hz)]
          have hz1 : ¬ ((0 : Int) < N) := by omega
          have HQ : Hid (Sp F w w4 [Pt.row ⟨126, 4, some ⟨g, 0, none⟩, 1, 1, [.slice fo fn fc, .int .i64 P, .slice co cn cc, .slice go N gc]⟩, Pt.ints 3 fo fn fc fr, Pt.ints 3 co cn cc c, Pt.row ⟨45, 2, go, N, gc, cellsA As⟩, Pt.all (As.map Pt.arr), Pt.row ⟨45, 2, some ⟨w.heap.size, 0, none⟩, 1, 1, [.slice sa sn sc, .slice aa an ac]⟩, Pt.ints 3 lo sn lc (adC c G s)]) := by show Sp _ _ _ _; rw [eA]; exact H4.out
          clear eA hz
          go_wp2_with fail
          go_meet
          exact ⟨lo, sn, lc, rfl, HQ⟩
        · have hz1 : (0 : Int) < N := by omega
          have eA : adC c G s = bthL c s := by unfold adC; rw [if_neg (by rw [HN.out]; exact hz)]
          have hcm : mayE c = 0 := (mayE_app (HJK.out.2.2.1.may (by rw [HN.out]; omega))).2
          have hsm : mayE s = 0 := (amE_zero HM.out).1
          have CV : Hid (∀ wx : World, Below w4.heap.size w4 wx → Calls Try.prog 68 #[.slice (some ⟨wx.heap.size, 0, none⟩) 2 2] (wx.alloc (.cells #[.slice co cn cc, .slice sa sn sc] 25)) (MadeS (wx.alloc (.cells #[.slice co cn cc, .slice sa sn sc] 25)) (cvR [c, s]).1 (cvR [c, s]).2)) := fun wx hb => by
            have hx := (H4.out.via hb)
            exact cover_any (lss_pair wx ((hx.ls (i := 2) rfl)) (HI.out.shp.off hx.out HOF.out.1))
          have x0 := H4.out.cell (i := 5) rfl 0 _ rfl
          have y2 := H4.out.cell (i := 0) rfl 2 _ rfl
          by_cases hb : mayE (bthL c s) = 0
          · have ecv : cvR [c, s] = (bthL c s, 0) := by
              show (if mayE c = 0 then cvGo c [s] else _) = _
              rw [if_pos hcm]
              show (if mayE s = 0 then if mayE (bthL c s) = 0 then cvGo (bthL c s) [] else _ else _) = _
              rw [if_pos hsm, if_pos hb]; rfl
            rw [ecv] at CV
            have HQ : Hid (∀ (wx w5 : World) (vo : Option Addr) (vn vc : Nat), Below w4.heap.size w4 wx → Ls w5 vo vn vc (bthL c s) → w5.ownsRow (wx.alloc (.cells #[.slice co cn cc, .slice sa sn sc] 25)).heap.size 3 1 (.slice vo vn vc) vn ((bthL c s).map (Value.int .i64)) → Below (wx.alloc (.cells #[.slice co cn cc, .slice sa sn sc] 25)).heap.size (wx.alloc (.cells #[.slice co cn cc, .slice sa sn sc] 25)) w5 →
                Sp F w w5 [Pt.row ⟨126, 4, some ⟨g, 0, none⟩, 1, 1, [.slice fo fn fc, .int .i64 P, .slice co cn cc, .slice go N gc]⟩, Pt.ints 3 fo fn fc fr, Pt.ints 3 co cn cc c, Pt.row ⟨45, 2, go, N, gc, cellsA As⟩, Pt.all (As.map Pt.arr), Pt.row ⟨45, 2, some ⟨w.heap.size, 0, none⟩, 1, 1, [.slice sa sn sc, .slice aa an ac]⟩, Pt.ints 3 vo vn vc (adC c G s)]) := fun wx w5 vo vn vc hb hL hO hB => by
              rw [eA]
              exact (((H4.out.via hb).via (abal wx _)).intsNew hO hB hL.big hL.rng).pick [0, 1, 2, 3, 4, 5, 7] (by decide)
            clear eA hz hcm hsm hb ecv
            go_wp2_with fail
            go_region_law (first
              | (go_simp; go_at_call 68; refine (CV.out w4.drew (adrew1 w4)).mono ?_; rintro e w5 ⟨vo, vn, vc, rfl, hL5, hO5, hB5⟩))
            all_goals
              have HQ5 := Lib.hid (HQ.out w4.drew w5 vo vn vc (adrew1 w4) hL5 hO5 hB5)
              clear hL5 hO5 hB5
              go_wp2_with fail
              go_meet
              exact ⟨vo, vn, vc, rfl, HQ5⟩
          · have ecv : cvR [c, s] = ([], 17) := by
              show (if mayE c = 0 then cvGo c [s] else _) = _
              rw [if_pos hcm]
              show (if mayE s = 0 then if mayE (bthL c s) = 0 then cvGo (bthL c s) [] else _ else _) = _
              rw [if_pos hsm, if_neg hb]
            rw [ecv] at CV
            have e17 : E = 17 := by rw [HE2.out, if_neg (fun h => hb (by rw [← eA]; exact (mayE_app h).2))]
            have HF : Hid (∀ (w' : World) (L : List Pt), Sp F w w' L → L.take 5 = jnL g fr c N ⟨fo, fn, fc, co, cn, cc, go, gc, As⟩ → AddP F w g fr nC nG 17 (.returned (.int .i64 17)) w') := fun w' L => by have h := HKEEP.out w' L 0 (by omega); rw [e17] at h; exact h
            clear eA hz hcm hsm hb ecv
            subst e17
            go_wp2_with fail
            go_region_law (first
              | (go_simp; go_at_call 68; refine (CV.out w4.drew (adrew1 w4)).mono ?_; rintro e w5 ⟨vo, vn, vc, rfl, hL5, hO5, hB5⟩))
            all_goals
              have HG := Lib.hid (HF.out w5 _ (((H4.out.via (adrew1 w4)).via (abal w4.drew _)).via hB5) (by simp only [jnL]; rw [HPP.out]; rfl))
              clear hL5 hO5 hB5
              go_wp2
              exact bodyPost_ret (v := .int .i64 17) (by simp [results, Try.results26, go_sem, *]) rfl HG.out
      case rest =>
        obtain ⟨ao, n, c', rfl, H5⟩ := hcut
        obtain ⟨U, hU⟩ : ∃ z : World, z = wc := ⟨_, rfl⟩
        subst hU
        clear y3
        have hlf : fn ≤ 1000000 := by have := (H5.out.ls (i := 1) rfl).len; have := (mayE_zero HJK.out.1).2.1; omega
        have hln : n ≤ 1000000 := by
          have h1 := (H5.out.ls (i := 6) rfl).len
          have h2 : (adC c G s).length ≤ 8 := by
            have hsm := (mayE_zero (amE_zero HM.out).1).2.1
            unfold adC
            split
            · exact hsm
            · have := (mayE_zero (mayE_app (HJK.out.2.2.1.may (by omega))).2).2.1
              rw [bthL_len]; omega
          omega
        have y0 := H5.out.cell (i := 0) rfl 0 _ rfl
        have h6 := H5.out.alloc 25 1 2 #[.slice fo fn fc, .slice ao n c'] rfl (by decide)
        have CT := Lib.hid (concat_two (h6.rlt (i := 7) rfl).1 (h6.cell (i := 7) rfl 0 _ rfl) (h6.cell (i := 7) rfl 1 _ rfl) (h6.ls (i := 1) rfl) (h6.ls (i := 6) rfl) hlf hln)
        have H6_ := h6
        try simp only [List.cons_append, List.nil_append, List.set_cons_zero, List.set_cons_succ, List.map_cons, List.map_nil, List.getD_cons_zero, List.getD_cons_succ, World.size_alloc] at H6_
        have H6 := Lib.hid H6_
        clear H6_
        clear h6 hlf hln
        go_wp2_with fail
        refine CT.out.mono ?_; rintro e w7 ⟨ro7, rn7, rc7, rfl, hL7, hO7, hB7⟩
        have H7_ := H6.out.via hB7
        try simp only [List.cons_append, List.nil_append, List.set_cons_zero, List.set_cons_succ, List.map_cons, List.map_nil, List.getD_cons_zero, List.getD_cons_succ, World.size_alloc] at H7_
        have H7 := Lib.hid H7_
        clear H7_
        have CY := Lib.hid (may_any hL7)
        clear hL7 hO7 hB7 y0
        by_cases hy : mayE (fr ++ adC c G s) = 0
        · have e0 : E = 0 := by rw [HE2.out, if_pos hy]
          have hnC : nC = adC c G s := by rw [HEC.out, if_pos e0]
          have hnG : nG = G ++ [(s, a)] := by rw [HEG.out, if_pos e0]
          have HJ2 : Hid (Jok fr (adC c G s) (G ++ [(s, a)])) := HJK.out.2.2.1.step (x := (s, a)) (by rw [HE.out]; exact e0)
          rw [hy] at CY
          have HLAST : Hid (∀ (wx : World) (ro : Option Addr) (rc : Nat) (Bs : List Ar), Bs.map Ar.sa2 = G ++ [(s, a)] → Sp F w wx [Pt.row ⟨126, 4, some ⟨g, 0, none⟩, 1, 1, [.slice fo fn fc, .int .i64 P, .slice ao n c', .slice ro (N + 1) rc]⟩, Pt.ints 3 fo fn fc fr, Pt.ints 3 ao n c' (adC c G s), Pt.row ⟨45, 2, ro, N + 1, rc, cellsA Bs⟩, Pt.all (Bs.map Pt.arr)] → AddP F w g fr nC nG 0 (.returned (.int .i64 0)) wx) := fun wx ro rc Bs hBs h => by
            rw [hnC, hnG]
            refine addP_mk (x := ⟨fo, fn, fc, ao, n, c', ro, rc, Bs⟩) h ?_ HJK.out.1 HJK.out.2.1 HJ2.out hBs 0
            simp only [jnL, List.length_append, List.length_singleton, HN.out, HPP.out]
            rfl
          subst e0
          clear hnC hnG hy
          have y2 := H7.out.cell (i := 0) rfl 2 _ rfl
          have f2 := H7.out.frozen (i := 0) rfl 2
          have H8_ := H7.out.put (i := 0) rfl 2 (.slice ao n c')
          try simp only [List.cons_append, List.nil_append, List.set_cons_zero, List.set_cons_succ, List.map_cons, List.map_nil, List.getD_cons_zero, List.getD_cons_succ, World.size_alloc] at H8_
          have H8 := Lib.hid H8_
          clear H8_
          go_wp2_with fail
          refine CY.out.mono ?_; rintro e w8 ⟨rfl, hw⟩
          have hw' := hw.symm
          subst hw'
          go_upto_region 14 with fail
          obtain ⟨V, HV⟩ : ∃ z, Hid (w7.setCell ⟨g, 2, none⟩ (.slice ao n c') = z) := ⟨_, rfl⟩
          rw [HV.out] at H8 ⊢
          have hX := HI.out.off H8.out.out HOF.out
          have H9_ := H8.out.via (adrew1 V)
          try simp only [List.cons_append, List.nil_append, List.set_cons_zero, List.set_cons_succ, List.map_cons, List.map_nil, List.getD_cons_zero, List.getD_cons_succ, World.size_alloc] at H9_
          have H9 := Lib.hid H9_
          clear H9_
          have HA9 := Lib.hid (HI.out.off H9.out.out HOF.out)
          obtain ⟨i4, hi4, hza4, hzb4, hzc4⟩ := info_parts (P := Try.prog) (e := 45) (z := .agg #[.slice none 0 0, .slice none 0 0]) (size := 2) (bytes := 48) (by kernel_rfl)
          have hmx : N + 1 ≤ maxLen := by unfold maxLen; omega
          have hbyt : (N + 1) * 48 ≤ 140737488355328 := by omega
          have z3 := H9.out.cell (i := 0) rfl 3 _ rfl
          have z0 := H9.out.cell (i := 5) rfl 0 _ rfl
          have z1 := H9.out.cell (i := 5) rfl 1 _ rfl
          clear y2 f2 hX
          have HFIN : Hid (∀ (w9 : World) (so5 : Option Addr) (sc5 : Nat) (ao6 : Option Addr) (ac6 : Nat) (b9 : Option Addr) (d9 : Nat) (bx : Pt), Sp F w w9 [Pt.row ⟨126, 4, some ⟨g, 0, none⟩, 1, 1, [.slice fo fn fc, .int .i64 P, .slice ao n c', .slice go N gc]⟩, Pt.ints 3 fo fn fc fr, Pt.ints 3 co cn cc c, Pt.row ⟨45, 2, b9, N + 1, d9, cellsA As ++ [.slice so5 sn sc5, .slice ao6 an ac6]⟩, Pt.all (As.map Pt.arr), Pt.row ⟨45, 2, some ⟨w.heap.size, 0, none⟩, 1, 1, [.slice sa sn sc, .slice aa an ac]⟩, Pt.ints 3 ao n c' (adC c G s), bx,
              Pt.ints 3 so5 sn sc5 s, Pt.ints 2 ao6 an ac6 a] → AddP F w g fr nC nG 0 (.returned (.int .i64 0)) (w9.setCell ⟨g, 3, none⟩ (.slice b9 (N + 1) d9))) := by
            intro w9 so5 sc5 ao6 ac6 b9 d9 bx hH9
            have hX := hH9.put (i := 0) rfl 3 (.slice b9 (N + 1) d9)
            simp only [List.set_cons_zero, List.set_cons_succ] at hX
            have hX2 := hX.arrOf (i := 8) (j := 9) rfl (by decide) rfl
            simp only [List.set_cons_zero, List.set_cons_succ] at hX2
            have hX3 := hX2.arrMore (i := 4) (j := 9) rfl (by decide) rfl
            have HX_ := hX3.pick [0, 1, 6, 3, 4] (by decide)
            try simp only [List.cons_append, List.nil_append, List.set_cons_zero, List.set_cons_succ, List.map_cons, List.map_nil, List.getD_cons_zero, List.getD_cons_succ, World.size_alloc] at HX_
            have HX := Lib.hid HX_
            clear HX_
            refine HLAST.out _ b9 d9 (As ++ [⟨so5, sn, sc5, ao6, an, ac6, s, a⟩]) ?_ ?_
            · rw [List.map_append, HJK.out.2.2.2]; rfl
            · rw [cellsA_app]; exact HX.out
          clear HLAST
          go_region_law (first
            | (refine Sp.step_append HVV rfl _ _ 32 (by rfl) 45 i4 (.agg #[.slice none 0 0, .slice none 0 0]) 2 48 Try.underlying32 hi4 hza4 hzb4 hzc4 rfl (by decide) (i := 3) rfl (by rfl) ⟨w6.heap.size, 0, none⟩ 1 1 (by rfl) [Value.slice so5 sn sc5, Value.slice ao6 an ac6] rfl (newsA w6 45 _ _) (by simp [Value.oneCell']) hmx hbyt ?_; intro b9 d9 w9 hH9; have q1 := hH9.cell (i := 0) rfl 3 _ rfl; have q2 := hH9.frozen (i := 0) rfl 3)
            | (go_simp; go_at_call 63; refine (clone_any HA9.out.shp).mono ?_; rintro e w5 ⟨so5, sc5, rfl, hL5, hO5, hB5⟩; have HT := Lib.hid (H9.out.intsNew hO5 hB5 hL5.big hL5.rng); have q1 := HT.out.cell (i := 0) rfl 3 _ rfl; have q2 := HT.out.cell (i := 5) rfl 1 _ rfl; have CK := clone6_any (HA9.out.ats.via hB5))
            | (go_simp; go_at_call 64; refine CK.mono ?_; rintro e w6 ⟨ao6, ac6, rfl, hL6, hO6, hB6⟩; have HU := Lib.hid (HT.out.intsNew hO6 hB6 hL6.big hL6.rng); have HVV := HU.out.via (abal w6 (.cells #[.slice so5 sn sc5, .slice ao6 an ac6] 45)); have q3 := HU.out.cell (i := 0) rfl 3 _ rfl; have q4 := HVV.cell (i := 0) rfl 3 _ rfl))
          all_goals
            have HG := Lib.hid (HFIN.out _ _ _ _ _ _ _ _ hH9)
            clear hH9 q1 q2 q3 q4 HVV HU HT hL5 hO5 hB5 hL6 hO6 hB6 CK
            go_wp2
            exact bodyPost_ret (v := .int .i64 0) (by simp [results, Try.results26, go_sem, *]) rfl HG.out
        · have e17 : E = 17 := by rw [HE2.out, if_neg hy]
          have HG := Lib.hid (HKEEP.out w7 _ 0 (by omega) H7.out (by simp only [jnL]; rw [HPP.out]; rfl))
          obtain ⟨m, hmm⟩ : ∃ m, m = mayE (fr ++ adC c G s) := ⟨_, rfl⟩
          rw [← hmm] at CY hy
          have q0 : (m != 0) = true := by simpa using hy
          subst e17
          clear hy hmm
          go_wp2_with fail
          refine CY.out.mono ?_; rintro e w8 ⟨rfl, hw⟩
          have hw' := hw.symm
          subst hw'
          go_wp2
          exact bodyPost_ret (v := .int .i64 17) (by simp [results, Try.results26, go_sem, *]) rfl HG.out
    · have e1 : E = 1 := by rw [HEQ.out, if_neg hNeq, if_neg hm]
      obtain ⟨m, hmm⟩ : ∃ m, m = amE s a := ⟨_, rfl⟩
      rw [← hmm] at hm
      have HMM := Lib.hid hmm
      have q0 : (m != 0) = true := by simpa using hm
      have HF : Hid (∀ (w' : World) (L : List Pt), Sp F w w' L → L.take 5 = jnL g fr c N ⟨fo, fn, fc, co, cn, cc, go, gc, As⟩ → AddP F w g fr nC nG E (.returned (.int .i64 E)) w') := fun w' L => HKEEP.out w' L 0 (by omega)
      rw [e1] at HF ⊢
      clear hm hmm HEQ hNeq
      go_enter Try.func26, Try.ntmps26
      go_wp2_with fail
      rw [HW.out]
      go_quiet (fail)
      obtain ⟨W2, HW2⟩ : ∃ z, Hid (W.drewN nq = z) := ⟨_, rfl⟩
      have h2 := H1.out.via (adrew W nq)
      rw [HW2.out] at h2 ⊢
      have H2_ := h2
      try simp only [List.cons_append, List.nil_append, List.set_cons_zero, List.set_cons_succ, List.map_cons, List.map_nil, List.getD_cons_zero, List.getD_cons_succ, World.size_alloc] at H2_
      have H2 := Lib.hid H2_
      clear H2_
      clear h2 y0 y1 y2 y3 x0 x1
      have x0 := H2.out.cell (i := 5) rfl 0 _ rfl
      have x1 := H2.out.cell (i := 5) rfl 1 _ rfl
      have CM := Lib.hid (arrmay_any (HI.out.off H2.out.out HOF.out))
      simp only [Ar.v] at CM
      rw [← HMM.out] at CM
      go_wp2_with fail
      refine CM.out.mono ?_; rintro e w3 ⟨rfl, hb3⟩
      have HG := Lib.hid (HF.out _ _ (H2.out.via hb3) (by simp only [jnL]; rw [HPP.out]; rfl))
      clear hb3
      go_wp2
      exact bodyPost_ret (v := .int .i64 1) (by simp [results, Try.results26, go_sem, *]) rfl HG.out
end Go.Proofs.Ythackmkdicpdeaa
