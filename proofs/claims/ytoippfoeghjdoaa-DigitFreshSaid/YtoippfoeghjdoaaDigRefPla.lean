/- The document's counted (layer 8). The document's places (layer 8). -/
import Derived.Test.YtoippfoeghjdoaaDigRef3
namespace Go.Proofs.Ytoippfoeghjdoaa
open Go.RowKit Go.Lib
set_option linter.unusedVariables false
set_option linter.unusedSimpArgs false
attribute [local go_sem] alloc_drewN setCell_drewN
/-- A length without its sign, as the document takes it. -/
def sgN (n : Int) : Int := if n = -9223372036854775808 then 9223372036854775807 else (n.natAbs : Int)
theorem sgN_at (l : List Int) (i : Nat) : (l.map sgN).getD i 0 = sgN (l.getD i 0) := by
  simp only [List.getD_eq_getElem?_getD, List.getElem?_map]
  cases l[i]? with
  | none => rfl
  | some x => rfl
theorem sgN_abs {l : List Int} (h : ∀ i, l.getD i 0 ≠ -9223372036854775808) : l.map sgN = absL l := by
  unfold absL
  refine List.map_congr_left fun x hx => ?_
  obtain ⟨i, hi, rfl⟩ := List.getElem_of_mem hx
  have := h i
  rw [List.getD_eq_getElem?_getD, List.getElem?_eq_getElem hi, Option.getD_some] at this
  unfold sgN
  rw [if_neg this]
theorem may_at {s : List Int} (h : mayE s = 0) (i : Nat) : s.getD i 0 ≤ 4096 := by
  have q1 := (pm_up s i).2.2
  have q2 := pm_all s (i + 1)
  have q3 := (mayE_zero h).2.2
  omega
theorem sgN_may (l : List Int) : (mayE (l.map sgN) = 0 ↔ mayE (absL l) = 0) ∧ (mayE (absL l) = 0 → l.map sgN = absL l) := by
  have h1 : mayE (absL l) = 0 → l.map sgN = absL l := fun h => sgN_abs fun i e => by
    have := may_at h i
    rw [absL_at, e] at this
    omega
  refine ⟨⟨fun h => ?_, fun h => by rw [h1 h]; exact h⟩, h1⟩
  have : l.map sgN = absL l := sgN_abs fun i e => by
    have := may_at h i
    rw [sgN_at, e] at this
    simp [sgN] at this
  rw [← this]; exact h
theorem sgN_rng (n : Int) (h : -9223372036854775808 ≤ n ∧ n ≤ 9223372036854775807) : -9223372036854775808 ≤ sgN n ∧ sgN n ≤ 9223372036854775807 := by
  unfold sgN; split <;> omega
set_option maxRecDepth 100000 in
set_option maxHeartbeats 12800000 in
theorem rcounted_any {w : World} {ao : Option Addr} {n c : Nat} {l : List Int} (h : Ls w ao n c l) :
    Calls Try.prog 56 #[.slice ao n c] w (MadeE w (pcS l) (pcA l) (pcE l)) := by
  have hl := h.len
  have hb := h.big
  have HL := Lib.hid hl
  have HS := Lib.hid h
  obtain ⟨E, HE⟩ : ∃ z, Hid (pcE l = z) := ⟨_, rfl⟩
  obtain ⟨S, HSS⟩ : ∃ z, Hid (pcS l = z) := ⟨_, rfl⟩
  obtain ⟨A, HA⟩ : ∃ z, Hid (pcA l = z) := ⟨_, rfl⟩
  rw [HE.out, HSS.out, HA.out]
  obtain ⟨W, HW⟩ : ∃ z, Hid (w.alloc (.cells #[.slice none 0 0, .slice none 0 0] 38) = z) := ⟨_, rfl⟩
  have h0 := (Sp.start Non w).alloc 38 2 1 #[.slice none 0 0, .slice none 0 0] rfl (by decide)
  rw [HW.out] at h0
  obtain ⟨g, HG⟩ : ∃ z, Hid (w.heap.size = z) := ⟨_, rfl⟩
  have H1_ := h0
  try simp only [List.cons_append, List.nil_append, List.set_cons_zero, List.set_cons_succ, List.map_cons, List.map_nil, List.getD_cons_zero, List.getD_cons_succ, World.size_alloc] at H1_
  have H1 := Lib.hid H1_
  clear H1_
  rw [HG.out] at H1
  have H2 : Hid (Sp Non w W [Pt.row ⟨38, 2, some ⟨g, 0, none⟩, 1, 1, [.slice none 0 0, .slice none 0 0]⟩, Pt.ints 3 none 0 0 []]) := H1.out.intsNew (E := 3) (zs := []) (World.ownsRow_nil _ _ _ _) (Below.refl _ _) (by omega) (fun i => by simp [List.getD])
  obtain ⟨i0, hi0, hz0, hz1, hz2⟩ := info_parts (P := Try.prog) (e := 3) (z := .int .i64 0) (size := 1) (bytes := 8) (by kernel_rfl)
  have HI0 := Lib.hid (And.intro hi0 (And.intro hz0 (And.intro hz1 hz2)))
  clear hi0 hz0 hz1 hz2 h h0 H1 hl
  go_enter Try.func56, Try.ntmps56
  go_wp2_with fail
  rw [HW.out, HG.out]
  go_loopw [4, 5] (fun v4 v5 wr => ∃ (k : Nat) (lo : Option Addr) (lc : Nat), k ≤ n ∧ v5 = .int .i64 k ∧ v4 = .slice lo k lc ∧ Hid (Sp Non w wr [Pt.row ⟨38, 2, some ⟨g, 0, none⟩, 1, 1, [.slice none 0 0, .slice none 0 0]⟩, Pt.ints 3 lo k lc ((l.map sgN).take k)])) (fun _ v5 _ => n - (RowKit.intOf v5).toNat)
  case atStart => exact ⟨0, none, 0, by omega, rfl, rfl, H2⟩
  case round =>
    clear H2
    obtain ⟨k, lo, lc, hk, rfl, rfl, HO⟩ := hrel
    by_cases hlt : k < n
    · have hlt' : (k : Int) < n := by omega
      obtain ⟨b1, o1, e1, hc1⟩ := (HS.out.below HO.out.belowN (Nat.le_refl _)).at (by omega)
      have d1 := hc1 k hlt
      obtain ⟨x, HX⟩ : ∃ z, Hid (l.getD k 0 = z) := ⟨_, rfl⟩
      have hxr := HS.out.rng k
      rw [HX.out] at d1 hxr
      subst e1
      have hsx := sgN_rng x hxr
      obtain ⟨y, HY⟩ : ∃ z, Hid (sgN x = z) := ⟨_, rfl⟩
      rw [HY.out] at hsx
      have HV := Lib.hid (HO.out.via (abal wr (.cells #[.int .i64 y] 3)))
      have HLL := Lib.hid (ls_lit1 wr 3 hsx)
      have hb1 : (k + 1) * 8 ≤ 140737488351232 := by omega
      have HT : Hid ((l.map sgN).take (k + 1) = (l.map sgN).take k ++ [y]) := by
        show _ = _
        rw [take_snoc (by rw [List.length_map, HL.out]; exact hlt), sgN_at, HX.out, HY.out]
      have HXR := Lib.hid hxr
      clear hc1 hsx hxr
      have hy := HY.out
      unfold sgN at hy
      by_cases hx0 : x = -9223372036854775808
      · rw [if_pos hx0] at hy
        subst hx0 hy
        go_wp2_with (at_builtin; refine Sp.wpList_loc (i := 1) HV.out rfl _ _ 25 rfl 3 i0 Try.underlying25 HI0.out.1 HI0.out.2.1 HI0.out.2.2.1 HI0.out.2.2.2 rfl rfl rfl HLL.out hb1 ?_)
        intro b9 d9 w9 h9
        have H9 := Lib.hid h9
        rw [← HT.out] at H9
        clear h9 HV HO
        go_wp2
        go_roundw
        case rel => exact ⟨k + 1, b9, d9, by omega, by go_num, rfl, H9⟩
        case measure => simp [RowKit.intOf]; omega
      · rw [if_neg hx0] at hy
        have hq0 : (x == -9223372036854775808) = false := by simpa using hx0
        by_cases hxn : x < 0
        · have hy' : -x = y := by omega
          have hw : IntKind.i64.wrap (-x) = y := by rw [hy']; exact IntWalk.i64_in _ (by have := HXR.out; omega)
          have hq1 : -9223372036854775808 < x := by have := HXR.out; omega
          have hq2 : (y == -9223372036854775808) = false := by simp; omega
          clear hy hy' hx0
          go_wp2_with (at_builtin; refine Sp.wpList_loc (i := 1) HV.out rfl _ _ 25 rfl 3 i0 Try.underlying25 HI0.out.1 HI0.out.2.1 HI0.out.2.2.1 HI0.out.2.2.2 rfl rfl rfl HLL.out hb1 ?_)
          intro b9 d9 w9 h9
          have H9 := Lib.hid h9
          rw [← HT.out] at H9
          clear h9 HV HO
          go_wp2
          go_roundw
          case rel => exact ⟨k + 1, b9, d9, by omega, by go_num, rfl, H9⟩
          case measure => simp [RowKit.intOf]; omega
        · obtain rfl : y = x := by omega
          clear hy hx0
          go_wp2_with (at_builtin; refine Sp.wpList_loc (i := 1) HV.out rfl _ _ 25 rfl 3 i0 Try.underlying25 HI0.out.1 HI0.out.2.1 HI0.out.2.2.1 HI0.out.2.2.2 rfl rfl rfl HLL.out hb1 ?_)
          intro b9 d9 w9 h9
          have H9 := Lib.hid h9
          rw [← HT.out] at H9
          clear h9 HV HO
          go_wp2
          go_roundw
          case rel => exact ⟨k + 1, b9, d9, by omega, by go_num, rfl, H9⟩
          case measure => simp [RowKit.intOf]; omega
    · have hge : ¬ ((k : Int) < n) := by omega
      obtain rfl : k = n := by omega
      have hsp := HO.out
      rw [List.take_of_length_le (by rw [List.length_map, HL.out]; exact Nat.le_refl _)] at hsp
      have CM0 := rmay_any (hsp.ls (i := 1) rfl)
      obtain ⟨hi1, hi2⟩ := sgN_may l
      by_cases hm : mayE (absL l) = 0
      · have r1 : E = 0 := by rw [← HE.out, pcE, if_pos hm]
        have r2 : S = absL l := by rw [← HSS.out, pcS, if_pos hm]
        have r3 : A = pcAs l (absL l) (pr (absL l)).toNat := by rw [← HA.out, pcA, if_pos hm]; rfl
        subst r1
        rw [hi2 hm] at hsp CM0
        rw [hm] at CM0
        have CM := Lib.hid CM0
        have HM := Lib.hid hm
        have HO2 := Lib.hid hsp
        have hpr := pr_nonneg hm
        obtain ⟨P, HP⟩ : ∃ P : Nat, Hid (pr (absL l) = P) := ⟨(pr (absL l)).toNat, (Int.toNat_of_nonneg hpr.1).symm⟩
        rw [HP.out, Int.toNat_natCast] at r3
        rw [HP.out] at hpr
        have HR := Lib.hid (And.intro r2 r3)
        have hk8 : k ≤ 8 := by have := (mayE_zero hm).2.1; rw [absL, List.length_map, HL.out] at this; exact this
        have CZ := Lib.hid (rzeros_sp (HO2.out.ls (i := 1) rfl) hm)
        rw [HP.out, Int.toNat_natCast] at CZ
        have hAl : (absL l).length = k := by rw [absL, List.length_map, HL.out]
        have HAL := Lib.hid hAl
        clear hsp CM0 hi1 hi2 hm r2 r3 HO hAl
        go_wp2_with fail
        refine CM.out.mono ?_; rintro e w' ⟨rfl, hw'⟩
        have hw'' := hw'.symm
        subst hw''
        clear hw' CM
        go_wp2_with fail
        refine CZ.out.mono ?_; rintro e w3 ⟨zo, zn, zd, gz, rfl, h3⟩
        have hzn : zn = k := by have := (h3.ls (i := 0) rfl).len; rw [HAL.out] at this; exact this.symm
        subst hzn
        have h4 := (HO2.out.add h3).alloc 38 2 1 #[.slice zo zn zd, .slice (some ⟨gz, 0, none⟩) P P] rfl (by decide)
        have H4_ := h4
        try simp only [List.cons_append, List.nil_append, List.set_cons_zero, List.set_cons_succ, List.map_cons, List.map_nil, List.getD_cons_zero, List.getD_cons_succ, World.size_alloc] at H4_
        have H4 := Lib.hid H4_
        clear H4_
        obtain ⟨W3, HW3⟩ : ∃ z, Hid (w3.alloc (.cells #[.slice zo zn zd, .slice (some ⟨gz, 0, none⟩) P P] 38) = z) := ⟨_, rfl⟩
        obtain ⟨g3, HG3⟩ : ∃ z, Hid (w3.heap.size = z) := ⟨_, rfl⟩
        rw [HW3.out, HG3.out] at H4
        have H5 : Hid (Sp Non w W3 [Pt.row ⟨38, 2, some ⟨g, 0, none⟩, 1, 1, [.slice none 0 0, .slice none 0 0]⟩, Pt.ints 3 lo zn lc (absL l), Pt.ints 3 zo zn zd (absL l), Pt.row ⟨2, 1, some ⟨gz, 0, none⟩, P, P, (pcAs l (absL l) 0 ++ List.replicate (P - 0) 0).map (Value.int .i64)⟩, Pt.row ⟨38, 2, some ⟨g3, 0, none⟩, 1, 1, [.slice zo zn zd, .slice (some ⟨gz, 0, none⟩) P P]⟩]) := by
          have q := H4.out.toRow (i := 3) rfl
          exact q
        clear CZ h3 h4 HO2 H4
        go_wp2_with fail
        rw [HW3.out, HG3.out]
        go_loopw [8] (fun v8 wr => ∃ p : Nat, p ≤ P ∧ v8 = .int .i64 p ∧ Hid (Sp Non w wr [Pt.row ⟨38, 2, some ⟨g, 0, none⟩, 1, 1, [.slice none 0 0, .slice none 0 0]⟩, Pt.ints 3 lo zn lc (absL l), Pt.ints 3 zo zn zd (absL l), Pt.row ⟨2, 1, some ⟨gz, 0, none⟩, P, P, (pcAs l (absL l) p ++ List.replicate (P - p) 0).map (Value.int .i64)⟩, Pt.row ⟨38, 2, some ⟨g3, 0, none⟩, 1, 1, [.slice zo zn zd, .slice (some ⟨gz, 0, none⟩) P P]⟩])) (fun v8 _ => P - (RowKit.intOf v8).toNat)
        case atStart => exact ⟨0, by omega, rfl, H5⟩
        case round =>
          clear H5
          obtain ⟨p, hp, rfl, HO⟩ := hrel
          have y0 := HO.out.cell (i := 4) rfl 0 _ rfl
          have y1 := HO.out.cell (i := 4) rfl 1 _ rfl
          by_cases hlt : p < P
          · have hlt' : (p : Int) < P := by omega
            have hpP : 0 ≤ (p : Int) ∧ (p : Int) < pr (absL l) := by rw [HP.out]; omega
            have CA := Lib.hid (rat_any (HO.out.ls (i := 1) rfl) (p : Int))
            rw [show atL (absL l) p = ixL (absL l) p by unfold atL; rw [if_pos ⟨HM.out, hpP.1, hpP.2⟩], show atE (absL l) p = 0 by unfold atE; rw [if_pos HM.out, if_pos hpP]] at CA
            have HPB := Lib.hid (fun i => pc_bd (ns := l) HM.out hpP.2 i)
            clear hpP
            go_wp2_with fail
            refine CA.out.mono ?_; rintro e w4 ⟨qo, qn, qc, rfl, hQ, hQO, hb4⟩
            have hql := hQ.len
            rw [ixL_len, HAL.out] at hql
            subst hql
            have h5 := HO.out.rowNew (r := ⟨3, 1, qo, zn, qc, (ixL (absL l) p).map (Value.int .i64)⟩) hQO hb4
            have H6 : Hid (Sp Non w w4 [Pt.row ⟨38, 2, some ⟨g, 0, none⟩, 1, 1, [.slice none 0 0, .slice none 0 0]⟩, Pt.ints 3 lo zn lc (absL l), Pt.ints 3 zo zn zd (absL l), Pt.row ⟨2, 1, some ⟨gz, 0, none⟩, P, P, (pcAs l (absL l) p ++ List.replicate (P - p) 0).map (Value.int .i64)⟩, Pt.row ⟨38, 2, some ⟨g3, 0, none⟩, 1, 1, [.slice zo zn zd, .slice (some ⟨gz, 0, none⟩) P P]⟩, Pt.row ⟨3, 1, qo, zn, qc, (flG l (absL l) (ixL (absL l) p) 0).map (Value.int .i64)⟩]) := by
              show Sp _ _ _ _
              rw [flG_zero]
              exact h5
            have HTL : Hid ((ixL (absL l) p).length = zn) := by show _ = _; rw [ixL_len, HAL.out]
            clear hQ hQO hb4 h5 CA HO y0 y1
            go_wp2_with fail
            go_loopw [11] (fun v11 wx => ∃ i : Nat, i ≤ zn ∧ v11 = .int .i64 i ∧ Hid (Sp Non w wx [Pt.row ⟨38, 2, some ⟨g, 0, none⟩, 1, 1, [.slice none 0 0, .slice none 0 0]⟩, Pt.ints 3 lo zn lc (absL l), Pt.ints 3 zo zn zd (absL l), Pt.row ⟨2, 1, some ⟨gz, 0, none⟩, P, P, (pcAs l (absL l) p ++ List.replicate (P - p) 0).map (Value.int .i64)⟩, Pt.row ⟨38, 2, some ⟨g3, 0, none⟩, 1, 1, [.slice zo zn zd, .slice (some ⟨gz, 0, none⟩) P P]⟩, Pt.row ⟨3, 1, qo, zn, qc, (flG l (absL l) (ixL (absL l) p) i).map (Value.int .i64)⟩])) (fun v11 _ => zn - (RowKit.intOf v11).toNat)
            case atStart => exact ⟨0, by omega, rfl, H6⟩
            case round =>
              clear H6
              obtain ⟨i, hi, rfl, HQ⟩ := hrel
              by_cases hlt2 : i < zn
              · have hlt2' : (i : Int) < zn := by omega
                obtain ⟨b1, o1, e1, hc1⟩ := (HS.out.below HQ.out.belowN (Nat.le_refl _)).at (by omega)
                have d1 := hc1 i hlt2
                subst e1
                obtain ⟨hin, hbd⟩ := HPB.out i
                obtain ⟨gq, hgq⟩ := (HQ.out.rcap (i := 5) rfl).2.2.2.2 (by have := (HQ.out.rcap (i := 5) rfl).1; omega)
                subst hgq
                have t0 := HQ.out.cell (i := 5) rfl i (.int .i64 ((flG l (absL l) (ixL (absL l) p) i).getD i 0)) (getD_map_int _ _ (by rw [flG_len, HTL.out]; exact hlt2))
                have t1 := HQ.out.frozen (i := 5) rfl i
                obtain ⟨b5, o5, e5, hc5⟩ := (HQ.out.ls (i := 1) rfl).at (by omega)
                have s0 := hc5 i hlt2
                subst e5
                have HST := Lib.hid (flG_step (ns := l) (s := absL l) (t := ixL (absL l) p) (i := i) (by rw [HTL.out]; exact hlt2))
                have hfi : (flG l (absL l) (ixL (absL l) p) i).getD i 0 = (ixL (absL l) p).getD i 0 := by
                  rw [flG_at (by rw [HTL.out]; exact hlt2), if_neg (fun h => by omega)]
                have hti := hin i (by rw [HAL.out]; exact hlt2)
                rw [hfi] at t0 hti
                have HSM := Lib.hid (flG_same (ns := l) (s := absL l) (t := ixL (absL l) p) (i := i))
                have hs4 := may_at HM.out i
                obtain ⟨ti, HTI⟩ : ∃ z, Hid ((ixL (absL l) p).getD i 0 = z) := ⟨_, rfl⟩
                obtain ⟨si, HSI⟩ : ∃ z, Hid ((absL l).getD i 0 = z) := ⟨_, rfl⟩
                obtain ⟨x, HX⟩ : ∃ z, Hid (l.getD i 0 = z) := ⟨_, rfl⟩
                rw [HX.out] at d1 HST HSM
                rw [HTI.out] at t0 hti HST
                rw [HSI.out] at s0 hti HST hs4
                clear hc1 hin hbd hc5 hfi
                by_cases hx : x < 0
                · have hNX : Sp Non w (wr.setCell ⟨gq, i, none⟩ (.int .i64 (si - 1 - ti))).drew [Pt.row ⟨38, 2, some ⟨g, 0, none⟩, 1, 1, [.slice none 0 0, .slice none 0 0]⟩, Pt.ints 3 (some ⟨b5, o5, none⟩) zn lc (absL l), Pt.ints 3 zo zn zd (absL l), Pt.row ⟨2, 1, some ⟨gz, 0, none⟩, P, P, (pcAs l (absL l) p ++ List.replicate (P - p) 0).map (Value.int .i64)⟩, Pt.row ⟨38, 2, some ⟨g3, 0, none⟩, 1, 1, [.slice zo zn zd, .slice (some ⟨gz, 0, none⟩) P P]⟩, Pt.row ⟨3, 1, some ⟨gq, 0, none⟩, zn, qc, (flG l (absL l) (ixL (absL l) p) (i + 1)).map (Value.int .i64)⟩] := by
                    have h2 := (HQ.out.put (i := 5) rfl i (.int .i64 (si - 1 - ti))).via (adrew1 _)
                    rw [← List.map_set] at h2
                    have h3 := HST.out
                    rw [if_pos hx] at h3
                    rw [h3] at h2
                    exact h2
                  have HNX := Lib.hid hNX
                  clear hNX HST HSM
                  go_wp2_with fail
                  refine region_tail 13 (by kernel_rfl) (by kernel_rfl) ?_
                  simp only [List.take_succ_cons, List.take_zero, List.drop_succ_cons, List.drop_zero]
                  iterate 13 still_step
                  refine wpStill_nil ?_
                  go_wp2
                  go_roundw
                  case rel => exact ⟨i + 1, by omega, by go_num, HNX⟩
                  case measure => simp [RowKit.intOf]; omega
                · have HNX := HQ
                  rw [← HSM.out hx] at HNX
                  clear HST HSM
                  go_wp2
                  go_roundw
                  case rel => exact ⟨i + 1, by omega, by go_num, HNX⟩
                  case measure => simp [RowKit.intOf]; omega
              · have hge2 : ¬ ((i : Int) < zn) := by omega
                obtain rfl : i = zn := by omega
                obtain ⟨hin, hbd⟩ := HPB.out i
                have hsb : ∀ q, (absL l).getD q 0 ≤ 4096 := fun q => may_at HM.out q
                have hfr : ∀ q, -9223372036854775808 ≤ (flG l (absL l) (ixL (absL l) p) i).getD q 0 ∧ (flG l (absL l) (ixL (absL l) p) i).getD q 0 ≤ 9223372036854775807 := fun q => by
                  by_cases hq : q < i
                  · have h1 := hin q (by rw [HAL.out]; exact hq)
                    have h2 := hsb q
                    omega
                  · simp [List.getD, List.getElem?_eq_none (show (flG l (absL l) (ixL (absL l) p) i).length ≤ q by rw [flG_len, HTL.out]; omega)]
                have H2_ := HQ.out.toInts (i := 5) rfl (by omega) hfr
                try simp only [List.cons_append, List.nil_append, List.set_cons_zero, List.set_cons_succ, List.map_cons, List.map_nil, List.getD_cons_zero, List.getD_cons_succ, World.size_alloc] at H2_
                have H2 := Lib.hid H2_
                clear H2_
                have cp := rplace_any (H2.out.ls (i := 1) rfl) (H2.out.ls (i := 5) rfl)
                have hfl : (flG l (absL l) (ixL (absL l) p) i).length = (absL l).length := by rw [flG_len, ixL_len]
                rw [show plV (absL l) (flG l (absL l) (ixL (absL l) p) i) = plN (absL l) (flG l (absL l) (ixL (absL l) p) i) (absL l).length by rw [plV, if_pos ⟨HM.out, hfl, hin⟩], show plE (absL l) (flG l (absL l) (ixL (absL l) p) i) = 0 by rw [plE, if_pos HM.out, if_pos hfl, if_pos hin]] at cp
                obtain ⟨v, hv⟩ : ∃ v : Int, plN (absL l) (flG l (absL l) (ixL (absL l) p) i) (absL l).length = v := ⟨_, rfl⟩
                have HPC : Hid ((pcAs l (absL l) p ++ List.replicate (P - p) 0).set p v = pcAs l (absL l) (p + 1) ++ List.replicate (P - (p + 1)) 0) := by
                  show _ = _
                  have hpl : (pcAs l (absL l) p).length = p := by simp [pcAs]
                  rw [List.set_append_right _ _ (by rw [hpl]; exact Nat.le_refl _), hpl, Nat.sub_self, show P - p = (P - (p + 1)) + 1 by omega, List.replicate_succ, List.set_cons_zero]
                  have e : pcAs l (absL l) (p + 1) = pcAs l (absL l) p ++ [v] := by
                    unfold pcAs
                    rw [List.range_succ, List.map_append, List.map_singleton]
                    congr 2
                    show plN _ _ _ = _
                    rw [HL.out]; exact hv
                  rw [e, List.append_assoc]
                  rfl
                rw [hv] at cp hbd
                have CP := Lib.hid cp
                have hz0 : (pcAs l (absL l) p ++ List.replicate (P - p) 0).getD p 0 = 0 := by
                  have hpl : (pcAs l (absL l) p).length = p := by simp [pcAs]
                  rw [List.getD_eq_getElem?_getD, List.getElem?_append_right (by rw [hpl]; exact Nat.le_refl _), hpl, Nat.sub_self]
                  simp [show 0 < P - p by omega]
                have HZ0 := Lib.hid hz0
                have HLN : Hid (p < (pcAs l (absL l) p ++ List.replicate (P - p) 0).length) := by show _ < _; simp [pcAs]; omega
                clear cp hin hsb hfr hfl hv HQ HPB hz0 hbd
                go_wp2_with fail
                refine CP.out.mono ?_; rintro e w6 ⟨rfl, hb6⟩
                have H3 := Lib.hid (H2.out.via hb6)
                have y0 := H3.out.cell (i := 4) rfl 0 _ rfl
                have y1 := H3.out.cell (i := 4) rfl 1 _ rfl
                have t0 := H3.out.cell (i := 3) rfl p (.int .i64 ((pcAs l (absL l) p ++ List.replicate (P - p) 0).getD p 0)) (getD_map_int _ _ HLN.out)
                have t1 := H3.out.frozen (i := 3) rfl p
                rw [HZ0.out] at t0
                have hNX : Sp Non w (w6.setCell ⟨gz, p, none⟩ (.int .i64 v)) [Pt.row ⟨38, 2, some ⟨g, 0, none⟩, 1, 1, [.slice none 0 0, .slice none 0 0]⟩, Pt.ints 3 lo i lc (absL l), Pt.ints 3 zo i zd (absL l), Pt.row ⟨2, 1, some ⟨gz, 0, none⟩, P, P, (pcAs l (absL l) (p + 1) ++ List.replicate (P - (p + 1)) 0).map (Value.int .i64)⟩, Pt.row ⟨38, 2, some ⟨g3, 0, none⟩, 1, 1, [.slice zo i zd, .slice (some ⟨gz, 0, none⟩) P P]⟩] := by
                  have h2 := H3.out.put (i := 3) rfl p (.int .i64 v)
                  rw [← List.map_set, HPC.out] at h2
                  exact h2.pick [0, 1, 2, 3, 4] (by decide)
                have HNX := Lib.hid hNX
                clear hb6 H2 H3 CP hNX
                go_wp2
                go_roundw
                case rel => exact ⟨p + 1, by omega, by go_num, HNX⟩
                case measure => simp [RowKit.intOf]; omega
          · have hge : ¬ ((p : Int) < P) := by omega
            obtain rfl : p = P := by omega
            have hrr : ∀ q, -9223372036854775808 ≤ (pcAs l (absL l) p).getD q 0 ∧ (pcAs l (absL l) p).getD q 0 ≤ 9223372036854775807 := fun q => by
              unfold pcAs
              by_cases hq : q < p
              · simp only [List.getD_eq_getElem?_getD, List.getElem?_map, List.getElem?_range hq, Option.map_some, Option.getD_some]
                obtain ⟨-, h1, h2⟩ := pc_bd (ns := l) HM.out (k := q) (by rw [HP.out]; omega) l.length
                have h3 := pr_nonneg HM.out
                unfold pcAt
                omega
              · simp [List.getD, List.getElem?_eq_none (show (List.range p).length ≤ q by simp; omega)]
            have hsp := HO.out
            rw [Nat.sub_self, List.replicate_zero, List.append_nil] at hsp
            have h7 := (hsp.toInts (i := 3) rfl (by omega) hrr).arrOf (i := 2) (j := 3) rfl (by decide) rfl
            have H7_ := h7
            try simp only [List.cons_append, List.nil_append, List.set_cons_zero, List.set_cons_succ, List.map_cons, List.map_nil, List.getD_cons_zero, List.getD_cons_succ, World.size_alloc] at H7_
            have H7 := Lib.hid H7_
            clear H7_
            obtain ⟨rs, ra⟩ := HR.out
            subst rs ra
            have HF : Hid (∀ u v, MadeE w (absL l) (pcAs l (absL l) p) 0 (.returned (.tuple #[.agg #[.slice zo zn zd, .slice (some ⟨gz, 0, none⟩) p p], .int .i64 0])) ((wr.setCell ⟨g, 0, none⟩ u).setCell ⟨g, 1, none⟩ v)) := fun u v => ((H7.out.put (i := 0) rfl 0 u).put (i := 0) rfl 1 v).madeE (i := 3) (B := ⟨zo, zn, zd, some ⟨gz, 0, none⟩, p, p, absL l, pcAs l (absL l) p⟩) rfl 0
            have x0 := H7.out.cell (i := 0) rfl 0 _ rfl
            have x1 := H7.out.cell (i := 0) rfl 1 _ rfl
            have x2 := H7.out.frozen (i := 0) rfl 0
            have x3 := H7.out.frozen (i := 0) rfl 1
            clear hsp h7 H7 hrr HO
            go_wp2
            exact bodyPost_ret (v := .tuple #[.agg #[.slice zo zn zd, .slice (some ⟨gz, 0, none⟩) p p], .int .i64 0]) (by simp [results, Try.results56, go_sem, *]) rfl (HF.out _ _)
      · have r1 : E = 17 := by rw [← HE.out, pcE, if_neg hm]
        have r2 : S = [] := by rw [← HSS.out, pcS, if_neg hm]
        have r3 : A = [] := by rw [← HA.out, pcA, if_neg hm]
        subst r1 r2 r3
        have hm' : ¬ mayE (l.map sgN) = 0 := fun h => hm (hi1.1 h)
        obtain ⟨me, HME⟩ : ∃ z, Hid (mayE (l.map sgN) = z) := ⟨_, rfl⟩
        rw [HME.out] at CM0 hm'
        have CM := Lib.hid CM0
        have q0 : (me != 0) = true := by simpa using hm'
        have HF : Hid (∀ u v, MadeE w [] [] 17 (.returned (.tuple #[.agg #[.slice none 0 0, .slice none 0 0], .int .i64 17])) ((wr.setCell ⟨g, 0, none⟩ u).setCell ⟨g, 1, none⟩ v)) := fun u v => made_nil 17 ((HO.out.put (i := 0) rfl 0 u).put (i := 0) rfl 1 v).belowN
        have x0 := HO.out.cell (i := 0) rfl 0 _ rfl
        have x1 := HO.out.cell (i := 0) rfl 1 _ rfl
        have x2 := HO.out.frozen (i := 0) rfl 0
        have x3 := HO.out.frozen (i := 0) rfl 1
        clear hsp CM0 hi1 hi2 hm hm' HO
        go_wp2_with fail
        refine CM.out.mono ?_; rintro e w' ⟨rfl, hw'⟩
        have hw'' := hw'.symm
        subst hw''
        clear hw' CM
        go_wp2
        exact bodyPost_ret (v := .tuple #[.agg #[.slice none 0 0, .slice none 0 0], .int .i64 17]) (by simp [results, Try.results56, go_sem, *]) rfl (HF.out _ _)
end Go.Proofs.Ytoippfoeghjdoaa
namespace Go.Proofs.Ytoippfoeghjdoaa
open Go.RowKit Go.Lib
set_option linter.unusedVariables false
set_option linter.unusedSimpArgs false
attribute [local go_sem] alloc_drewN setCell_drewN
/-- The places of the first k numbers. -/
def wlL (l : List Int) : Nat → List Int
  | 0 => []
  | k + 1 => wlL l k ++ List.replicate (l.getD k 0).toNat (k : Int)
theorem cpU0_mono {l : List Int} (h : ∀ j, 0 ≤ l.getD j 0) (i d : Nat) : 0 ≤ cpU [0] l i ∧ cpU [0] l i ≤ cpU [0] l (i + d) := by
  have h0 : ∀ i, 0 ≤ cpU [0] l i := fun i => by
    induction i with
    | zero => simp [cpU]
    | succ i ih => have := h i; rw [cpU0_step]; omega
  refine ⟨h0 i, ?_⟩
  induction d with
  | zero => simp
  | succ d ih => have := h (i + d); rw [← Nat.add_assoc, cpU0_step]; omega
theorem wlL_len {l : List Int} (h : ∀ j, 0 ≤ l.getD j 0) : ∀ k, ((wlL l k).length : Int) = cpU [0] l k
  | 0 => rfl
  | k + 1 => by
    have h1 := wlL_len h k
    have h2 := h k
    rw [wlL, List.length_append, List.length_replicate, cpU0_step]
    push_cast
    omega
theorem wl_go {l : List Int} (h : ∀ j, 0 ≤ l.getD j 0) : ∀ k, k ≤ l.length → (cpU [0] l k ≤ 4096 ∧ whGo 0 [] l = whGo k (wlL l k) (l.drop k)) ∨ (4096 < cpU [0] l k ∧ whGo 0 [] l = none)
  | 0, _ => .inl ⟨by simp [cpU], rfl⟩
  | k + 1, hk => by
    have h2 := wlL_len h k
    have h3 := h k
    rcases wl_go h k (by omega) with ⟨q1, q2⟩ | ⟨q1, q2⟩
    · rw [whGo_step (by omega), h2] at q2
      rw [cpU0_step]
      by_cases hc : 4096 < cpU [0] l k + l.getD k 0
      · rw [if_pos (by omega)] at q2
        exact .inr ⟨hc, q2⟩
      · rw [if_neg (by omega)] at q2
        exact .inl ⟨by omega, q2⟩
    · right
      rw [cpU0_step]
      exact ⟨by omega, q2⟩
theorem nn_of {l : List Int} (h : l.any (fun k => decide (k < 0)) = false) (j : Nat) : 0 ≤ l.getD j 0 := by
  rcases Int.lt_or_le (l.getD j 0) 0 with h3 | h3
  · by_cases hj : j < l.length
    · exact absurd (any_neg_iff.2 ⟨j, hj, h3⟩) (by rw [h]; simp)
    · simp [List.getD, List.getElem?_eq_none (show l.length ≤ j by omega)]
  · exact h3
theorem wh_all {l : List Int} (h : l.any (fun k => decide (k < 0)) = false) : (ttN l ≤ 4096 → whS l = [ttN l] ∧ whA l = wlL l l.length ∧ whE l = 0 ∧ ttN l = cpU [0] l l.length) ∧ (4096 < ttN l → whS l = [] ∧ whA l = [] ∧ whE l = 17) := by
  have hp := nn_of h
  have hl := wlL_len hp l.length
  unfold whS whA whE
  rw [h]
  simp only [Bool.false_eq_true, if_false]
  rcases wl_go hp l.length (Nat.le_refl _) with ⟨q1, q2⟩ | ⟨q1, q2⟩
  · have ht : ttN l = cpU [0] l l.length := by unfold ttN; rw [if_pos q1]
    rw [List.drop_of_length_le (Nat.le_refl _)] at q2
    have q3 : whGo 0 [] l = some (wlL l l.length) := q2
    rw [q3, ht]
    exact ⟨fun _ => ⟨by simp only [hl], rfl, rfl, rfl⟩, fun h => absurd h (by omega)⟩
  · have ht : ttN l = 5000 := by unfold ttN; rw [if_neg (by omega)]
    rw [q2, ht]
    exact ⟨fun h => absurd h (by omega), fun _ => ⟨rfl, rfl, rfl⟩⟩
set_option maxRecDepth 100000 in
set_option maxHeartbeats 6400000 in
theorem rplaces_any {w : World} {ao : Option Addr} {n c : Nat} {l : List Int} (h : Ls w ao n c l) (hn4 : n ≤ 4096) :
    Calls Try.prog 57 #[.slice ao n c] w (MadeE w (whS l) (whA l) (whE l)) := by
  have hl := h.len
  have hb := h.big
  have HL := Lib.hid hl
  have HS := Lib.hid h
  obtain ⟨E, HE⟩ : ∃ z, Hid (whE l = z) := ⟨_, rfl⟩
  obtain ⟨S, HSS⟩ : ∃ z, Hid (whS l = z) := ⟨_, rfl⟩
  obtain ⟨A, HA⟩ : ∃ z, Hid (whA l = z) := ⟨_, rfl⟩
  rw [HE.out, HSS.out, HA.out]
  obtain ⟨W, HW⟩ : ∃ z, Hid (w.alloc (.cells #[.slice none 0 0, .slice none 0 0] 38) = z) := ⟨_, rfl⟩
  have h0 := (Sp.start Non w).alloc 38 2 1 #[.slice none 0 0, .slice none 0 0] rfl (by decide)
  rw [HW.out] at h0
  obtain ⟨g, HG⟩ : ∃ z, Hid (w.heap.size = z) := ⟨_, rfl⟩
  have H1_ := h0
  try simp only [List.cons_append, List.nil_append, List.set_cons_zero, List.set_cons_succ, List.map_cons, List.map_nil, List.getD_cons_zero, List.getD_cons_succ, World.size_alloc] at H1_
  have H1 := Lib.hid H1_
  clear H1_
  rw [HG.out] at H1
  have CT := Lib.hid (rtotal_any (h.below H1.out.belowN (Nat.le_refl _)))
  have x0 := H1.out.cell (i := 0) rfl 0 _ rfl
  have x1 := H1.out.cell (i := 0) rfl 1 _ rfl
  have x2 := H1.out.frozen (i := 0) rfl 0
  have x3 := H1.out.frozen (i := 0) rfl 1
  have BAD : Hid (∀ e u v, MadeE w [] [] e (.returned (.tuple #[.agg #[.slice none 0 0, .slice none 0 0], .int .i64 e])) ((W.setCell ⟨g, 0, none⟩ u).setCell ⟨g, 1, none⟩ v)) := fun e u v => made_nil e ((H1.out.put (i := 0) rfl 0 u).put (i := 0) rfl 1 v).belowN
  clear h h0 hl
  cases hneg : l.any (fun k => decide (k < 0))
  · rw [hneg] at CT
    obtain ⟨T, HT⟩ : ∃ z, Hid (ttV l = z) := ⟨_, rfl⟩
    rw [HT.out] at CT
    have htv : ttN l = T := by rw [← HT.out, ttV, hneg]; rfl
    obtain ⟨a1, a2⟩ := wh_all hneg
    rw [htv] at a1 a2
    by_cases hT : 4096 < T
    · obtain ⟨b1, b2, b3⟩ := a2 hT
      rw [HSS.out] at b1
      rw [HA.out] at b2
      rw [HE.out] at b3
      subst b1 b2 b3
      clear a1 a2 htv hneg
      go_enter Try.func57, Try.ntmps57
      go_wp2_with fail
      rw [HW.out, HG.out]
      refine CT.out.mono ?_; rintro e w' ⟨rfl, hw'⟩
      have hw'' := hw'.symm
      subst hw''
      go_wp2
      exact bodyPost_ret (v := .tuple #[.agg #[.slice none 0 0, .slice none 0 0], .int .i64 17]) (by simp [results, Try.results57, go_sem, *]) rfl (BAD.out _ _ _)
    · obtain ⟨b1, b2, b3, b4⟩ := a1 (by omega)
      rw [HSS.out] at b1
      rw [HA.out, HL.out] at b2
      rw [HE.out] at b3
      rw [HL.out] at b4
      subst b3
      have hpos := nn_of hneg
      have hlen := wlL_len hpos
      have hT0 : 0 ≤ T := by rw [b4]; exact (cpU0_mono hpos n 0).1
      have hbd : ∀ k, k ≤ n → (wlL l k).length ≤ 4096 := fun k hk => by
        have h1 := hlen k
        have h2 := (cpU0_mono hpos k (n - k)).2
        rw [show k + (n - k) = n by omega, ← b4] at h2
        omega
      have HP := Lib.hid (And.intro hpos (And.intro hlen hbd))
      have HR := Lib.hid (And.intro b1 b2)
      obtain ⟨i0, hi0, hz0, hz1, hz2⟩ := info_parts (P := Try.prog) (e := 2) (z := .int .i64 0) (size := 1) (bytes := 8) (by kernel_rfl)
      have HI0 := Lib.hid (And.intro hi0 (And.intro hz0 (And.intro hz1 hz2)))
      have h2 := (H1.out.alloc 3 1 1 #[.int .i64 T] rfl (by decide)).toInts (i := 1) (zs := [T]) rfl (by omega) (rng_one (by omega))
      have h3 := (h2.alloc 38 2 1 #[.slice (some ⟨W.heap.size, 0, none⟩) 1 1, .slice none 0 0] rfl (by decide)).intsNew (E := 2) (zs := []) (World.ownsRow_nil _ _ _ _) (Below.refl _ _) (by omega) (fun i => by simp [List.getD])
      obtain ⟨V, HV⟩ : ∃ z, Hid ((W.alloc (.cells #[.int .i64 T] 3)).alloc (.cells #[.slice (some ⟨W.heap.size, 0, none⟩) 1 1, .slice none 0 0] 38) = z) := ⟨_, rfl⟩
      obtain ⟨b, HB⟩ : ∃ z, Hid (W.heap.size = z) := ⟨_, rfl⟩
      rw [HV.out] at h3
      have H3_ := h3
      try simp only [List.cons_append, List.nil_append, List.set_cons_zero, List.set_cons_succ, List.map_cons, List.map_nil, List.getD_cons_zero, List.getD_cons_succ, World.size_alloc] at H3_
      have H3 := Lib.hid H3_
      clear H3_
      rw [HB.out] at H3
      clear hi0 hz0 hz1 hz2 h2 h3 a1 a2 htv hneg b1 b2 b4 hpos hlen hbd BAD
      go_enter Try.func57, Try.ntmps57
      go_wp2_with fail
      rw [HW.out, HG.out]
      refine CT.out.mono ?_; rintro e w' ⟨rfl, hw'⟩
      have hw'' := hw'.symm
      subst hw''
      clear hw' CT x0 x1 x2 x3
      go_wp2_with fail
      rw [HV.out, HB.out]
      go_loopw [7] (fun v7 wr => ∃ (i : Nat) (lo : Option Addr) (lc : Nat), i ≤ n ∧ v7 = .int .i64 i ∧ Hid (Sp Non w wr [Pt.row ⟨38, 2, some ⟨g, 0, none⟩, 1, 1, [.slice none 0 0, .slice none 0 0]⟩, Pt.ints 3 (some ⟨b, 0, none⟩) 1 1 [T], Pt.row ⟨38, 2, some ⟨b + 1, 0, none⟩, 1, 1, [.slice (some ⟨b, 0, none⟩) 1 1, .slice lo (wlL l i).length lc]⟩, Pt.ints 2 lo (wlL l i).length lc (wlL l i)])) (fun v7 _ => n - (RowKit.intOf v7).toNat)
      case atStart => exact ⟨0, none, 0, by omega, rfl, H3⟩
      case round =>
        clear H3
        obtain ⟨i, lo, lc, hi, rfl, HO⟩ := hrel
        by_cases hlt : i < n
        · have hlt' : (i : Int) < n := by omega
          obtain ⟨x, HX⟩ : ∃ x : Nat, Hid (l.getD i 0 = x) := ⟨(l.getD i 0).toNat, (Int.toNat_of_nonneg (HP.out.1 i)).symm⟩
          have hw1 := HP.out.2.2 (i + 1) (by omega)
          rw [wlL, List.length_append, List.length_replicate, HX.out, Int.toNat_natCast] at hw1
          obtain ⟨ln, HLN⟩ : ∃ z, Hid ((wlL l i).length = z) := ⟨_, rfl⟩
          rw [HLN.out] at hw1
          go_wp2_with fail
          go_loopw [8] (fun v8 wx => ∃ (m : Nat) (lo' : Option Addr) (lc' : Nat), m ≤ x ∧ v8 = .int .i64 m ∧ Hid (Sp Non w wx [Pt.row ⟨38, 2, some ⟨g, 0, none⟩, 1, 1, [.slice none 0 0, .slice none 0 0]⟩, Pt.ints 3 (some ⟨b, 0, none⟩) 1 1 [T], Pt.row ⟨38, 2, some ⟨b + 1, 0, none⟩, 1, 1, [.slice (some ⟨b, 0, none⟩) 1 1, .slice lo' (ln + m) lc']⟩, Pt.ints 2 lo' (ln + m) lc' (wlL l i ++ List.replicate m (i : Int))])) (fun v8 _ => x - (RowKit.intOf v8).toNat)
          case atStart => exact ⟨0, lo, lc, by omega, rfl, by
            show Sp _ _ _ _
            have q := HO.out
            rw [HLN.out] at q
            rw [List.replicate_zero, List.append_nil]
            exact q⟩
          case round =>
            clear HO
            obtain ⟨m, lo', lc', hm, rfl, HM⟩ := hrel
            obtain ⟨b1, o1, e1, hc1⟩ := (HS.out.below HM.out.belowN (Nat.le_refl _)).at (by omega)
            have d1 := hc1 i hlt
            rw [HX.out] at d1
            subst e1
            have y0 := HM.out.cell (i := 2) rfl 0 _ rfl
            have y1 := HM.out.cell (i := 2) rfl 1 _ rfl
            have hblt := (HM.out.rlt (i := 2) rfl).1
            clear hc1
            by_cases hmx : m < x
            · have hmx' : (m : Int) < x := by omega
              have HV2 := Lib.hid (HM.out.via (abal wr (.cells #[.int .i64 i] 2)))
              have hb1 : (ln + m + 1) * 8 ≤ 140737488351232 := by omega
              have n1 : ¬ wr.heap.size = b + 1 := by omega
              have n2 : ¬ b + 1 = wr.heap.size := by omega
              go_wp2_with (at_builtin; refine Sp.wpList_loc (i := 3) HV2.out rfl _ _ 28 rfl 2 i0 Try.underlying28 HI0.out.1 HI0.out.2.1 HI0.out.2.2.1 HI0.out.2.2.2 rfl rfl rfl (ls_lit1 wr _ (by omega)) hb1 ?_)
              intro b9 d9 w9 h9
              have q1 := h9.cell (i := 2) rfl 1 _ rfl
              have q2 := h9.frozen (i := 2) rfl 1
              have h10 : Sp Non w (w9.setCell ⟨b + 1, 1, none⟩ (.slice b9 (ln + (m + 1)) d9)) [Pt.row ⟨38, 2, some ⟨g, 0, none⟩, 1, 1, [.slice none 0 0, .slice none 0 0]⟩, Pt.ints 3 (some ⟨b, 0, none⟩) 1 1 [T], Pt.row ⟨38, 2, some ⟨b + 1, 0, none⟩, 1, 1, [.slice (some ⟨b, 0, none⟩) 1 1, .slice b9 (ln + (m + 1)) d9]⟩, Pt.ints 2 b9 (ln + (m + 1)) d9 (wlL l i ++ List.replicate (m + 1) (i : Int))] := by
                rw [List.replicate_succ']
                exact h9.put (i := 2) rfl 1 (.slice b9 (ln + (m + 1)) d9)
              have H10 := Lib.hid h10
              clear h9 h10 HV2 HM y0 y1
              have z2 : ln + m + 1 = ln + (m + 1) := by omega
              go_wp2
              go_roundw
              case rel => exact ⟨m + 1, b9, d9, by omega, by go_num, H10⟩
              case measure => simp [RowKit.intOf]; omega
            · have hge : ¬ ((m : Int) < x) := by omega
              obtain rfl : m = x := by omega
              have HJ : Hid (Sp Non w wr [Pt.row ⟨38, 2, some ⟨g, 0, none⟩, 1, 1, [.slice none 0 0, .slice none 0 0]⟩, Pt.ints 3 (some ⟨b, 0, none⟩) 1 1 [T], Pt.row ⟨38, 2, some ⟨b + 1, 0, none⟩, 1, 1, [.slice (some ⟨b, 0, none⟩) 1 1, .slice lo' (wlL l (i + 1)).length lc']⟩, Pt.ints 2 lo' (wlL l (i + 1)).length lc' (wlL l (i + 1))]) := by
                show Sp _ _ _ _
                have e : wlL l (i + 1) = wlL l i ++ List.replicate m (i : Int) := by rw [wlL, HX.out, Int.toNat_natCast]
                rw [e, List.length_append, List.length_replicate, HLN.out]
                exact HM.out
              clear HM
              go_wp2
              go_roundw
              case rel => first | exact ⟨i + 1, lo', lc', by omega, by go_num, HJ⟩ | ((repeat apply Exists.intro); refine ⟨⟨i + 1, lo', lc', by omega, ?_, HJ⟩, rfl⟩; go_num)
              case measure => simp [RowKit.intOf]; omega
        · have hge : ¬ ((i : Int) < n) := by omega
          obtain rfl : i = n := by omega
          obtain ⟨rs, ra⟩ := HR.out
          obtain ⟨ln, HLN⟩ : ∃ z, Hid ((wlL l i).length = z) := ⟨_, rfl⟩
          have hsp := HO.out
          rw [← ra] at hsp
          rw [← ra] at HLN
          rw [HLN.out] at hsp
          have h7 := hsp.arrOf (i := 1) (j := 3) rfl (by decide) rfl
          have H7_ := h7
          try simp only [List.cons_append, List.nil_append, List.set_cons_zero, List.set_cons_succ, List.map_cons, List.map_nil, List.getD_cons_zero, List.getD_cons_succ, World.size_alloc] at H7_
          have H7 := Lib.hid H7_
          clear H7_
          have HF : Hid (∀ u v, MadeE w S A 0 (.returned (.tuple #[.agg #[.slice (some ⟨b, 0, none⟩) 1 1, .slice lo ln lc], .int .i64 0])) ((wr.setCell ⟨g, 0, none⟩ u).setCell ⟨g, 1, none⟩ v)) := fun u v => by
            rw [rs]
            exact ((H7.out.put (i := 0) rfl 0 u).put (i := 0) rfl 1 v).madeE (i := 3) (B := ⟨some ⟨b, 0, none⟩, 1, 1, lo, ln, lc, [T], A⟩) rfl 0
          have x0 := H7.out.cell (i := 0) rfl 0 _ rfl
          have x1 := H7.out.cell (i := 0) rfl 1 _ rfl
          have x2 := H7.out.frozen (i := 0) rfl 0
          have x3 := H7.out.frozen (i := 0) rfl 1
          have y0 := H7.out.cell (i := 2) rfl 0 _ rfl
          have y1 := H7.out.cell (i := 2) rfl 1 _ rfl
          clear hsp h7 H7 HO rs ra
          go_wp2
          exact bodyPost_ret (v := .tuple #[.agg #[.slice (some ⟨b, 0, none⟩) 1 1, .slice lo ln lc], .int .i64 0]) (by simp [results, Try.results57, go_sem, *]) rfl (HF.out _ _)
  · rw [hneg] at CT
    have b1 : whS l = [] := by unfold whS; rw [hneg]; rfl
    have b2 : whA l = [] := by unfold whA; rw [hneg]; rfl
    have b3 : whE l = 10 := by unfold whE; rw [hneg]; rfl
    rw [HSS.out] at b1
    rw [HA.out] at b2
    rw [HE.out] at b3
    subst b1 b2 b3
    clear hneg
    go_enter Try.func57, Try.ntmps57
    go_wp2_with fail
    rw [HW.out, HG.out]
    refine CT.out.mono ?_; rintro e w' ⟨rfl, hw'⟩
    have hw'' := hw'.symm
    subst hw''
    go_wp2
    exact bodyPost_ret (v := .tuple #[.agg #[.slice none 0 0, .slice none 0 0], .int .i64 10]) (by simp [results, Try.results57, go_sem, *]) rfl (BAD.out _ _ _)
end Go.Proofs.Ytoippfoeghjdoaa
