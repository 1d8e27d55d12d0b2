/- DigitCounts: the walk of the statement's function. -/
import Derived.Test.YtoippfoeghjdoaaDigLaws
namespace Go.Proofs.Ytoippfoeghjdoaa
open Go.RowKit Go.Lib
set_option linter.unusedVariables false
set_option linter.unusedSimpArgs false
attribute [local go_sem] alloc_drewN setCell_drewN
set_option maxRecDepth 100000 in
set_option maxHeartbeats 6400000 in
theorem walkDigitCounts {w : World} {ao : Option Addr} {n c : Nat} {s : List Int} (hS : Ls w ao n c s) {x : Int} (hx : -9223372036854775808 ≤ x ∧ x ≤ 9223372036854775807) :
    Calls Try.prog 5 #[.slice ao n c, .int .i64 x] w (RetB w (.bool true)) := by
  have BG := Lib.hid (begun8_any w)
  have hl := hS.len
  have hb := hS.big
  have HS := Lib.hid hS
  clear hS
  by_cases hbig : 4096 < n
  · have hbig' : (4096 : Int) < n := by omega
    go_enter Try.func5, Try.ntmps5
    go_wp2_with fail
    refine BG.out.mono ?_; rintro e w1 ⟨rfl, hb1⟩
    go_wp2
    go_ret
    exact RetB.mk rfl hb1
  have hbig' : ¬ (4096 : Int) < n := by omega
  have HL := Lib.hid hl
  have HX := Lib.hid hx
  have CM : Hid (∀ (w1 : World) (A : Ar) (s a S B : List Int) (E : Int), A.Is w1 → A.s = s → A.a = a → dMon 34 s a = (S, B, E) → Calls Try.prog 20 #[.int .i64 34, A.v] w1 (MadeE w1 S B E)) := by
    intro w1 A s a S B E hA hs ha h
    have q := dmonad_any hA 34
    rw [hs, ha, h] at q
    exact q
  clear hl hx
  go_enter Try.func5, Try.ntmps5
  go_wp2_with fail
  refine BG.out.mono ?_; rintro e w1 ⟨rfl, hb1⟩
  have H1 : Hid (Sp Non w w1 [Pt.ints 2 none 0 0 []]) := ((Sp.start Non w).via hb1).intsNew (E := 2) (zs := []) (World.ownsRow_nil _ _ _ _) (Below.refl _ _) (by omega) (fun i => by simp [List.getD])
  obtain ⟨i0, hi0, hz0, hz1, hz2⟩ := info_parts (P := Try.prog) (e := 2) (z := .int .i64 0) (size := 1) (bytes := 8) (by kernel_rfl)
  have HI0 := Lib.hid (And.intro hi0 (And.intro hz0 (And.intro hz1 hz2)))
  clear hi0 hz0 hz1 hz2 hb1
  go_wp2_with fail
  go_loopw [5, 6] (fun v5 v6 wr => ∃ (k : Nat) (lo : Option Addr) (lc : Nat), k ≤ n ∧ v6 = .int .i64 k ∧ v5 = .slice lo k lc ∧ Hid (Sp Non w wr [Pt.ints 2 lo k lc (s.take k)]) ∧ Hid (∀ j, j < k → 0 ≤ s.getD j 0)) (fun _ v6 _ => n - (RowKit.intOf v6).toNat)
  case atStart => exact ⟨0, none, 0, by omega, rfl, rfl, H1, fun j hj => absurd hj (by omega)⟩
  case round =>
    clear H1
    obtain ⟨k, lo, lc, hk, rfl, rfl, HO, HG⟩ := hrel
    by_cases hlt : k < n
    · have hlt' : (k : Int) < n := by omega
      obtain ⟨b1, o1, e1, hc1⟩ := HS.out.at (by omega)
      subst e1
      have hm1 : b1 < w.heap.size := by obtain ⟨b', o', e, h, -⟩ := HS.out.mem (by omega); cases e; exact h
      have d1 := (HO.out.belowN.cell (p := ⟨b1, o1 + k, none⟩) hm1).trans (hc1 k hlt)
      obtain ⟨y, HY⟩ : ∃ z, Hid (s.getD k 0 = z) := ⟨_, rfl⟩
      have hyr := HS.out.rng k
      rw [HY.out] at d1 hyr
      clear hc1 hm1
      by_cases hy : y < 0
      · have HB := Lib.hid HO.out.belowN
        clear hyr
        go_wp2
        go_ret
        exact RetB.mk rfl HB.out
      · have HV := Lib.hid (HO.out.via (abal wr (.cells #[.int .i64 y] 2)))
        have HLL := Lib.hid (ls_lit1 wr 2 hyr)
        have hb1 : (k + 1) * 8 ≤ 140737488351232 := by omega
        clear hyr
        go_wp2_with (at_builtin; refine Sp.wpList_loc (i := 0) HV.out rfl _ _ 28 rfl 2 i0 Try.underlying28 HI0.out.1 HI0.out.2.1 HI0.out.2.2.1 HI0.out.2.2.2 rfl rfl rfl HLL.out hb1 ?_)
        intro b9 d9 w9 h9
        have H9 : Hid (Sp Non w w9 [Pt.ints 2 b9 (k + 1) d9 (s.take (k + 1))]) := by
          show Sp _ _ _ _
          rw [take_snoc (by rw [HL.out]; exact hlt), HY.out]
          exact h9
        have HG' : Hid (∀ j, j < k + 1 → 0 ≤ s.getD j 0) := fun j hj => by
          by_cases e : j = k
          · subst e; rw [HY.out]; omega
          · exact HG.out j (by omega)
        clear h9 HV HO HG
        go_wp2
        go_roundw
        case rel => exact ⟨k + 1, b9, d9, by omega, by go_num, rfl, H9, HG'⟩
        case measure => simp [RowKit.intOf]; omega
    · have hge : ¬ ((k : Int) < n) := by omega
      obtain rfl : k = n := by omega
      have hpos : ∀ j, 0 ≤ s.getD j 0 := fun j => by
        by_cases hj : j < k
        · exact HG.out j hj
        · rw [List.getD_eq_getElem?_getD, List.getElem?_eq_none (by rw [HL.out]; omega)]; simp
      have hls := HO.out.ls (i := 0) rfl
      rw [List.take_of_length_le (by rw [HL.out]; exact Nat.le_refl _)] at hls
      have HPOS := Lib.hid hpos
      have CL := Lib.hid (list8_any hls (by omega))
      have HB := Lib.hid HO.out.belowN
      have CS := Lib.hid (fun (w2 : World) (hb : Below w.heap.size w w2) => size_any (HS.out.below hb (Nat.le_refl _)))
      clear hpos hls HG HO
      go_wp2_with fail
      refine CL.out.mono ?_; rintro e w2 ⟨⟨sa, sn, sc, aa, an, ac, s2, a2⟩, rfl, hI, hs, ha, -, hb2⟩
      have HB2 := Lib.hid (HB.out.trans (hb2.mono HB.out.size))
      have HI := Lib.hid (And.intro hI (And.intro hs ha))
      simp only [Ar.v]
      clear hI hs ha hb2 CL
      by_cases hm : mayE s = 0
      · obtain ⟨v1, v2, v3⟩ := iota_ok HL.out (by omega) HPOS.out hm
        obtain ⟨A, HA⟩ : ∃ z, Hid (pcA s = z) := ⟨_, rfl⟩
        rw [HA.out] at v1 v2 v3
        have hpr := pr_nonneg hm
        obtain ⟨P, HP⟩ : ∃ P : Nat, Hid (pr s = P) := ⟨(pr s).toNat, (Int.toNat_of_nonneg hpr.1).symm⟩
        rw [HP.out] at hpr v2 v3
        rw [Int.toNat_natCast] at v2 v3
        have C1 := Lib.hid (CM.out w2 _ _ _ _ _ _ HI.out.1 HI.out.2.1 HI.out.2.2 v1)
        simp only [Ar.v] at C1
        have hsz : szE s = P := by unfold szE; rw [if_pos hm, HP.out]
        have CS1 := CS.out
        rw [hsz, hm] at CS1
        have CSZ := Lib.hid CS1
        have HV := Lib.hid (And.intro v2 v3)
        clear v1 v2 v3 hsz CS1 CS hm
        go_wp2_with fail
        refine C1.out.mono ?_; rintro e w3 ⟨⟨ta, tn, tc, ba, bn, bc, t, b⟩, rfl, hI, hs, ha, hO, hb3⟩
        simp only at hs ha
        have hs' := hs.symm
        have ha' := ha.symm
        subst hs' ha'
        clear hs ha
        have htn : tn = k := by have h1 := hI.shp.len; have h2 := HL.out; simp only at h1; omega
        have hbn : bn = P := by have h1 := hI.ats.len; have h2 := HV.out.1; simp only at h1; omega
        subst htn hbn
        have H3_ := ((((Sp.start Non w).via HB2.out).arrNew hI hO hb3)).alloc 38 2 1 #[.slice ta tn tc, .slice ba bn bc] rfl (by decide)
        try simp only [List.cons_append, List.nil_append, List.set_cons_zero, List.set_cons_succ, List.map_cons, List.map_nil, List.getD_cons_zero, List.getD_cons_succ, World.size_alloc] at H3_
        have H3 := Lib.hid H3_
        clear H3_
        have y0 := H3.out.cell (i := 1) rfl 0 _ rfl
        have y1 := H3.out.cell (i := 1) rfl 1 _ rfl
        have CSQ := Lib.hid (CSZ.out _ H3.out.belowN)
        simp only [Ar.v]
        clear hI hO hb3 C1 HB HB2 HI CSZ
        obtain ⟨W, HW⟩ : ∃ z, Hid (w3.alloc (.cells #[.slice ta tn tc, .slice ba bn bc] 38) = z) := ⟨_, rfl⟩
        rw [HW.out] at H3 y0 y1 CSQ
        obtain ⟨gb, HGB⟩ : ∃ z, Hid (w3.heap.size = z) := ⟨_, rfl⟩
        rw [HGB.out] at H3 y0 y1
        go_wp2_with fail
        rw [HW.out, HGB.out]
        refine CSQ.out.mono ?_; rintro e w' ⟨rfl, hw'⟩
        have hw'' := hw'.symm
        subst hw''
        clear hw' CSQ
        have q0 : ((bn : Int) != bn) = false := by simp
        have q1 : ((tn : Int) != tn) = false := by simp
        go_wp2_with fail
        go_loop [11] (fun v11 => ∃ i : Nat, i ≤ bn ∧ v11 = .int .i64 i) (fun v11 => bn - (RowKit.intOf v11).toNat)
        case atStart => exact ⟨0, by omega, rfl⟩
        case round =>
          obtain ⟨i, hi, rfl⟩ := hrel
          by_cases hlt : i < bn
          · have hlt' : (i : Int) < bn := by omega
            obtain ⟨b4, o4, e4, hc4⟩ := (H3.out.isA (i := 0) rfl).ats.at (by simp only; omega)
            have d4 := hc4 i (by simp only; omega)
            simp only at e4 d4
            subst e4
            rw [HV.out.2 i hlt] at d4
            have q2 : ((i : Int) != i) = false := by simp
            clear hc4
            go_wp2
            go_round
            case rel => exact ⟨i + 1, by omega, by go_num⟩
            case measure => simp [RowKit.intOf]; omega
          · have hge : ¬ ((i : Int) < bn) := by omega
            obtain rfl : i = bn := by omega
            have CSC := Lib.hid (scalar8_any x W HX.out)
            clear y0 y1 q0 q1
            go_wp2_with fail
            refine CSC.out.mono ?_; rintro e w5 ⟨⟨sa5, sn5, sc5, aa5, an5, ac5, s5, a5⟩, rfl, hI, hs, ha, -, hb5⟩
            have HB5 := Lib.hid (H3.out.belowN.trans (hb5.mono H3.out.belowN.size))
            have HI := Lib.hid (And.intro hI (And.intro hs ha))
            simp only [Ar.v]
            clear hI hs ha hb5 CSC
            by_cases hxb : 4096 < x.natAbs
            · have C1 := Lib.hid (CM.out w5 _ _ _ _ _ _ HI.out.1 HI.out.2.1 HI.out.2.2 (iota_big hxb))
              simp only [Ar.v] at C1
              clear H3
              go_wp2_with fail
              refine C1.out.mono ?_; rintro e w6 ⟨⟨sa6, sn6, sc6, aa6, an6, ac6, s6, a6⟩, rfl, -, -, -, -, hb6⟩
              have HB6 := Lib.hid ((HB5.out.trans (hb6.mono HB5.out.size)).trans ((abal w6 (.cells #[.slice sa6 sn6 sc6, .slice aa6 an6 ac6] 38)).mono (by have h1 := HB5.out.size; have h2 := hb6.size; omega)))
              simp only [Ar.v]
              clear hb6 C1
              rcases (show x < -4096 ∨ (¬ x < -4096 ∧ 4096 < x) by omega) with h1 | ⟨h1, h2⟩
              · go_wp2
                go_ret
                exact RetB.mk rfl HB6.out
              · go_wp2
                go_ret
                exact RetB.mk rfl HB6.out
            · have h1 : ¬ x < -4096 := by omega
              have h2 : ¬ 4096 < x := by omega
              obtain ⟨v1, v2, v3⟩ := iota_one (x := x) (by omega)
              obtain ⟨u1, u2, u3⟩ := iota_one (x := -x) (by omega)
              have hab : (-x).natAbs = x.natAbs := by omega
              rw [hab] at u1 u2 u3
              obtain ⟨B, HB⟩ : ∃ z, Hid (pcA [x] = z) := ⟨_, rfl⟩
              obtain ⟨C, HC⟩ : ∃ z, Hid (pcA [-x] = z) := ⟨_, rfl⟩
              rw [HB.out] at v1 v2 v3
              rw [HC.out] at u1 u2 u3
              obtain ⟨N, HN⟩ : ∃ z, Hid (x.natAbs = z) := ⟨_, rfl⟩
              have hNx : (N : Int) = max x (-x) := by rw [← HN.out]; omega
              have HNX := Lib.hid hNx
              rw [HN.out] at v1 v2 v3 u1 u2 u3
              have C1 := Lib.hid (CM.out w5 _ _ _ _ _ _ HI.out.1 HI.out.2.1 HI.out.2.2 v1)
              simp only [Ar.v] at C1
              have hat : ∀ i, i < N → B.getD i 0 = C.getD (N - 1 - i) 0 := fun i hi => by
                rw [v3 i hi, u3 (N - 1 - i) (by omega)]
                by_cases h0 : x < 0
                · rw [if_pos h0, if_neg (by omega)]; omega
                · by_cases h00 : x = 0
                  · subst h00; have := HN.out; simp at this; omega
                  · rw [if_neg h0, if_pos (by omega)]; omega
              have HU := Lib.hid (And.intro v2 (And.intro u2 hat))
              have hN4 : N ≤ 4096 := by rw [← HN.out]; omega
              have CM2 := Lib.hid (fun (w1 : World) (A : Ar) (hA : A.Is w1) (hs : A.s = []) (ha : A.a = [-x]) => CM.out w1 A _ _ _ _ _ hA hs ha u1)
              clear v1 v2 v3 u1 u2 u3 hat hxb hNx
              go_wp2_with fail
              refine C1.out.mono ?_; rintro e w6 ⟨⟨sa6, sn6, sc6, aa6, an6, ac6, s6, a6⟩, rfl, hI, hs, ha, hO, hb6⟩
              simp only at hs ha
              subst ha
              have hn6 : an6 = N := by have h1 := hI.ats.len; have h2 := HU.out.1; simp only at h1; omega
              subst hn6
              have H6_ := ((((Sp.start Non w).via HB5.out).arrNew hI hO hb6)).alloc 38 2 1 #[.slice sa6 sn6 sc6, .slice aa6 an6 ac6] rfl (by decide)
              try simp only [List.cons_append, List.nil_append, List.set_cons_zero, List.set_cons_succ, List.map_cons, List.map_nil, List.getD_cons_zero, List.getD_cons_succ, World.size_alloc] at H6_
              have H6 := Lib.hid H6_
              clear H6_
              simp only [Ar.v]
              obtain ⟨W6, HW6⟩ : ∃ z, Hid (w6.alloc (.cells #[.slice sa6 sn6 sc6, .slice aa6 an6 ac6] 38) = z) := ⟨_, rfl⟩
              obtain ⟨g6, HG6⟩ : ∃ z, Hid (w6.heap.size = z) := ⟨_, rfl⟩
              rw [HW6.out, HG6.out] at H6
              have CSC := Lib.hid (scalar8_any (-x) W6 (by have := HX.out; omega))
              have hneg : IntKind.i64.wrap (-x) = -x := IntWalk.i64_in _ (by omega)
              clear hI hs hO hb6 C1 HI H3
              go_wp2_with fail
              rw [HW6.out, HG6.out]
              refine CSC.out.mono ?_; rintro e w7 ⟨⟨sa7, sn7, sc7, aa7, an7, ac7, s7, a7⟩, rfl, hI, hs, ha, -, hb7⟩
              have C2 := Lib.hid (CM2.out w7 _ hI hs ha)
              simp only [Ar.v] at C2
              have H7 := Lib.hid (H6.out.via hb7)
              simp only [Ar.v]
              clear hI hs ha hb7 CSC H6
              go_wp2_with fail
              refine C2.out.mono ?_; rintro e w8 ⟨⟨sa8, sn8, sc8, aa8, an8, ac8, s8, a8⟩, rfl, hI, hs, ha, hO, hb8⟩
              simp only at hs ha
              subst ha
              have hn8 : an8 = an6 := by have h1 := hI.ats.len; have h2 := HU.out.2.1; simp only at h1; omega
              subst hn8
              have H8_ := (H7.out.arrNew hI hO hb8).alloc 38 2 1 #[.slice sa8 sn8 sc8, .slice aa8 an8 ac8] rfl (by decide)
              try simp only [List.cons_append, List.nil_append, List.set_cons_zero, List.set_cons_succ, List.map_cons, List.map_nil, List.getD_cons_zero, List.getD_cons_succ, World.size_alloc] at H8_
              have H8 := Lib.hid H8_
              clear H8_
              simp only [Ar.v]
              have y0 := H8.out.cell (i := 1) rfl 0 _ rfl
              have y1 := H8.out.cell (i := 1) rfl 1 _ rfl
              have z0 := H8.out.cell (i := 3) rfl 0 _ rfl
              have z1 := H8.out.cell (i := 3) rfl 1 _ rfl
              have q0 : ((an8 : Int) != an8) = false := by simp
              have q1 : ((an8 : Int) != max x (-x)) = false := by rw [← HNX.out]; simp
              clear hI hs hO hb8 C2 H7
              go_wp2_with fail
              obtain ⟨W8, HW8⟩ : ∃ z, Hid (w8.alloc (.cells #[.slice sa8 sn8 sc8, .slice aa8 an8 ac8] 38) = z) := ⟨_, rfl⟩
              obtain ⟨g8, HG8⟩ : ∃ z, Hid (w8.heap.size = z) := ⟨_, rfl⟩
              rw [HW8.out, HG8.out] at H8
              rw [HW8.out] at y0 y1
              rw [HW8.out, HG8.out] at z0 z1
              rw [HW8.out, HG8.out]
              go_loopw [16] (fun v16 wr => ∃ i q : Nat, i ≤ an8 ∧ v16 = .int .i64 i ∧ wr = W8.drewN q) (fun v16 _ => an8 - (RowKit.intOf v16).toNat)
              case atStart => exact ⟨0, 0, by omega, rfl, rfl⟩
              case round =>
                obtain ⟨i, q, hi, rfl, rfl⟩ := hrel
                by_cases hlt : i < an8
                · have hlt' : (i : Int) < an8 := by omega
                  have hrev : an8 - 1 - i < an8 := by omega
                  obtain ⟨b4, o4, e4, hc4⟩ := (H8.out.isA (i := 0) rfl).ats.at (by simp only; omega)
                  obtain ⟨b5, o5, e5, hc5⟩ := (H8.out.isA (i := 2) rfl).ats.at (by simp only; omega)
                  have d4 := hc4 i (by simp only; omega)
                  have d5 := hc5 (an8 - 1 - i) (by simp only; omega)
                  simp only at e4 d4 e5 d5
                  subst e4 e5
                  rw [HU.out.2.2 i hlt] at d4
                  obtain ⟨V, HVV⟩ : ∃ z, Hid (a8.getD (an8 - 1 - i) 0 = z) := ⟨_, rfl⟩
                  rw [HVV.out] at d4 d5
                  obtain ⟨r, HR⟩ : ∃ z, Hid (an8 - 1 - i = z) := ⟨_, rfl⟩
                  rw [HR.out] at d5 hrev
                  have hr1 : (an8 : Int) - 1 - i = r := by rw [← HR.out]; omega
                  have q2 : (V != V) = false := by simp
                  clear hc4 hc5
                  go_wp2_with fail
                  go_quiet (fail)
                  go_wp2
                  go_roundw
                  case rel => exact ⟨i + 1, _, by omega, by go_num, rfl⟩
                  case measure => simp [RowKit.intOf]; omega
                · have hge : ¬ ((i : Int) < an8) := by omega
                  have HBE := Lib.hid (abvia H8.out.belowN (adrew W8 q))
                  clear H8
                  go_wp2
                  go_ret
                  exact RetB.mk rfl HBE.out
      · have C1 := Lib.hid (CM.out w2 _ _ _ _ _ _ HI.out.1 HI.out.2.1 HI.out.2.2 (iota_no HL.out (by omega) HPOS.out hm))
        simp only [Ar.v] at C1
        obtain ⟨me, HME⟩ : ∃ z, Hid (mayE s = z) := ⟨_, rfl⟩
        obtain ⟨sz, HSZ⟩ : ∃ z, Hid (szE s = z) := ⟨_, rfl⟩
        have CS1 := CS.out
        rw [HME.out] at hm
        rw [HME.out, HSZ.out] at CS1
        have CSZ := Lib.hid CS1
        have q0 : (me != 0) = true := by simpa using hm
        clear CS1 CS hm
        go_wp2_with fail
        refine C1.out.mono ?_; rintro e w3 ⟨⟨ta, tn, tc, ba, bn, bc, t, b⟩, rfl, -, -, -, -, hb3⟩
        have HB3 := Lib.hid (HB2.out.trans ((abvia hb3 (abal w3 (.cells #[.slice ta tn tc, .slice ba bn bc] 38))).mono HB2.out.size))
        simp only [Ar.v]
        have CSQ := Lib.hid (CSZ.out _ HB3.out)
        clear hb3 C1 HB HB2 HI CSZ
        go_wp2_with fail
        refine CSQ.out.mono ?_; rintro e w' ⟨rfl, hw'⟩
        have hw'' := hw'.symm
        subst hw''
        go_wp2
        go_ret
        exact RetB.mk rfl HB3.out
end Go.Proofs.Ytoippfoeghjdoaa
