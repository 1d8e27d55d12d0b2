/- Contract of cell.One. -/
import Derived.Test.YthackmkdicpdeaaCellMake
import Derived.Test.YthackmkdicpdeaaSep3
import Derived.Deep.RegionLaw
import Derived.Deep.CutRange
import Derived.Deep.CutBlock
namespace Go.Proofs.Ythackmkdicpdeaa
open Go.RowKit Go.Lib
set_option linter.unusedVariables false
set_option linter.unusedSimpArgs false
attribute [local go_sem] alloc_drewN setCell_drewN
/-- The frame, the cells, the cell of zeros. -/
def onK (s : List Int) (r : Int) : Nat := spN s.length r
def onF (s a : List Int) (r : Int) : List Int := if amE s a = 0 then s.take (onK s r) else []
def onI (s a : List Int) (r : Int) : List Int := if amE s a = 0 then s.drop (onK s r) else []
def onC (s a : List Int) (r : Int) : List (List Int × List Int) := if amE s a = 0 then (List.range (pr (s.take (onK s r))).toNat).map fun i => (s.drop (onK s r), ckL (pr (s.drop (onK s r))).toNat i a) else []
def onZ (s a : List Int) (r : Int) : List Int := if amE s a = 0 then List.replicate (pr (s.drop (onK s r))).toNat 0 else []
def onE (s a : List Int) : Int := if amE s a = 0 then 0 else 1
/-- Cells of the call's own. -/
def OneP (w : World) (fr inn zs : List Int) (cs : List (List Int × List Int)) (err : Int) (e : Ending) (w' : World) : Prop :=
  ∃ fo fn fc co cn cc B As, e = .returned (.tuple #[.agg #[.slice fo fn fc, .slice co cn cc, .slice B.sa B.sn B.sc, .slice B.aa B.an B.ac], .int .i64 err]) ∧ Sp Non w w' [Pt.ints 3 fo fn fc fr, Pt.arrs co cn cc As, Pt.arr B] ∧ As.map Ar.sa2 = cs ∧ B.s = inn ∧ B.a = zs
/-- The loop's rounds. -/
def OneI (w wr : World) (S A vr : Value) (b1 b2 : Nat) (fo : Option Addr) (fn fc : Nat) (fr : List Int) (io : Option Addr) (im ic : Nat) (inn : List Int) (Z : Ar) (m : Nat) (a : List Int) (i : Nat) : Prop :=
  ∃ As co cc, Sp Non w wr [Pt.row ⟨45, 2, some ⟨w.heap.size, 0, none⟩, 1, 1, [S, A]⟩, Pt.row ⟨74, 4, some ⟨b1, 0, none⟩, 1, 1, [.slice none 0 0, .slice none 0 0, .slice none 0 0, .slice none 0 0]⟩,
    Pt.ints 3 fo fn fc fr, Pt.ints 3 io im ic inn, Pt.arr Z, Pt.row ⟨74, 4, some ⟨b2, 0, none⟩, 1, 1, [.slice fo fn fc, .slice co i cc, .slice Z.sa Z.sn Z.sc, .slice Z.aa Z.an Z.ac]⟩,
    Pt.row ⟨45, 2, co, i, cc, cellsA As⟩, Pt.all (As.map Pt.arr)] ∧ As.map Ar.sa2 = (List.range i).map fun i => (inn, ckL m i a)
set_option maxRecDepth 100000 in
set_option maxHeartbeats 3200000 in
theorem one_ok {w : World} {A : Ar} (hA : A.Is w) (r : Int) (hr : -9223372036854775808 ≤ r ∧ r ≤ 9223372036854775807) (hm : amE A.s A.a = 0) :
    Calls Try.prog 19 #[A.v, .int .i64 r] w (OneP w (A.s.take (onK A.s r)) (A.s.drop (onK A.s r)) (List.replicate (pr (A.s.drop (onK A.s r))).toNat 0) ((List.range (pr (A.s.take (onK A.s r))).toNat).map fun i => (A.s.drop (onK A.s r), ckL (pr (A.s.drop (onK A.s r))).toNat i A.a)) 0) := by
  obtain ⟨sa, sn, sc, aa, an, ac, s, a⟩ := A
  simp only [Ar.v] at hm ⊢
  obtain ⟨W, HW⟩ : ∃ z, Hid ((w.alloc (.cells #[.slice sa sn sc, .slice aa an ac] 45)).alloc (.cells #[.slice none 0 0, .slice none 0 0, .slice none 0 0, .slice none 0 0] 74) = z) := ⟨_, rfl⟩
  have h0 := ((Sp.start Non w).alloc 45 2 1 #[.slice sa sn sc, .slice aa an ac] rfl (by decide)).alloc 74 4 1 #[.slice none 0 0, .slice none 0 0, .slice none 0 0, .slice none 0 0] rfl (by decide)
  rw [HW.out] at h0
  have H0_ := h0
  try simp only [List.cons_append, List.nil_append, List.set_cons_zero, List.set_cons_succ, List.map_cons, List.map_nil, List.getD_cons_zero, List.getD_cons_succ, World.size_alloc] at H0_
  have H0 := Lib.hid H0_
  clear H0_
  have HI := Lib.hid hA
  obtain ⟨hq1, hq2⟩ := amE_zero hm
  have hsl : s.length = sn := hA.shp.len
  have hal : a.length = an := hA.ats.len
  obtain ⟨k, HK⟩ : ∃ k, Hid (onK s r = k) := ⟨_, rfl⟩
  rw [HK.out]
  obtain ⟨fr, HFR⟩ : ∃ z, Hid (s.take k = z) := ⟨_, rfl⟩
  obtain ⟨inn, HIN⟩ : ∃ z, Hid (s.drop k = z) := ⟨_, rfl⟩
  rw [HFR.out, HIN.out]
  have hs : fr ++ inn = s := by rw [← HFR.out, ← HIN.out, List.take_append_drop]
  obtain ⟨m1, m2⟩ := mayE_app (by rw [hs]; exact hq1)
  have p1 := pr_nonneg m1
  have p2 := pr_nonneg m2
  obtain ⟨N, hN⟩ : ∃ N : Nat, pr fr = N := ⟨(pr fr).toNat, by omega⟩
  obtain ⟨m, hmm⟩ : ∃ m : Nat, pr inn = m := ⟨(pr inn).toNat, by omega⟩
  have han : an = N * m := by
    have e : pr s = pr fr * pr inn := by rw [← hs, pr_app]
    rw [hN, hmm] at e
    have : (an : Int) = ((N * m : Nat) : Int) := by rw [← hal, ← hq2, e]; push_cast; rfl
    exact_mod_cast this
  rw [hN, hmm, Int.toNat_natCast, Int.toNat_natCast]
  have hNb : N ≤ 4096 := by omega
  have hmb : m ≤ 4096 := by omega
  have M1 := Lib.hid m1
  have M2 := Lib.hid m2
  have HN := Lib.hid hN
  have HM := Lib.hid hmm
  have HAN := Lib.hid han
  have HKN : Hid (spN sn r = k) := by show _ = _; rw [← hsl]; exact HK.out
  have CM := Lib.hid (arrmay_any (hA.below H0.out.belowN (Nat.le_refl _)))
  simp only [Ar.v] at CM
  rw [hm] at CM
  have y0 := H0.out.cell (i := 0) rfl 0 _ rfl
  have y1 := H0.out.cell (i := 0) rfl 1 _ rfl
  clear hA hm hq1 hq2 hsl hal hs m1 m2 p1 p2 hN hmm han h0
  go_enter Try.func19, Try.ntmps19
  go_wp2_with fail
  rw [HW.out]
  refine CM.out.mono ?_; rintro e w1 ⟨rfl, hb1⟩
  have H1_ := H0.out.via hb1
  try simp only [List.cons_append, List.nil_append, List.set_cons_zero, List.set_cons_succ, List.map_cons, List.map_nil, List.getD_cons_zero, List.getD_cons_succ, World.size_alloc] at H1_
  have H1 := Lib.hid H1_
  clear H1_
  clear hb1 y0 y1
  have y0 := H1.out.cell (i := 0) rfl 0 _ rfl
  have y1 := H1.out.cell (i := 0) rfl 1 _ rfl
  have CS := Lib.hid (split_any (HI.out.shp.below H1.out.belowN (Nat.le_refl _)) r hr)
  simp only at CS
  rw [HKN.out, HFR.out, HIN.out] at CS
  go_wp2_with fail
  refine CS.out.mono ?_; rintro e w2 ⟨fo, fn, fc, io, im, ic, rfl, hL1, hL2, hO1, hO2, hne, hb2⟩
  have H2_ := H1.out.llNew hL1 hL2 hO1 hO2 hne hb2
  try simp only [List.cons_append, List.nil_append, List.set_cons_zero, List.set_cons_succ, List.map_cons, List.map_nil, List.getD_cons_zero, List.getD_cons_succ, World.size_alloc] at H2_
  have H2 := Lib.hid H2_
  clear H2_
  have CZ := Lib.hid (zeros_any hL2 M2.out)
  rw [HM.out, Int.toNat_natCast] at CZ
  clear hL1 hL2 hO1 hO2 hne hb2 y0 y1
  go_wp2_with fail
  refine CZ.out.mono ?_; rintro e w3 ⟨Z, rfl, hZI, hZs, hZa, hZO, hb3⟩
  have H3_ := H2.out.arrNew hZI hZO hb3
  try simp only [List.cons_append, List.nil_append, List.set_cons_zero, List.set_cons_succ, List.map_cons, List.map_nil, List.getD_cons_zero, List.getD_cons_succ, World.size_alloc] at H3_
  have H3 := Lib.hid H3_
  clear H3_
  have HZ := Lib.hid (And.intro hZs hZa)
  clear hZI hZs hZa hZO hb3
  obtain ⟨W3, HW3⟩ : ∃ z, Hid (w3.alloc (.cells #[.slice fo fn fc, .slice none 0 0, .slice Z.sa Z.sn Z.sc, .slice Z.aa Z.an Z.ac] 74) = z) := ⟨_, rfl⟩
  have h4 := H3.out.alloc 74 4 1 #[.slice fo fn fc, .slice none 0 0, .slice Z.sa Z.sn Z.sc, .slice Z.aa Z.an Z.ac] rfl (by decide)
  rw [HW3.out] at h4
  have H4_ := (h4.rowNil 45 2).allNil
  try simp only [List.cons_append, List.nil_append, List.set_cons_zero, List.set_cons_succ, List.map_cons, List.map_nil, List.getD_cons_zero, List.getD_cons_succ, World.size_alloc] at H4_
  have H4 := Lib.hid H4_
  clear H4_
  clear h4
  have C1 := Lib.hid (count4_any (H4.out.ls (i := 3) rfl) M2.out)
  have C2 := Lib.hid (count4_any (H4.out.ls (i := 2) rfl) M1.out)
  rw [HM.out] at C1
  rw [HN.out] at C2
  simp only [Ar.v]
  go_wp2_with fail
  rw [HW3.out]
  refine C1.out.mono ?_; rintro e w4 ⟨rfl, hw⟩
  have hw' := hw.symm
  subst hw'
  go_wp2_with fail
  refine C2.out.mono ?_; rintro e w4 ⟨rfl, hw⟩
  have hw' := hw.symm
  subst hw'
  obtain ⟨i4, hi4, hza4, hzb4, hzc4⟩ := info_parts (P := Try.prog) (e := 45) (z := .agg #[.slice none 0 0, .slice none 0 0]) (size := 2) (bytes := 48) (by kernel_rfl)
  obtain ⟨b1, HB1⟩ : ∃ z, Hid (w.heap.size + 1 = z) := ⟨_, rfl⟩
  obtain ⟨b2, HB2⟩ : ∃ z, Hid (w3.heap.size = z) := ⟨_, rfl⟩
  rw [HB1.out] at H4 ⊢
  rw [HB2.out] at H4 ⊢
  clear C1 C2 CZ CS CM H0 H1 H2 H3 HW HW3
  go_wp2_with fail
  go_loopw [30] (fun v wr => ∃ i : Nat, i ≤ N ∧ v = .int .i64 i ∧ Hid (OneI w wr (.slice sa sn sc) (.slice aa an ac) (.int .i64 r) b1 b2 fo fn fc fr io im ic inn Z m a i)) (fun v _ => N - (RowKit.intOf v).toNat)
  case atStart => exact ⟨0, by omega, rfl, ⟨[], none, 0, H4.out, rfl⟩⟩
  case round =>
    obtain ⟨i, hi, rfl, HO⟩ := hrel
    obtain ⟨As, co, cc, hsp, hAs⟩ := HO.out
    by_cases hlt : i < N
    · have hlt' : (i : Int) < N := by omega
      have HS_ := hsp.via (adrew1 wr)
      try simp only [List.cons_append, List.nil_append, List.set_cons_zero, List.set_cons_succ, List.map_cons, List.map_nil, List.getD_cons_zero, List.getD_cons_succ, World.size_alloc] at HS_
      have HS := Lib.hid HS_
      clear HS_
      obtain ⟨p, HP⟩ : ∃ p, Hid (i * m = p) := ⟨_, rfl⟩
      have hpm : p + m ≤ an := by
        have h1 := Nat.mul_le_mul_right m (show i + 1 ≤ N by omega)
        rw [Nat.succ_mul, HP.out, ← HAN.out] at h1
        exact h1
      have hpi : (i : Int) * m = p := by rw [← HP.out]; push_cast; rfl
      have hpj : ((i : Int) + 1) * m = p + m := by rw [Int.add_mul, hpi, Int.one_mul]
      have hac := HI.out.ats.cap
      have htop := HI.out.ats.top
      have hbg := HI.out.ats.big
      have hanb : an ≤ 17000000 := by rw [HAN.out]; have := Nat.mul_le_mul hNb hmb; omega
      simp only at hac htop hbg
      unfold maxLen at htop
      have z6 : IntKind.i64.wrap ((i : Int) * m) = p := by rw [hpi]; exact IntWalk.i64_in _ (by omega)
      have z7 : IntKind.i64.wrap (((i : Int) + 1) * m) = p + m := by rw [hpj]; exact IntWalk.i64_in _ (by omega)
      have z11 : IntKind.i64.wrap ((i : Int) + 1) = i + 1 := IntWalk.i64_in _ (by omega)
      have d0 := HS.out.cell (i := 5) rfl 1 _ rfl
      have d1 := HS.out.cell (i := 0) rfl 1 _ rfl
      have hmx : i + 1 ≤ maxLen := by unfold maxLen; omega
      have hbyt : (i + 1) * 48 ≤ 140737488355328 := by omega
      have HAS := Lib.hid hAs
      clear hAs hsp hpi hpj hbg
      rcases (show p = ac ∨ p < ac by omega) with hpc | hpc
      · obtain rfl : m = 0 := by omega
        have hp0 : p = 0 := by rw [← HP.out]; simp
        obtain rfl : ac = 0 := by omega
        subst hp0
        have z12 : IntKind.i64.wrap (0 : Int) = 0 := IntWalk.i64_in _ (by omega)
        have HCK : Hid (ckL 0 i a = []) := by show _ = _; simp [ckL]
        have HFIN : Hid (∀ (w9 : World) (so5 : Option Addr) (sc5 : Nat) (ao6 : Option Addr) (ac6 : Nat) (b9 : Option Addr) (d9 : Nat), Sp Non w w9 [Pt.row ⟨45, 2, some ⟨w.heap.size, 0, none⟩, 1, 1, [.slice sa sn sc, .slice aa an 0]⟩, Pt.row ⟨74, 4, some ⟨b1, 0, none⟩, 1, 1, [.slice none 0 0, .slice none 0 0, .slice none 0 0, .slice none 0 0]⟩,
            Pt.ints 3 fo fn fc fr, Pt.ints 3 io im ic inn, Pt.arr Z, Pt.row ⟨74, 4, some ⟨b2, 0, none⟩, 1, 1, [.slice fo fn fc, .slice co i cc, .slice Z.sa Z.sn Z.sc, .slice Z.aa Z.an Z.ac]⟩,
            Pt.row ⟨45, 2, b9, i + 1, d9, cellsA As ++ [.slice so5 im sc5, .slice ao6 0 ac6]⟩, Pt.all (As.map Pt.arr), Pt.ints 3 so5 im sc5 inn, Pt.ints 2 ao6 0 ac6 ([])] → OneI w (w9.setCell ⟨b2, 1, none⟩ (.slice b9 (i + 1) d9)) (.slice sa sn sc) (.slice aa an 0) (.int .i64 r) b1 b2 fo fn fc fr io im ic inn Z 0 a (i + 1)) := by
          intro w9 so5 sc5 ao6 ac6 b9 d9 hH9
          have hX := hH9.put (i := 5) rfl 1 (.slice b9 (i + 1) d9)
          simp only [List.set_cons_zero, List.set_cons_succ] at hX
          have hX2 := hX.arrOf (i := 8) (j := 9) rfl (by decide) rfl
          simp only [List.set_cons_zero, List.set_cons_succ] at hX2
          have hX3 := hX2.arrMore (i := 7) (j := 9) rfl (by decide) rfl
          have HX_ := hX3.pick [0, 1, 2, 3, 4, 5, 6, 7] (by decide)
          try simp only [List.cons_append, List.nil_append, List.set_cons_zero, List.set_cons_succ, List.map_cons, List.map_nil, List.getD_cons_zero, List.getD_cons_succ, World.size_alloc] at HX_
          have HX := Lib.hid HX_
          clear HX_
          refine ⟨As ++ [⟨so5, im, sc5, ao6, 0, ac6, inn, []⟩], b9, d9, ?_, ?_⟩
          · rw [cellsA_app]; exact HX.out
          · rw [List.map_append, HAS.out, List.range_succ, List.map_append]
            congr 1
            all_goals (simp only [List.map_cons, List.map_nil, Ar.sa2]; try rw [HCK.out])
        go_upto_block 1 with fail
        go_cut [10] from 32 to 51 (fun v wx => Hid (OneI w wx (.slice sa sn sc) (.slice aa an 0) (.int .i64 r) b1 b2 fo fn fc fr io im ic inn Z 0 a (i + 1)))
        case first =>
          go_upto_region 9 with fail
          go_region_law (first
            | (refine Sp.step_append HV rfl _ _ 32 (by rfl) 45 i4 (.agg #[.slice none 0 0, .slice none 0 0]) 2 48 Try.underlying32 hi4 hza4 hzb4 hzc4 rfl (by decide) (i := 6) rfl (by rfl) ⟨w6.heap.size, 0, none⟩ 1 1 (by rfl) [Value.slice so5 im sc5, Value.slice ao6 0 ac6] rfl (newsA w6 45 _ _) (by simp [Value.oneCell']) hmx hbyt ?_; intro b9 d9 w9 hH9; have q1 := hH9.cell (i := 5) rfl 1 _ rfl; have q2 := hH9.frozen (i := 5) rfl 1)
            | (go_simp; go_at_call 63; refine (clone_any (HS.out.ls (i := 3) rfl)).mono ?_; rintro e w5 ⟨so5, sc5, rfl, hL5, hO5, hB5⟩; have HT := Lib.hid (HS.out.intsNew hO5 hB5 hL5.big hL5.rng); have q1 := HT.out.cell (i := 5) rfl 1 _ rfl; have q2 := HT.out.cell (i := 0) rfl 1 _ rfl; have CK := clone6_any (Ls.zero w5 aa (Nat.zero_le _ : 0 ≤ maxLen)))
            | (go_simp; go_at_call 64; refine CK.mono ?_; rintro e w6 ⟨ao6, ac6, rfl, hL6, hO6, hB6⟩; have HU := Lib.hid (HT.out.intsNew hO6 hB6 hL6.big hL6.rng); have HV := HU.out.via (abal w6 (.cells #[.slice so5 im sc5, .slice ao6 0 ac6] 45)); have q3 := HU.out.cell (i := 5) rfl 1 _ rfl; have q4 := HV.cell (i := 5) rfl 1 _ rfl))
          all_goals go_wp2_with fail
          all_goals go_meet
          all_goals exact HFIN.out _ _ _ _ _ _ _ hH9
        case rest =>
          obtain ⟨U3, hU3⟩ : ∃ z : World, z = wc := ⟨_, rfl⟩
          subst hU3
          clear d0 d1 HFIN
          go_wp2
          go_roundw
          case rel => exact ⟨i + 1, by omega, by go_num, hcut⟩
          case measure => simp [RowKit.intOf]; omega
      · have HCK : Hid (ckL m i a = (a.drop p).take m) := by show _ = _; rw [← HP.out]; rfl
        have z0 : ¬ ac = p := by omega
        have z1 : (0 : Int) ≤ p := by omega
        have z2 : (p : Int) ≤ p + m := by omega
        have z3 : (p : Int) + m ≤ ac := by omega
        have z5 : ((p : Int) + m).toNat = p + m := by omega
        have z8 : (p : Int) < ac := by omega
        have z9 : ¬ ac - p = 0 := by omega
        have z10 : p + m - p = m := by omega
        have HFIN : Hid (∀ (w9 : World) (so5 : Option Addr) (sc5 : Nat) (ao6 : Option Addr) (ac6 : Nat) (b9 : Option Addr) (d9 : Nat), Sp Non w w9 [Pt.row ⟨45, 2, some ⟨w.heap.size, 0, none⟩, 1, 1, [.slice sa sn sc, .slice aa an ac]⟩, Pt.row ⟨74, 4, some ⟨b1, 0, none⟩, 1, 1, [.slice none 0 0, .slice none 0 0, .slice none 0 0, .slice none 0 0]⟩,
            Pt.ints 3 fo fn fc fr, Pt.ints 3 io im ic inn, Pt.arr Z, Pt.row ⟨74, 4, some ⟨b2, 0, none⟩, 1, 1, [.slice fo fn fc, .slice co i cc, .slice Z.sa Z.sn Z.sc, .slice Z.aa Z.an Z.ac]⟩,
            Pt.row ⟨45, 2, b9, i + 1, d9, cellsA As ++ [.slice so5 im sc5, .slice ao6 m ac6]⟩, Pt.all (As.map Pt.arr), Pt.ints 3 so5 im sc5 inn, Pt.ints 2 ao6 m ac6 (((a.drop p).take m))] → OneI w (w9.setCell ⟨b2, 1, none⟩ (.slice b9 (i + 1) d9)) (.slice sa sn sc) (.slice aa an ac) (.int .i64 r) b1 b2 fo fn fc fr io im ic inn Z m a (i + 1)) := by
          intro w9 so5 sc5 ao6 ac6 b9 d9 hH9
          have hX := hH9.put (i := 5) rfl 1 (.slice b9 (i + 1) d9)
          simp only [List.set_cons_zero, List.set_cons_succ] at hX
          have hX2 := hX.arrOf (i := 8) (j := 9) rfl (by decide) rfl
          simp only [List.set_cons_zero, List.set_cons_succ] at hX2
          have hX3 := hX2.arrMore (i := 7) (j := 9) rfl (by decide) rfl
          have HX_ := hX3.pick [0, 1, 2, 3, 4, 5, 6, 7] (by decide)
          try simp only [List.cons_append, List.nil_append, List.set_cons_zero, List.set_cons_succ, List.map_cons, List.map_nil, List.getD_cons_zero, List.getD_cons_succ, World.size_alloc] at HX_
          have HX := Lib.hid HX_
          clear HX_
          refine ⟨As ++ [⟨so5, im, sc5, ao6, m, ac6, inn, ((a.drop p).take m)⟩], b9, d9, ?_, ?_⟩
          · rw [cellsA_app]; exact HX.out
          · rw [List.map_append, HAS.out, List.range_succ, List.map_append]
            congr 1
            all_goals (simp only [List.map_cons, List.map_nil, Ar.sa2]; try rw [HCK.out])
        go_upto_block 1 with fail
        go_cut [10] from 32 to 51 (fun v wx => Hid (OneI w wx (.slice sa sn sc) (.slice aa an ac) (.int .i64 r) b1 b2 fo fn fc fr io im ic inn Z m a (i + 1)))
        case first =>
          go_upto_region 9 with fail
          go_region_law (first
            | (refine Sp.step_append HV rfl _ _ 32 (by rfl) 45 i4 (.agg #[.slice none 0 0, .slice none 0 0]) 2 48 Try.underlying32 hi4 hza4 hzb4 hzc4 rfl (by decide) (i := 6) rfl (by rfl) ⟨w6.heap.size, 0, none⟩ 1 1 (by rfl) [Value.slice so5 im sc5, Value.slice ao6 m ac6] rfl (newsA w6 45 _ _) (by simp [Value.oneCell']) hmx hbyt ?_; intro b9 d9 w9 hH9; have q1 := hH9.cell (i := 5) rfl 1 _ rfl; have q2 := hH9.frozen (i := 5) rfl 1)
            | (go_simp; go_at_call 63; refine (clone_any (HS.out.ls (i := 3) rfl)).mono ?_; rintro e w5 ⟨so5, sc5, rfl, hL5, hO5, hB5⟩; have HT := Lib.hid (HS.out.intsNew hO5 hB5 hL5.big hL5.rng); have q1 := HT.out.cell (i := 5) rfl 1 _ rfl; have q2 := HT.out.cell (i := 0) rfl 1 _ rfl; have CK := clone6_any ((HI.out.ats.cutA p m hpm).below HT.out.belowN (Nat.le_refl _)))
            | (go_simp; go_at_call 64; refine CK.mono ?_; rintro e w6 ⟨ao6, ac6, rfl, hL6, hO6, hB6⟩; have HU := Lib.hid (HT.out.intsNew hO6 hB6 hL6.big hL6.rng); have HV := HU.out.via (abal w6 (.cells #[.slice so5 im sc5, .slice ao6 m ac6] 45)); have q3 := HU.out.cell (i := 5) rfl 1 _ rfl; have q4 := HV.cell (i := 5) rfl 1 _ rfl))
          all_goals go_wp2_with fail
          all_goals go_meet
          all_goals exact HFIN.out _ _ _ _ _ _ _ hH9
        case rest =>
          obtain ⟨U3, hU3⟩ : ∃ z : World, z = wc := ⟨_, rfl⟩
          subst hU3
          clear d0 d1 HFIN
          go_wp2
          go_roundw
          case rel => exact ⟨i + 1, by omega, by go_num, hcut⟩
          case measure => simp [RowKit.intOf]; omega
    · have hge : ¬ ((i : Int) < N) := by omega
      obtain rfl : i = N := by omega
      have x0 := hsp.cell (i := 5) rfl 0 _ rfl
      have x1 := hsp.cell (i := 5) rfl 1 _ rfl
      have x2 := hsp.cell (i := 5) rfl 2 _ rfl
      have x3 := hsp.cell (i := 5) rfl 3 _ rfl
      have x4 := hsp.cell (i := 1) rfl 0 _ rfl
      have x5 := hsp.cell (i := 1) rfl 1 _ rfl
      have x6 := hsp.cell (i := 1) rfl 2 _ rfl
      have x7 := hsp.cell (i := 1) rfl 3 _ rfl
      have f0 := hsp.frozen (i := 1) rfl 0
      have f1 := hsp.frozen (i := 1) rfl 1
      have f2 := hsp.frozen (i := 1) rfl 2
      have f3 := hsp.frozen (i := 1) rfl 3
      have hf := ((((hsp.put (i := 1) rfl 0 (.slice fo fn fc)).put (i := 1) rfl 1 (.slice co i cc)).put (i := 1) rfl 2 (.slice Z.sa Z.sn Z.sc)).put (i := 1) rfl 3 (.slice Z.aa Z.an Z.ac))
      have HY_ := (hf.arrsOf (i := 6) (j := 7) rfl (by decide) rfl).pick [2, 6, 4] (by decide)
      try simp only [List.cons_append, List.nil_append, List.set_cons_zero, List.set_cons_succ, List.map_cons, List.map_nil, List.getD_cons_zero, List.getD_cons_succ, World.size_alloc] at HY_
      have HY := Lib.hid HY_
      clear HY_
      have HF : Hid (OneP w fr inn (List.replicate m 0) ((List.range i).map fun i => (inn, ckL m i a)) 0 (.returned (.tuple #[.agg #[.slice fo fn fc, .slice co i cc, .slice Z.sa Z.sn Z.sc, .slice Z.aa Z.an Z.ac], .int .i64 0])) ((((wr.setCell ⟨b1, 0, none⟩ (.slice fo fn fc)).setCell ⟨b1, 1, none⟩ (.slice co i cc)).setCell ⟨b1, 2, none⟩ (.slice Z.sa Z.sn Z.sc)).setCell ⟨b1, 3, none⟩ (.slice Z.aa Z.an Z.ac))) :=
        ⟨_, _, _, _, _, _, _, _, rfl, HY.out, hAs, HZ.out.1, HZ.out.2⟩
      clear hsp hf HY HO hAs
      go_wp2
      exact bodyPost_ret (v := .tuple #[.agg #[.slice fo fn fc, .slice co i cc, .slice Z.sa Z.sn Z.sc, .slice Z.aa Z.an Z.ac], .int .i64 0]) (by simp [results, Try.results19, go_sem, *]) rfl HF.out
set_option maxHeartbeats 1600000 in
theorem one_bad {w : World} {A : Ar} (hA : A.Is w) (r : Int) (hm : amE A.s A.a ≠ 0) : Calls Try.prog 19 #[A.v, .int .i64 r] w (OneP w [] [] [] [] 1) := by
  obtain ⟨sa, sn, sc, aa, an, ac, s, a⟩ := A
  simp only [Ar.v] at hm ⊢
  obtain ⟨W, HW⟩ : ∃ z, Hid ((w.alloc (.cells #[.slice sa sn sc, .slice aa an ac] 45)).alloc (.cells #[.slice none 0 0, .slice none 0 0, .slice none 0 0, .slice none 0 0] 74) = z) := ⟨_, rfl⟩
  have h0 := ((Sp.start Non w).alloc 45 2 1 #[.slice sa sn sc, .slice aa an ac] rfl (by decide)).alloc 74 4 1 #[.slice none 0 0, .slice none 0 0, .slice none 0 0, .slice none 0 0] rfl (by decide)
  rw [HW.out] at h0
  have H0_ := h0
  try simp only [List.cons_append, List.nil_append, List.set_cons_zero, List.set_cons_succ, List.map_cons, List.map_nil, List.getD_cons_zero, List.getD_cons_succ, World.size_alloc] at H0_
  have H0 := Lib.hid H0_
  clear H0_
  have CM := Lib.hid (arrmay_any (hA.below H0.out.belowN (Nat.le_refl _)))
  simp only [Ar.v] at CM
  obtain ⟨m, hmm⟩ : ∃ m, m = amE s a := ⟨_, rfl⟩
  rw [← hmm] at CM hm
  have q0 : (m != 0) = true := by simpa using hm
  have y0 := H0.out.cell (i := 0) rfl 0 _ rfl
  have y1 := H0.out.cell (i := 0) rfl 1 _ rfl
  clear hA hm hmm h0
  go_enter Try.func19, Try.ntmps19
  go_wp2_with fail
  rw [HW.out]
  refine CM.out.mono ?_; rintro e w1 ⟨rfl, hb1⟩
  have H1_ := H0.out.via hb1
  try simp only [List.cons_append, List.nil_append, List.set_cons_zero, List.set_cons_succ, List.map_cons, List.map_nil, List.getD_cons_zero, List.getD_cons_succ, World.size_alloc] at H1_
  have H1 := Lib.hid H1_
  clear H1_
  have x0 := H1.out.cell (i := 1) rfl 0 _ rfl
  have f0 := H1.out.frozen (i := 1) rfl 0
  have x1 := H1.out.cell (i := 1) rfl 1 _ rfl
  have f1 := H1.out.frozen (i := 1) rfl 1
  have x2 := H1.out.cell (i := 1) rfl 2 _ rfl
  have f2 := H1.out.frozen (i := 1) rfl 2
  have x3 := H1.out.cell (i := 1) rfl 3 _ rfl
  have f3 := H1.out.frozen (i := 1) rfl 3
  have HF : Hid (∀ u0 u1 u2 u3, OneP w [] [] [] [] 1 (.returned (.tuple #[.agg #[.slice none 0 0, .slice none 0 0, .slice none 0 0, .slice none 0 0], .int .i64 1])) ((((w1.setCell ⟨w.heap.size + 1, 0, none⟩ u0).setCell ⟨w.heap.size + 1, 1, none⟩ u1).setCell ⟨w.heap.size + 1, 2, none⟩ u2).setCell ⟨w.heap.size + 1, 3, none⟩ u3)) := fun u0 u1 u2 u3 => by
    have h := ((((H1.out.put (i := 1) rfl 0 u0).put (i := 1) rfl 1 u1).put (i := 1) rfl 2 u2).put (i := 1) rfl 3 u3)
    have hw := h.belowN
    have h2 := (((h.intsNew (E := 3) (zs := []) (World.ownsRow_nil _ _ _ _) (Below.refl _ _) (by omega) (fun i => by simp [List.getD])).rowNil 45 2).allNil.arrNew (Ar.is_nil _) (Ar.own_nil _ _) (Below.refl _ _))
    have h3_ := (h2.arrsOf (As := []) (i := 3) (j := 4) rfl (by decide) rfl).pick [2, 3, 5] (by decide)
    try simp only [List.cons_append, List.nil_append, List.set_cons_zero, List.set_cons_succ, List.map_cons, List.map_nil, List.getD_cons_zero, List.getD_cons_succ, World.size_alloc] at h3_
    have h3 := Lib.hid h3_
    clear h3_
    exact ⟨none, 0, 0, none, 0, 0, ⟨none, 0, 0, none, 0, 0, [], []⟩, [], rfl, h3.out, rfl, rfl, rfl⟩
  clear hb1 y0 y1
  go_wp2
  exact bodyPost_ret (v := .tuple #[.agg #[.slice none 0 0, .slice none 0 0, .slice none 0 0, .slice none 0 0], .int .i64 1]) (by simp [results, Try.results19, go_sem, *]) rfl (HF.out _ _ _ _)
theorem one_any {w : World} {A : Ar} (hA : A.Is w) (r : Int) (hr : -9223372036854775808 ≤ r ∧ r ≤ 9223372036854775807) :
    Calls Try.prog 19 #[A.v, .int .i64 r] w (OneP w (onF A.s A.a r) (onI A.s A.a r) (onZ A.s A.a r) (onC A.s A.a r) (onE A.s A.a)) := by
  by_cases hm : amE A.s A.a = 0
  · have h := one_ok hA r hr hm
    simp only [onF, onI, onZ, onC, onE, if_pos hm]
    exact h
  · have h := one_bad hA r hm
    simp only [onF, onI, onZ, onC, onE, if_neg hm]
    exact h
end Go.Proofs.Ythackmkdicpdeaa
