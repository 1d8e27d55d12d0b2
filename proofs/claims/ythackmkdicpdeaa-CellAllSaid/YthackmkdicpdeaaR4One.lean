/- Contract of the document's One (printed by gen_r4one.py). -/
import Derived.Test.YthackmkdicpdeaaRef4Base
import Derived.Test.YthackmkdicpdeaaShapeRef3
import Derived.Test.YthackmkdicpdeaaCellOne
import Derived.Deep.RegionLaw
import Derived.Test.YthackmkdicpdeaaRegHd
namespace Go.Proofs.Ythackmkdicpdeaa
open Go.RowKit Go.Lib
set_option linter.unusedVariables false
set_option linter.unusedSimpArgs false
attribute [local go_sem] alloc_drewN setCell_drewN
set_option maxRecDepth 100000 in
set_option maxHeartbeats 25600000 in
theorem rone_ok {w : World} {A : Ar} (hA : A.Is w) (r : Int) (hr : -9223372036854775808 ≤ r ∧ r ≤ 9223372036854775807) (hm : amE A.s A.a = 0) :
    Calls Try.prog 39 #[A.v, .int .i64 r] w (OneP w (A.s.take (onK A.s r)) (A.s.drop (onK A.s r)) (List.replicate (pr (A.s.drop (onK A.s r))).toNat 0) ((List.range (pr (A.s.take (onK A.s r))).toNat).map fun i => (A.s.drop (onK A.s r), ckL (pr (A.s.drop (onK A.s r))).toNat i A.a)) 0) := by
  obtain ⟨sa, sn, sc, aa, an, ac, s, a⟩ := A
  simp only [Ar.v] at hm ⊢
  obtain ⟨W, HW⟩ : ∃ z, Hid ((w.alloc (.cells #[.slice sa sn sc, .slice aa an ac] 45)).alloc (.cells #[.slice none 0 0, .slice none 0 0, .slice none 0 0, .slice none 0 0] 74) = z) := ⟨_, rfl⟩
  have h0 := ((Sp.start Non w).alloc 45 2 1 #[.slice sa sn sc, .slice aa an ac] rfl (by decide)).alloc 74 4 1 #[.slice none 0 0, .slice none 0 0, .slice none 0 0, .slice none 0 0] rfl (by decide)
  rw [HW.out] at h0
  have H0_ := h0
  try simp only [List.cons_append, List.nil_append, List.set_cons_zero, List.set_cons_succ, List.map_cons, List.map_nil, List.getD_cons_zero, List.getD_cons_succ, World.size_alloc] at H0_
  have H0 := Lib.hid H0_
  clear H0_
  have HI := Lib.hid hA
  obtain ⟨hq1, hq2⟩ := amE_zero hm
  have hsl : s.length = sn := hA.shp.len
  have hal : a.length = an := hA.ats.len
  obtain ⟨k, HK⟩ : ∃ k, Hid (onK s r = k) := ⟨_, rfl⟩
  rw [HK.out]
  obtain ⟨fr, HFR⟩ : ∃ z, Hid (s.take k = z) := ⟨_, rfl⟩
  obtain ⟨inn, HIN⟩ : ∃ z, Hid (s.drop k = z) := ⟨_, rfl⟩
  rw [HFR.out, HIN.out]
  have hs : fr ++ inn = s := by rw [← HFR.out, ← HIN.out, List.take_append_drop]
  obtain ⟨m1, m2⟩ := mayE_app (by rw [hs]; exact hq1)
  have p1 := pr_nonneg m1
  have p2 := pr_nonneg m2
  obtain ⟨N, hN⟩ : ∃ N : Nat, pr fr = N := ⟨(pr fr).toNat, by omega⟩
  obtain ⟨m, hmm⟩ : ∃ m : Nat, pr inn = m := ⟨(pr inn).toNat, by omega⟩
  have han : an = N * m := by
    have e : pr s = pr fr * pr inn := by rw [← hs, pr_app]
    rw [hN, hmm] at e
    have : (an : Int) = ((N * m : Nat) : Int) := by rw [← hal, ← hq2, e]; push_cast; rfl
    exact_mod_cast this
  rw [hN, hmm, Int.toNat_natCast, Int.toNat_natCast]
  have hNb : N ≤ 4096 := by omega
  have hmb : m ≤ 4096 := by omega
  have M1 := Lib.hid m1
  have M2 := Lib.hid m2
  have HN := Lib.hid hN
  have HM := Lib.hid hmm
  have HAN := Lib.hid han
  have HKN : Hid (spN sn r = k) := by show _ = _; rw [← hsl]; exact HK.out
  have cm := rmay4_any (hA.below H0.out.belowN (Nat.le_refl _))
  simp only [Ar.v] at cm
  rw [decide_eq_true hm] at cm
  have CM := Lib.hid cm
  clear cm
  have y0 := H0.out.cell (i := 0) rfl 0 _ rfl
  have y1 := H0.out.cell (i := 0) rfl 1 _ rfl
  clear hA hm hq1 hq2 hsl hal hs m1 m2 p1 p2 hN hmm han h0
  go_enter Try.func39, Try.ntmps39
  go_wp2_with fail
  rw [HW.out]
  refine CM.out.mono ?_; rintro e w1 ⟨rfl, hb1⟩
  have H1_ := H0.out.via hb1
  try simp only [List.cons_append, List.nil_append, List.set_cons_zero, List.set_cons_succ, List.map_cons, List.map_nil, List.getD_cons_zero, List.getD_cons_succ, World.size_alloc] at H1_
  have H1 := Lib.hid H1_
  clear H1_
  clear hb1 y0 y1
  have y0 := H1.out.cell (i := 0) rfl 0 _ rfl
  have y1 := H1.out.cell (i := 0) rfl 1 _ rfl
  have CS := Lib.hid (rsplit_any (HI.out.shp.below H1.out.belowN (Nat.le_refl _)) r hr)
  simp only at CS
  rw [HKN.out, HFR.out, HIN.out] at CS
  go_wp2_with fail
  refine CS.out.mono ?_; rintro e w2 ⟨fo, fn, fc, io, im, ic, rfl, hL1, hL2, hO1, hO2, hne, hb2⟩
  have H2_ := H1.out.llNew hL1 hL2 hO1 hO2 hne hb2
  try simp only [List.cons_append, List.nil_append, List.set_cons_zero, List.set_cons_succ, List.map_cons, List.map_nil, List.getD_cons_zero, List.getD_cons_succ, World.size_alloc] at H2_
  have H2 := Lib.hid H2_
  clear H2_
  have CZ := Lib.hid (rzeros_any hL2 M2.out)
  rw [HM.out, Int.toNat_natCast] at CZ
  clear hL1 hL2 hO1 hO2 hne hb2 y0 y1
  go_wp2_with fail
  refine CZ.out.mono ?_; rintro e w3 ⟨Z, rfl, hZI, hZs, hZa, hZO, hb3⟩
  have H3_ := H2.out.arrNew hZI hZO hb3
  try simp only [List.cons_append, List.nil_append, List.set_cons_zero, List.set_cons_succ, List.map_cons, List.map_nil, List.getD_cons_zero, List.getD_cons_succ, World.size_alloc] at H3_
  have H3 := Lib.hid H3_
  clear H3_
  have HZ := Lib.hid (And.intro hZs hZa)
  clear hZI hZs hZa hZO hb3
  obtain ⟨W3, HW3⟩ : ∃ z, Hid (w3.alloc (.cells #[.slice fo fn fc, .slice none 0 0, .slice Z.sa Z.sn Z.sc, .slice Z.aa Z.an Z.ac] 74) = z) := ⟨_, rfl⟩
  have h4 := H3.out.alloc 74 4 1 #[.slice fo fn fc, .slice none 0 0, .slice Z.sa Z.sn Z.sc, .slice Z.aa Z.an Z.ac] rfl (by decide)
  rw [HW3.out] at h4
  have H4_ := (h4.rowNil 45 2).allNil
  try simp only [List.cons_append, List.nil_append, List.set_cons_zero, List.set_cons_succ, List.map_cons, List.map_nil, List.getD_cons_zero, List.getD_cons_succ, World.size_alloc] at H4_
  have H4 := Lib.hid H4_
  clear H4_
  clear h4
  have C1 := Lib.hid (rcount_any (H4.out.ls (i := 3) rfl) M2.out)
  rw [HM.out] at C1
  simp only [Ar.v]
  go_wp2_with fail
  rw [HW3.out]
  refine C1.out.mono ?_; rintro e w4 ⟨rfl, hw⟩
  have hw' := hw.symm
  subst hw'
  obtain ⟨i4, hi4, hza4, hzb4, hzc4⟩ := info_parts (P := Try.prog) (e := 45) (z := .agg #[.slice none 0 0, .slice none 0 0]) (size := 2) (bytes := 48) (by kernel_rfl)
  obtain ⟨b1, HB1⟩ : ∃ z, Hid (w.heap.size + 1 = z) := ⟨_, rfl⟩
  obtain ⟨b2, HB2⟩ : ∃ z, Hid (w3.heap.size = z) := ⟨_, rfl⟩
  rw [HB1.out] at H4 ⊢
  rw [HB2.out] at H4 ⊢
  have hlt3 := (H3.out.rlt (i := 0) rfl).1
  have ne1 : ¬ b2 = w.heap.size := by have := HB2.out; omega
  have ne2 : ¬ w.heap.size = b2 := by have := HB2.out; omega
  clear hlt3
  clear C1 CZ CS CM H0 H1 H2 H3 HW HW3
  go_wp2_with fail
  go_loopw [10] (fun v wr => ∃ i : Nat, i ≤ N ∧ v = .int .i64 i ∧ Hid (OneI w wr (.slice sa sn sc) (.slice aa an ac) (.int .i64 r) b1 b2 fo fn fc fr io im ic inn Z m a i)) (fun v _ => N - (RowKit.intOf v).toNat)
  case atStart => exact ⟨0, by omega, rfl, ⟨[], none, 0, H4.out, rfl⟩⟩
  case round =>
    obtain ⟨i, hi, rfl, HO⟩ := hrel
    obtain ⟨As, co, cc, hsp, hAs⟩ := HO.out
    have C2 := Lib.hid (rcount_any (hsp.ls (i := 2) rfl) M1.out)
    rw [HN.out] at C2
    go_wp2_with fail
    refine C2.out.mono ?_; rintro e w4 ⟨rfl, hw⟩
    have hw' := hw.symm
    subst hw'
    clear C2 hw
    by_cases hlt : i < N
    · have hlt' : (i : Int) < N := by omega
      have HS_ := ((hsp.via (adrew1 wr)).intsNew (E := 3) (zs := []) (World.ownsRow_nil _ _ _ _) (Below.refl _ _) (by omega) (fun i => by simp [List.getD])).intsNew (E := 2) (zs := []) (World.ownsRow_nil _ _ _ _) (Below.refl _ _) (by omega) (fun i => by simp [List.getD])
      try simp only [List.cons_append, List.nil_append, List.set_cons_zero, List.set_cons_succ, List.map_cons, List.map_nil, List.getD_cons_zero, List.getD_cons_succ, World.size_alloc] at HS_
      have HS := Lib.hid HS_
      clear HS_
      obtain ⟨i0, hi0, hza, hzb, hzc⟩ := info_parts (P := Try.prog) (e := 3) (z := .int .i64 0) (size := 1) (bytes := 8) (by kernel_rfl)
      obtain ⟨j0, hj0, hya, hyb, hyc⟩ := info_parts (P := Try.prog) (e := 2) (z := .int .i64 0) (size := 1) (bytes := 8) (by kernel_rfl)
      obtain ⟨p, HP⟩ : ∃ p, Hid (i * m = p) := ⟨_, rfl⟩
      have hpm : p + m ≤ an := by
        have h1 := Nat.mul_le_mul_right m (show i + 1 ≤ N by omega)
        rw [Nat.succ_mul, HP.out, ← HAN.out] at h1
        exact h1
      have hpi : (i : Int) * m = p := by rw [← HP.out]; push_cast; rfl
      have hpj : ((i : Int) + 1) * m = p + m := by rw [Int.add_mul, hpi, Int.one_mul]
      have hac := HI.out.ats.cap
      have htop := HI.out.ats.top
      have hbg := HI.out.ats.big
      have hanb : an ≤ 17000000 := by rw [HAN.out]; have := Nat.mul_le_mul hNb hmb; omega
      simp only at hac htop hbg
      unfold maxLen at htop
      have z6 : IntKind.i64.wrap ((i : Int) * m) = p := by rw [hpi]; exact IntWalk.i64_in _ (by omega)
      have z7 : IntKind.i64.wrap ((p : Int) + m) = p + m := IntWalk.i64_in _ (by omega)
      have him : im ≤ 8 := by
        have h1 := (mayE_zero M2.out).2.1
        have h2 := (HS.out.ls (i := 3) rfl).len
        omega
      have bs0 : (0 + im) * 8 ≤ 140737488351232 := by omega
      have z11 : IntKind.i64.wrap ((i : Int) + 1) = i + 1 := IntWalk.i64_in _ (by omega)
      have d0 := HS.out.cell (i := 5) rfl 1 _ rfl
      have d1 := HS.out.cell (i := 0) rfl 1 _ rfl
      have hmx : i + 1 ≤ maxLen := by unfold maxLen; omega
      have hbyt : (i + 1) * 48 ≤ 140737488355328 := by omega
      have HAS := Lib.hid hAs
      clear hAs hsp hpi hpj hbg
      rcases (show p = ac ∨ p < ac by omega) with hpc | hpc
      · obtain rfl : m = 0 := by omega
        have hp0 : p = 0 := by rw [← HP.out]; simp
        obtain rfl : ac = 0 := by omega
        subst hp0
        have z12 : IntKind.i64.wrap (0 : Int) = 0 := IntWalk.i64_in _ (by omega)
        have HCK : Hid (ckL 0 i a = []) := by show _ = _; simp [ckL]
        have HFIN : Hid (∀ (w9 : World) (so5 : Option Addr) (sc5 : Nat) (ao6 : Option Addr) (ac6 : Nat) (b9 : Option Addr) (d9 : Nat), Sp Non w w9 [Pt.row ⟨45, 2, some ⟨w.heap.size, 0, none⟩, 1, 1, [.slice sa sn sc, .slice aa an 0]⟩, Pt.row ⟨74, 4, some ⟨b1, 0, none⟩, 1, 1, [.slice none 0 0, .slice none 0 0, .slice none 0 0, .slice none 0 0]⟩,
            Pt.ints 3 fo fn fc fr, Pt.ints 3 io im ic inn, Pt.arr Z, Pt.row ⟨74, 4, some ⟨b2, 0, none⟩, 1, 1, [.slice fo fn fc, .slice co i cc, .slice Z.sa Z.sn Z.sc, .slice Z.aa Z.an Z.ac]⟩,
            Pt.row ⟨45, 2, b9, i + 1, d9, cellsA As ++ [.slice so5 im sc5, .slice ao6 0 ac6]⟩, Pt.all (As.map Pt.arr), Pt.ints 3 so5 im sc5 inn, Pt.ints 2 ao6 0 ac6 ([])] → OneI w (w9.setCell ⟨b2, 1, none⟩ (.slice b9 (i + 1) d9)) (.slice sa sn sc) (.slice aa an 0) (.int .i64 r) b1 b2 fo fn fc fr io im ic inn Z 0 a (i + 1)) := by
          intro w9 so5 sc5 ao6 ac6 b9 d9 hH9
          have hX := hH9.put (i := 5) rfl 1 (.slice b9 (i + 1) d9)
          simp only [List.set_cons_zero, List.set_cons_succ] at hX
          have hX2 := hX.arrOf (i := 8) (j := 9) rfl (by decide) rfl
          simp only [List.set_cons_zero, List.set_cons_succ] at hX2
          have hX3 := hX2.arrMore (i := 7) (j := 9) rfl (by decide) rfl
          have HX_ := hX3.pick [0, 1, 2, 3, 4, 5, 6, 7] (by decide)
          try simp only [List.cons_append, List.nil_append, List.set_cons_zero, List.set_cons_succ, List.map_cons, List.map_nil, List.getD_cons_zero, List.getD_cons_succ, World.size_alloc] at HX_
          have HX := Lib.hid HX_
          clear HX_
          refine ⟨As ++ [⟨so5, im, sc5, ao6, 0, ac6, inn, []⟩], b9, d9, ?_, ?_⟩
          · rw [cellsA_app]; exact HX.out
          · rw [List.map_append, HAS.out, List.range_succ, List.map_append]
            congr 1
            all_goals (simp only [List.map_cons, List.map_nil, Ar.sa2]; try rw [HCK.out])
        have ba0 : (0 + 0) * 8 ≤ 140737488351232 := by omega
        have LSI := Lib.hid (HS.out.ls (i := 3) rfl)
        have LSA : Hid (∀ w5, Below w.heap.size w w5 → Ls w5 aa 0 0 ([])) := fun w5 hb5 => Ls.zero w5 aa (Nat.zero_le _ : 0 ≤ maxLen)
        have LSA0 := Lib.hid (LSA.out _ HS.out.belowN)
        have ST0 : True := trivial
        go_upto_block 1 with fail
        go_cut [53] from 34 to 53 (fun v wx => Hid (OneI w wx (.slice sa sn sc) (.slice aa an 0) (.int .i64 r) b1 b2 fo fn fc fr io im ic inn Z 0 a (i + 1)))
        case first =>
          go_upto_region 9 with fail
          refine wp_region_noPanic ?_
          refine wp_region_hd (S := (fun wS => wS.cell? ⟨b2, 1, none⟩ = some (.slice co i cc) ∧ wS.cell? ⟨w.heap.size, 1, none⟩ = some (.slice aa an 0))) 20 (by kernel_rfl) (by kernel_rfl) ?_ (fun hHeld => ?_)
          · exact ⟨d0, d1⟩
          refine wpHd_take (i := 0) (v := ?_) (by kernel_rfl) (by simp only [List.getElem?_toArray, List.getElem?_cons_succ, List.getElem?_cons_zero] <;> rfl) (by kernel_rfl) (fun _ _ _ h => h) (Or.inl ⟨by rfl, ?_⟩) (by assumption) ?_
          rotate_left
          · (intro wS hSw; (try dsimp only at hSw); go_simp <;> with_reducible rfl)
          try simp only [Act.put, List.setIfInBounds_toArray, List.set_cons_zero, List.set_cons_succ]
          refine wpHd_take (i := 1) (v := ?_) (by kernel_rfl) (by simp only [List.getElem?_toArray, List.getElem?_cons_succ, List.getElem?_cons_zero] <;> rfl) (by kernel_rfl) (fun _ _ _ h => h) (Or.inl ⟨by rfl, ?_⟩) (by assumption) ?_
          rotate_left
          · (intro wS hSw; (try dsimp only at hSw); go_simp <;> with_reducible rfl)
          try simp only [Act.put, List.setIfInBounds_toArray, List.set_cons_zero, List.set_cons_succ]
          refine wpHd_take (i := 2) (v := ?_) (by kernel_rfl) (by simp only [List.getElem?_toArray, List.getElem?_cons_succ, List.getElem?_cons_zero] <;> rfl) (by kernel_rfl) (fun _ _ _ h => h) (Or.inl ⟨by rfl, ?_⟩) (by assumption) ?_
          rotate_left
          · (intro wS hSw; (try dsimp only at hSw); go_simp <;> with_reducible rfl)
          try simp only [Act.put, List.setIfInBounds_toArray, List.set_cons_zero, List.set_cons_succ]
          refine wpHd_take (i := 4) (v := ?_) (by kernel_rfl) (by simp only [List.getElem?_toArray, List.getElem?_cons_succ, List.getElem?_cons_zero] <;> rfl) (by kernel_rfl) (fun _ _ _ h => h) (Or.inl ⟨by rfl, ?_⟩) (by assumption) ?_
          rotate_left
          · (intro wS hSw; (try dsimp only at hSw); go_simp <;> with_reducible rfl)
          try simp only [Act.put, List.setIfInBounds_toArray, List.set_cons_zero, List.set_cons_succ]
          refine wpHd_take (i := 5) (v := ?_) (by kernel_rfl) (by simp only [List.getElem?_toArray, List.getElem?_cons_succ, List.getElem?_cons_zero] <;> rfl) (by kernel_rfl) (fun _ _ _ h => h) (Or.inl ⟨by rfl, ?_⟩) (by assumption) ?_
          rotate_left
          · (intro wS hSw; (try dsimp only at hSw); go_simp <;> with_reducible rfl)
          try simp only [Act.put, List.setIfInBounds_toArray, List.set_cons_zero, List.set_cons_succ]
          refine wpHd_take (i := 6) (v := ?_) (by kernel_rfl) (by simp only [List.getElem?_toArray, List.getElem?_cons_succ, List.getElem?_cons_zero] <;> rfl) (by kernel_rfl) (fun _ _ _ h => h) (Or.inl ⟨by rfl, ?_⟩) (by assumption) ?_
          rotate_left
          · (intro wS hSw; (try dsimp only at hSw); go_simp <;> with_reducible rfl)
          try simp only [Act.put, List.setIfInBounds_toArray, List.set_cons_zero, List.set_cons_succ]
          refine wpHd_take (i := 7) (v := ?_) (by kernel_rfl) (by simp only [List.getElem?_toArray, List.getElem?_cons_succ, List.getElem?_cons_zero] <;> rfl) (by kernel_rfl) (fun _ _ _ h => h) (Or.inl ⟨by rfl, ?_⟩) (by assumption) ?_
          rotate_left
          · (intro wS hSw; (try dsimp only at hSw); go_simp <;> with_reducible rfl)
          try simp only [Act.put, List.setIfInBounds_toArray, List.set_cons_zero, List.set_cons_succ]
          refine wpHd_take (i := 8) (v := ?_) (by kernel_rfl) (by simp only [List.getElem?_toArray, List.getElem?_cons_succ, List.getElem?_cons_zero] <;> rfl) (by kernel_rfl) (fun _ _ _ h => h) (Or.inl ⟨by rfl, ?_⟩) (by assumption) ?_
          rotate_left
          · (intro wS hSw; (try dsimp only at hSw); go_simp <;> with_reducible rfl)
          try simp only [Act.put, List.setIfInBounds_toArray, List.set_cons_zero, List.set_cons_succ]
          refine wpHd_take (i := 9) (v := ?_) (by kernel_rfl) (by simp only [List.getElem?_toArray, List.getElem?_cons_succ, List.getElem?_cons_zero] <;> rfl) (by kernel_rfl) (fun _ _ _ h => h) (Or.inl ⟨by rfl, ?_⟩) (by assumption) ?_
          rotate_left
          · (intro wS hSw; (try dsimp only at hSw); go_simp <;> with_reducible rfl)
          try simp only [Act.put, List.setIfInBounds_toArray, List.set_cons_zero, List.set_cons_succ]
          refine wpHd_take (i := 10) (v := ?_) (by kernel_rfl) (by simp only [List.getElem?_toArray, List.getElem?_cons_succ, List.getElem?_cons_zero] <;> rfl) (by kernel_rfl) (fun _ _ _ h => h) (Or.inl ⟨by rfl, ?_⟩) (by assumption) ?_
          rotate_left
          · (intro wS hSw; (try dsimp only at hSw); go_simp <;> with_reducible rfl)
          try simp only [Act.put, List.setIfInBounds_toArray, List.set_cons_zero, List.set_cons_succ]
          refine wpHd_take (i := 11) (v := ?_) (by kernel_rfl) (by simp only [List.getElem?_toArray, List.getElem?_cons_succ, List.getElem?_cons_zero] <;> rfl) (by kernel_rfl) (fun _ _ _ h => h) (Or.inl ⟨by rfl, ?_⟩) (by assumption) ?_
          rotate_left
          · (intro wS hSw; (try dsimp only at hSw); go_simp <;> with_reducible rfl)
          try simp only [Act.put, List.setIfInBounds_toArray, List.set_cons_zero, List.set_cons_succ]
          refine wpHd_take (i := 12) (v := ?_) (by kernel_rfl) (by simp only [List.getElem?_toArray, List.getElem?_cons_succ, List.getElem?_cons_zero] <;> rfl) (by kernel_rfl) (fun _ _ _ h => h) (Or.inl ⟨by rfl, ?_⟩) (by assumption) ?_
          rotate_left
          · (intro wS hSw; (try dsimp only at hSw); go_simp <;> with_reducible rfl)
          try simp only [Act.put, List.setIfInBounds_toArray, List.set_cons_zero, List.set_cons_succ]
          refine wpHd_take (i := 13) (v := ?_) (by kernel_rfl) (by simp only [List.getElem?_toArray, List.getElem?_cons_succ, List.getElem?_cons_zero] <;> rfl) (by kernel_rfl) (fun _ _ _ h => h) (Or.inl ⟨by rfl, ?_⟩) (by assumption) ?_
          rotate_left
          · (intro wS hSw; (try dsimp only at hSw); go_simp <;> with_reducible rfl)
          try simp only [Act.put, List.setIfInBounds_toArray, List.set_cons_zero, List.set_cons_succ]
          refine wpHd_take (i := 14) (v := ?_) (by kernel_rfl) (by simp only [List.getElem?_toArray, List.getElem?_cons_succ, List.getElem?_cons_zero] <;> rfl) (by kernel_rfl) (fun _ _ _ h => h) (Or.inl ⟨by rfl, ?_⟩) (by assumption) ?_
          rotate_left
          · (intro wS hSw; (try dsimp only at hSw); go_simp <;> with_reducible rfl)
          try simp only [Act.put, List.setIfInBounds_toArray, List.set_cons_zero, List.set_cons_succ]
          refine wpHd_ready (rs := [3]) (by kernel_rfl) (by simp) ?_
          refine (RdyHd.cons (by simp only [List.getElem?_toArray, List.getElem?_cons_succ, List.getElem?_cons_zero] <;> rfl) (by decide) (fun K hK => ?_) RdyHd.nil)
          · refine Sp.step_loc HS.out rfl _ _ 25 (by rfl) 3 i0 Try.underlying25 hi0 hza hzb hzc (i := 8) rfl (by rfl) (by rfl) LSI.out bs0 ?_
            intro so5 sc5 w5 h5
            simp only [Nat.zero_add, List.nil_append, List.set_cons_zero, List.set_cons_succ] at h5
            have HT := Lib.hid h5
            clear h5 d0 d1
            have d0 := HT.out.cell (i := 5) rfl 1 _ rfl; have d1 := HT.out.cell (i := 0) rfl 1 _ rfl
            refine hK.out _ _ ?_ (fun hHeld => ?_)
            · exact ⟨d0, d1⟩
            clear hK K
            try simp only [Act.put, List.setIfInBounds_toArray, List.set_cons_zero, List.set_cons_succ]
            refine wpHd_ready (rs := [15]) (by kernel_rfl) (by simp) ?_
            refine (RdyHd.cons (by simp only [List.getElem?_toArray, List.getElem?_cons_succ, List.getElem?_cons_zero] <;> rfl) (by decide) (fun K hK => ?_) RdyHd.nil)
            · have LSX := Lib.hid (LSA.out _ HT.out.belowN)
              refine Sp.step_loc HT.out rfl _ _ 28 (by rfl) 2 j0 Try.underlying28 hj0 hya hyb hyc (i := 9) rfl (by rfl) (by rfl) LSX.out ba0 ?_
              intro ao6 ac6 w6 h5
              simp only [Nat.zero_add, List.nil_append, List.set_cons_zero, List.set_cons_succ] at h5
              have HU := Lib.hid h5
              clear h5 d0 d1
              have d0 := HU.out.cell (i := 5) rfl 1 _ rfl; have d1 := HU.out.cell (i := 0) rfl 1 _ rfl
              refine hK.out _ _ ?_ (fun hHeld => ?_)
              · exact ⟨d0, d1⟩
              clear hK K
              try simp only [Act.put, List.setIfInBounds_toArray, List.set_cons_zero, List.set_cons_succ]
              refine wpHd_take (i := 16) (v := ?_) (by kernel_rfl) (by simp only [List.getElem?_toArray, List.getElem?_cons_succ, List.getElem?_cons_zero] <;> rfl) (by kernel_rfl) (fun _ _ _ h => h) (Or.inl ⟨by rfl, ?_⟩) (by assumption) ?_
              rotate_left
              · (intro wS hSw; (try dsimp only at hSw); go_simp <;> with_reducible rfl)
              try simp only [Act.put, List.setIfInBounds_toArray, List.set_cons_zero, List.set_cons_succ]
              refine wpHd_ready (rs := [17]) (by kernel_rfl) (by simp) ?_
              refine (RdyHd.cons (by simp only [List.getElem?_toArray, List.getElem?_cons_succ, List.getElem?_cons_zero] <;> rfl) (by decide) (fun K hK => ?_) RdyHd.nil)
              · go_simp
                have HV := Lib.hid (HU.out.via (abal w6 (.cells #[.slice so5 im sc5, .slice ao6 0 ac6] 45)))
                clear d0 d1
                have d0 := HV.out.cell (i := 5) rfl 1 _ rfl; have d1 := HV.out.cell (i := 0) rfl 1 _ rfl
                refine hK.out _ _ ?_ (fun hHeld => ?_)
                · exact ⟨d0, d1⟩
                clear hK K
                try simp only [Act.put, List.setIfInBounds_toArray, List.set_cons_zero, List.set_cons_succ]
                refine wpHd_ready (rs := [18]) (by kernel_rfl) (by simp) ?_
                refine (RdyHd.cons (by simp only [List.getElem?_toArray, List.getElem?_cons_succ, List.getElem?_cons_zero] <;> rfl) (by decide) (fun K hK => ?_) RdyHd.nil)
                · refine Sp.step_append HV.out rfl _ _ 32 (by rfl) 45 i4 (.agg #[.slice none 0 0, .slice none 0 0]) 2 48 Try.underlying32 hi4 hza4 hzb4 hzc4 rfl (by decide) (i := 6) rfl (by rfl) ⟨w6.heap.size, 0, none⟩ 1 1 (by rfl) [Value.slice so5 im sc5, Value.slice ao6 0 ac6] rfl (newsA w6 45 _ _) (by simp [Value.oneCell']) hmx hbyt ?_
                  intro b9 d9 w9 hH9
                  clear d0 d1
                  have d0 := hH9.cell (i := 5) rfl 1 _ rfl
                  have d2 := hH9.frozen (i := 5) rfl 1
                  have d1 := hH9.cell (i := 0) rfl 1 _ rfl
                  have q4 := HFIN.out _ _ _ _ _ _ _ hH9
                  refine hK.out _ _ ?_ (fun hHeld => ?_)
                  · exact ⟨d0, d1⟩
                  clear hK K
                  try simp only [Act.put, List.setIfInBounds_toArray, List.set_cons_zero, List.set_cons_succ]
                  refine wpHd_take (i := 19) (v := ?_) (by kernel_rfl) (by simp only [List.getElem?_toArray, List.getElem?_cons_succ, List.getElem?_cons_zero] <;> rfl) (by kernel_rfl) (fun _ _ _ h => h) (Or.inl ⟨by rfl, ?_⟩) (by assumption) ?_
                  rotate_left
                  · (intro wS hSw; (try dsimp only at hSw); go_simp <;> with_reducible rfl)
                  try simp only [Act.put, List.setIfInBounds_toArray, List.set_cons_zero, List.set_cons_succ]
                  refine wpHd_done (by kernel_rfl) ?_
                  simp only [List.drop_succ_cons, List.drop_zero]
                  go_wp2_with fail
                  refine NoPanic.normal ?_
                  go_wp2_with fail
                  go_meet
                  exact q4
        case rest =>
          obtain ⟨U3, hU3⟩ : ∃ z : World, z = wc := ⟨_, rfl⟩
          subst hU3
          clear d0 d1 HFIN
          go_wp2
          go_roundw
          case rel => first | exact ⟨i + 1, by omega, by go_num, hcut⟩ | ((repeat apply Exists.intro); exact ⟨⟨i + 1, by omega, by go_num, hcut⟩, rfl⟩)
          case measure => simp [RowKit.intOf]; omega
      · have HCK : Hid (ckL m i a = (a.drop p).take m) := by show _ = _; rw [← HP.out]; rfl
        have z0 : ¬ ac = p := by omega
        have z1 : (0 : Int) ≤ p := by omega
        have z2 : (p : Int) ≤ p + m := by omega
        have z3 : (p : Int) + m ≤ ac := by omega
        have z5 : ((p : Int) + m).toNat = p + m := by omega
        have z8 : (p : Int) < ac := by omega
        have z9 : ¬ ac - p = 0 := by omega
        have z10 : p + m - p = m := by omega
        have HFIN : Hid (∀ (w9 : World) (so5 : Option Addr) (sc5 : Nat) (ao6 : Option Addr) (ac6 : Nat) (b9 : Option Addr) (d9 : Nat), Sp Non w w9 [Pt.row ⟨45, 2, some ⟨w.heap.size, 0, none⟩, 1, 1, [.slice sa sn sc, .slice aa an ac]⟩, Pt.row ⟨74, 4, some ⟨b1, 0, none⟩, 1, 1, [.slice none 0 0, .slice none 0 0, .slice none 0 0, .slice none 0 0]⟩,
            Pt.ints 3 fo fn fc fr, Pt.ints 3 io im ic inn, Pt.arr Z, Pt.row ⟨74, 4, some ⟨b2, 0, none⟩, 1, 1, [.slice fo fn fc, .slice co i cc, .slice Z.sa Z.sn Z.sc, .slice Z.aa Z.an Z.ac]⟩,
            Pt.row ⟨45, 2, b9, i + 1, d9, cellsA As ++ [.slice so5 im sc5, .slice ao6 m ac6]⟩, Pt.all (As.map Pt.arr), Pt.ints 3 so5 im sc5 inn, Pt.ints 2 ao6 m ac6 (((a.drop p).take m))] → OneI w (w9.setCell ⟨b2, 1, none⟩ (.slice b9 (i + 1) d9)) (.slice sa sn sc) (.slice aa an ac) (.int .i64 r) b1 b2 fo fn fc fr io im ic inn Z m a (i + 1)) := by
          intro w9 so5 sc5 ao6 ac6 b9 d9 hH9
          have hX := hH9.put (i := 5) rfl 1 (.slice b9 (i + 1) d9)
          simp only [List.set_cons_zero, List.set_cons_succ] at hX
          have hX2 := hX.arrOf (i := 8) (j := 9) rfl (by decide) rfl
          simp only [List.set_cons_zero, List.set_cons_succ] at hX2
          have hX3 := hX2.arrMore (i := 7) (j := 9) rfl (by decide) rfl
          have HX_ := hX3.pick [0, 1, 2, 3, 4, 5, 6, 7] (by decide)
          try simp only [List.cons_append, List.nil_append, List.set_cons_zero, List.set_cons_succ, List.map_cons, List.map_nil, List.getD_cons_zero, List.getD_cons_succ, World.size_alloc] at HX_
          have HX := Lib.hid HX_
          clear HX_
          refine ⟨As ++ [⟨so5, im, sc5, ao6, m, ac6, inn, ((a.drop p).take m)⟩], b9, d9, ?_, ?_⟩
          · rw [cellsA_app]; exact HX.out
          · rw [List.map_append, HAS.out, List.range_succ, List.map_append]
            congr 1
            all_goals (simp only [List.map_cons, List.map_nil, Ar.sa2]; try rw [HCK.out])
        have ba0 : (0 + m) * 8 ≤ 140737488351232 := by omega
        have LSI := Lib.hid (HS.out.ls (i := 3) rfl)
        have LSA : Hid (∀ w5, Below w.heap.size w w5 → Ls w5 (aa.map fun x => x.add p) m (ac - p) (((a.drop p).take m))) := fun w5 hb5 => (HI.out.ats.cutA p m hpm).below hb5 (Nat.le_refl _)
        have LSA0 := Lib.hid (LSA.out _ HS.out.belowN)
        have ST0 : True := trivial
        go_upto_block 1 with fail
        go_cut [53] from 34 to 53 (fun v wx => Hid (OneI w wx (.slice sa sn sc) (.slice aa an ac) (.int .i64 r) b1 b2 fo fn fc fr io im ic inn Z m a (i + 1)))
        case first =>
          go_upto_region 9 with fail
          refine wp_region_noPanic ?_
          refine wp_region_hd (S := (fun wS => wS.cell? ⟨b2, 1, none⟩ = some (.slice co i cc) ∧ wS.cell? ⟨w.heap.size, 1, none⟩ = some (.slice aa an ac))) 20 (by kernel_rfl) (by kernel_rfl) ?_ (fun hHeld => ?_)
          · exact ⟨d0, d1⟩
          refine wpHd_take (i := 0) (v := ?_) (by kernel_rfl) (by simp only [List.getElem?_toArray, List.getElem?_cons_succ, List.getElem?_cons_zero] <;> rfl) (by kernel_rfl) (fun _ _ _ h => h) (Or.inl ⟨by rfl, ?_⟩) (by assumption) ?_
          rotate_left
          · (intro wS hSw; (try dsimp only at hSw); go_simp <;> with_reducible rfl)
          try simp only [Act.put, List.setIfInBounds_toArray, List.set_cons_zero, List.set_cons_succ]
          refine wpHd_take (i := 1) (v := ?_) (by kernel_rfl) (by simp only [List.getElem?_toArray, List.getElem?_cons_succ, List.getElem?_cons_zero] <;> rfl) (by kernel_rfl) (fun _ _ _ h => h) (Or.inl ⟨by rfl, ?_⟩) (by assumption) ?_
          rotate_left
          · (intro wS hSw; (try dsimp only at hSw); go_simp <;> with_reducible rfl)
          try simp only [Act.put, List.setIfInBounds_toArray, List.set_cons_zero, List.set_cons_succ]
          refine wpHd_take (i := 2) (v := ?_) (by kernel_rfl) (by simp only [List.getElem?_toArray, List.getElem?_cons_succ, List.getElem?_cons_zero] <;> rfl) (by kernel_rfl) (fun _ _ _ h => h) (Or.inl ⟨by rfl, ?_⟩) (by assumption) ?_
          rotate_left
          · (intro wS hSw; (try dsimp only at hSw); go_simp <;> with_reducible rfl)
          try simp only [Act.put, List.setIfInBounds_toArray, List.set_cons_zero, List.set_cons_succ]
          refine wpHd_take (i := 4) (v := ?_) (by kernel_rfl) (by simp only [List.getElem?_toArray, List.getElem?_cons_succ, List.getElem?_cons_zero] <;> rfl) (by kernel_rfl) (fun _ _ _ h => h) (Or.inl ⟨by rfl, ?_⟩) (by assumption) ?_
          rotate_left
          · (intro wS hSw; (try dsimp only at hSw); go_simp <;> with_reducible rfl)
          try simp only [Act.put, List.setIfInBounds_toArray, List.set_cons_zero, List.set_cons_succ]
          refine wpHd_take (i := 5) (v := ?_) (by kernel_rfl) (by simp only [List.getElem?_toArray, List.getElem?_cons_succ, List.getElem?_cons_zero] <;> rfl) (by kernel_rfl) (fun _ _ _ h => h) (Or.inl ⟨by rfl, ?_⟩) (by assumption) ?_
          rotate_left
          · (intro wS hSw; (try dsimp only at hSw); go_simp <;> with_reducible rfl)
          try simp only [Act.put, List.setIfInBounds_toArray, List.set_cons_zero, List.set_cons_succ]
          refine wpHd_take (i := 6) (v := ?_) (by kernel_rfl) (by simp only [List.getElem?_toArray, List.getElem?_cons_succ, List.getElem?_cons_zero] <;> rfl) (by kernel_rfl) (fun _ _ _ h => h) (Or.inl ⟨by rfl, ?_⟩) (by assumption) ?_
          rotate_left
          · (intro wS hSw; (try dsimp only at hSw); go_simp <;> with_reducible rfl)
          try simp only [Act.put, List.setIfInBounds_toArray, List.set_cons_zero, List.set_cons_succ]
          refine wpHd_take (i := 7) (v := ?_) (by kernel_rfl) (by simp only [List.getElem?_toArray, List.getElem?_cons_succ, List.getElem?_cons_zero] <;> rfl) (by kernel_rfl) (fun _ _ _ h => h) (Or.inl ⟨by rfl, ?_⟩) (by assumption) ?_
          rotate_left
          · (intro wS hSw; (try dsimp only at hSw); go_simp <;> with_reducible rfl)
          try simp only [Act.put, List.setIfInBounds_toArray, List.set_cons_zero, List.set_cons_succ]
          refine wpHd_take (i := 8) (v := ?_) (by kernel_rfl) (by simp only [List.getElem?_toArray, List.getElem?_cons_succ, List.getElem?_cons_zero] <;> rfl) (by kernel_rfl) (fun _ _ _ h => h) (Or.inl ⟨by rfl, ?_⟩) (by assumption) ?_
          rotate_left
          · (intro wS hSw; (try dsimp only at hSw); go_simp <;> with_reducible rfl)
          try simp only [Act.put, List.setIfInBounds_toArray, List.set_cons_zero, List.set_cons_succ]
          refine wpHd_take (i := 9) (v := ?_) (by kernel_rfl) (by simp only [List.getElem?_toArray, List.getElem?_cons_succ, List.getElem?_cons_zero] <;> rfl) (by kernel_rfl) (fun _ _ _ h => h) (Or.inl ⟨by rfl, ?_⟩) (by assumption) ?_
          rotate_left
          · (intro wS hSw; (try dsimp only at hSw); go_simp <;> with_reducible rfl)
          try simp only [Act.put, List.setIfInBounds_toArray, List.set_cons_zero, List.set_cons_succ]
          refine wpHd_take (i := 10) (v := ?_) (by kernel_rfl) (by simp only [List.getElem?_toArray, List.getElem?_cons_succ, List.getElem?_cons_zero] <;> rfl) (by kernel_rfl) (fun _ _ _ h => h) (Or.inl ⟨by rfl, ?_⟩) (by assumption) ?_
          rotate_left
          · (intro wS hSw; (try dsimp only at hSw); go_simp <;> with_reducible rfl)
          try simp only [Act.put, List.setIfInBounds_toArray, List.set_cons_zero, List.set_cons_succ]
          refine wpHd_take (i := 11) (v := ?_) (by kernel_rfl) (by simp only [List.getElem?_toArray, List.getElem?_cons_succ, List.getElem?_cons_zero] <;> rfl) (by kernel_rfl) (fun _ _ _ h => h) (Or.inl ⟨by rfl, ?_⟩) (by assumption) ?_
          rotate_left
          · (intro wS hSw; (try dsimp only at hSw); go_simp <;> with_reducible rfl)
          try simp only [Act.put, List.setIfInBounds_toArray, List.set_cons_zero, List.set_cons_succ]
          refine wpHd_take (i := 12) (v := ?_) (by kernel_rfl) (by simp only [List.getElem?_toArray, List.getElem?_cons_succ, List.getElem?_cons_zero] <;> rfl) (by kernel_rfl) (fun _ _ _ h => h) (Or.inl ⟨by rfl, ?_⟩) (by assumption) ?_
          rotate_left
          · (intro wS hSw; (try dsimp only at hSw); go_simp <;> with_reducible rfl)
          try simp only [Act.put, List.setIfInBounds_toArray, List.set_cons_zero, List.set_cons_succ]
          refine wpHd_take (i := 13) (v := ?_) (by kernel_rfl) (by simp only [List.getElem?_toArray, List.getElem?_cons_succ, List.getElem?_cons_zero] <;> rfl) (by kernel_rfl) (fun _ _ _ h => h) (Or.inl ⟨by rfl, ?_⟩) (by assumption) ?_
          rotate_left
          · (intro wS hSw; (try dsimp only at hSw); go_simp <;> with_reducible rfl)
          try simp only [Act.put, List.setIfInBounds_toArray, List.set_cons_zero, List.set_cons_succ]
          refine wpHd_take (i := 14) (v := ?_) (by kernel_rfl) (by simp only [List.getElem?_toArray, List.getElem?_cons_succ, List.getElem?_cons_zero] <;> rfl) (by kernel_rfl) (fun _ _ _ h => h) (Or.inl ⟨by rfl, ?_⟩) (by assumption) ?_
          rotate_left
          · (intro wS hSw; (try dsimp only at hSw); go_simp <;> with_reducible rfl)
          try simp only [Act.put, List.setIfInBounds_toArray, List.set_cons_zero, List.set_cons_succ]
          refine wpHd_ready (rs := [3]) (by kernel_rfl) (by simp) ?_
          refine (RdyHd.cons (by simp only [List.getElem?_toArray, List.getElem?_cons_succ, List.getElem?_cons_zero] <;> rfl) (by decide) (fun K hK => ?_) RdyHd.nil)
          · refine Sp.step_loc HS.out rfl _ _ 25 (by rfl) 3 i0 Try.underlying25 hi0 hza hzb hzc (i := 8) rfl (by rfl) (by rfl) LSI.out bs0 ?_
            intro so5 sc5 w5 h5
            simp only [Nat.zero_add, List.nil_append, List.set_cons_zero, List.set_cons_succ] at h5
            have HT := Lib.hid h5
            clear h5 d0 d1
            have d0 := HT.out.cell (i := 5) rfl 1 _ rfl; have d1 := HT.out.cell (i := 0) rfl 1 _ rfl
            refine hK.out _ _ ?_ (fun hHeld => ?_)
            · exact ⟨d0, d1⟩
            clear hK K
            try simp only [Act.put, List.setIfInBounds_toArray, List.set_cons_zero, List.set_cons_succ]
            refine wpHd_ready (rs := [15]) (by kernel_rfl) (by simp) ?_
            refine (RdyHd.cons (by simp only [List.getElem?_toArray, List.getElem?_cons_succ, List.getElem?_cons_zero] <;> rfl) (by decide) (fun K hK => ?_) RdyHd.nil)
            · have LSX := Lib.hid (LSA.out _ HT.out.belowN)
              refine Sp.step_loc HT.out rfl _ _ 28 (by rfl) 2 j0 Try.underlying28 hj0 hya hyb hyc (i := 9) rfl (by rfl) (by rfl) LSX.out ba0 ?_
              intro ao6 ac6 w6 h5
              simp only [Nat.zero_add, List.nil_append, List.set_cons_zero, List.set_cons_succ] at h5
              have HU := Lib.hid h5
              clear h5 d0 d1
              have d0 := HU.out.cell (i := 5) rfl 1 _ rfl; have d1 := HU.out.cell (i := 0) rfl 1 _ rfl
              refine hK.out _ _ ?_ (fun hHeld => ?_)
              · exact ⟨d0, d1⟩
              clear hK K
              try simp only [Act.put, List.setIfInBounds_toArray, List.set_cons_zero, List.set_cons_succ]
              refine wpHd_take (i := 16) (v := ?_) (by kernel_rfl) (by simp only [List.getElem?_toArray, List.getElem?_cons_succ, List.getElem?_cons_zero] <;> rfl) (by kernel_rfl) (fun _ _ _ h => h) (Or.inl ⟨by rfl, ?_⟩) (by assumption) ?_
              rotate_left
              · (intro wS hSw; (try dsimp only at hSw); go_simp <;> with_reducible rfl)
              try simp only [Act.put, List.setIfInBounds_toArray, List.set_cons_zero, List.set_cons_succ]
              refine wpHd_ready (rs := [17]) (by kernel_rfl) (by simp) ?_
              refine (RdyHd.cons (by simp only [List.getElem?_toArray, List.getElem?_cons_succ, List.getElem?_cons_zero] <;> rfl) (by decide) (fun K hK => ?_) RdyHd.nil)
              · go_simp
                have HV := Lib.hid (HU.out.via (abal w6 (.cells #[.slice so5 im sc5, .slice ao6 m ac6] 45)))
                clear d0 d1
                have d0 := HV.out.cell (i := 5) rfl 1 _ rfl; have d1 := HV.out.cell (i := 0) rfl 1 _ rfl
                refine hK.out _ _ ?_ (fun hHeld => ?_)
                · exact ⟨d0, d1⟩
                clear hK K
                try simp only [Act.put, List.setIfInBounds_toArray, List.set_cons_zero, List.set_cons_succ]
                refine wpHd_ready (rs := [18]) (by kernel_rfl) (by simp) ?_
                refine (RdyHd.cons (by simp only [List.getElem?_toArray, List.getElem?_cons_succ, List.getElem?_cons_zero] <;> rfl) (by decide) (fun K hK => ?_) RdyHd.nil)
                · refine Sp.step_append HV.out rfl _ _ 32 (by rfl) 45 i4 (.agg #[.slice none 0 0, .slice none 0 0]) 2 48 Try.underlying32 hi4 hza4 hzb4 hzc4 rfl (by decide) (i := 6) rfl (by rfl) ⟨w6.heap.size, 0, none⟩ 1 1 (by rfl) [Value.slice so5 im sc5, Value.slice ao6 m ac6] rfl (newsA w6 45 _ _) (by simp [Value.oneCell']) hmx hbyt ?_
                  intro b9 d9 w9 hH9
                  clear d0 d1
                  have d0 := hH9.cell (i := 5) rfl 1 _ rfl
                  have d2 := hH9.frozen (i := 5) rfl 1
                  have d1 := hH9.cell (i := 0) rfl 1 _ rfl
                  have q4 := HFIN.out _ _ _ _ _ _ _ hH9
                  refine hK.out _ _ ?_ (fun hHeld => ?_)
                  · exact ⟨d0, d1⟩
                  clear hK K
                  try simp only [Act.put, List.setIfInBounds_toArray, List.set_cons_zero, List.set_cons_succ]
                  refine wpHd_take (i := 19) (v := ?_) (by kernel_rfl) (by simp only [List.getElem?_toArray, List.getElem?_cons_succ, List.getElem?_cons_zero] <;> rfl) (by kernel_rfl) (fun _ _ _ h => h) (Or.inl ⟨by rfl, ?_⟩) (by assumption) ?_
                  rotate_left
                  · (intro wS hSw; (try dsimp only at hSw); go_simp <;> with_reducible rfl)
                  try simp only [Act.put, List.setIfInBounds_toArray, List.set_cons_zero, List.set_cons_succ]
                  refine wpHd_done (by kernel_rfl) ?_
                  simp only [List.drop_succ_cons, List.drop_zero]
                  go_wp2_with fail
                  refine NoPanic.normal ?_
                  go_wp2_with fail
                  go_meet
                  exact q4
        case rest =>
          obtain ⟨U3, hU3⟩ : ∃ z : World, z = wc := ⟨_, rfl⟩
          subst hU3
          clear d0 d1 HFIN
          go_wp2
          go_roundw
          case rel => first | exact ⟨i + 1, by omega, by go_num, hcut⟩ | ((repeat apply Exists.intro); exact ⟨⟨i + 1, by omega, by go_num, hcut⟩, rfl⟩)
          case measure => simp [RowKit.intOf]; omega
    · have hge : ¬ ((i : Int) < N) := by omega
      obtain rfl : i = N := by omega
      have x0 := hsp.cell (i := 5) rfl 0 _ rfl
      have x1 := hsp.cell (i := 5) rfl 1 _ rfl
      have x2 := hsp.cell (i := 5) rfl 2 _ rfl
      have x3 := hsp.cell (i := 5) rfl 3 _ rfl
      have x4 := hsp.cell (i := 1) rfl 0 _ rfl
      have x5 := hsp.cell (i := 1) rfl 1 _ rfl
      have x6 := hsp.cell (i := 1) rfl 2 _ rfl
      have x7 := hsp.cell (i := 1) rfl 3 _ rfl
      have f0 := hsp.frozen (i := 1) rfl 0
      have f1 := hsp.frozen (i := 1) rfl 1
      have f2 := hsp.frozen (i := 1) rfl 2
      have f3 := hsp.frozen (i := 1) rfl 3
      have hf := ((((hsp.put (i := 1) rfl 0 (.slice fo fn fc)).put (i := 1) rfl 1 (.slice co i cc)).put (i := 1) rfl 2 (.slice Z.sa Z.sn Z.sc)).put (i := 1) rfl 3 (.slice Z.aa Z.an Z.ac))
      have HY_ := (hf.arrsOf (i := 6) (j := 7) rfl (by decide) rfl).pick [2, 6, 4] (by decide)
      try simp only [List.cons_append, List.nil_append, List.set_cons_zero, List.set_cons_succ, List.map_cons, List.map_nil, List.getD_cons_zero, List.getD_cons_succ, World.size_alloc] at HY_
      have HY := Lib.hid HY_
      clear HY_
      have HF : Hid (OneP w fr inn (List.replicate m 0) ((List.range i).map fun i => (inn, ckL m i a)) 0 (.returned (.tuple #[.agg #[.slice fo fn fc, .slice co i cc, .slice Z.sa Z.sn Z.sc, .slice Z.aa Z.an Z.ac], .int .i64 0])) ((((wr.setCell ⟨b1, 0, none⟩ (.slice fo fn fc)).setCell ⟨b1, 1, none⟩ (.slice co i cc)).setCell ⟨b1, 2, none⟩ (.slice Z.sa Z.sn Z.sc)).setCell ⟨b1, 3, none⟩ (.slice Z.aa Z.an Z.ac))) :=
        ⟨_, _, _, _, _, _, _, _, rfl, HY.out, hAs, HZ.out.1, HZ.out.2⟩
      clear hsp hf HY HO hAs
      go_wp2
      exact bodyPost_ret (v := .tuple #[.agg #[.slice fo fn fc, .slice co i cc, .slice Z.sa Z.sn Z.sc, .slice Z.aa Z.an Z.ac], .int .i64 0]) (by simp [results, Try.results39, go_sem, *]) rfl HF.out
set_option maxHeartbeats 1600000 in
theorem rone_bad {w : World} {A : Ar} (hA : A.Is w) (r : Int) (hm : amE A.s A.a ≠ 0) : Calls Try.prog 39 #[A.v, .int .i64 r] w (OneP w [] [] [] [] 1) := by
  obtain ⟨sa, sn, sc, aa, an, ac, s, a⟩ := A
  simp only [Ar.v] at hm ⊢
  obtain ⟨W, HW⟩ : ∃ z, Hid ((w.alloc (.cells #[.slice sa sn sc, .slice aa an ac] 45)).alloc (.cells #[.slice none 0 0, .slice none 0 0, .slice none 0 0, .slice none 0 0] 74) = z) := ⟨_, rfl⟩
  have h0 := ((Sp.start Non w).alloc 45 2 1 #[.slice sa sn sc, .slice aa an ac] rfl (by decide)).alloc 74 4 1 #[.slice none 0 0, .slice none 0 0, .slice none 0 0, .slice none 0 0] rfl (by decide)
  rw [HW.out] at h0
  have H0_ := h0
  try simp only [List.cons_append, List.nil_append, List.set_cons_zero, List.set_cons_succ, List.map_cons, List.map_nil, List.getD_cons_zero, List.getD_cons_succ, World.size_alloc] at H0_
  have H0 := Lib.hid H0_
  clear H0_
  have cm := rmay4_any (hA.below H0.out.belowN (Nat.le_refl _))
  simp only [Ar.v] at cm
  rw [decide_eq_false hm] at cm
  have CM := Lib.hid cm
  clear cm
  have y0 := H0.out.cell (i := 0) rfl 0 _ rfl
  have y1 := H0.out.cell (i := 0) rfl 1 _ rfl
  clear hA hm h0
  go_enter Try.func39, Try.ntmps39
  go_wp2_with fail
  rw [HW.out]
  refine CM.out.mono ?_; rintro e w1 ⟨rfl, hb1⟩
  have H1_ := H0.out.via hb1
  try simp only [List.cons_append, List.nil_append, List.set_cons_zero, List.set_cons_succ, List.map_cons, List.map_nil, List.getD_cons_zero, List.getD_cons_succ, World.size_alloc] at H1_
  have H1 := Lib.hid H1_
  clear H1_
  have x0 := H1.out.cell (i := 1) rfl 0 _ rfl
  have f0 := H1.out.frozen (i := 1) rfl 0
  have x1 := H1.out.cell (i := 1) rfl 1 _ rfl
  have f1 := H1.out.frozen (i := 1) rfl 1
  have x2 := H1.out.cell (i := 1) rfl 2 _ rfl
  have f2 := H1.out.frozen (i := 1) rfl 2
  have x3 := H1.out.cell (i := 1) rfl 3 _ rfl
  have f3 := H1.out.frozen (i := 1) rfl 3
  have HF : Hid (∀ u0 u1 u2 u3, OneP w [] [] [] [] 1 (.returned (.tuple #[.agg #[.slice none 0 0, .slice none 0 0, .slice none 0 0, .slice none 0 0], .int .i64 1])) ((((w1.setCell ⟨w.heap.size + 1, 0, none⟩ u0).setCell ⟨w.heap.size + 1, 1, none⟩ u1).setCell ⟨w.heap.size + 1, 2, none⟩ u2).setCell ⟨w.heap.size + 1, 3, none⟩ u3)) := fun u0 u1 u2 u3 => by
    have h := ((((H1.out.put (i := 1) rfl 0 u0).put (i := 1) rfl 1 u1).put (i := 1) rfl 2 u2).put (i := 1) rfl 3 u3)
    have hw := h.belowN
    have h2 := (((h.intsNew (E := 3) (zs := []) (World.ownsRow_nil _ _ _ _) (Below.refl _ _) (by omega) (fun i => by simp [List.getD])).rowNil 45 2).allNil.arrNew (Ar.is_nil _) (Ar.own_nil _ _) (Below.refl _ _))
    have h3_ := (h2.arrsOf (As := []) (i := 3) (j := 4) rfl (by decide) rfl).pick [2, 3, 5] (by decide)
    try simp only [List.cons_append, List.nil_append, List.set_cons_zero, List.set_cons_succ, List.map_cons, List.map_nil, List.getD_cons_zero, List.getD_cons_succ, World.size_alloc] at h3_
    have h3 := Lib.hid h3_
    clear h3_
    exact ⟨none, 0, 0, none, 0, 0, ⟨none, 0, 0, none, 0, 0, [], []⟩, [], rfl, h3.out, rfl, rfl, rfl⟩
  clear hb1 y0 y1
  go_wp2
  exact bodyPost_ret (v := .tuple #[.agg #[.slice none 0 0, .slice none 0 0, .slice none 0 0, .slice none 0 0], .int .i64 1]) (by simp [results, Try.results39, go_sem, *]) rfl (HF.out _ _ _ _)
theorem rone_any {w : World} {A : Ar} (hA : A.Is w) (r : Int) (hr : -9223372036854775808 ≤ r ∧ r ≤ 9223372036854775807) :
    Calls Try.prog 39 #[A.v, .int .i64 r] w (OneP w (onF A.s A.a r) (onI A.s A.a r) (onZ A.s A.a r) (onC A.s A.a r) (onE A.s A.a)) := by
  by_cases hm : amE A.s A.a = 0
  · have h := rone_ok hA r hr hm
    simp only [onF, onI, onZ, onC, onE, if_pos hm]
    exact h
  · have h := rone_bad hA r hm
    simp only [onF, onI, onZ, onC, onE, if_neg hm]
    exact h
end Go.Proofs.Ythackmkdicpdeaa
