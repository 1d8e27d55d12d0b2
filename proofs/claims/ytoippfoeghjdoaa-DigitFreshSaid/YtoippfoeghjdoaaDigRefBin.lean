/- The document's binary (layer 8). -/
import Derived.Test.YtoippfoeghjdoaaDigRef3
namespace Go.Proofs.Ytoippfoeghjdoaa
open Go.RowKit Go.Lib
set_option linter.unusedVariables false
set_option linter.unusedSimpArgs false
attribute [local go_sem] alloc_drewN setCell_drewN
theorem bit_doc (n : Int) {p : Nat} (hp : p ≤ 63) : IntKind.i64.wrap ((IntKind.u64.wrap n / 2 ^ min (IntKind.u64.wrap (p : Int)).toNat 64).tmod 2) = n / 2 ^ p % 2 := by
  rw [IntWalk.u64_in (p : Int) (by omega), Int.toNat_natCast, show min p 64 = p by omega]
  have hu : IntKind.u64.wrap n = n % 18446744073709551616 := by first | exact IntKind.wrap_u64 n | rfl
  rw [hu]
  obtain ⟨U, hU⟩ : ∃ U, U = n % 18446744073709551616 := ⟨_, rfl⟩
  obtain ⟨q, hq⟩ : ∃ q, q = n / 18446744073709551616 := ⟨_, rfl⟩
  have hn : n = U + 18446744073709551616 * q := by omega
  have hU0 : 0 ≤ U := by omega
  rw [← hU]
  have hpos : (0 : Int) < 2 ^ p := Int.pow_pos (by omega)
  have h64 : (18446744073709551616 : Int) = 2 ^ p * (2 * 2 ^ (63 - p)) := by
    have h1 : (18446744073709551616 : Int) = 2 ^ 64 := by decide
    rw [h1, show (64 : Nat) = p + (63 - p + 1) by omega, Int.pow_add, Int.pow_succ, Int.mul_comm (2 ^ (63 - p)) 2]
  have hd : n / 2 ^ p = U / 2 ^ p + 2 * (2 ^ (63 - p) * q) := by
    rw [hn, h64, Int.mul_assoc (2 ^ p), Int.add_mul_ediv_left _ _ (by omega), Int.mul_assoc]
  rw [hd, Int.tmod_eq_emod_of_nonneg (Int.ediv_nonneg hU0 (by omega))]
  generalize U / 2 ^ p = y
  generalize (2 : Int) ^ (63 - p) * q = z
  rw [IntWalk.i64_in _ (by omega)]
  omega
set_option maxRecDepth 100000 in
set_option maxHeartbeats 3200000 in
theorem rbinary8_any {w : World} {Y : Ar} (hY : Y.Is w) (hN : Y.an ≤ 4096) (hsn : Y.sn ≤ 8) :
    Calls Try.prog 59 #[Y.v] w (MadeE w (biS Y.s Y.a) (biA Y.s Y.a) (biE Y.s Y.a)) := by
  obtain ⟨sa, sn, sc, aa, an, ac, s, a⟩ := Y
  simp only [Ar.v]
  simp only at hN hsn
  obtain ⟨W, HW⟩ : ∃ z, Hid ((w.alloc (.cells #[.slice sa sn sc, .slice aa an ac] 38)).alloc (.cells #[.slice none 0 0, .slice none 0 0] 38) = z) := ⟨_, rfl⟩
  have h0 := ((Sp.start Non w).alloc 38 2 1 #[.slice sa sn sc, .slice aa an ac] rfl (by decide)).alloc 38 2 1 #[.slice none 0 0, .slice none 0 0] rfl (by decide)
  rw [HW.out] at h0
  have H1_ := h0
  try simp only [List.cons_append, List.nil_append, List.set_cons_zero, List.set_cons_succ, List.map_cons, List.map_nil, List.getD_cons_zero, List.getD_cons_succ, World.size_alloc] at H1_
  have H1 := Lib.hid H1_
  clear H1_
  obtain ⟨b1, HB1⟩ : ∃ z, Hid (w.heap.size = z) := ⟨_, rfl⟩
  rw [HB1.out] at H1
  have HY := Lib.hid hY
  have HAL := Lib.hid hY.ats.len
  have HRG := Lib.hid hY.ats.rng
  simp only at HAL HRG
  obtain ⟨E, HE⟩ : ∃ z, Hid (biE s a = z) := ⟨_, rfl⟩
  obtain ⟨S, HS⟩ : ∃ z, Hid (biS s a = z) := ⟨_, rfl⟩
  obtain ⟨A, HA⟩ : ∃ z, Hid (biA s a = z) := ⟨_, rfl⟩
  rw [HE.out, HS.out, HA.out]
  have x1 := H1.out.cell (i := 0) rfl 1 _ rfl
  clear h0 hY
  go_enter Try.func59, Try.ntmps59
  clear x1
  go_wp2_with fail
  rw [HW.out, HB1.out]
  go_loopw [4, 5] (fun v4 v5 wr => ∃ (k : Nat) (z : Int), k ≤ an ∧ v5 = .int .i64 k ∧ v4 = .int .i64 z ∧ 0 ≤ z ∧ z ≤ 64 ∧ wr = W ∧ Hid (z = biW (a.take k))) (fun _ v5 _ => an - (RowKit.intOf v5).toNat)
  case atStart => exact ⟨0, 0, by omega, rfl, rfl, by omega, by omega, rfl, rfl⟩
  case round =>
    obtain ⟨k, z, hk, rfl, rfl, hz0, hz1, rfl, HZ⟩ := hrel
    have x1 := H1.out.cell (i := 0) rfl 1 _ rfl
    by_cases hlt : k < an
    · have hlt' : (k : Int) < an := by omega
      have hats := (HY.out.below H1.out.belowN (Nat.le_refl _)).ats
      simp only at hats
      obtain ⟨g1, o1, e1, hc1⟩ := hats.at (by omega)
      subst e1
      have d1 := hc1 k hlt
      have hsn2 := biW_snoc (a := a) (k := k) (by rw [HAL.out]; exact hlt)
      have hnr := HRG.out k
      have hb64 := bitLen_64 hnr
      obtain ⟨n, HN⟩ : ∃ z, Hid (a.getD k 0 = z) := ⟨_, rfl⟩
      rw [HN.out] at d1 hsn2 hnr hb64
      have CB := Lib.hid (fun w => rdigits_any n w hnr)
      obtain ⟨l, HL⟩ : ∃ z, Hid (Lib.bitLen n.natAbs = z) := ⟨_, rfl⟩
      rw [HL.out] at CB hsn2 hb64
      rw [← HZ.out] at hsn2
      have HZ2 := Lib.hid hsn2.symm
      clear hats hc1 hsn2 hnr
      go_wp2_with fail
      refine (CB.out _).mono ?_; rintro e w' ⟨rfl, hw'⟩
      have hw'' := hw'.symm
      subst hw''
      clear hw' CB
      go_wp2_with fail
      go_roundw
      case rel => exact ⟨k + 1, max (max z 1) l, by omega, by go_num, intv (by simp only [Int.max_def]; repeat' split <;> omega), by omega, by omega, trivial, HZ2⟩
      case measure => simp [RowKit.intOf] <;> omega
    · have hge : ¬ ((k : Int) < an) := by omega
      obtain rfl : k = an := by omega
      have hzw : z = biW a := by have := HZ.out; rwa [List.take_of_length_le (by rw [HAL.out]; exact Nat.le_refl _)] at this
      obtain ⟨N, hN2⟩ : ∃ N : Nat, z = N := ⟨z.toNat, by omega⟩
      subst hN2
      have hE : E = if mayE (s ++ [(N : Int)]) = 0 then 0 else 17 := by rw [← HE.out, biE, ← hzw]
      have hS : S = if mayE (s ++ [(N : Int)]) = 0 then s ++ [(N : Int)] else [] := by rw [← HS.out, biS, ← hzw]
      have hA : A = if mayE (s ++ [(N : Int)]) = 0 then (a.map fun n => biD N n N).flatten else [] := by rw [← HA.out, biA, ← hzw]; simp only [Int.toNat_natCast]
      have HEE := Lib.hid (And.intro hE (And.intro hS hA))
      have HSH := Lib.hid (HY.out.below H1.out.belowN (Nat.le_refl _)).shp
      have HN0 := Lib.hid (H1.out.intsNew (E := 3) (zs := []) (World.ownsRow_nil _ _ _ _) (Below.refl _ _) (by omega) (fun i => by simp [List.getD]))
      have hb0 : (0 + sn) * 8 ≤ 140737488351232 := by omega
      have x1 := H1.out.cell (i := 0) rfl 1 _ rfl
      have x0 := H1.out.cell (i := 0) rfl 0 _ rfl
      obtain ⟨i0, hi0, hz0', hz1', hz2'⟩ := info_parts (P := Try.prog) (e := 3) (z := .int .i64 0) (size := 1) (bytes := 8) (by kernel_rfl)
      have hb1 : (sn + 1) * 8 ≤ 140737488351232 := by omega
      clear hzw hE hS hA HE HS HA HZ
      go_wp2_with (at_builtin; refine Sp.wpList_loc (i := 2) HN0.out rfl _ _ 25 rfl 3 i0 Try.underlying25 hi0 hz0' hz1' hz2' rfl rfl rfl HSH.out hb0 ?_)
      intro lo lc w3 h3
      have H3_ := h3
      try simp only [List.cons_append, List.nil_append, List.set_cons_zero, List.set_cons_succ, List.map_cons, List.map_nil, List.getD_cons_zero, List.getD_cons_succ, World.size_alloc] at H3_
      have H3 := Lib.hid H3_
      clear H3_
      have HV := Lib.hid (H3.out.via (abal w3 (.cells #[.int .i64 N] 3)))
      have z00 : 0 + sn = sn := by omega
      clear h3 HN0 HSH x0 x1
      go_wp2_with (at_builtin; refine Sp.wpList_loc (i := 2) HV.out rfl _ _ 25 rfl 3 i0 Try.underlying25 hi0 hz0' hz1' hz2' rfl rfl rfl (ls_lit1 w3 _ (by omega)) hb1 ?_)
      intro bo d w4 h4
      have H4 := Lib.hid h4
      have CM := Lib.hid (rmay_any (H4.out.ls (i := 2) rfl))
      clear h4 HV H3 hi0 hz0' hz1' hz2' hb1 H1
      by_cases hm : mayE (s ++ [(N : Int)]) = 0
      · have r1 : E = 0 := by rw [HEE.out.1, if_pos hm]
        have r2 : S = s ++ [(N : Int)] := by rw [HEE.out.2.1, if_pos hm]
        have r3 : A = (a.map fun n => biD N n N).flatten := by rw [HEE.out.2.2, if_pos hm]
        have HR := Lib.hid (And.intro r2 r3)
        rw [hm] at CM
        subst r1
        clear hm r2 r3 HEE
        go_wp2_with fail
        refine CM.out.mono ?_; rintro e w' ⟨rfl, hw'⟩
        have hw'' := hw'.symm
        subst hw''
        clear hw' CM
        have H5_ := (H4.out.alloc 38 2 1 #[.slice bo (sn + 1) d, .slice none 0 0] rfl (by decide)).intsNew (E := 2) (zs := []) (World.ownsRow_nil _ _ _ _) (Below.refl _ _) (by omega) (fun i => by simp [List.getD])
        try simp only [List.cons_append, List.nil_append, List.set_cons_zero, List.set_cons_succ, List.map_cons, List.map_nil, List.getD_cons_zero, List.getD_cons_succ, World.size_alloc] at H5_
        have H5 := Lib.hid H5_
        clear H5_
        obtain ⟨b8, HB8⟩ : ∃ z, Hid (w4.heap.size = z) := ⟨_, rfl⟩
        rw [HB8.out] at H5
        have x1 := H5.out.cell (i := 0) rfl 1 _ rfl
        clear H4
        go_wp2_with fail
        clear x1
        rw [HB8.out]
        go_loopw [8] (fun v8 wr => ∃ (m : Nat) (ao : Option Addr) (c : Nat), m ≤ k ∧ v8 = .int .i64 m ∧ Hid (Sp Non w wr [Pt.row ⟨38, 2, some ⟨b1, 0, none⟩, 1, 1, [.slice sa sn sc, .slice aa k ac]⟩, Pt.row ⟨38, 2, some ⟨b1 + 1, 0, none⟩, 1, 1, [.slice none 0 0, .slice none 0 0]⟩, Pt.ints 3 bo (sn + 1) d (s ++ [(N : Int)]), Pt.row ⟨38, 2, some ⟨b8, 0, none⟩, 1, 1, [.slice bo (sn + 1) d, .slice ao (m * N) c]⟩, Pt.ints 2 ao (m * N) c (((a.take m).map fun n => biD N n N).flatten)])) (fun v8 _ => k - (RowKit.intOf v8).toNat)
        case atStart => exact ⟨0, none, 0, by omega, rfl, by rw [Nat.zero_mul]; exact H5⟩
        case round =>
          clear H5
          obtain ⟨m, ao, c, hm, rfl, HO⟩ := hrel
          have x1 := HO.out.cell (i := 0) rfl 1 _ rfl
          by_cases hlt : m < k
          · have hlt' : (m : Int) < k := by omega
            have hats := (HY.out.below HO.out.belowN (Nat.le_refl _)).ats
            simp only at hats
            obtain ⟨g1, o1, e1, hc1⟩ := hats.at (by omega)
            subst e1
            have d1 := hc1 m hlt
            obtain ⟨n, HN⟩ : ∃ z, Hid (a.getD m 0 = z) := ⟨_, rfl⟩
            rw [HN.out] at d1
            have hmN : m * N ≤ 262144 := by
              have h1 := Nat.mul_le_mul (show m ≤ 4096 by omega) (show N ≤ 64 by omega)
              omega
            have HFN : Hid (((a.take (m + 1)).map fun n => biD N n N).flatten = ((a.take m).map fun n => biD N n N).flatten ++ biD N n N) := by
              show _ = _
              rw [take_snoc (by rw [HAL.out]; exact hlt), HN.out, List.map_append, List.flatten_append]
              simp
            clear hats hc1
            go_wp2_with fail
            go_loopw [9] (fun v9 wx => ∃ (j : Nat) (q : Int) (ao' : Option Addr) (c' : Nat), j ≤ N ∧ -1 ≤ q ∧ q + 1 + j = N ∧ v9 = .int .i64 q ∧ Hid (Sp Non w wx [Pt.row ⟨38, 2, some ⟨b1, 0, none⟩, 1, 1, [.slice sa sn sc, .slice (some ⟨g1, o1, none⟩) k ac]⟩, Pt.row ⟨38, 2, some ⟨b1 + 1, 0, none⟩, 1, 1, [.slice none 0 0, .slice none 0 0]⟩, Pt.ints 3 bo (sn + 1) d (s ++ [(N : Int)]), Pt.row ⟨38, 2, some ⟨b8, 0, none⟩, 1, 1, [.slice bo (sn + 1) d, .slice ao' (m * N + j) c']⟩, Pt.ints 2 ao' (m * N + j) c' (((a.take m).map fun n => biD N n N).flatten ++ biD N n j)])) (fun v9 _ => (RowKit.intOf v9 + 1).toNat)
            case atStart => exact ⟨0, (N : Int) - 1, ao, c, by omega, by omega, by omega, by go_num, by simpa [biD] using HO⟩
            case round =>
              clear HO x1
              obtain ⟨j, q, ao', c', hj, hq1, hqj, rfl, HM⟩ := hrel
              have x1 := HM.out.cell (i := 0) rfl 1 _ rfl
              have hats2 := (HY.out.below HM.out.belowN (Nat.le_refl _)).ats
              simp only at hats2
              obtain ⟨g2, o2, e2, hc2⟩ := hats2.at (by omega)
              cases e2
              clear d1
              have d1 := hc2 m hlt
              rw [HN.out] at d1
              clear hats2 hc2
              by_cases hq : 0 ≤ q
              · obtain ⟨p, rfl⟩ := Int.eq_ofNat_of_zero_le hq
                have hp64 : (p : Int) ≤ 64 := by omega
                obtain ⟨i0, hi0, hza, hzb, hzc⟩ := info_parts (P := Try.prog) (e := 2) (z := .int .i64 0) (size := 1) (bytes := 8) (by kernel_rfl)
                have hbr := bit_rng n p
                have HBD : Hid (biD N n (j + 1) = biD N n j ++ [n / 2 ^ p % 2]) := by
                  show _ = _
                  unfold biD
                  rw [List.range_succ, List.map_append, List.map_singleton, show N - 1 - j = p by omega]
                have HV2 := Lib.hid ((HM.out.via (abal wr (.cells #[.int .i64 (n / 2 ^ p % 2)] 2))).via (adrew1 _))
                have LL := Lib.hid ((ls_lit1 wr 2 hbr).via (adrew1 _))
                have hb1 : (m * N + j + 1) * 8 ≤ 140737488351232 := by omega
                have y1 := HM.out.cell (i := 3) rfl 1 _ rfl
                have hval := bit_doc n (p := p) (by omega)
                have hlb := (HM.out.rlt (i := 3) rfl).1
                have n1 : ¬ b8 = wr.heap.size := by omega
                have n2 : ¬ wr.heap.size = b8 := by omega
                clear hbr
                go_wp2_with fail
                go_region_law (first
                  | (refine Sp.step_loc HV2.out rfl _ _ 28 (by rfl) 2 i0 Try.underlying28 hi0 hza hzb hzc (i := 4) rfl (by rfl) (by rfl) LL.out hb1 ?_; intro b9 d9 w9 h9; have q1 := h9.cell (i := 3) rfl 1 _ rfl; have q2 := h9.frozen (i := 3) rfl 1))
                all_goals
                  have H10 : Hid (Sp Non w (w9.setCell ⟨b8, 1, none⟩ (.slice b9 (m * N + j + 1) d9)) [Pt.row ⟨38, 2, some ⟨b1, 0, none⟩, 1, 1, [.slice sa sn sc, .slice (some ⟨g1, o1, none⟩) k ac]⟩, Pt.row ⟨38, 2, some ⟨b1 + 1, 0, none⟩, 1, 1, [.slice none 0 0, .slice none 0 0]⟩, Pt.ints 3 bo (sn + 1) d (s ++ [(N : Int)]), Pt.row ⟨38, 2, some ⟨b8, 0, none⟩, 1, 1, [.slice bo (sn + 1) d, .slice b9 (m * N + (j + 1)) d9]⟩, Pt.ints 2 b9 (m * N + (j + 1)) d9 (((a.take m).map fun n => biD N n N).flatten ++ biD N n (j + 1))]) := by
                    show Sp _ _ _ _
                    rw [HBD.out, ← List.append_assoc]
                    exact h9.put (i := 3) rfl 1 (.slice b9 (m * N + j + 1) d9)
                  clear h9 q1 q2
                  go_wp2
                  go_roundw
                  case rel => exact ⟨j + 1, (p : Int) - 1, b9, d9, by omega, by omega, by omega, by go_num, H10⟩
                  case measure => simp [RowKit.intOf] <;> omega
              · obtain rfl : j = N := by omega
                have HJ : Hid (Sp Non w wr [Pt.row ⟨38, 2, some ⟨b1, 0, none⟩, 1, 1, [.slice sa sn sc, .slice (some ⟨g1, o1, none⟩) k ac]⟩, Pt.row ⟨38, 2, some ⟨b1 + 1, 0, none⟩, 1, 1, [.slice none 0 0, .slice none 0 0]⟩, Pt.ints 3 bo (sn + 1) d (s ++ [(j : Int)]), Pt.row ⟨38, 2, some ⟨b8, 0, none⟩, 1, 1, [.slice bo (sn + 1) d, .slice ao' ((m + 1) * j) c']⟩, Pt.ints 2 ao' ((m + 1) * j) c' (((a.take (m + 1)).map fun n => biD j n j).flatten)]) := by
                  show Sp _ _ _ _
                  rw [HFN.out, Nat.succ_mul]
                  exact HM.out
                clear HM
                go_wp2
                go_roundw
                case rel => exact ⟨m + 1, ao', c', by omega, by go_num, HJ⟩
                case measure => simp [RowKit.intOf] <;> omega
          · obtain rfl : m = k := by omega
            have hge2 : ¬ ((m : Int) < m) := by omega
            have hsp := HO.out
            rw [List.take_of_length_le (by rw [HAL.out]; exact Nat.le_refl _), ← HR.out.1, ← HR.out.2] at hsp
            have h7 := hsp.arrOf (i := 2) (j := 4) rfl (by decide) rfl
            have H7_ := h7
            try simp only [List.cons_append, List.nil_append, List.set_cons_zero, List.set_cons_succ, List.map_cons, List.map_nil, List.getD_cons_zero, List.getD_cons_succ, World.size_alloc] at H7_
            have H7 := Lib.hid H7_
            clear H7_
            have x2 := H7.out.cell (i := 1) rfl 0 _ rfl
            have x3 := H7.out.cell (i := 1) rfl 1 _ rfl
            have y0 := H7.out.cell (i := 3) rfl 0 _ rfl
            have y1 := H7.out.cell (i := 3) rfl 1 _ rfl
            have f2 := H7.out.frozen (i := 1) rfl 0
            have f3 := H7.out.frozen (i := 1) rfl 1
            have HF : Hid (∀ u v, MadeE w S A 0 (.returned (.tuple #[.agg #[.slice bo (sn + 1) d, .slice ao (m * N) c], .int .i64 0])) ((wr.setCell ⟨b1 + 1, 0, none⟩ u).setCell ⟨b1 + 1, 1, none⟩ v)) := fun u v => ((H7.out.put (i := 1) rfl 0 u).put (i := 1) rfl 1 v).madeE (i := 4) (B := ⟨bo, sn + 1, d, ao, m * N, c, S, A⟩) rfl 0
            clear hsp h7 H7 HR
            go_wp2
            exact bodyPost_ret (v := .tuple #[.agg #[.slice bo (sn + 1) d, .slice ao (m * N) c], .int .i64 0]) (by simp [results, Try.results59, go_sem, *]) rfl (HF.out _ _)
      · have r1 : E = 17 := by rw [HEE.out.1, if_neg hm]
        have r2 : S = [] := by rw [HEE.out.2.1, if_neg hm]
        have r3 : A = [] := by rw [HEE.out.2.2, if_neg hm]
        subst r1 r2 r3
        obtain ⟨e, he⟩ : ∃ z, z = mayE (s ++ [(N : Int)]) := ⟨_, rfl⟩
        rw [← he] at CM hm
        have q0 : (e != 0) = true := by simpa using hm
        have x2 := H4.out.cell (i := 1) rfl 0 _ rfl
        have x3 := H4.out.cell (i := 1) rfl 1 _ rfl
        have f2 := H4.out.frozen (i := 1) rfl 0
        have f3 := H4.out.frozen (i := 1) rfl 1
        have HF : Hid (∀ u v, MadeE w [] [] 17 (.returned (.tuple #[.agg #[.slice none 0 0, .slice none 0 0], .int .i64 17])) ((w4.setCell ⟨b1 + 1, 0, none⟩ u).setCell ⟨b1 + 1, 1, none⟩ v)) := fun u v => made_nil 17 ((H4.out.put (i := 1) rfl 0 u).put (i := 1) rfl 1 v).belowN
        clear he hm HEE H4
        go_wp2_with fail
        refine CM.out.mono ?_; rintro e w' ⟨rfl, hw'⟩
        have hw'' := hw'.symm
        subst hw''
        go_wp2
        exact bodyPost_ret (v := .tuple #[.agg #[.slice none 0 0, .slice none 0 0], .int .i64 17]) (by simp [results, Try.results59, go_sem, *]) rfl (HF.out _ _)
end Go.Proofs.Ytoippfoeghjdoaa
