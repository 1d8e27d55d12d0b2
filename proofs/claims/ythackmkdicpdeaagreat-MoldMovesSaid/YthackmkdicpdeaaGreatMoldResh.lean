/- Contract of mold.reshape. -/
import Derived.Test.YthackmkdicpdeaaGreatMoldItem
namespace Go.Proofs.YthackmkdicpdeaaGreat
open Go.RowKit Go.Lib
set_option linter.unusedVariables false
set_option linter.unusedSimpArgs false
attribute [local go_sem] alloc_drewN setCell_drewN
theorem any_neg6 {s : List Int} : s.any (fun k => decide (k < 0)) = true ↔ ∃ i, i < s.length ∧ s.getD i 0 < 0 := by
  rw [List.any_eq_true]
  constructor
  · rintro ⟨x, hx, h⟩
    obtain ⟨i, hi, rfl⟩ := List.mem_iff_getElem.1 hx
    exact ⟨i, hi, by simpa [List.getD, hi] using h⟩
  · rintro ⟨i, hi, h⟩
    exact ⟨s[i], List.getElem_mem hi, by simpa [List.getD, hi] using h⟩
set_option maxHeartbeats 400000 in
theorem indexneg_m {w : World} {ao : Option Addr} {n c : Nat} {s : List Int} (h : Ls w ao n c s) (fv : Value) (hfv : fv = .func (.func 125) #[] #[]) :
    Calls Tryz.prog 157 #[.slice ao n c, fv] w (NegAt w s) := by
  subst hfv
  have l1 := Lib.hid h.len
  have g1 := h.big
  have H := Lib.hid h
  clear h
  go_enter Tryz.func157, Tryz.ntmps157
  go_wp2
  go_loop [8] (fun i => ∃ k : Nat, k ≤ n ∧ i = .int .i64 k ∧ Hid (∀ j, j < k → 0 ≤ s.getD j 0)) (fun i => n - (RowKit.intOf i).toNat)
  case atStart => exact ⟨0, Nat.zero_le _, rfl, fun j hj => absurd hj (by omega)⟩
  case round =>
    obtain ⟨k, hk, rfl, hs⟩ := hrel
    by_cases hlt : k < n
    · have hlt' : (k : Int) < n := by omega
      obtain ⟨b1, o1, rfl, hc1⟩ := H.out.at (by omega)
      have d1 := hc1 k hlt
      clear hc1
      obtain ⟨x, HX⟩ : ∃ x, Hid (s.getD k 0 = x) := ⟨_, rfl⟩
      rw [HX.out] at d1
      by_cases hx : x < 0
      · have HF : Hid ((0 ≤ (k : Int)) = (s.any (fun k => decide (k < 0)) = true)) := by
          show _ = _
          apply propext
          exact ⟨fun _ => any_neg6.2 ⟨k, by rw [l1.out]; exact hlt, by rw [HX.out]; exact hx⟩, fun _ => by omega⟩
        have hd := decide_eq_true hx
        go_wp2
        go_ret
        exact ⟨(k : Int), by omega, HF, RetS.mk rfl⟩
      · have hs' : Hid (∀ j, j < k + 1 → 0 ≤ s.getD j 0) := by
          intro j hj
          by_cases e : j = k
          · subst e; rw [HX.out]; omega
          · exact hs.out j (by omega)
        have hd := decide_eq_false hx
        go_wp2
        go_round
        case rel => exact ⟨k + 1, by omega, by go_num, hs'⟩
        case measure => simp [RowKit.intOf]; omega
    · have hge : (n : Int) ≤ k := by omega
      have HF : Hid ((0 ≤ (-1 : Int)) = (s.any (fun k => decide (k < 0)) = true)) := by
        show _ = _
        apply propext
        refine ⟨fun h => absurd h (by omega), fun h => ?_⟩
        obtain ⟨i, hi, h2⟩ := any_neg6.1 h
        have := hs.out i (by have := l1.out; omega)
        omega
      go_wp2
      go_ret
      exact ⟨-1, by omega, HF, RetS.mk rfl⟩
set_option maxHeartbeats 400000 in
theorem containsneg_m {w : World} {ao : Option Addr} {n c : Nat} {s : List Int} (h : Ls w ao n c s) :
    Calls Tryz.prog 124 #[.slice ao n c, .func (.func 125) #[] #[]] w (RetS w (.bool (s.any (fun k => decide (k < 0))))) := by
  have A := Lib.hid (indexneg_m h _ rfl)
  clear h
  go_enter Tryz.func124, Tryz.ntmps124
  go_wp2_with fail
  refine A.out.mono ?_; rintro e w' ⟨r, hr, HF, rfl, rfl⟩
  have HD : Hid (decide (0 ≤ r) = s.any (fun k => decide (k < 0))) := by
    show _ = _
    have := HF.out
    cases h : s.any (fun k => decide (k < 0))
    · rw [h] at this; simpa using this
    · rw [h] at this; simpa using this
  go_wp2
  go_ret
  exact RetS.mk (boolv HD.out)
/-- What $ of two answers. -/
def rsL (x : List Int) : List Int := x.map fun n => min n 4097
def rsW (x s : List Int) : List Int := rsL x ++ s.tail
def rsG (a : List Int) (m : Nat) (it k : Nat) : List Int := ((List.range k).map fun i => ckL m (i % it) a).flatten
def rsE (x s a : List Int) : Int := if x.any (fun k => decide (k < 0)) = true then 10 else if mayE (rsW x s) = 0 then if pr (rsL x) ≠ 0 ∧ itE s a = 0 then 11 else 0 else 17
def rsS (x s a : List Int) : List Int := if rsE x s a = 0 then rsW x s else []
def rsA (x s a : List Int) : List Int := if rsE x s a = 0 then rsG a (pr s.tail).toNat (itE s a).toNat (pr (rsL x)).toNat else []
theorem rsG_succ (a : List Int) (m it k : Nat) : rsG a m it (k + 1) = rsG a m it k ++ ckL m (k % it) a := by
  unfold rsG
  rw [List.range_succ, List.map_append, List.flatten_append, List.map_singleton, List.flatten_singleton]
theorem ckL_len6 {m i : Nat} {a : List Int} (h : i * m + m ≤ a.length) : (ckL m i a).length = m := by
  unfold ckL
  rw [List.length_take, List.length_drop]
  omega
theorem rsG_len {a : List Int} {m it : Nat} (h : a.length = it * m) (hit : 0 < it) (k : Nat) : (rsG a m it k).length = k * m := by
  induction k with
  | zero => simp [rsG]
  | succ k ih =>
    have hk := Nat.mod_lt k hit
    have h2 := Nat.mul_le_mul_right m (Nat.succ_le_of_lt hk)
    rw [Nat.succ_mul] at h2
    rw [rsG_succ, List.length_append, ih, ckL_len6 (by omega), Nat.succ_mul]
set_option maxRecDepth 100000 in
set_option maxHeartbeats 6400000 in
theorem reshape_any {w : World} {X Y : Ar} (hX : X.Is w) (hY : Y.Is w) (hxn : X.an ≤ 4096) (hm : amE Y.s Y.a = 0) : Calls Tryz.prog 95 #[X.v, Y.v] w (MadeE w (rsS X.a Y.s Y.a) (rsA X.a Y.s Y.a) (rsE X.a Y.s Y.a)) := by
  obtain ⟨sa, sn', sc', aa, an, ac, s', x⟩ := X
  obtain ⟨ta, tn, tc, ba, bn, bc, s, b⟩ := Y
  simp only [Ar.v]
  simp only at hxn hm
  obtain ⟨hm1, hm2⟩ := amE_zero hm
  have hmt := may_tail hm1
  have hxl : x.length = an := hX.ats.len
  have hbl : b.length = bn := hY.ats.len
  have hsl : s.length = tn := hY.shp.len
  have hib : 0 ≤ itE s b ∧ itE s b ≤ 4096 := by
    unfold itE
    rw [if_pos hm]
    split
    · omega
    · have h2 := (pm_up s 0).2.2
      have h3 := pm_all s (0 + 1)
      have h4 := mayE_zero hm1
      have := h4.1 0
      omega
  obtain ⟨W, HW⟩ : ∃ z, Hid (((w.alloc (.cells #[.slice sa sn' sc', .slice aa an ac] 38)).alloc (.cells #[.slice ta tn tc, .slice ba bn bc] 38)).alloc (.cells #[.slice none 0 0, .slice none 0 0] 38) = z) := ⟨_, rfl⟩
  have h0 := (((Sp.start Non w).alloc 38 2 1 #[.slice sa sn' sc', .slice aa an ac] rfl (by decide)).alloc 38 2 1 #[.slice ta tn tc, .slice ba bn bc] rfl (by decide)).alloc 38 2 1 #[.slice none 0 0, .slice none 0 0] rfl (by decide)
  rw [HW.out] at h0
  have H1_ := h0.intsNew (E := 3) (zs := []) (World.ownsRow_nil _ _ _ _) (Below.refl _ _) (by omega) (fun i => by simp [List.getD])
  try simp only [List.cons_append, List.nil_append, List.set_cons_zero, List.set_cons_succ, List.map_cons, List.map_nil, List.getD_cons_zero, List.getD_cons_succ, World.size_alloc] at H1_
  have H1 := Lib.hid H1_
  clear H1_
  obtain ⟨b1, HB1⟩ : ∃ z, Hid (w.heap.size = z) := ⟨_, rfl⟩
  rw [HB1.out] at H1
  have HX := Lib.hid hX
  have HY := Lib.hid hY
  have hb1 := H1.out.belowN
  have CN := Lib.hid (containsneg_m (hX.below hb1 (Nat.le_refl _)).ats)
  simp only at CN
  obtain ⟨RE, HRE⟩ : ∃ z, Hid (z = rsE x s b) := ⟨_, rfl⟩
  obtain ⟨RS, HRSS⟩ : ∃ z, Hid (z = rsS x s b) := ⟨_, rfl⟩
  obtain ⟨RA, HRA⟩ : ∃ z, Hid (z = rsA x s b) := ⟨_, rfl⟩
  rw [← HRE.out, ← HRSS.out, ← HRA.out]
  have HBAD : Hid (RE ≠ 0 → RS = [] ∧ RA = []) := fun h => ⟨by rw [HRSS.out, rsS, if_neg (by rw [← HRE.out]; exact h)], by rw [HRA.out, rsA, if_neg (by rw [← HRE.out]; exact h)]⟩
  have HGOOD : Hid (RE = 0 → RS = rsW x s ∧ RA = rsG b (pr s.tail).toNat (itE s b).toNat (pr (rsL x)).toNat) := fun h => ⟨by rw [HRSS.out, rsS, if_pos (by rw [← HRE.out]; exact h)], by rw [HRA.out, rsA, if_pos (by rw [← HRE.out]; exact h)]⟩
  have HEE : Hid (RE = if x.any (fun k => decide (k < 0)) = true then 10 else if mayE (rsW x s) = 0 then if pr (rsL x) ≠ 0 ∧ itE s b = 0 then 11 else 0 else 17) := HRE.out
  have HM := Lib.hid hm
  have HMT := Lib.hid hmt
  have HL := Lib.hid (And.intro hxl (And.intro hbl hsl))
  have HIB := Lib.hid hib
  have HM12 := Lib.hid (And.intro hm1 hm2)
  have x0 := H1.out.cell (i := 0) rfl 1 _ rfl
  have f0 := H1.out.frozen (i := 2) rfl 0
  have f1 := H1.out.frozen (i := 2) rfl 1
  have p0 := H1.out.cell (i := 2) rfl 0 _ rfl
  have p1 := H1.out.cell (i := 2) rfl 1 _ rfl
  clear hX hY h0 hb1 hm hm1 hm2 hmt hxl hbl hsl hib HRE HRSS HRA
  by_cases hneg : x.any (fun k => decide (k < 0)) = true
  · rw [hneg] at CN
    obtain rfl : RE = 10 := by rw [HEE.out, if_pos hneg]
    obtain ⟨rfl, rfl⟩ := HBAD.out (by decide)
    have HF : Hid (∀ u v, MadeE w [] [] 10 (.returned (.tuple #[.agg #[.slice none 0 0, .slice none 0 0], .int .i64 10])) ((W.setCell ⟨b1 + 1 + 1, 0, none⟩ u).setCell ⟨b1 + 1 + 1, 1, none⟩ v)) := fun u v =>
      made_nil 10 ((H1.out.put (i := 2) rfl 0 u).put (i := 2) rfl 1 v).belowN
    clear H1 hneg HEE HGOOD HBAD
    go_enter Tryz.func95, Tryz.ntmps95
    go_upto_region 1 with fail
    rw [HW.out, HB1.out]
    go_wp2_with fail
    refine CN.out.mono ?_; rintro e w' ⟨rfl, hw'⟩
    have hw'' := hw'.symm
    subst hw''
    go_wp2
    exact bodyPost_ret (v := .tuple #[.agg #[.slice none 0 0, .slice none 0 0], .int .i64 10]) (by simp [results, Tryz.results95, go_sem, *]) rfl (HF.out _ _)
  · have hneg' : x.any (fun k => decide (k < 0)) = false := by simpa using hneg
    rw [hneg'] at CN
    have HE2 : Hid (RE = if mayE (rsW x s) = 0 then if pr (rsL x) ≠ 0 ∧ itE s b = 0 then 11 else 0 else 17) := by show _ = _; rw [HEE.out, if_neg hneg]
    have hnn : ∀ i, i < x.length → 0 ≤ x.getD i 0 := fun i hi => by
      rcases Int.lt_or_le (x.getD i 0) 0 with h | h
      · exact absurd (any_neg6.2 ⟨i, hi, h⟩) hneg
      · exact h
    have hLr : ∀ i, -9223372036854775808 ≤ (rsL x).getD i 0 ∧ (rsL x).getD i 0 ≤ 9223372036854775807 := fun i => by
      by_cases hi : i < x.length
      · have e : (rsL x).getD i 0 = min (x.getD i 0) 4097 := by simp [rsL, List.getD, hi]
        have := hnn i hi
        rw [e]; omega
      · simp [List.getD, List.getElem?_eq_none (show (rsL x).length ≤ i by simp [rsL]; omega)]
    have HLR := Lib.hid hLr
    obtain ⟨i0, hi0, hza, hzb, hzc⟩ := info_parts (P := Tryz.prog) (e := 3) (z := .int .i64 0) (size := 1) (bytes := 8) (by kernel_rfl)
    have HS : Hid (Sp Non w W [Pt.row ⟨38, 2, some ⟨b1, 0, none⟩, 1, 1, [.slice sa sn' sc', .slice aa an ac]⟩, Pt.row ⟨38, 2, some ⟨b1 + 1, 0, none⟩, 1, 1, [.slice ta tn tc, .slice ba bn bc]⟩, Pt.row ⟨38, 2, some ⟨b1 + 1 + 1, 0, none⟩, 1, 1, [.slice none 0 0, .slice none 0 0]⟩, Pt.ints 3 none 0 0 ((rsL x).take 0)]) := H1.out
    have HNN := Lib.hid hnn
    clear H1 hneg hneg' HEE hnn hLr f0 f1 p0 p1
    go_enter Tryz.func95, Tryz.ntmps95
    go_upto_region 1 with fail
    rw [HW.out, HB1.out]
    go_wp2_with fail
    refine CN.out.mono ?_; rintro e w' ⟨rfl, hw'⟩
    have hw'' := hw'.symm
    subst hw''
    clear CN hw'
    go_wp2_with fail
    go_loopw [6, 23] (fun v6 v23 wr => ∃ (k : Nat) (lo : Option Addr) (lc : Nat), k ≤ an ∧ v23 = .int .i64 k ∧ v6 = .slice lo k lc ∧ Hid (Sp Non w wr [Pt.row ⟨38, 2, some ⟨b1, 0, none⟩, 1, 1, [.slice sa sn' sc', .slice aa an ac]⟩, Pt.row ⟨38, 2, some ⟨b1 + 1, 0, none⟩, 1, 1, [.slice ta tn tc, .slice ba bn bc]⟩, Pt.row ⟨38, 2, some ⟨b1 + 1 + 1, 0, none⟩, 1, 1, [.slice none 0 0, .slice none 0 0]⟩, Pt.ints 3 lo k lc ((rsL x).take k)])) (fun _ v23 _ => an - (RowKit.intOf v23).toNat)
    case atStart => exact ⟨0, none, 0, Nat.zero_le _, rfl, rfl, HS⟩
    case round =>
      clear HS x0
      obtain ⟨k, lo, lc, hk, rfl, rfl, HO⟩ := hrel
      by_cases hlt : k < an
      · have hlt' : (k : Int) < an := by omega
        obtain ⟨b2, o2, e2, hc2⟩ := (HX.out.below HO.out.belowN (Nat.le_refl _)).ats.at (by simp only; omega)
        have d1 := hc2 k hlt
        simp only at e2 d1
        subst e2
        have hx0 := HNN.out k (by rw [HL.out.1]; exact hlt)
        have hxr := HX.out.ats.rng k
        simp only at hxr
        have hst : (rsL x).take (k + 1) = (rsL x).take k ++ [min (x.getD k 0) 4097] := by
          have hl : k < (rsL x).length := by simp [rsL, HL.out.1]; exact hlt
          rw [List.take_add_one, List.getElem?_eq_getElem hl]
          simp [rsL, List.getD, List.getElem?_eq_getElem (show k < x.length by rw [HL.out.1]; exact hlt)]
        have HST := Lib.hid hst
        obtain ⟨n, HN⟩ : ∃ z, Hid (x.getD k 0 = z) := ⟨_, rfl⟩
        rw [HN.out] at d1 hxr HST hx0
        have hmn : min n 4097 ≤ 4097 ∧ 0 ≤ min n 4097 := by omega
        obtain ⟨mn, HMN⟩ : ∃ z, Hid (min n 4097 = z) := ⟨_, rfl⟩
        have hst2 := HST.out
        rw [HMN.out] at hmn hst2
        have HST2 := Lib.hid hst2
        clear hst2
        have HV := Lib.hid (HO.out.via (abal wr (.cells #[.int .i64 mn] 3)))
        have hv' := HV.out
        rw [← HMN.out] at hv'
        have HV' := Lib.hid hv'
        clear hv'
        have hb1 : (k + 1) * 8 ≤ 140737488351232 := by omega
        clear hc2 hst HO HST
        go_wp2_with (at_builtin; refine Sp.wpList_loc (i := 3) HV'.out rfl _ _ 25 rfl 3 i0 Tryz.underlying25 hi0 hza hzb hzc rfl rfl rfl (ls_lit6 wr _ (by omega)) hb1 ?_)
        intro b9 d9 w9 h9
        have HNX : Hid (Sp Non w w9 [Pt.row ⟨38, 2, some ⟨b1, 0, none⟩, 1, 1, [.slice sa sn' sc', .slice (some ⟨b2, o2, none⟩) an ac]⟩, Pt.row ⟨38, 2, some ⟨b1 + 1, 0, none⟩, 1, 1, [.slice ta tn tc, .slice ba bn bc]⟩, Pt.row ⟨38, 2, some ⟨b1 + 1 + 1, 0, none⟩, 1, 1, [.slice none 0 0, .slice none 0 0]⟩, Pt.ints 3 b9 (k + 1) d9 ((rsL x).take (k + 1))]) := by
          show Sp _ _ _ _
          rw [HST2.out, ← HMN.out]; exact h9
        clear h9 HV HV' HST2 HMN hmn
        go_wp2_with fail
        go_roundw
        case rel => exact ⟨k + 1, b9, d9, by omega, by go_num, rfl, HNX⟩
        case measure => simp [RowKit.intOf]; omega
      · obtain rfl : k = an := by omega
        have hge : ¬ ((k : Int) < k) := by omega
        have HTK : Hid ((rsL x).take k = rsL x) := List.take_of_length_le (by simp [rsL, HL.out.1])
        have h20 := HO.out
        rw [HTK.out] at h20
        have H2 := Lib.hid h20
        clear HO HTK hk hlt h20
        obtain ⟨it, HIT⟩ : ∃ z, Hid (itE s b = z) := ⟨_, rfl⟩
        have hprt := pr_nonneg HMT.out
        obtain ⟨P, HP⟩ : ∃ P : Nat, Hid (pr s.tail = P) := ⟨(pr s.tail).toNat, (Int.toNat_of_nonneg hprt.1).symm⟩
        rw [HIT.out, HP.out, Int.toNat_natCast] at HGOOD
        rw [HIT.out] at HE2 HIB
        rw [HP.out] at hprt
        have CI : Hid (∀ w', Below w.heap.size w w' → Calls Tryz.prog 93 #[.agg #[.slice ta tn tc, .slice ba bn bc]] w' (RetB w' (.int .i64 it))) := fun w' hb => by
          have h := items_any (HY.out.below hb (Nat.le_refl _))
          simp only [Ar.v] at h
          rw [HIT.out] at h; exact h
        have CR : Hid (∀ w', Below w.heap.size w w' → Calls Tryz.prog 127 #[.agg #[.slice ta tn tc, .slice ba bn bc]] w' (RestP w' ta tn tc s)) := fun w' hb => by
          have h := rest6_any (HY.out.below hb (Nat.le_refl _))
          simp only [Ar.v] at h
          exact h
        have CP : Hid (∀ (w' : World) (ro : Option Addr) (rn rc : Nat), Below w.heap.size w w' → (∀ w'', Ls w'' ta tn tc s → Ls w'' ro rn rc s.tail) → Calls Tryz.prog 126 #[.slice ro rn rc] w' (RetS w' (.int .i64 P))) := fun w' ro rn rc hb hf => by
          have h := product_any (hf w' (HY.out.below hb (Nat.le_refl _)).shp) HMT.out
          rw [HP.out] at h; exact h
        go_upto_region 9 with fail
        go_cut [9, 10] from 33 to 37 (fun (v9 v10 : Value) (wx : World) => v9 = .int .i64 it ∧ v10 = .int .i64 P ∧ Hid (Sp Non w wx [Pt.row ⟨38, 2, some ⟨b1, 0, none⟩, 1, 1, [.slice sa sn' sc', .slice aa k ac]⟩, Pt.row ⟨38, 2, some ⟨b1 + 1, 0, none⟩, 1, 1, [.slice ta tn tc, .slice ba bn bc]⟩, Pt.row ⟨38, 2, some ⟨b1 + 1 + 1, 0, none⟩, 1, 1, [.slice none 0 0, .slice none 0 0]⟩, Pt.ints 3 lo k lc (rsL x)]))
        case first =>
          have HS_ := H2.out.via (adrew1 wr)
          try simp only [List.cons_append, List.nil_append, List.set_cons_zero, List.set_cons_succ, List.map_cons, List.map_nil, List.getD_cons_zero, List.getD_cons_succ, World.size_alloc] at HS_
          have HS := Lib.hid HS_
          clear HS_
          have y0 := H2.out.cell (i := 1) rfl 0 _ rfl
          have y1 := H2.out.cell (i := 1) rfl 1 _ rfl
          clear H2
          go_region_held3 (fun w'' => w''.cell? ⟨b1 + 1, 0, none⟩ = some (.slice ta tn tc) ∧ w''.cell? ⟨b1 + 1, 1, none⟩ = some (.slice ba bn bc)) (go_keep)
            (first
            | (go_at_call 93; (with_reducible refine Calls.mono (CI.out _ HS.out.belowN) ?_); rintro e wa ⟨rfl, hba⟩; have HS2 := Lib.hid (HS.out.via hba); clear HS hba y0 y1; have HS := HS2; clear HS2; have y0 := HS.out.cell (i := 1) rfl 0 _ rfl; have y1 := HS.out.cell (i := 1) rfl 1 _ rfl)
            | (go_at_call 127; (with_reducible refine Calls.mono (CR.out _ HS.out.belowN) ?_); rintro e wb ⟨ro, rn, rc, rfl, -, hbb, hfr⟩; have HFR := Lib.hid hfr; have HS2 := Lib.hid (HS.out.via hbb); clear HS hbb y0 y1 hfr; have HS := HS2; clear HS2; have y0 := HS.out.cell (i := 1) rfl 0 _ rfl; have y1 := HS.out.cell (i := 1) rfl 1 _ rfl)
            | (go_at_call 126; (with_reducible refine Calls.mono (CP.out _ _ _ _ HS.out.belowN HFR.out) ?_); rintro e wc' ⟨rfl, hw'⟩; have hw'' := hw'.symm; subst hw''))
          all_goals
            go_wp2_with fail
            go_meet
            exact ⟨rfl, rfl, HS⟩
        case rest =>
          obtain ⟨rfl, rfl, HQ⟩ := hcut
          obtain ⟨U, hU⟩ : ∃ z : World, z = wc := ⟨_, rfl⟩
          subst hU
          clear H2
          have y0 := HQ.out.cell (i := 1) rfl 0 _ rfl
          have y1 := HQ.out.cell (i := 1) rfl 1 _ rfl
          go_wp2_with fail
          refine (CR.out _ HQ.out.belowN).mono ?_; rintro e w3 ⟨ro, rn, rc, rfl, hl3, hb3, hfr⟩
          have hrn : rn ≤ 1000000 := by
            have h1 := hl3.len
            have h2 := (mayE_zero HMT.out).2.1
            omega
          have h3 := (HQ.out.via hb3).alloc 25 1 2 #[.slice lo k lc, .slice ro rn rc] rfl (by decide)
          have CT := Lib.hid (concat_two (h3.rlt (i := 4) rfl).1 (h3.cell (i := 4) rfl 0 _ rfl) (h3.cell (i := 4) rfl 1 _ rfl) (h3.ls (i := 3) rfl) (hl3.via (abal w3 _)) (by omega) hrn)
          have H3_ := h3
          try simp only [List.cons_append, List.nil_append, List.set_cons_zero, List.set_cons_succ, List.map_cons, List.map_nil, List.getD_cons_zero, List.getD_cons_succ, World.size_alloc] at H3_
          have H3 := Lib.hid H3_
          clear H3_
          clear h3 hl3 hb3 hfr hrn y0 y1 HQ CI CR CP
          go_wp2_with fail
          refine CT.out.mono ?_; rintro e w4 ⟨wo, wn, wc, rfl, hL4, hO4, hB4⟩
          have H4_ := H3.out.intsNew hO4 hB4 hL4.big hL4.rng
          try simp only [List.cons_append, List.nil_append, List.set_cons_zero, List.set_cons_succ, List.map_cons, List.map_nil, List.getD_cons_zero, List.getD_cons_succ, World.size_alloc] at H4_
          have H4 := Lib.hid H4_
          clear H4_
          clear hL4 hO4 hB4 CT H3
          have CM := Lib.hid (may_any (H4.out.ls (i := 5) rfl))
          have HWW : Hid (rsL x ++ s.tail = rsW x s) := rfl
          rw [HWW.out] at CM H4
          have p0 := H4.out.cell (i := 2) rfl 0 _ rfl
          have p1 := H4.out.cell (i := 2) rfl 1 _ rfl
          have f0 := H4.out.frozen (i := 2) rfl 0
          have f1 := H4.out.frozen (i := 2) rfl 1
          have HBX : Hid (∀ (err : Int) u v, MadeE w [] [] err (.returned (.tuple #[.agg #[.slice none 0 0, .slice none 0 0], .int .i64 err])) ((w4.setCell ⟨b1 + 1 + 1, 0, none⟩ u).setCell ⟨b1 + 1 + 1, 1, none⟩ v)) := fun err u v =>
            made_nil err ((H4.out.put (i := 2) rfl 0 u).put (i := 2) rfl 1 v).belowN
          by_cases hmw : mayE (rsW x s) = 0
          · have hml : mayE (rsL x) = 0 := (mayE_app (s := rsL x) (t := s.tail) hmw).1
            have hpn := pr_nonneg hml
            obtain ⟨N, HN⟩ : ∃ N : Nat, Hid (pr (rsL x) = N) := ⟨(pr (rsL x)).toNat, (Int.toNat_of_nonneg hpn.1).symm⟩
            have cpr := product_any (H4.out.ls (i := 3) rfl) hml
            rw [HN.out] at hpn cpr
            obtain ⟨M, HMM⟩ : ∃ M : Int, Hid ((N : Int) = M) := ⟨_, rfl⟩
            rw [HMM.out] at cpr
            have CPR := Lib.hid cpr
            clear cpr
            rw [hmw] at CM
            have he3 := HE2.out
            rw [if_pos hmw, HN.out] at he3
            have HE3 := Lib.hid he3
            clear he3
            rw [HN.out, Int.toNat_natCast] at HGOOD
            have HMW := Lib.hid hmw
            clear HE2 hmw hml
            go_wp2_with fail
            refine CM.out.mono ?_; rintro e w' ⟨rfl, hw'⟩
            have hw'' := hw'.symm
            subst hw''
            clear CM hw'
            go_wp2_with fail
            refine CPR.out.mono ?_; rintro e w' ⟨rfl, hw'⟩
            have hw'' := hw'.symm
            subst hw''
            clear CPR hw'
            by_cases hbad : N ≠ 0 ∧ it = 0
            · obtain ⟨hN0, rfl⟩ := hbad
              obtain rfl : RE = 11 := by rw [HE3.out, if_pos ⟨by omega, rfl⟩]
              obtain ⟨rfl, rfl⟩ := HBAD.out (by decide)
              have q0 : (M != 0) = true := by rw [← HMM.out]; simp; omega
              have HF := Lib.hid (HBX.out 11)
              clear HBX HBAD HGOOD HE3 H4 hpn hN0 hge hprt
              go_wp2
              exact bodyPost_ret (v := .tuple #[.agg #[.slice none 0 0, .slice none 0 0], .int .i64 11]) (by simp [results, Tryz.results95, go_sem, p0, p1, f0, f1]) rfl (HF.out _ _)
            · obtain rfl : RE = 0 := by rw [HE3.out, if_neg (fun h => hbad ⟨by omega, h.2⟩)]
              obtain ⟨rfl, rfl⟩ := HGOOD.out rfl
              clear HBX HBAD HGOOD HE3
              have HOK : Hid (0 < N → 0 < it) := fun h => by
                have := HIB.out
                rcases (show it = 0 ∨ 0 < it by omega) with h2 | h2
                · exact absurd ⟨by omega, h2⟩ hbad
                · exact h2
              have hNb : N ≤ 4096 := by omega
              have HPB : Hid (P ≤ 4096) := by show P ≤ 4096; omega
              have hq : (M != 0) = false ∨ ((M != 0) = true ∧ (it == 0) = false) := by
                rw [← HMM.out]
                by_cases h : N = 0
                · left; simp [h]
                · right
                  have := HOK.out (by omega)
                  exact ⟨by simp; omega, by simp; omega⟩
              clear hbad p0 p1 f0 f1
              clear hpn hprt hge
              rcases hq with q0 | ⟨q0, q1⟩
              all_goals
                go_upto_region 16 with fail
                have hMe := HMM.out
                subst hMe
                clear q0
                try clear q1
                obtain ⟨b8, HB8⟩ : ∃ z, Hid (w4.heap.size = z) := ⟨_, rfl⟩
                obtain ⟨q, hq⟩ : ∃ q : Nat, it = q := ⟨it.toNat, (Int.toNat_of_nonneg HIB.out.1).symm⟩
                subst hq
                simp only [Int.toNat_natCast]
                have H5_ := (H4.out.alloc 38 2 1 #[.slice wo wn wc, .slice none 0 0] rfl (by decide)).intsNew (E := 2) (zs := []) (World.ownsRow_nil _ _ _ _) (Below.refl _ _) (by omega) (fun i => by simp [List.getD])
                try simp only [List.cons_append, List.nil_append, List.set_cons_zero, List.set_cons_succ, List.map_cons, List.map_nil, List.getD_cons_zero, List.getD_cons_succ, World.size_alloc] at H5_
                have H5 := Lib.hid H5_
                clear H5_
                rw [HB8.out] at H5
                have HS : Hid (Sp Non w (w4.alloc (.cells #[.slice wo wn wc, .slice none 0 0] 38)) [Pt.row ⟨38, 2, some ⟨b1, 0, none⟩, 1, 1, [.slice sa sn' sc', .slice aa k ac]⟩, Pt.row ⟨38, 2, some ⟨b1 + 1, 0, none⟩, 1, 1, [.slice ta tn tc, .slice ba bn bc]⟩, Pt.row ⟨38, 2, some ⟨b1 + 1 + 1, 0, none⟩, 1, 1, [.slice none 0 0, .slice none 0 0]⟩, Pt.ints 3 lo k lc (rsL x), Pt.ints 3 wo wn wc (rsW x s), Pt.row ⟨38, 2, some ⟨b8, 0, none⟩, 1, 1, [.slice wo wn wc, .slice none (0 * P) 0]⟩, Pt.ints 2 none (0 * P) 0 (rsG b P q 0)]) := by
                  show Sp _ _ _ _
                  rw [Nat.zero_mul]
                  exact H5.out.pick [0, 1, 2, 3, 5, 6, 7] (by decide)
                have hBN : bn = q * P ∨ N = 0 := by
                  by_cases hN0 : N = 0
                  · exact .inr hN0
                  · left
                    have hq0 := HOK.out (by omega)
                    obtain ⟨m, e1, e2, -⟩ := item_part HM.out (by rw [HIT.out]; omega)
                    rw [HIT.out, HL.out.2.1] at e1
                    rw [HP.out] at e2
                    have e3 : m = P := by omega
                    subst e3
                    exact_mod_cast e1
                have HBN := Lib.hid hBN
                clear H4 H5 hBN
                go_wp2_with fail
                rw [HB8.out]
                go_loopw [59] (fun v w2' => ∃ (i : Nat) (yo : Option Addr) (yc : Nat), i ≤ N ∧ v = .int .i64 i ∧ Hid (Sp Non w w2' [Pt.row ⟨38, 2, some ⟨b1, 0, none⟩, 1, 1, [.slice sa sn' sc', .slice aa k ac]⟩, Pt.row ⟨38, 2, some ⟨b1 + 1, 0, none⟩, 1, 1, [.slice ta tn tc, .slice ba bn bc]⟩, Pt.row ⟨38, 2, some ⟨b1 + 1 + 1, 0, none⟩, 1, 1, [.slice none 0 0, .slice none 0 0]⟩, Pt.ints 3 lo k lc (rsL x), Pt.ints 3 wo wn wc (rsW x s), Pt.row ⟨38, 2, some ⟨b8, 0, none⟩, 1, 1, [.slice wo wn wc, .slice yo (i * P) yc]⟩, Pt.ints 2 yo (i * P) yc (rsG b P q i)])) (fun v _ => N - (RowKit.intOf v).toNat)
                case atStart => exact ⟨0, none, 0, Nat.zero_le _, rfl, HS⟩
                case round =>
                  clear HS
                  obtain ⟨i, yo, yc, hi, rfl, HO⟩ := hrel
                  by_cases hlt : i < N
                  · have hlt' : (i : Int) < N := by omega
                    have hq0 := HOK.out (by omega)
                    have hbq : bn = q * P := by rcases HBN.out with h | h; exact h; omega
                    obtain ⟨kk, HKK⟩ : ∃ z, Hid (i % q = z) := ⟨_, rfl⟩
                    have hkq : kk < q := by rw [← HKK.out]; exact Nat.mod_lt _ (by omega)
                    have hr1 : Int.tmod (i : Int) (q : Int) = kk := by rw [← HKK.out]; rfl
                    have hr2 : (i : Int) % (q : Int) = kk := by rw [← HKK.out]; exact_mod_cast rfl
                    obtain ⟨p, HPP⟩ : ∃ p, Hid (kk * P = p) := ⟨_, rfl⟩
                    have hpm : p + P ≤ bn := by
                      have h1 := Nat.mul_le_mul_right P (Nat.succ_le_of_lt hkq)
                      rw [Nat.succ_mul, HPP.out] at h1
                      omega
                    have hpi : (kk : Int) * P = p := by rw [← HPP.out]; push_cast; rfl
                    have hpj : ((kk : Int) + 1) * P = p + P := by rw [Int.add_mul, hpi, Int.one_mul]
                    have hI := HY.out.below HO.out.belowN (Nat.le_refl _)
                    have hbnb : bn ≤ 4096 := by
                      have h1 := HM12.out
                      have h2 := pr_nonneg h1.1
                      have h3 := HL.out.2.1
                      omega
                    have hac := hI.ats.cap
                    have hPb := HPB.out
                    have hqb : q ≤ 4096 := by have := HIB.out.2; omega
                    have hiP : i * P ≤ 17000000 := by have := Nat.mul_le_mul (show i ≤ 4096 by omega) hPb; omega
                    have HIP := Lib.hid hiP
                    have z6 : IntKind.i64.wrap ((kk : Int) * P) = p := by rw [hpi]; exact IntWalk.i64_in _ (by omega)
                    have z7 : IntKind.i64.wrap (((kk : Int) + 1) * P) = p + P := by rw [hpj]; exact IntWalk.i64_in _ (by omega)
                    have z11 : IntKind.i64.wrap ((kk : Int) + 1) = kk + 1 := IntWalk.i64_in _ (by omega)
                    have z12 : ¬ (q : Int) = 0 := by omega
                    have z13 : ((q : Int) == 0) = false := by simpa using z12
                    have z14 : ¬ q = 0 := by omega
                    have z15 : (q == 0) = false := by simpa using z14
                    have HSU : Hid (rsG b P q (i + 1) = rsG b P q i ++ ckL P kk b) := by show _ = _; rw [rsG_succ, HKK.out]
                    obtain ⟨j0, hj0, hja, hjb, hjc⟩ := info_parts (P := Tryz.prog) (e := 2) (z := .int .i64 0) (size := 1) (bytes := 8) (by kernel_rfl)
                    have hby : (i * P + P) * 8 ≤ 140737488351232 := by omega
                    have HEN : Hid ((i + 1) * P = i * P + P) := by show _ = _; rw [Nat.succ_mul]
                    clear hpi hpj hbq hiP hPb
                    rcases (show p = bc ∨ p < bc by have := hac; simp only at this; omega) with hpc | hpc
                    · have hP0 : P = 0 := by simp only at hac; omega
                      subst hpc
                      have HCK : Hid (ckL P kk b = (b.drop p).take P) := by show _ = _; rw [← HPP.out]; rfl
                      have ls0 : Ls wr.drew ba P 0 ((b.drop p).take P) := by
                        rw [hP0, List.take_zero]
                        exact Ls.zero wr.drew ba (Nat.zero_le _ : 0 ≤ maxLen)
                      have z1 : (0 : Int) ≤ p := by omega
                      have z2 : (p : Int) ≤ p + P := by omega
                      have z3 : (p : Int) + P ≤ p := by omega
                      have z5 : ((p : Int) + P).toNat = p + P := by omega
                      have z10 : p + P - p = P := by omega
                      clear hP0
                      have HV := Lib.hid (HO.out.via (adrew1 wr))
                      have LL := Lib.hid (ls0)
                      have y5 := HO.out.cell (i := 5) rfl 1 _ rfl
                      have y1 := HO.out.cell (i := 1) rfl 1 _ rfl
                      have HNX : Hid (∀ (w9 : World) (b9 : Option Addr) (d9 : Nat), Sp Non w w9 [Pt.row ⟨38, 2, some ⟨b1, 0, none⟩, 1, 1, [.slice sa sn' sc', .slice aa k ac]⟩, Pt.row ⟨38, 2, some ⟨b1 + 1, 0, none⟩, 1, 1, [.slice ta tn tc, .slice ba bn p]⟩, Pt.row ⟨38, 2, some ⟨b1 + 1 + 1, 0, none⟩, 1, 1, [.slice none 0 0, .slice none 0 0]⟩, Pt.ints 3 lo k lc (rsL x), Pt.ints 3 wo wn wc (rsW x s), Pt.row ⟨38, 2, some ⟨b8, 0, none⟩, 1, 1, [.slice wo wn wc, .slice yo (i * P) yc]⟩, Pt.ints 2 b9 (i * P + P) d9 (rsG b P q i ++ ((b.drop p).take P))] → Sp Non w (w9.setCell ⟨b8, 1, none⟩ (.slice b9 (i * P + P) d9)) [Pt.row ⟨38, 2, some ⟨b1, 0, none⟩, 1, 1, [.slice sa sn' sc', .slice aa k ac]⟩, Pt.row ⟨38, 2, some ⟨b1 + 1, 0, none⟩, 1, 1, [.slice ta tn tc, .slice ba bn p]⟩, Pt.row ⟨38, 2, some ⟨b1 + 1 + 1, 0, none⟩, 1, 1, [.slice none 0 0, .slice none 0 0]⟩, Pt.ints 3 lo k lc (rsL x), Pt.ints 3 wo wn wc (rsW x s), Pt.row ⟨38, 2, some ⟨b8, 0, none⟩, 1, 1, [.slice wo wn wc, .slice b9 ((i + 1) * P) d9]⟩, Pt.ints 2 b9 ((i + 1) * P) d9 (rsG b P q (i + 1))]) := fun w9 b9 d9 h9 => by
                        rw [HEN.out, HSU.out, HCK.out]
                        exact h9.put (i := 5) rfl 1 (.slice b9 (i * P + P) d9)
                      clear hI hac hpm HO
                      go_upto_region 21 with fail
                      go_region_law (first
                        | (refine Sp.step_loc HV.out rfl _ _ 28 (by rfl) 2 j0 Tryz.underlying28 hj0 hja hjb hjc (i := 6) rfl (by rfl) (by rfl) LL.out hby ?_; intro b9 d9 w9 h9; have q1 := h9.cell (i := 5) rfl 1 _ rfl; have q2 := h9.frozen (i := 5) rfl 1))
                      all_goals
                        have HG := Lib.hid (HNX.out w9 b9 d9 h9)
                        clear h9 HNX HV
                        go_wp2_with fail
                        go_roundw
                        case rel => exact ⟨i + 1, b9, d9, by omega, by go_num, HG⟩
                        case measure => simp [RowKit.intOf]; omega
                    · have HCK : Hid (ckL P kk b = (b.drop p).take P) := by show _ = _; rw [← HPP.out]; rfl
                      have z0 : ¬ bc = p := by omega
                      have z1 : (0 : Int) ≤ p := by omega
                      have z2 : (p : Int) ≤ p + P := by omega
                      have z3 : (p : Int) + P ≤ bc := by simp only at hac; omega
                      have z5 : ((p : Int) + P).toNat = p + P := by omega
                      have z8 : (p : Int) < bc := by omega
                      have z9 : ¬ bc - p = 0 := by omega
                      have z10 : p + P - p = P := by omega
                      have HV := Lib.hid (HO.out.via (adrew1 wr))
                      have LL := Lib.hid ((hI.ats.cutA p P hpm).via (adrew1 _))
                      have y5 := HO.out.cell (i := 5) rfl 1 _ rfl
                      have y1 := HO.out.cell (i := 1) rfl 1 _ rfl
                      have HNX : Hid (∀ (w9 : World) (b9 : Option Addr) (d9 : Nat), Sp Non w w9 [Pt.row ⟨38, 2, some ⟨b1, 0, none⟩, 1, 1, [.slice sa sn' sc', .slice aa k ac]⟩, Pt.row ⟨38, 2, some ⟨b1 + 1, 0, none⟩, 1, 1, [.slice ta tn tc, .slice ba bn bc]⟩, Pt.row ⟨38, 2, some ⟨b1 + 1 + 1, 0, none⟩, 1, 1, [.slice none 0 0, .slice none 0 0]⟩, Pt.ints 3 lo k lc (rsL x), Pt.ints 3 wo wn wc (rsW x s), Pt.row ⟨38, 2, some ⟨b8, 0, none⟩, 1, 1, [.slice wo wn wc, .slice yo (i * P) yc]⟩, Pt.ints 2 b9 (i * P + P) d9 (rsG b P q i ++ ((b.drop p).take P))] → Sp Non w (w9.setCell ⟨b8, 1, none⟩ (.slice b9 (i * P + P) d9)) [Pt.row ⟨38, 2, some ⟨b1, 0, none⟩, 1, 1, [.slice sa sn' sc', .slice aa k ac]⟩, Pt.row ⟨38, 2, some ⟨b1 + 1, 0, none⟩, 1, 1, [.slice ta tn tc, .slice ba bn bc]⟩, Pt.row ⟨38, 2, some ⟨b1 + 1 + 1, 0, none⟩, 1, 1, [.slice none 0 0, .slice none 0 0]⟩, Pt.ints 3 lo k lc (rsL x), Pt.ints 3 wo wn wc (rsW x s), Pt.row ⟨38, 2, some ⟨b8, 0, none⟩, 1, 1, [.slice wo wn wc, .slice b9 ((i + 1) * P) d9]⟩, Pt.ints 2 b9 ((i + 1) * P) d9 (rsG b P q (i + 1))]) := fun w9 b9 d9 h9 => by
                        rw [HEN.out, HSU.out, HCK.out]
                        exact h9.put (i := 5) rfl 1 (.slice b9 (i * P + P) d9)
                      clear hI hac hpm HO
                      go_upto_region 21 with fail
                      go_region_law (first
                        | (refine Sp.step_loc HV.out rfl _ _ 28 (by rfl) 2 j0 Tryz.underlying28 hj0 hja hjb hjc (i := 6) rfl (by rfl) (by rfl) LL.out hby ?_; intro b9 d9 w9 h9; have q1 := h9.cell (i := 5) rfl 1 _ rfl; have q2 := h9.frozen (i := 5) rfl 1))
                      all_goals
                        have HG := Lib.hid (HNX.out w9 b9 d9 h9)
                        clear h9 HNX HV
                        go_wp2_with fail
                        go_roundw
                        case rel => exact ⟨i + 1, b9, d9, by omega, by go_num, HG⟩
                        case measure => simp [RowKit.intOf]; omega
                  · obtain rfl : i = N := by omega
                    have hge : ¬ ((i : Int) < i) := by omega
                    have H7_ := HO.out.arrOf (i := 4) (j := 6) rfl (by decide) rfl
                    try simp only [List.cons_append, List.nil_append, List.set_cons_zero, List.set_cons_succ, List.map_cons, List.map_nil, List.getD_cons_zero, List.getD_cons_succ, World.size_alloc] at H7_
                    have H7 := Lib.hid H7_
                    clear H7_
                    have x2 := H7.out.cell (i := 2) rfl 0 _ rfl
                    have x3 := H7.out.cell (i := 2) rfl 1 _ rfl
                    have y5 := H7.out.cell (i := 5) rfl 0 _ rfl
                    have y6 := H7.out.cell (i := 5) rfl 1 _ rfl
                    have g0 := H7.out.frozen (i := 2) rfl 0
                    have g1 := H7.out.frozen (i := 2) rfl 1
                    have HF : Hid (∀ u v, MadeE w (rsW x s) (rsG b P q i) 0 (.returned (.tuple #[.agg #[.slice wo wn wc, .slice yo (i * P) yc], .int .i64 0])) ((wr.setCell ⟨b1 + 1 + 1, 0, none⟩ u).setCell ⟨b1 + 1 + 1, 1, none⟩ v)) := fun u v =>
                      ((H7.out.put (i := 2) rfl 0 u).put (i := 2) rfl 1 v).madeE (i := 6) (B := ⟨wo, wn, wc, yo, i * P, yc, rsW x s, rsG b P q i⟩) rfl 0
                    clear H7 HO
                    go_wp2
                    exact bodyPost_ret (v := .tuple #[.agg #[.slice wo wn wc, .slice yo (i * P) yc], .int .i64 0]) (by simp [results, Tryz.results95, go_sem, *]) rfl (HF.out _ _)
          · obtain rfl : RE = 17 := by rw [HE2.out, if_neg hmw]
            obtain ⟨rfl, rfl⟩ := HBAD.out (by decide)
            obtain ⟨m, hmm⟩ : ∃ m, m = mayE (rsW x s) := ⟨_, rfl⟩
            rw [← hmm] at CM hmw
            have q0 : (m != 0) = true := by simpa using hmw
            have HF := Lib.hid (HBX.out 17)
            clear HBX HBAD HGOOD HE2 H4 hmw hmm
            go_wp2_with fail
            refine CM.out.mono ?_; rintro e w' ⟨rfl, hw'⟩
            have hw'' := hw'.symm
            subst hw''
            go_wp2
            exact bodyPost_ret (v := .tuple #[.agg #[.slice none 0 0, .slice none 0 0], .int .i64 17]) (by simp [results, Tryz.results95, go_sem, *]) rfl (HF.out _ _)
end Go.Proofs.YthackmkdicpdeaaGreat
