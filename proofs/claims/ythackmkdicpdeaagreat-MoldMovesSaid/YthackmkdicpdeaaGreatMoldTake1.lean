/- The functions that mold.take, drop and rotate hand to picked. -/
import Derived.Test.YthackmkdicpdeaaGreatMoldTurn
namespace Go.Proofs.YthackmkdicpdeaaGreat
open Go.RowKit Go.Lib
set_option linter.unusedVariables false
set_option linter.unusedSimpArgs false
attribute [local go_sem] alloc_drewN setCell_drewN
/-- A list whose first i are told by a function. -/
def updG (f : Nat → Int) (t : List Int) (i : Nat) : List Int := (List.range t.length).map fun j => if j < i then f j else t.getD j 0
theorem updG_len (f : Nat → Int) (t : List Int) (i : Nat) : (updG f t i).length = t.length := by simp [updG]
theorem updG_at {f : Nat → Int} {t : List Int} {i j : Nat} (h : j < t.length) : (updG f t i).getD j 0 = if j < i then f j else t.getD j 0 := by
  simp [updG, List.getD, h]
theorem updG_zero (f : Nat → Int) (t : List Int) : updG f t 0 = t := by
  refine getD_ext (by simp [updG]) fun p hp => ?_
  rw [updG_at (by simpa [updG] using hp), if_neg (by omega)]
theorem updG_step {f : Nat → Int} {t : List Int} {i : Nat} (h : i < t.length) : (updG f t i).set i (f i) = updG f t (i + 1) := by
  refine getD_ext (by simp [updG]) fun p hp => ?_
  have hp' : p < t.length := by simpa [updG] using hp
  rw [updG_at hp']
  have h4 := updG_at (f := f) (i := i) hp'
  simp only [List.getD, List.getElem?_set, updG_len] at h4 ⊢
  by_cases e : i = p
  · rw [if_pos e, if_pos (by omega), if_pos (by omega), e]; rfl
  · rw [if_neg e, h4]
    by_cases e3 : p < i
    · rw [if_pos e3, if_pos (by omega)]
    · rw [if_neg e3, if_neg (by omega)]
theorem updG_same {f : Nat → Int} {t : List Int} {i : Nat} (h : i < t.length) (hf : f i = t.getD i 0) : updG f t (i + 1) = updG f t i := by
  refine getD_ext (by simp [updG]) fun p hp => ?_
  have hp' : p < t.length := by simpa [updG] using hp
  rw [updG_at hp', updG_at hp']
  by_cases e : p = i
  · subst e
    rw [if_pos (by omega), if_neg (by omega), hf]
  · by_cases e3 : p < i
    · rw [if_pos e3, if_pos (by omega)]
    · rw [if_neg e3, if_neg (by omega)]
theorem updG_rng {f : Nat → Int} {t : List Int} (h : ∀ i, -9223372036854775808 ≤ t.getD i 0 ∧ t.getD i 0 ≤ 9223372036854775807) (i : Nat) (hf : ∀ j, j < i → j < t.length → -9223372036854775808 ≤ f j ∧ f j ≤ 9223372036854775807) (p : Nat) : -9223372036854775808 ≤ (updG f t i).getD p 0 ∧ (updG f t i).getD p 0 ≤ 9223372036854775807 := by
  by_cases hp : p < t.length
  · rw [updG_at hp]
    split
    · exact hf p ‹_› hp
    · exact h p
  · simp [List.getD, List.getElem?_eq_none (show (updG f t i).length ≤ p by rw [updG_len]; omega)]
theorem tmod_bd (n : Int) {b : Int} (hb : 0 < b) : -b < n.tmod b ∧ n.tmod b < b := by
  have h := Int.tmod_lt_of_pos n hb
  refine ⟨?_, h⟩
  have h2 := Int.tmod_lt_of_pos (-n) hb
  rw [Int.neg_tmod] at h2
  omega
def tkf (x y S t : List Int) (j : Nat) : Int := if x.getD j 0 < 0 then t.getD j 0 + (y.getD j 0 - S.getD j 0) else t.getD j 0
def drf (x t : List Int) (j : Nat) : Int := if 0 < x.getD j 0 then t.getD j 0 + fa (x.getD j 0) else t.getD j 0
def rof (x y t : List Int) (j : Nat) : Int := (t.getD j 0 + (x.getD j 0).tmod (y.getD j 0)) % y.getD j 0
def tkF (x y S : List Int) (k : Nat) : Int := atF y (updG (tkf x y S (ixL S k)) (ixL S k) x.length)
def drF (x y S : List Int) (k : Nat) : Int := atF y (updG (drf x (ixL S k)) (ixL S k) x.length)
def roF (x y : List Int) (k : Nat) : Int := atF y (updG (rof x y (ixL y k)) (ixL y k) x.length)
set_option maxRecDepth 100000 in
set_option maxHeartbeats 3200000 in
theorem take1_any {w0 W : World} (hb : Below w0.heap.size w0 W) {F : Nat → Prop} (hF : ∀ g, F g → w0.heap.size ≤ g) {gx gy : Nat} {aa ta : Option Addr} {an ac tn tc : Nat} {x y : List Int} (hgx : gx < w0.heap.size) (hgy : gy < w0.heap.size) (hcx : w0.cell? ⟨gx, 1, none⟩ = some (.slice aa an ac)) (hcy : w0.cell? ⟨gy, 0, none⟩ = some (.slice ta tn tc)) (hX : Ls w0 aa an ac x) (hY : Ls w0 ta tn tc y)
    {gs : Nat} {so : Option Addr} {sn sc : Nat} {S : List Int} (hgs : gs < w0.heap.size) (hcs : w0.cell? ⟨gs, 0, none⟩ = some (.slice so sn sc)) (hS : Ls w0 so sn sc S)
    (hm : mayE S = 0) (hy : ∀ j, 0 ≤ y.getD j 0 ∧ y.getD j 0 ≤ 4096) (hlen : S.length = tn) (han : an ≤ tn)
    {xo : Option Addr} {xn xc k : Nat} (hk : (k : Int) < pr S) (hx : (Pt.ints 3 xo xn xc (ixL S k)).P W F) :
    Calls Tryz.prog 146 #[.slice xo xn xc, .pointer (some ⟨gx, 0, none⟩), .pointer (some ⟨gy, 0, none⟩), .pointer (some ⟨gs, 0, none⟩)] W (PlQ F W (tkF x y S k)) := by
  have hp0 := Sp.one hx
  have hls := hp0.ls (i := 0) rfl
  have hxl : (ixL S k).length = xn := hls.len
  have hil := ixL_len S (k : Int)
  have hl8 := (mayE_zero hm).2.1
  have hxn : xn = tn := by omega
  subst hxn
  have hxll : x.length = an := hX.len
  have H0 := hp0.toRow (i := 0) rfl
  have HR1 := Lib.hid (ixL_bd hm hk)
  have HSB := Lib.hid (may_bd hm)
  have HRG := Lib.hid (ixL_rg hm hk)
  have HE : Hid (tkF x y S k = atF y (updG (tkf x y S (ixL S k)) (ixL S k) an)) := by show _ = _; rw [← hxll]; rfl
  rw [HE.out]
  obtain ⟨t, HT⟩ : ∃ z, Hid (ixL S k = z) := ⟨_, rfl⟩
  rw [HT.out] at hxl HR1 HRG H0 ⊢
  have HST : Hid (Sp F W W [Pt.row ⟨3, 1, xo, xn, xc, (updG (tkf x y S t) t 0).map (Value.int .i64)⟩]) := by
    show Sp _ _ _ _
    rw [updG_zero]; exact H0
  have HB := Lib.hid hb
  have HF := Lib.hid hF
  have HXX := Lib.hid hX
  have HYY := Lib.hid hY
  have HSS := Lib.hid hS
  have HY4 := Lib.hid hy
  have HTL := Lib.hid hxl
  have d0 := (hb.cell (p := ⟨gx, 1, none⟩) hgx).trans hcx
  have han8 : an ≤ 8 := by omega
  have hxn8 : xn ≤ 8 := by omega
  clear hb hF hx hX hY hy hp0 hls H0 hxl hil HE HT hm hk hl8 hS
  go_enter Tryz.func146, Tryz.ntmps146
  go_wp2_with fail
  go_loopw [11] (fun v wr => ∃ i : Nat, i ≤ an ∧ v = .int .i64 i ∧ Hid (Sp F W wr [Pt.row ⟨3, 1, xo, xn, xc, (updG (tkf x y S t) t i).map (Value.int .i64)⟩])) (fun v _ => an - (RowKit.intOf v).toNat)
  case atStart => exact ⟨0, Nat.zero_le _, rfl, HST⟩
  case round =>
    clear HST d0
    obtain ⟨i, hi, rfl, HO⟩ := hrel
    have HBW := Lib.hid (HB.out.trans (HO.out.below HF.out HB.out.size))
    by_cases hlt : i < an
    · have hlt' : (i : Int) < an := by omega
      obtain ⟨bx, ox, ex, hcx1⟩ := (HXX.out.below HBW.out (Nat.le_refl _)).at (by omega)
      have d1 := hcx1 i hlt
      have hxr := HXX.out.rng i
      subst ex
      obtain ⟨n, HN⟩ : ∃ z, Hid (x.getD i 0 = z) := ⟨_, rfl⟩
      rw [HN.out] at d1 hxr
      obtain ⟨c1, c2, c3, c4, c5⟩ := HO.out.rcap (i := 0) rfl
      obtain ⟨go, rfl⟩ := c5 (by omega)
      have hti : (updG (tkf x y S t) t i).getD i 0 = t.getD i 0 := by rw [updG_at (by rw [HTL.out]; omega), if_neg (by omega)]
      have t0 := HO.out.cell (i := 0) rfl i (.int .i64 (t.getD i 0)) (by rw [getD_map_int _ _ (by rw [updG_len, HTL.out]; omega), hti])
      have t1 := HO.out.frozen (i := 0) rfl i
      have hb0 := HR1.out i
      have HPUT : Hid (Sp F W (wr.setCell ⟨go, i, none⟩ (.int .i64 (tkf x y S t i))).drew [Pt.row ⟨3, 1, some ⟨go, 0, none⟩, xn, xc, (updG (tkf x y S t) t (i + 1)).map (Value.int .i64)⟩]) := by
        have h2 := (HO.out.put (i := 0) rfl i (.int .i64 (tkf x y S t i))).via (adrew1 _)
        rw [← List.map_set] at h2
        have h3 := updG_step (f := tkf x y S t) (t := t) (i := i) (by rw [HTL.out]; omega)
        rw [h3] at h2
        exact h2
      have hix : (i : Int) < xn := by omega
      have hixc : (i : Int) < xc := by omega
      have e0 := (HBW.out.cell (p := ⟨gy, 0, none⟩) hgy).trans hcy
      have e1 := (HBW.out.cell (p := ⟨gs, 0, none⟩) hgs).trans hcs
      obtain ⟨by_, oy, ey, hcy1⟩ := (HYY.out.below HBW.out (Nat.le_refl _)).at (by omega)
      have d2 := hcy1 i (by omega)
      subst ey
      obtain ⟨bs, os, es, hcs1⟩ := (HSS.out.below HBW.out (Nat.le_refl _)).at (by have := HSS.out.len; omega)
      have d3 := hcs1 i (by have := HSS.out.len; omega)
      subst es
      have hisn : (i : Int) < sn := by have := HSS.out.len; omega
      have hyb := HY4.out i
      have hsb := HSB.out i
      have HFF : Hid (tkf x y S t i = if n < 0 then t.getD i 0 + (y.getD i 0 - S.getD i 0) else t.getD i 0) := by show _ = _; unfold tkf; rw [HN.out]
      have HSM := Lib.hid (updG_same (f := tkf x y S t) (t := t) (i := i) (by rw [HTL.out]; omega))
      obtain ⟨ti, HTI⟩ : ∃ z, Hid (t.getD i 0 = z) := ⟨_, rfl⟩
      rw [HTI.out] at t0 hb0 HFF HSM
      obtain ⟨yi, HYI⟩ : ∃ z, Hid (y.getD i 0 = z) := ⟨_, rfl⟩
      rw [HYI.out] at d2 hyb HFF
      obtain ⟨si, HSI⟩ : ∃ z, Hid (S.getD i 0 = z) := ⟨_, rfl⟩
      rw [HSI.out] at d3 hsb HFF
      by_cases hn : n < 0
      · rw [if_pos hn] at HFF
        rw [HFF.out] at HPUT
        have z1 : IntKind.i64.wrap (yi - si) = yi - si := IntWalk.i64_in _ (by omega)
        have z2 : IntKind.i64.wrap (ti + (yi - si)) = ti + (yi - si) := IntWalk.i64_in _ (by omega)
        clear HFF HSM HO HBW hcx1 hcy1 hcs1 c1 c2 c3 c4 c5 hti hxr
        go_upto_region 5 with fail
        refine region_tail 16 (by kernel_rfl) (by kernel_rfl) ?_
        simp only [List.take_succ_cons, List.take_zero, List.drop_succ_cons, List.drop_zero]
        iterate 16 still_step
        refine wpStill_nil ?_
        go_wp2_with fail
        go_roundw
        case rel => exact ⟨i + 1, by omega, by go_num, HPUT⟩
        case measure => simp [RowKit.intOf]; omega
      · rw [if_neg hn] at HFF
        have HNX : Hid (Sp F W wr [Pt.row ⟨3, 1, some ⟨go, 0, none⟩, xn, xc, (updG (tkf x y S t) t (i + 1)).map (Value.int .i64)⟩]) := by
          show Sp _ _ _ _
          rw [HSM.out HFF.out]; exact HO.out
        clear HFF HSM HO HPUT HBW hcx1 hcy1 hcs1 c1 c2 c3 c4 c5 hti hxr e0 e1 d2 d3 t0 t1
        go_wp2_with fail
        go_roundw
        case rel => exact ⟨i + 1, by omega, by go_num, HNX⟩
        case measure => simp [RowKit.intOf]; omega
    · obtain rfl : i = an := by omega
      have hge : ¬ ((i : Int) < i) := by omega
      have hfr : ∀ j, j < i → j < t.length → -9223372036854775808 ≤ tkf x y S t j ∧ tkf x y S t j ≤ 9223372036854775807 := fun j hj hj2 => by
        have h1 := HR1.out j
        have h2 := HY4.out j
        have h3 := HSB.out j
        unfold tkf
        split <;> omega
      have H2 := HO.out.toInts (i := 0) (zs := updG (tkf x y S t) t i) rfl (by omega) (updG_rng HRG.out i hfr)
      have e0 := (HBW.out.cell (p := ⟨gy, 0, none⟩) hgy).trans hcy
      have C := Lib.hid (at6_any (HYY.out.below HBW.out (Nat.le_refl _)) (H2.ls (i := 0) rfl))
      have HOO := Lib.hid HO.out.out
      clear HO H2 hfr HBW
      go_wp2_with fail
      refine C.out.mono ?_; rintro e w3 ⟨rfl, hw⟩
      have hw' := hw.symm
      subst hw'
      go_wp2
      go_ret
      exact ⟨rfl, HOO.out⟩
set_option maxRecDepth 100000 in
set_option maxHeartbeats 3200000 in
theorem drop1_any {w0 W : World} (hb : Below w0.heap.size w0 W) {F : Nat → Prop} (hF : ∀ g, F g → w0.heap.size ≤ g) {gx gy : Nat} {aa ta : Option Addr} {an ac tn tc : Nat} {x y : List Int} (hgx : gx < w0.heap.size) (hgy : gy < w0.heap.size) (hcx : w0.cell? ⟨gx, 1, none⟩ = some (.slice aa an ac)) (hcy : w0.cell? ⟨gy, 0, none⟩ = some (.slice ta tn tc)) (hX : Ls w0 aa an ac x) (hY : Ls w0 ta tn tc y)
    {S : List Int}
    (hm : mayE S = 0) (hy : ∀ j, 0 ≤ y.getD j 0 ∧ y.getD j 0 ≤ 4096) (hlen : S.length = tn) (han : an ≤ tn)
    {xo : Option Addr} {xn xc k : Nat} (hk : (k : Int) < pr S) (hx : (Pt.ints 3 xo xn xc (ixL S k)).P W F) :
    Calls Tryz.prog 148 #[.slice xo xn xc, .pointer (some ⟨gx, 0, none⟩), .pointer (some ⟨gy, 0, none⟩)] W (PlQ F W (drF x y S k)) := by
  have hp0 := Sp.one hx
  have hls := hp0.ls (i := 0) rfl
  have hxl : (ixL S k).length = xn := hls.len
  have hil := ixL_len S (k : Int)
  have hl8 := (mayE_zero hm).2.1
  have hxn : xn = tn := by omega
  subst hxn
  have hxll : x.length = an := hX.len
  have H0 := hp0.toRow (i := 0) rfl
  have HR1 := Lib.hid (ixL_bd hm hk)
  have HRG := Lib.hid (ixL_rg hm hk)
  have HE : Hid (drF x y S k = atF y (updG (drf x (ixL S k)) (ixL S k) an)) := by show _ = _; rw [← hxll]; rfl
  rw [HE.out]
  obtain ⟨t, HT⟩ : ∃ z, Hid (ixL S k = z) := ⟨_, rfl⟩
  rw [HT.out] at hxl HR1 HRG H0 ⊢
  have HST : Hid (Sp F W W [Pt.row ⟨3, 1, xo, xn, xc, (updG (drf x t) t 0).map (Value.int .i64)⟩]) := by
    show Sp _ _ _ _
    rw [updG_zero]; exact H0
  have HB := Lib.hid hb
  have HF := Lib.hid hF
  have HXX := Lib.hid hX
  have HYY := Lib.hid hY
  have HY4 := Lib.hid hy
  have HTL := Lib.hid hxl
  have d0 := (hb.cell (p := ⟨gx, 1, none⟩) hgx).trans hcx
  have han8 : an ≤ 8 := by omega
  have hxn8 : xn ≤ 8 := by omega
  clear hb hF hx hX hY hy hp0 hls H0 hxl hil HE HT hm hk hl8 
  go_enter Tryz.func148, Tryz.ntmps148
  go_wp2_with fail
  go_loopw [10] (fun v wr => ∃ i : Nat, i ≤ an ∧ v = .int .i64 i ∧ Hid (Sp F W wr [Pt.row ⟨3, 1, xo, xn, xc, (updG (drf x t) t i).map (Value.int .i64)⟩])) (fun v _ => an - (RowKit.intOf v).toNat)
  case atStart => exact ⟨0, Nat.zero_le _, rfl, HST⟩
  case round =>
    clear HST d0
    obtain ⟨i, hi, rfl, HO⟩ := hrel
    have HBW := Lib.hid (HB.out.trans (HO.out.below HF.out HB.out.size))
    by_cases hlt : i < an
    · have hlt' : (i : Int) < an := by omega
      obtain ⟨bx, ox, ex, hcx1⟩ := (HXX.out.below HBW.out (Nat.le_refl _)).at (by omega)
      have d1 := hcx1 i hlt
      have hxr := HXX.out.rng i
      subst ex
      obtain ⟨n, HN⟩ : ∃ z, Hid (x.getD i 0 = z) := ⟨_, rfl⟩
      rw [HN.out] at d1 hxr
      obtain ⟨c1, c2, c3, c4, c5⟩ := HO.out.rcap (i := 0) rfl
      obtain ⟨go, rfl⟩ := c5 (by omega)
      have hti : (updG (drf x t) t i).getD i 0 = t.getD i 0 := by rw [updG_at (by rw [HTL.out]; omega), if_neg (by omega)]
      have t0 := HO.out.cell (i := 0) rfl i (.int .i64 (t.getD i 0)) (by rw [getD_map_int _ _ (by rw [updG_len, HTL.out]; omega), hti])
      have t1 := HO.out.frozen (i := 0) rfl i
      have hb0 := HR1.out i
      have HPUT : Hid (Sp F W (wr.setCell ⟨go, i, none⟩ (.int .i64 (drf x t i))).drew [Pt.row ⟨3, 1, some ⟨go, 0, none⟩, xn, xc, (updG (drf x t) t (i + 1)).map (Value.int .i64)⟩]) := by
        have h2 := (HO.out.put (i := 0) rfl i (.int .i64 (drf x t i))).via (adrew1 _)
        rw [← List.map_set] at h2
        have h3 := updG_step (f := drf x t) (t := t) (i := i) (by rw [HTL.out]; omega)
        rw [h3] at h2
        exact h2
      have hix : (i : Int) < xn := by omega
      have hixc : (i : Int) < xc := by omega
      have HFF : Hid (drf x t i = if 0 < n then t.getD i 0 + fa n else t.getD i 0) := by show _ = _; unfold drf; rw [HN.out]
      have hfb := fa_bd n
      have HSM := Lib.hid (updG_same (f := drf x t) (t := t) (i := i) (by rw [HTL.out]; omega))
      obtain ⟨ti, HTI⟩ : ∃ z, Hid (t.getD i 0 = z) := ⟨_, rfl⟩
      rw [HTI.out] at t0 hb0 HFF HSM
      by_cases hn : 0 < n
      · rw [if_pos hn] at HFF
        rw [HFF.out] at HPUT
        have CFA := Lib.hid (fun w => far_any n w)
        obtain ⟨fn, HFN⟩ : ∃ z, Hid (fa n = z) := ⟨_, rfl⟩
        rw [HFN.out] at CFA HPUT hfb
        have z2 : IntKind.i64.wrap (ti + fn) = ti + fn := IntWalk.i64_in _ (by omega)
        clear HFF HSM HO HBW hcx1 c1 c2 c3 c4 c5 hti hxr HFN
        go_upto_region 5 with fail
        refine region_tail 8 (by kernel_rfl) (by kernel_rfl) ?_
        simp only [List.take_succ_cons, List.take_zero, List.drop_succ_cons, List.drop_zero]
        iterate 5 still_step
        still_call (RetS.still (CFA.out _))
        iterate 2 still_step
        refine wpStill_nil ?_
        go_wp2_with fail
        go_roundw
        case rel => exact ⟨i + 1, by omega, by go_num, HPUT⟩
        case measure => simp [RowKit.intOf]; omega
      · rw [if_neg hn] at HFF
        have HNX : Hid (Sp F W wr [Pt.row ⟨3, 1, some ⟨go, 0, none⟩, xn, xc, (updG (drf x t) t (i + 1)).map (Value.int .i64)⟩]) := by
          show Sp _ _ _ _
          rw [HSM.out HFF.out]; exact HO.out
        clear HFF HSM HO HPUT HBW hcx1 c1 c2 c3 c4 c5 hti hxr t0 t1
        go_wp2_with fail
        go_roundw
        case rel => exact ⟨i + 1, by omega, by go_num, HNX⟩
        case measure => simp [RowKit.intOf]; omega
    · obtain rfl : i = an := by omega
      have hge : ¬ ((i : Int) < i) := by omega
      have hfr : ∀ j, j < i → j < t.length → -9223372036854775808 ≤ drf x t j ∧ drf x t j ≤ 9223372036854775807 := fun j hj hj2 => by
        have h1 := HR1.out j
        have h2 := fa_bd (x.getD j 0)
        unfold drf
        split <;> omega
      have H2 := HO.out.toInts (i := 0) (zs := updG (drf x t) t i) rfl (by omega) (updG_rng HRG.out i hfr)
      have e0 := (HBW.out.cell (p := ⟨gy, 0, none⟩) hgy).trans hcy
      have C := Lib.hid (at6_any (HYY.out.below HBW.out (Nat.le_refl _)) (H2.ls (i := 0) rfl))
      have HOO := Lib.hid HO.out.out
      clear HO H2 hfr HBW
      go_wp2_with fail
      refine C.out.mono ?_; rintro e w3 ⟨rfl, hw⟩
      have hw' := hw.symm
      subst hw'
      go_wp2
      go_ret
      exact ⟨rfl, HOO.out⟩
set_option maxRecDepth 100000 in
set_option maxHeartbeats 3200000 in
theorem rotate1_any {w0 W : World} (hb : Below w0.heap.size w0 W) {F : Nat → Prop} (hF : ∀ g, F g → w0.heap.size ≤ g) {gx gy : Nat} {aa ta : Option Addr} {an ac tn tc : Nat} {x y : List Int} (hgx : gx < w0.heap.size) (hgy : gy < w0.heap.size) (hcx : w0.cell? ⟨gx, 1, none⟩ = some (.slice aa an ac)) (hcy : w0.cell? ⟨gy, 0, none⟩ = some (.slice ta tn tc)) (hX : Ls w0 aa an ac x) (hY : Ls w0 ta tn tc y)
    (hm : mayE y = 0) (hy : ∀ j, 0 ≤ y.getD j 0 ∧ y.getD j 0 ≤ 4096) (hlen : y.length = tn) (han : an ≤ tn)
    {xo : Option Addr} {xn xc k : Nat} (hk : (k : Int) < pr y) (hx : (Pt.ints 3 xo xn xc (ixL y k)).P W F) :
    Calls Tryz.prog 150 #[.slice xo xn xc, .pointer (some ⟨gx, 0, none⟩), .pointer (some ⟨gy, 0, none⟩)] W (PlQ F W (roF x y k)) := by
  have hp0 := Sp.one hx
  have hls := hp0.ls (i := 0) rfl
  have hxl : (ixL y k).length = xn := hls.len
  have hil := ixL_len y (k : Int)
  have hl8 := (mayE_zero hm).2.1
  have hxn : xn = tn := by omega
  subst hxn
  have hxll : x.length = an := hX.len
  have H0 := hp0.toRow (i := 0) rfl
  have HR1 := Lib.hid (ixL_bd hm hk)
  have HY1 : Hid (∀ j, j < xn → 1 ≤ y.getD j 0) := fun j hj => by
    have := pos_all (mayE_zero hm).1 (by omega) j (by omega)
    exact this
  have HRG := Lib.hid (ixL_rg hm hk)
  have HE : Hid (roF x y k = atF y (updG (rof x y (ixL y k)) (ixL y k) an)) := by show _ = _; rw [← hxll]; rfl
  rw [HE.out]
  obtain ⟨t, HT⟩ : ∃ z, Hid (ixL y k = z) := ⟨_, rfl⟩
  rw [HT.out] at hxl HR1 HRG H0 ⊢
  have HST : Hid (Sp F W W [Pt.row ⟨3, 1, xo, xn, xc, (updG (rof x y t) t 0).map (Value.int .i64)⟩]) := by
    show Sp _ _ _ _
    rw [updG_zero]; exact H0
  have HB := Lib.hid hb
  have HF := Lib.hid hF
  have HXX := Lib.hid hX
  have HYY := Lib.hid hY
  have HY4 := Lib.hid hy
  have HTL := Lib.hid hxl
  have d0 := (hb.cell (p := ⟨gx, 1, none⟩) hgx).trans hcx
  have han8 : an ≤ 8 := by omega
  have hxn8 : xn ≤ 8 := by omega
  clear hb hF hx hX hY hy hp0 hls H0 hxl hil HE HT hm hk hl8 
  go_enter Tryz.func150, Tryz.ntmps150
  go_wp2_with fail
  go_loopw [11] (fun v wr => ∃ i : Nat, i ≤ an ∧ v = .int .i64 i ∧ Hid (Sp F W wr [Pt.row ⟨3, 1, xo, xn, xc, (updG (rof x y t) t i).map (Value.int .i64)⟩])) (fun v _ => an - (RowKit.intOf v).toNat)
  case atStart => exact ⟨0, Nat.zero_le _, rfl, HST⟩
  case round =>
    clear HST d0
    obtain ⟨i, hi, rfl, HO⟩ := hrel
    have HBW := Lib.hid (HB.out.trans (HO.out.below HF.out HB.out.size))
    by_cases hlt : i < an
    · have hlt' : (i : Int) < an := by omega
      obtain ⟨bx, ox, ex, hcx1⟩ := (HXX.out.below HBW.out (Nat.le_refl _)).at (by omega)
      have d1 := hcx1 i hlt
      have hxr := HXX.out.rng i
      subst ex
      obtain ⟨n, HN⟩ : ∃ z, Hid (x.getD i 0 = z) := ⟨_, rfl⟩
      rw [HN.out] at d1 hxr
      obtain ⟨c1, c2, c3, c4, c5⟩ := HO.out.rcap (i := 0) rfl
      obtain ⟨go, rfl⟩ := c5 (by omega)
      have hti : (updG (rof x y t) t i).getD i 0 = t.getD i 0 := by rw [updG_at (by rw [HTL.out]; omega), if_neg (by omega)]
      have t0 := HO.out.cell (i := 0) rfl i (.int .i64 (t.getD i 0)) (by rw [getD_map_int _ _ (by rw [updG_len, HTL.out]; omega), hti])
      have t1 := HO.out.frozen (i := 0) rfl i
      have hb0 := HR1.out i
      have HPUT : Hid (Sp F W (wr.setCell ⟨go, i, none⟩ (.int .i64 (rof x y t i))).drew [Pt.row ⟨3, 1, some ⟨go, 0, none⟩, xn, xc, (updG (rof x y t) t (i + 1)).map (Value.int .i64)⟩]) := by
        have h2 := (HO.out.put (i := 0) rfl i (.int .i64 (rof x y t i))).via (adrew1 _)
        rw [← List.map_set] at h2
        have h3 := updG_step (f := rof x y t) (t := t) (i := i) (by rw [HTL.out]; omega)
        rw [h3] at h2
        exact h2
      have hix : (i : Int) < xn := by omega
      have hixc : (i : Int) < xc := by omega
      have e0 := (HBW.out.cell (p := ⟨gy, 0, none⟩) hgy).trans hcy
      obtain ⟨by_, oy, ey, hcy1⟩ := (HYY.out.below HBW.out (Nat.le_refl _)).at (by omega)
      have d2 := hcy1 i (by omega)
      subst ey
      have hyb := HY4.out i
      have hy1 := HY1.out i (by omega)
      have HFF : Hid (rof x y t i = (t.getD i 0 + n.tmod (y.getD i 0)) % y.getD i 0) := by show _ = _; unfold rof; rw [HN.out]
      have HSM := Lib.hid (updG_same (f := rof x y t) (t := t) (i := i) (by rw [HTL.out]; omega))
      obtain ⟨ti, HTI⟩ : ∃ z, Hid (t.getD i 0 = z) := ⟨_, rfl⟩
      rw [HTI.out] at t0 hb0 HFF HSM
      obtain ⟨yi, HYI⟩ : ∃ z, Hid (y.getD i 0 = z) := ⟨_, rfl⟩
      rw [HYI.out] at d2 hyb HFF hy1
      rw [HFF.out] at HPUT
      have hmb := tmod_bd n (show 0 < yi by omega)
      have z0 : ¬ yi = 0 := by omega
      have z0' : (yi == 0) = false := by simpa using z0
      have z2 : IntKind.i64.wrap (ti + n.tmod yi) = ti + n.tmod yi := IntWalk.i64_in _ (by omega)
      have z3 : IntKind.i64.wrap (ti + n.tmod yi + yi) = ti + n.tmod yi + yi := IntWalk.i64_in _ (by omega)
      clear HFF HSM HO HBW hcx1 hcy1 c1 c2 c3 c4 c5 hti hxr
      go_upto_region 5 with fail
      refine region_tail 15 (by kernel_rfl) (by kernel_rfl) ?_
      simp only [List.take_succ_cons, List.take_zero, List.drop_succ_cons, List.drop_zero]
      iterate 15 still_step
      refine wpStill_nil ?_
      go_wp2_with fail
      go_roundw
      case rel => exact ⟨i + 1, by omega, by go_num, HPUT⟩
      case measure => simp [RowKit.intOf]; omega
    · obtain rfl : i = an := by omega
      have hge : ¬ ((i : Int) < i) := by omega
      have hfr : ∀ j, j < i → j < t.length → -9223372036854775808 ≤ rof x y t j ∧ rof x y t j ≤ 9223372036854775807 := fun j hj hj2 => by
        have h1 := HR1.out j
        have h2 := HY4.out j
        have h3 := HY1.out j (by omega)
        unfold rof
        have h4 := Int.emod_nonneg (t.getD j 0 + (x.getD j 0).tmod (y.getD j 0)) (show y.getD j 0 ≠ 0 by omega)
        have h5 := Int.emod_lt_of_pos (t.getD j 0 + (x.getD j 0).tmod (y.getD j 0)) (show 0 < y.getD j 0 by omega)
        omega
      have H2 := HO.out.toInts (i := 0) (zs := updG (rof x y t) t i) rfl (by omega) (updG_rng HRG.out i hfr)
      have e0 := (HBW.out.cell (p := ⟨gy, 0, none⟩) hgy).trans hcy
      have C := Lib.hid (at6_any (HYY.out.below HBW.out (Nat.le_refl _)) (H2.ls (i := 0) rfl))
      have HOO := Lib.hid HO.out.out
      clear HO H2 hfr HBW
      go_wp2_with fail
      refine C.out.mono ?_; rintro e w3 ⟨rfl, hw⟩
      have hw' := hw.symm
      subst hw'
      go_wp2
      go_ret
      exact ⟨rfl, HOO.out⟩
end Go.Proofs.YthackmkdicpdeaaGreat
