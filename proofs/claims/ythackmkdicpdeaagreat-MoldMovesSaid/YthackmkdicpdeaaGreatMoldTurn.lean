/- Contracts of slices.Reverse at []int and of mold.turn. -/
import Derived.Test.YthackmkdicpdeaaGreatMoldRev
namespace Go.Proofs.YthackmkdicpdeaaGreat
open Go.RowKit Go.Lib
set_option linter.unusedVariables false
set_option linter.unusedSimpArgs false
attribute [local go_sem] alloc_drewN setCell_drewN
/-- A list with its first i turned with its last i. -/
def revG (t : List Int) (i : Nat) : List Int := (List.range t.length).map fun p => if p < i ∨ t.length - 1 - i < p then t.getD (t.length - 1 - p) 0 else t.getD p 0
theorem revG_len (t : List Int) (i : Nat) : (revG t i).length = t.length := by simp [revG]
theorem revG_at {t : List Int} {i p : Nat} (h : p < t.length) : (revG t i).getD p 0 = if p < i ∨ t.length - 1 - i < p then t.getD (t.length - 1 - p) 0 else t.getD p 0 := by
  simp [revG, List.getD, h]
theorem revG_zero (t : List Int) : revG t 0 = t := by
  apply List.ext_getElem (by simp [revG])
  intro p h1 h2
  have h := revG_at (t := t) (i := 0) h2
  rw [if_neg (by omega)] at h
  simpa [List.getD, h1, h2] using h
theorem revG_end {t : List Int} {i : Nat} (h : t.length ≤ 2 * i + 1) : revG t i = t.reverse := by
  apply List.ext_getElem (by simp [revG])
  intro p h1 h2
  have hp : p < t.length := by simpa [revG] using h1
  have h3 := revG_at (t := t) (i := i) hp
  have e : (revG t i).getD p 0 = t.getD (t.length - 1 - p) 0 := by
    rw [h3]
    split
    · rfl
    · congr 1; omega
  rw [List.getElem_reverse]
  simpa [List.getD, h1, show t.length - 1 - p < t.length by omega] using e
theorem getD_ext {l l' : List Int} (hl : l.length = l'.length) (h : ∀ p, p < l.length → l.getD p 0 = l'.getD p 0) : l = l' := by
  apply List.ext_getElem hl
  intro p h1 h2
  have e := h p h1
  simpa [List.getD, List.getElem?_eq_getElem h1, List.getElem?_eq_getElem h2] using e
theorem revG_step {t : List Int} {i : Nat} (h : 2 * i + 1 < t.length) : ((revG t i).set i (t.getD (t.length - 1 - i) 0)).set (t.length - 1 - i) (t.getD i 0) = revG t (i + 1) := by
  refine getD_ext (by simp [revG]) fun p hp' => ?_
  have hp : p < t.length := by simpa [revG] using hp'
  have h3 := revG_at (t := t) (i := i + 1) hp
  have h4 := revG_at (t := t) (i := i) hp
  · rw [h3]
    simp only [List.getD, List.getElem?_set] at h4 ⊢
    simp only [List.length_set, revG_len]
    by_cases e1 : t.length - 1 - i = p
    · rw [if_pos e1, if_pos (by omega), if_pos (by omega)]
      simp only [Option.getD_some]
      congr 2; omega
    · rw [if_neg e1]
      by_cases e2 : i = p
      · rw [if_pos e2, if_pos (by omega), if_pos (by omega)]
        simp only [Option.getD_some]
        congr 2; omega
      · rw [if_neg e2, h4]
        by_cases e3 : p < i ∨ t.length - 1 - i < p
        · rw [if_pos e3, if_pos (by omega)]
        · rw [if_neg e3, if_neg (by omega)]
theorem revG_rng {t : List Int} (h : ∀ i, -9223372036854775808 ≤ t.getD i 0 ∧ t.getD i 0 ≤ 9223372036854775807) (i p : Nat) : -9223372036854775808 ≤ (revG t i).getD p 0 ∧ (revG t i).getD p 0 ≤ 9223372036854775807 := by
  by_cases hp : p < t.length
  · rw [revG_at hp]; split <;> exact h _
  · simp [List.getD, List.getElem?_eq_none (show (revG t i).length ≤ p by rw [revG_len]; omega)]
/-- Ints that a call turned into others in their own place. -/
def TurnedP (F : Nat → Prop) (w : World) (xo : Option Addr) (xn xc : Nat) (t : List Int) (e : Ending) (w' : World) : Prop := (∃ v, e = .returned v) ∧ Sp F w w' [Pt.ints 3 xo xn xc t]
set_option maxRecDepth 100000 in
set_option maxHeartbeats 3200000 in
theorem srev_any {w : World} {F : Nat → Prop} {xo : Option Addr} {xn xc : Nat} {t : List Int} (hx : (Pt.ints 3 xo xn xc t).P w F) : Calls Tryz.prog 151 #[.slice xo xn xc] w (TurnedP F w xo xn xc t.reverse) := by
  have hp0 := Sp.one hx
  have hls := hp0.ls (i := 0) rfl
  have hl : t.length = xn := hls.len
  have hbig := hls.big
  have hrg := hls.rng
  have hcap := hls.cap
  have H0 := hp0.toRow (i := 0) rfl
  have HS : Hid (Sp F w w [Pt.row ⟨3, 1, xo, xn, xc, (revG t 0).map (Value.int .i64)⟩]) := by
    show Sp _ _ _ _
    rw [revG_zero]; exact H0
  have HL := Lib.hid hl
  have HRG := Lib.hid hrg
  clear hx hp0 hls H0 hl hrg
  have z1 : IntKind.i64.wrap ((xn : Int) - 1) = xn - 1 := IntWalk.i64_in _ (by omega)
  go_enter Tryz.func151, Tryz.ntmps151
  go_wp2_with fail
  go_loopw [2, 3] (fun v2 v3 wr => ∃ i : Nat, 2 * i ≤ xn ∧ v2 = .int .i64 i ∧ v3 = .int .i64 ((xn : Int) - 1 - i) ∧ Hid (Sp F w wr [Pt.row ⟨3, 1, xo, xn, xc, (revG t i).map (Value.int .i64)⟩])) (fun v2 _ _ => xn - (RowKit.intOf v2).toNat)
  case atStart => exact ⟨0, by omega, rfl, by simp, HS⟩
  case round =>
    clear HS
    obtain ⟨i, hi, rfl, rfl, HO⟩ := hrel
    by_cases hlt : 2 * i + 1 < xn
    · have hlt' : (i : Int) < (xn : Int) - 1 - i := by omega
      obtain ⟨j, hj⟩ : ∃ j : Nat, xn - 1 - i = j := ⟨_, rfl⟩
      have hji : (xn : Int) - 1 - i = j := by omega
      rw [hji] at hlt' ⊢
      obtain ⟨c1, c2, c3, c4, c5⟩ := HO.out.rcap (i := 0) rfl
      obtain ⟨gx, rfl⟩ := c5 (by omega)
      have hri := revG_at (t := t) (i := i) (p := i) (by rw [HL.out]; omega)
      have hrj := revG_at (t := t) (i := i) (p := j) (by rw [HL.out]; omega)
      rw [if_neg (by rw [HL.out]; omega)] at hri hrj
      have r0 := HO.out.cell (i := 0) rfl i (.int .i64 (t.getD i 0)) (by rw [getD_map_int _ _ (by rw [revG_len, HL.out]; omega), hri])
      have r1 := HO.out.cell (i := 0) rfl j (.int .i64 (t.getD j 0)) (by rw [getD_map_int _ _ (by rw [revG_len, HL.out]; omega), hrj])
      have f0 := HO.out.frozen (i := 0) rfl i
      have f1 := HO.out.frozen (i := 0) rfl j
      have HN : Hid (Sp F w ((wr.setCell ⟨gx, i, none⟩ (.int .i64 (t.getD j 0))).setCell ⟨gx, j, none⟩ (.int .i64 (t.getD i 0))).drew [Pt.row ⟨3, 1, some ⟨gx, 0, none⟩, xn, xc, (revG t (i + 1)).map (Value.int .i64)⟩]) := by
        have h := ((HO.out.put (i := 0) rfl i (.int .i64 (t.getD j 0))).put (i := 0) rfl j (.int .i64 (t.getD i 0))).via (adrew1 _)
        have e := revG_step (t := t) (i := i) (by rw [HL.out]; omega)
        rw [HL.out, hj] at e
        rw [← e, List.map_set, List.map_set]
        exact h
      have hne : ¬ i = j := by omega
      have hne2 : ¬ j = i := by omega
      obtain ⟨xi, HXI⟩ : ∃ z, Hid (t.getD i 0 = z) := ⟨_, rfl⟩
      obtain ⟨xj, HXJ⟩ : ∃ z, Hid (t.getD j 0 = z) := ⟨_, rfl⟩
      rw [HXI.out] at r0 HN
      rw [HXJ.out] at r1 HN
      have z2 : IntKind.i64.wrap ((i : Int) + 1) = i + 1 := IntWalk.i64_in _ (by omega)
      have z3 : IntKind.i64.wrap ((j : Int) - 1) = j - 1 := IntWalk.i64_in _ (by omega)
      have z4 : (i : Int) < xn := by omega
      have z5 : (j : Int) < xn := by omega
      have z6 : (j : Int) - 1 = (xn : Int) - 1 - ((i + 1 : Nat) : Int) := by omega
      clear c1 c2 c3 c4 c5 hri hrj HO hji
      go_wp2_with fail
      go_region
      all_goals
        go_wp2_with fail
        go_roundw
        case rel => exact ⟨i + 1, by omega, by go_num, by go_num, by first | exact HN | exact HN2⟩
        case measure => simp [RowKit.intOf]; omega
    · have hge : ¬ ((i : Int) < (xn : Int) - 1 - i) := by omega
      have e := revG_end (t := t) (i := i) (by rw [HL.out]; omega)
      have HF : Hid (TurnedP F w xo xn xc t.reverse (.returned (.tuple #[])) wr) := by
        refine ⟨⟨_, rfl⟩, ?_⟩
        have h := HO.out.toInts (i := 0) (zs := t.reverse) (by rw [← e]; rfl) hbig (by rw [← e]; exact revG_rng HRG.out i)
        exact h
      clear HO e
      go_wp2
      go_end0
      exact HF.out
def tuF (s : List Int) (k : Nat) : Int := atF s (ixL s.reverse k).reverse
set_option maxRecDepth 100000 in
set_option maxHeartbeats 1600000 in
theorem turn1_any {w0 W : World} (hb : Below w0.heap.size w0 W) {F : Nat → Prop} (hF : ∀ g, F g → w0.heap.size ≤ g) {g : Nat} {ta : Option Addr} {tn tc : Nat} {s : List Int} (hg : g < w0.heap.size) (hc0 : w0.cell? ⟨g, 0, none⟩ = some (.slice ta tn tc)) (hS : Ls w0 ta tn tc s)
    {xo : Option Addr} {xn xc k : Nat} (hx : (Pt.ints 3 xo xn xc (ixL s.reverse k)).P W F) : Calls Tryz.prog 152 #[.slice xo xn xc, .pointer (some ⟨g, 0, none⟩)] W (PlQ F W (tuF s k)) := by
  have C1 := Lib.hid (srev_any hx)
  have HB := Lib.hid hb
  have HF := Lib.hid hF
  have HS := Lib.hid hS
  have HE : Hid (tuF s k = atF s (ixL s.reverse k).reverse) := rfl
  rw [HE.out]
  clear hx hb hF hS HE
  go_enter Tryz.func152, Tryz.ntmps152
  go_wp2_with fail
  refine C1.out.mono ?_; rintro e w2 ⟨⟨v, rfl⟩, h2⟩
  have hb2 := HB.out.trans (h2.below HF.out HB.out.size)
  have d0 := (hb2.cell (p := ⟨g, 0, none⟩) hg).trans hc0
  have C := Lib.hid (at6_any (HS.out.below hb2 (Nat.le_refl _)) (h2.ls (i := 0) rfl))
  have HO := Lib.hid h2.out
  clear h2 hb2
  go_wp2_with fail
  refine C.out.mono ?_; rintro e w3 ⟨rfl, hw⟩
  have hw' := hw.symm
  subst hw'
  go_wp2
  go_ret
  exact ⟨rfl, HO.out⟩
set_option maxRecDepth 100000 in
set_option maxHeartbeats 1600000 in
theorem turn_any {w : World} {Y : Ar} (hY : Y.Is w) (hm : amE Y.s Y.a = 0) : Calls Tryz.prog 115 #[Y.v] w (MadeE w (mdS Y.s.reverse) (pkA Y.s.reverse Y.a (tuF Y.s)) (mdE Y.s.reverse)) := by
  have hbd := fun k : Nat => pk_bd hY hm (ixL Y.s.reverse k).reverse
  obtain ⟨ta, tn, tc, ba, bn, bc, t, b⟩ := Y
  simp only [Ar.v]
  simp only at hbd
  have h0 := ((Sp.start Non w).alloc 38 2 1 #[.slice ta tn tc, .slice ba bn bc] rfl (by decide)).alloc 38 2 1 #[.slice none 0 0, .slice none 0 0] rfl (by decide)
  obtain ⟨W, HW⟩ : ∃ z, Hid ((w.alloc (.cells #[.slice ta tn tc, .slice ba bn bc] 38)).alloc (.cells #[.slice none 0 0, .slice none 0 0] 38) = z) := ⟨_, rfl⟩
  rw [HW.out] at h0
  have H1_ := h0
  try simp only [List.cons_append, List.nil_append, List.set_cons_zero, List.set_cons_succ, List.map_cons, List.map_nil, List.getD_cons_zero, List.getD_cons_succ, World.size_alloc] at H1_
  have H1 := Lib.hid H1_
  clear H1_
  have y0 := H1.out.cell (i := 0) rfl 0 _ rfl
  have HY := Lib.hid hY
  have C1 := Lib.hid (clone_any (hY.below H1.out.belowN (Nat.le_refl _)).shp)
  simp only at C1
  have HBD := Lib.hid hbd
  have hmf : ∀ (fn : Fn) (first cap : Array Value) (w : World), (Instr.makeFunc fn first cap).run Tryz.prog w = .ok (.func fn first cap) w := fun _ _ _ _ => rfl
  obtain ⟨S, HS⟩ : ∃ z, Hid (mdS t.reverse = z) := ⟨_, rfl⟩
  obtain ⟨A, HA⟩ : ∃ z, Hid (pkA t.reverse b (tuF t) = z) := ⟨_, rfl⟩
  obtain ⟨E, HE⟩ : ∃ z, Hid (mdE t.reverse = z) := ⟨_, rfl⟩
  rw [HS.out, HA.out, HE.out]
  clear h0 hY hm hbd
  go_enter Tryz.func115, Tryz.ntmps115
  go_wp2_with fail
  rw [HW.out]
  refine C1.out.mono ?_; rintro e w2 ⟨so2, sc2, rfl, hL, hO, hB⟩
  have H2_ := H1.out.intsNew hO hB hL.big hL.rng
  try simp only [List.cons_append, List.nil_append, List.set_cons_zero, List.set_cons_succ, List.map_cons, List.map_nil, List.getD_cons_zero, List.getD_cons_succ, World.size_alloc] at H2_
  have H2 := Lib.hid H2_
  clear H2_
  obtain ⟨F, hP, hFs, -, hput⟩ := H2.out.hole (i := 2) rfl
  have C2 := Lib.hid (srev_any hP)
  have HPUT := Lib.hid hput
  clear hL hO hB hP hFs hput C1 y0
  go_wp2_with fail
  refine C2.out.mono ?_; rintro e w3 ⟨⟨v, rfl⟩, h3⟩
  obtain ⟨F', hP', hFs'⟩ := h3.get (i := 0) rfl
  have H3_ := HPUT.out w3 (Pt.ints 3 so2 tn sc2 t.reverse) F' hP' hFs' h3.out
  try simp only [List.cons_append, List.nil_append, List.set_cons_zero, List.set_cons_succ, List.map_cons, List.map_nil, List.getD_cons_zero, List.getD_cons_succ, World.size_alloc] at H3_
  have H3 := Lib.hid H3_
  clear H3_
  have y0 := H3.out.cell (i := 0) rfl 0 _ rfl
  have y1 := H3.out.cell (i := 0) rfl 1 _ rfl
  have hI3 := HY.out.below H3.out.belowN (Nat.le_refl _)
  have CP := Lib.hid (picked_any (H3.out.ls (i := 2) rfl) hI3 (ff := 152) (caps := #[.pointer (some ⟨w.heap.size, 0, none⟩)]) (enters_of Tryz.func152 (by kernel_rfl) rfl) (tuF t) (fun k _ => HBD.out k) (fun hm' W' F xo xn xc k hk hb hF hx => turn1_any hb hF (H3.out.rlt (i := 0) rfl).1 y0 hI3.shp hx))
  simp only [Ar.v] at CP
  rw [HS.out, HA.out, HE.out] at CP
  clear h3 hP' hFs' HPUT C2 hI3
  go_wp2_with fail
  refine CP.out.mono ?_; rintro e w4 ⟨⟨za, zn, zc, xa, xn, xc, zs, zt⟩, rfl, hI, hs, ha, hO, hb⟩
  have H4_ := H3.out.arrNew hI hO hb
  try simp only [List.cons_append, List.nil_append, List.set_cons_zero, List.set_cons_succ, List.map_cons, List.map_nil, List.getD_cons_zero, List.getD_cons_succ, World.size_alloc] at H4_
  have H4 := Lib.hid H4_
  clear H4_
  simp only at hs ha
  subst hs ha
  simp only [Ar.v]
  clear y0 y1
  have x0 := H4.out.cell (i := 1) rfl 0 _ rfl
  have x1 := H4.out.cell (i := 1) rfl 1 _ rfl
  have f0 := H4.out.frozen (i := 1) rfl 0
  have f1 := H4.out.frozen (i := 1) rfl 1
  have HF : Hid (∀ u v, MadeE w zs zt E (.returned (.tuple #[.agg #[.slice za zn zc, .slice xa xn xc], .int .i64 E])) ((w4.setCell ⟨w.heap.size + 1, 0, none⟩ u).setCell ⟨w.heap.size + 1, 1, none⟩ v)) := fun u v =>
    ((H4.out.put (i := 1) rfl 0 u).put (i := 1) rfl 1 v).madeE (i := 3) (B := ⟨za, zn, zc, xa, xn, xc, zs, zt⟩) rfl E
  clear hI hO hb H4 H3 H2 H1
  go_wp2
  exact bodyPost_ret (v := .tuple #[.agg #[.slice za zn zc, .slice xa xn xc], .int .i64 E]) (by simp [results, Tryz.results115, go_sem, *]) rfl (HF.out _ _)
end Go.Proofs.YthackmkdicpdeaaGreat
