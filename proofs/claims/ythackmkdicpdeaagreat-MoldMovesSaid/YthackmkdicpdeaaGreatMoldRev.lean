/- Contracts of mold.reverse and mold.turn. -/
import Derived.Test.YthackmkdicpdeaaGreatMoldPicked
import Derived.StillTailTactics
namespace Go.Proofs.YthackmkdicpdeaaGreat
open Go.RowKit Go.Lib
set_option linter.unusedVariables false
set_option linter.unusedSimpArgs false
attribute [local go_sem] alloc_drewN setCell_drewN
theorem atF_bd {s : List Int} (hm : mayE s = 0) (t : List Int) : -1 ≤ atF s t ∧ atF s t < pr s := by
  have hp := pr_nonneg hm
  unfold atF plE plV
  rw [if_pos hm]
  by_cases h1 : t.length = s.length
  · by_cases h2 : inR s t s.length
    · have hb := plN_bd (mayE_zero hm).1 (Nat.le_refl _) h2
      rw [List.take_length] at hb
      rw [if_pos h1, if_pos h2, if_pos rfl, if_pos ⟨hm, h1, h2⟩]
      omega
    · rw [if_pos h1, if_neg h2, if_neg (by decide)]
      omega
  · rw [if_neg h1, if_neg (by decide)]
    omega
/-- The first index turned round. -/
def rv0 (s t : List Int) : List Int := t.set 0 (s.getD 0 0 - 1 - t.getD 0 0)
def rvF (s : List Int) (k : Nat) : Int := atF s (rv0 s (ixL s k))
/-- A place that a function tells, of memory older than a world only what it was handed changed. -/
def PlQ (F : Nat → Prop) (W : World) (v : Int) (e : Ending) (W' : World) : Prop := e = .returned (.int .i64 v) ∧ Out F W W'
theorem may_bd {s : List Int} (hm : mayE s = 0) (i : Nat) : 0 ≤ s.getD i 0 ∧ s.getD i 0 ≤ 4096 := by
  obtain ⟨g1, g2, g3⟩ := mayE_zero hm
  refine ⟨g1 i, ?_⟩
  have q1 := (pm_up s i).2.2
  have q2 := pm_all s (i + 1)
  omega
theorem ixL_bd {s : List Int} (hm : mayE s = 0) {k : Nat} (hk : (k : Int) < pr s) (i : Nat) : 0 ≤ (ixL s k).getD i 0 ∧ (ixL s k).getD i 0 ≤ 4096 := by
  by_cases hi : i < s.length
  · have h := ixL_rng (p := k) (pos_all (mayE_zero hm).1 (by omega)) i hi
    have := may_bd hm i
    omega
  · simp [List.getD, List.getElem?_eq_none (show (ixL s k).length ≤ i by rw [ixL_len]; omega)]
theorem rng_set {zs : List Int} (h : ∀ i, -9223372036854775808 ≤ zs.getD i 0 ∧ zs.getD i 0 ≤ 9223372036854775807) (j : Nat) {v : Int} (hv : -9223372036854775808 ≤ v ∧ v ≤ 9223372036854775807) (i : Nat) : -9223372036854775808 ≤ (zs.set j v).getD i 0 ∧ (zs.set j v).getD i 0 ≤ 9223372036854775807 := by
  have hi := h i
  simp only [List.getD, List.getElem?_set] at hi ⊢
  by_cases e : j = i
  · subst e
    rw [if_pos rfl]
    split
    · exact hv
    · simp
  · rw [if_neg e]
    exact hi
theorem ixL_rg {s : List Int} (hm : mayE s = 0) {k : Nat} (hk : (k : Int) < pr s) (i : Nat) : -9223372036854775808 ≤ (ixL s k).getD i 0 ∧ (ixL s k).getD i 0 ≤ 9223372036854775807 := by
  have := ixL_bd hm hk i
  omega
set_option maxRecDepth 100000 in
set_option maxHeartbeats 1600000 in
theorem rev1_any {w0 W : World} (hb : Below w0.heap.size w0 W) {F : Nat → Prop} (hF : ∀ g, F g → w0.heap.size ≤ g) {g : Nat} {ta : Option Addr} {tn tc : Nat} {s : List Int} (hg : g < w0.heap.size) (hc0 : w0.cell? ⟨g, 0, none⟩ = some (.slice ta tn tc)) (hS : Ls w0 ta tn tc s) (hm : mayE s = 0)
    {xo : Option Addr} {xn xc k : Nat} (hk : (k : Int) < pr s) (hx : (Pt.ints 3 xo xn xc (ixL s k)).P W F) : Calls Tryz.prog 149 #[.slice xo xn xc, .pointer (some ⟨g, 0, none⟩)] W (PlQ F W (rvF s k)) := by
  have H0 := Lib.hid (Sp.one hx)
  have hxl : (ixL s k).length = xn := (H0.out.ls (i := 0) rfl).len
  have hsl : s.length = tn := hS.len
  have hil := ixL_len s (k : Int)
  have hl8 := (mayE_zero hm).2.1
  have d0 := (hb.cell (p := ⟨g, 0, none⟩) hg).trans hc0
  have hSW := hS.below hb (Nat.le_refl _)
  by_cases h0 : xn = 0
  · have C := Lib.hid (at6_any hSW (H0.out.ls (i := 0) rfl))
    have e : rvF s k = atF s (ixL s k) := by
      unfold rvF rv0
      rw [List.set_eq_of_length_le (by rw [hxl]; omega)]
    rw [e]
    have HO := Lib.hid (Out.refl F W)
    subst h0
    clear hx hxl hsl hil hS hSW hc0 e hb hF H0
    go_enter Tryz.func149, Tryz.ntmps149
    go_wp2_with fail
    refine C.out.mono ?_; rintro e W2 ⟨rfl, hw⟩
    have hw' := hw.symm
    subst hw'
    go_wp2
    go_ret
    exact ⟨rfl, HO.out⟩
  · have htn : tn = xn := by omega
    subst htn
    obtain ⟨b1, o1, e1, hc1⟩ := hSW.at (by omega)
    have d1 := hc1 0 (by omega)
    rw [Nat.add_zero] at d1
    subst e1
    have H1_ := H0.out.toRow (i := 0) rfl
    try simp only [List.cons_append, List.nil_append, List.set_cons_zero, List.set_cons_succ, List.map_cons, List.map_nil, List.getD_cons_zero, List.getD_cons_succ, World.size_alloc] at H1_
    have H1 := Lib.hid H1_
    clear H1_
    obtain ⟨c1, c2, c3, c4, c5⟩ := H1.out.rcap (i := 0) rfl
    obtain ⟨gx, rfl⟩ := c5 (by omega)
    have t0 := H1.out.cell (i := 0) rfl 0 (.int .i64 ((ixL s k).getD 0 0)) (getD_map_int _ _ (by rw [hxl]; omega))
    have t1 := H1.out.frozen (i := 0) rfl 0
    have hs0 := may_bd hm 0
    have hi0 := ixL_bd hm hk 0
    have HPUT : Hid (∀ v : Int, (-9223372036854775808 ≤ v ∧ v ≤ 9223372036854775807) → Sp F W (W.setCell ⟨gx, 0, none⟩ (.int .i64 v)).drew [Pt.ints 3 (some ⟨gx, 0, none⟩) tn xc ((ixL s k).set 0 v)]) := fun v hv => by
      have h2 := (H1.out.put (i := 0) rfl 0 (.int .i64 v)).via (adrew1 _)
      rw [← List.map_set] at h2
      exact h2.toInts (i := 0) rfl (by omega) (rng_set (ixL_rg hm hk) 0 hv)
    have HB := Lib.hid hb
    have HF := Lib.hid hF
    have HS := Lib.hid hS
    have HE : Hid (rvF s k = atF s ((ixL s k).set 0 (s.getD 0 0 - 1 - (ixL s k).getD 0 0))) := rfl
    rw [HE.out]
    obtain ⟨s0, HS0⟩ : ∃ z, Hid (s.getD 0 0 = z) := ⟨_, rfl⟩
    obtain ⟨x0, HX0⟩ : ∃ z, Hid ((ixL s k).getD 0 0 = z) := ⟨_, rfl⟩
    rw [HS0.out] at d1 hs0 ⊢
    rw [HX0.out] at t0 hi0 ⊢
    have hp : (0 : Int) < tn := by omega
    have z1 : IntKind.i64.wrap (s0 - 1) = s0 - 1 := IntWalk.i64_in _ (by omega)
    have z2 : IntKind.i64.wrap (s0 - 1 - x0) = s0 - 1 - x0 := IntWalk.i64_in _ (by omega)
    have hcp : (0 : Int) < xc := by omega
    have HP := Lib.hid (HPUT.out (s0 - 1 - x0) (by omega))
    have d0' : (W.setCell ⟨gx, 0, none⟩ (.int .i64 (s0 - 1 - x0))).drew.cell? ⟨g, 0, none⟩ = some (.slice (some ⟨b1, o1, none⟩) tn tc) := by
      exact ((hb.trans (HP.out.below hF hb.size)).cell (p := ⟨g, 0, none⟩) hg).trans hc0
    have C := Lib.hid (at6_any (HS.out.below (hb.trans (HP.out.below hF hb.size)) (Nat.le_refl _)) (HP.out.ls (i := 0) rfl))
    have HO := Lib.hid HP.out.out
    clear hx hxl hsl hil hS hSW hc0 hb hF H0 H1 hc1 c1 c2 c3 c4 c5 HPUT HE HS0 HX0 h0 HP
    go_enter Tryz.func149, Tryz.ntmps149
    go_wp2_with fail
    refine region_tail 11 (by kernel_rfl) (by kernel_rfl) ?_
    simp only [List.take_succ_cons, List.take_zero, List.drop_succ_cons, List.drop_zero]
    iterate 11 still_step
    refine wpStill_nil ?_
    go_wp2_with fail
    refine C.out.mono ?_; rintro e W2 ⟨rfl, hw⟩
    have hw' := hw.symm
    subst hw'
    go_wp2
    go_ret
    exact ⟨rfl, HO.out⟩
theorem pk_bd {Y : Ar} {w : World} (hY : Y.Is w) (hm : amE Y.s Y.a = 0) (t : List Int) : atF Y.s t < Y.an ∧ -1 ≤ atF Y.s t := by
  obtain ⟨h1, h2⟩ := amE_zero hm
  have h3 := atF_bd h1 t
  have h4 := hY.ats.len
  omega
set_option maxRecDepth 100000 in
set_option maxHeartbeats 1600000 in
theorem reverse_any {w : World} {Y : Ar} (hY : Y.Is w) (hm : amE Y.s Y.a = 0) : Calls Tryz.prog 113 #[Y.v] w (MadeE w (mdS Y.s) (pkA Y.s Y.a (rvF Y.s)) (mdE Y.s)) := by
  have hbd := fun k : Nat => pk_bd hY hm (rv0 Y.s (ixL Y.s k))
  have hmy := (amE_zero hm).1
  obtain ⟨ta, tn, tc, ba, bn, bc, t, b⟩ := Y
  simp only [Ar.v]
  simp only at hbd hmy
  have h0 := ((Sp.start Non w).alloc 38 2 1 #[.slice ta tn tc, .slice ba bn bc] rfl (by decide)).alloc 38 2 1 #[.slice none 0 0, .slice none 0 0] rfl (by decide)
  obtain ⟨W, HW⟩ : ∃ z, Hid ((w.alloc (.cells #[.slice ta tn tc, .slice ba bn bc] 38)).alloc (.cells #[.slice none 0 0, .slice none 0 0] 38) = z) := ⟨_, rfl⟩
  rw [HW.out] at h0
  have H1_ := h0
  try simp only [List.cons_append, List.nil_append, List.set_cons_zero, List.set_cons_succ, List.map_cons, List.map_nil, List.getD_cons_zero, List.getD_cons_succ, World.size_alloc] at H1_
  have H1 := Lib.hid H1_
  clear H1_
  have y0 := H1.out.cell (i := 0) rfl 0 _ rfl
  have y1 := H1.out.cell (i := 0) rfl 1 _ rfl
  have hI := hY.below H1.out.belowN (Nat.le_refl _)
  have CP := Lib.hid (picked_any hI.shp hI (ff := 149) (caps := #[.pointer (some ⟨w.heap.size, 0, none⟩)]) (enters_of Tryz.func149 (by kernel_rfl) rfl) (rvF t) (fun k _ => hbd k) (fun hm' W' F xo xn xc k hk hb hF hx => (rev1_any hb hF (H1.out.rlt (i := 0) rfl).1 y0 hI.shp hm' hk hx)))
  simp only [Ar.v] at CP
  have hmf : ∀ (fn : Fn) (first cap : Array Value) (w : World), (Instr.makeFunc fn first cap).run Tryz.prog w = .ok (.func fn first cap) w := fun _ _ _ _ => rfl
  obtain ⟨S, HS⟩ : ∃ z, Hid (mdS t = z) := ⟨_, rfl⟩
  obtain ⟨A, HA⟩ : ∃ z, Hid (pkA t b (rvF t) = z) := ⟨_, rfl⟩
  obtain ⟨E, HE⟩ : ∃ z, Hid (mdE t = z) := ⟨_, rfl⟩
  rw [HS.out, HA.out, HE.out] at CP ⊢
  clear h0 hY hm hbd hmy hI
  go_enter Tryz.func113, Tryz.ntmps113
  go_wp2_with fail
  rw [HW.out]
  refine CP.out.mono ?_; rintro e w2 ⟨⟨za, zn, zc, xa, xn, xc, zs, zt⟩, rfl, hI, hs, ha, hO, hb⟩
  have H2_ := H1.out.arrNew hI hO hb
  try simp only [List.cons_append, List.nil_append, List.set_cons_zero, List.set_cons_succ, List.map_cons, List.map_nil, List.getD_cons_zero, List.getD_cons_succ, World.size_alloc] at H2_
  have H2 := Lib.hid H2_
  clear H2_
  simp only at hs ha
  subst hs ha
  simp only [Ar.v]
  clear y0 y1
  have x0 := H2.out.cell (i := 1) rfl 0 _ rfl
  have x1 := H2.out.cell (i := 1) rfl 1 _ rfl
  have f0 := H2.out.frozen (i := 1) rfl 0
  have f1 := H2.out.frozen (i := 1) rfl 1
  have HF : Hid (∀ u v, MadeE w zs zt E (.returned (.tuple #[.agg #[.slice za zn zc, .slice xa xn xc], .int .i64 E])) ((w2.setCell ⟨w.heap.size + 1, 0, none⟩ u).setCell ⟨w.heap.size + 1, 1, none⟩ v)) := fun u v =>
    ((H2.out.put (i := 1) rfl 0 u).put (i := 1) rfl 1 v).madeE (i := 2) (B := ⟨za, zn, zc, xa, xn, xc, zs, zt⟩) rfl E
  clear hI hO hb H2 H1
  go_wp2
  exact bodyPost_ret (v := .tuple #[.agg #[.slice za zn zc, .slice xa xn xc], .int .i64 E]) (by simp [results, Tryz.results113, go_sem, *]) rfl (HF.out _ _)
set_option maxRecDepth 100000 in
set_option maxHeartbeats 1600000 in
theorem turn_none : True := trivial
end Go.Proofs.YthackmkdicpdeaaGreat
