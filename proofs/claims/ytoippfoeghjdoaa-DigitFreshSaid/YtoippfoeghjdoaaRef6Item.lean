/- The document's Items and Item of layer 6. -/
import Derived.Test.YtoippfoeghjdoaaDigRef2
namespace Go.Proofs.Ytoippfoeghjdoaa
open Go.RowKit Go.Lib
set_option linter.unusedVariables false
set_option linter.unusedSimpArgs false
attribute [local go_sem] alloc_drewN setCell_drewN
set_option maxHeartbeats 800000 in
theorem ritems_any {w : World} {Y : Ar} (hY : Y.Is w) :
    Calls Try.prog 88 #[Y.v] w (RetB w (.int .i64 (if Y.s.length = 0 then 1 else Y.s.getD 0 0))) := by
  obtain ⟨ta, tn, tc, ba, bn, bc, t, b⟩ := Y
  simp only [Ar.v]
  have htl : t.length = tn := hY.shp.len
  have h0 := (Sp.start Non w).alloc 38 2 1 #[.slice ta tn tc, .slice ba bn bc] rfl (by decide)
  have H1_ := h0
  try simp only [List.cons_append, List.nil_append, List.set_cons_zero, List.set_cons_succ, List.map_cons, List.map_nil, List.getD_cons_zero, List.getD_cons_succ, World.size_alloc] at H1_
  have H1 := Lib.hid H1_
  clear H1_
  have y0 := H1.out.cell (i := 0) rfl 0 _ rfl
  have y1 := H1.out.cell (i := 0) rfl 1 _ rfl
  have HB := Lib.hid H1.out.belowN
  by_cases h : tn = 0
  · rw [if_pos (by omega)]
    subst h
    clear hY h0 H1 htl
    go_enter Try.func88, Try.ntmps88
    go_wp2
    go_ret
    exact RetB.mk rfl HB.out
  · rw [if_neg (by omega)]
    obtain ⟨b3, o3, e3, hc3⟩ := (hY.below H1.out.belowN (Nat.le_refl _)).shp.at (by simp only; omega)
    have d3 := hc3 0 (by simp only; omega)
    simp only [Nat.add_zero] at e3 d3
    obtain ⟨x, HX⟩ : ∃ z, Hid (t.getD 0 0 = z) := ⟨_, rfl⟩
    rw [HX.out] at d3 ⊢
    subst e3
    have q0 : ((tn : Int) == 0) = false := by simp; omega
    have q1 : (0 : Int) < tn := by omega
    clear hY h0 H1 htl hc3
    go_enter Try.func88, Try.ntmps88
    go_wp2
    go_ret
    exact RetB.mk rfl HB.out
set_option maxRecDepth 100000 in
set_option maxHeartbeats 3200000 in
theorem ritem_any {w : World} {Y : Ar} (hY : Y.Is w) (hm : amE Y.s Y.a = 0) (h0 : 0 < Y.sn) (i : Nat) (hi : (i : Int) < Y.s.getD 0 0) :
    Calls Try.prog 89 #[Y.v, .int .i64 i] w (MadeA w Y.s.tail (ckL (pr Y.s.tail).toNat i Y.a)) := by
  obtain ⟨ta, tn, tc, ba, bn, bc, t, b⟩ := Y
  simp only [Ar.v]
  simp only at hm h0 hi
  obtain ⟨hm1, hm2⟩ := amE_zero hm
  have htl : t.length = tn := hY.shp.len
  have hbl : b.length = bn := hY.ats.len
  have htn8 : tn ≤ 8 := by rw [← htl]; exact (mayE_zero hm1).2.1
  have hmr : mayE t.tail = 0 := by
    have h := mayE_app (s := t.take 1) (t := t.drop 1) (by rw [List.take_append_drop]; exact hm1)
    rw [← List.drop_one]; exact h.2
  obtain ⟨x, r, e⟩ := List.exists_cons_of_ne_nil (l := t) (fun h => by rw [h] at htl; simp at htl; omega)
  have hx : t.getD 0 0 = x := by rw [e]; rfl
  have hpr := pr_nonneg hmr
  obtain ⟨E, HE⟩ : ∃ E : Nat, Hid (pr t.tail = E) := ⟨(pr t.tail).toNat, (Int.toNat_of_nonneg hpr.1).symm⟩
  have hpt : x * pr t.tail = bn := by rw [← hbl, ← hm2, e, pr_cons, List.tail_cons]
  rw [HE.out] at hpt hpr
  rw [hx] at hi
  obtain ⟨p, HP⟩ : ∃ p, Hid (i * E = p) := ⟨_, rfl⟩
  have hpe : p + E ≤ bn := by
    have h1 : ((i : Int) + 1) * E ≤ x * E := Int.mul_le_mul_of_nonneg_right (by omega) (by omega)
    rw [hpt, Int.add_mul, Int.one_mul] at h1
    have h2 : (i : Int) * E = p := by rw [← HP.out]; push_cast; rfl
    omega
  have hpi : (i : Int) * E = p := by rw [← HP.out]; push_cast; rfl
  have hbn := amE_an hm
  rw [hbl] at hbn
  obtain ⟨W, HW⟩ : ∃ z, Hid ((w.alloc (.cells #[.slice ta tn tc, .slice ba bn bc] 38)).alloc (.cells #[.slice none 0 0, .slice none 0 0] 38) = z) := ⟨_, rfl⟩
  have h1 := ((Sp.start Non w).alloc 38 2 1 #[.slice ta tn tc, .slice ba bn bc] rfl (by decide)).alloc 38 2 1 #[.slice none 0 0, .slice none 0 0] rfl (by decide)
  rw [HW.out] at h1
  obtain ⟨g, HG⟩ : ∃ z, Hid (w.heap.size = z) := ⟨_, rfl⟩
  have H1_ := h1
  try simp only [List.cons_append, List.nil_append, List.set_cons_zero, List.set_cons_succ, List.map_cons, List.map_nil, List.getD_cons_zero, List.getD_cons_succ, World.size_alloc] at H1_
  have H1 := Lib.hid H1_
  clear H1_
  rw [HG.out] at H1
  have CR := Lib.hid (rrest_any (hY.shp.below H1.out.belowN (Nat.le_refl _)) (by simp only; omega))
  simp only at CR
  have y0 := H1.out.cell (i := 0) rfl 0 _ rfl
  have hck : ckL E i b = (b.drop p).take E := by unfold ckL; rw [HP.out]
  rw [HE.out, Int.toNat_natCast, hck]
  have HY := Lib.hid hY
  have HMR := Lib.hid hmr
  have HTL := Lib.hid htl
  obtain ⟨j0, hj0, hya, hyb, hyc⟩ := info_parts (P := Try.prog) (e := 2) (z := .int .i64 0) (size := 1) (bytes := 8) (by kernel_rfl)
  have HJ0 := Lib.hid (And.intro hj0 (And.intro hya (And.intro hyb hyc)))
  have z7 : IntKind.i64.wrap ((i : Int) * E) = p := by rw [hpi]; exact IntWalk.i64_in _ (by omega)
  have z8 : IntKind.i64.wrap ((p : Int) + E) = p + E := IntWalk.i64_in _ (by omega)
  clear hj0 hya hyb hyc hY h1 hm hm1 hm2 htl hbl hmr e hx hpt hck hi hpi
  go_enter Try.func89, Try.ntmps89
  go_wp2_with fail
  rw [HW.out, HG.out]
  refine CR.out.mono ?_; rintro e2 w2 ⟨ro, rn, rc, rfl, h2⟩
  have H2 := Lib.hid ((H1.out.add h2).intsNew (E := 2) (zs := []) (World.ownsRow_nil _ _ _ _) (Below.refl _ _) (by omega) (fun i => by simp [List.getD]))
  have CC := rcount_any (h2.ls (i := 0) rfl) HMR.out
  rw [HE.out] at CC
  have CCH := Lib.hid CC
  have y1 := H2.out.cell (i := 0) rfl 1 _ rfl
  have hats := (HY.out.below H2.out.belowN (Nat.le_refl _)).ats
  simp only at hats
  have hcap := hats.cap
  have hb1 : (0 + E) * 8 ≤ 140737488351232 := by omega
  have zE : 0 + E = E := by omega
  clear CC h2 CR y0 H1
  go_wp2_with fail
  refine CCH.out.mono ?_; rintro e2 w' ⟨rfl, hw'⟩
  have hw'' := hw'.symm
  subst hw''
  clear hw' CCH
  have HEND : Hid (∀ (w9 : World) (bo : Option Addr) (d : Nat), Sp Non w w9 [Pt.row ⟨38, 2, some ⟨g, 0, none⟩, 1, 1, [.slice ta tn tc, .slice ba bn bc]⟩, Pt.row ⟨38, 2, some ⟨g + 1, 0, none⟩, 1, 1, [.slice none 0 0, .slice none 0 0]⟩, Pt.ints 3 ro rn rc t.tail, Pt.ints 2 bo E d ((b.drop p).take E)] → ∀ u v, MadeA w t.tail ((b.drop p).take E) (.returned (.agg #[.slice ro rn rc, .slice bo E d])) ((w9.setCell ⟨g + 1, 0, none⟩ u).setCell ⟨g + 1, 1, none⟩ v)) := fun w9 bo d h9 u v => by
    have q := ((h9.put (i := 1) rfl 0 u).put (i := 1) rfl 1 v).arrOf (i := 2) (j := 3) rfl (by decide) rfl
    exact madeE_A8 (q.madeE (i := 3) (B := ⟨ro, rn, rc, bo, E, d, t.tail, (b.drop p).take E⟩) rfl 0)
  have k1 : (0 : Int) ≤ p := by omega
  have k2 : (p : Int) ≤ p + E := by omega
  have k3 : (p : Int) + E ≤ bc := by omega
  have k5 : ((p : Int) + E).toNat = p + E := by omega
  have k10 : p + E - p = E := by omega
  by_cases hpc : p = bc
  · obtain rfl : E = 0 := by omega
    have hp0 : p = 0 := by rw [← HP.out]; simp
    obtain rfl : bc = 0 := by omega
    subst hp0
    have LSX : Hid (Ls w2 ba 0 0 ((b.drop 0).take 0)) := by
      show Ls _ _ _ _ _
      rw [List.take_zero]
      exact Ls.zero _ _ (Nat.zero_le _)
    have z9 : IntKind.i64.wrap (0 : Int) = 0 := IntWalk.i64_in _ (by omega)
    clear hats hcap hpc k1 k2 k3 k5 k10 z7 z8
    go_wp2_with (at_builtin; refine Sp.wpList_loc H2.out rfl _ _ 28 (by rfl) 2 j0 Try.underlying28 HJ0.out.1 HJ0.out.2.1 HJ0.out.2.2.1 HJ0.out.2.2.2 (i := 3) rfl (by rfl) (by rfl) LSX.out hb1 ?_)
    intro bo d w9 h9
    have H9 := Lib.hid h9
    have z0 := H9.out.cell (i := 1) rfl 0 _ rfl
    have z1 := H9.out.cell (i := 1) rfl 1 _ rfl
    have z2 := H9.out.frozen (i := 1) rfl 0
    have z3 := H9.out.frozen (i := 1) rfl 1
    have HF := Lib.hid (HEND.out w9 bo d H9.out)
    clear h9 H9 HEND y1
    go_wp2
    exact bodyPost_ret (v := .agg #[.slice ro rn rc, .slice bo 0 d]) (by simp [results, Try.results89, go_sem, *]) rfl (HF.out _ _)
  · have LSX : Hid (Ls w2 (ba.map fun x => x.add p) E (bc - p) ((b.drop p).take E)) := hats.cutA p E hpe
    have k6 : ¬ bc = p := fun h => hpc h.symm
    have k8 : (p : Int) < bc := by omega
    have k9 : ¬ bc - p = 0 := by omega
    clear hats hcap hpc
    go_wp2_with (at_builtin; refine Sp.wpList_loc H2.out rfl _ _ 28 (by rfl) 2 j0 Try.underlying28 HJ0.out.1 HJ0.out.2.1 HJ0.out.2.2.1 HJ0.out.2.2.2 (i := 3) rfl (by rfl) (by rfl) LSX.out hb1 ?_)
    intro bo d w9 h9
    have H9 := Lib.hid h9
    have z0 := H9.out.cell (i := 1) rfl 0 _ rfl
    have z1 := H9.out.cell (i := 1) rfl 1 _ rfl
    have z2 := H9.out.frozen (i := 1) rfl 0
    have z3 := H9.out.frozen (i := 1) rfl 1
    have HF := Lib.hid (HEND.out w9 bo d H9.out)
    clear h9 H9 HEND y1
    go_wp2
    exact bodyPost_ret (v := .agg #[.slice ro rn rc, .slice bo E d]) (by simp [results, Try.results89, go_sem, *]) rfl (HF.out _ _)
end Go.Proofs.Ytoippfoeghjdoaa
