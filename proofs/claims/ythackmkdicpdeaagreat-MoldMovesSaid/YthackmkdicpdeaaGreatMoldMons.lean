/- Contracts of mold.end, part, lengths and of the rows' small functions. -/
import Derived.Test.YthackmkdicpdeaaGreatMoldPicked
import Derived.Deep.RegionLaw
namespace Go.Proofs.YthackmkdicpdeaaGreat
open Go.RowKit Go.Lib
set_option linter.unusedVariables false
set_option linter.unusedSimpArgs false
attribute [local go_sem] alloc_drewN setCell_drewN
theorem may_tail {s : List Int} (hm : mayE s = 0) : mayE s.tail = 0 := by
  have h := mayE_app (s := s.take 1) (t := s.drop 1) (by rw [List.take_append_drop]; exact hm)
  rw [← List.drop_one]; exact h.2
def enA (s a : List Int) (i : Int) : List Int := if itE s a = 0 then List.replicate (pr s.tail).toNat 0 else itemA a (itJ i (itE s a)) (pr s.tail).toNat
set_option maxRecDepth 100000 in
set_option maxHeartbeats 1600000 in
theorem end_f {w : World} {Y : Ar} (hY : Y.Is w) (hm : amE Y.s Y.a = 0) (at_ : Int) (ha : at_ = 0 ∨ at_ = -1) (h0 : itE Y.s Y.a = 0) : Calls Tryz.prog 106 #[Y.v, .int .i64 at_] w (MadeE w Y.s.tail (enA Y.s Y.a at_) 0) := by
  have e : enA Y.s Y.a at_ = List.replicate (pr Y.s.tail).toNat 0 := if_pos h0
  rw [e]
  have hmt := may_tail (amE_zero hm).1
  obtain ⟨ta, tn, tc, ba, bn, bc, t, b⟩ := Y
  simp only [Ar.v]
  simp only at h0 hm hmt
  obtain ⟨W, HW⟩ : ∃ z, Hid ((w.alloc (.cells #[.slice ta tn tc, .slice ba bn bc] 38)).alloc (.cells #[.slice none 0 0, .slice none 0 0] 38) = z) := ⟨_, rfl⟩
  have hw0 := ((Sp.start Non w).alloc 38 2 1 #[.slice ta tn tc, .slice ba bn bc] rfl (by decide)).alloc 38 2 1 #[.slice none 0 0, .slice none 0 0] rfl (by decide)
  rw [HW.out] at hw0
  have H1_ := hw0
  try simp only [List.cons_append, List.nil_append, List.set_cons_zero, List.set_cons_succ, List.map_cons, List.map_nil, List.getD_cons_zero, List.getD_cons_succ, World.size_alloc] at H1_
  have H1 := Lib.hid H1_
  clear H1_
  obtain ⟨b1, HB1⟩ : ∃ z, Hid (w.heap.size = z) := ⟨_, rfl⟩
  rw [HB1.out] at H1
  have y0 := H1.out.cell (i := 0) rfl 0 _ rfl
  have y1 := H1.out.cell (i := 0) rfl 1 _ rfl
  have HY := Lib.hid hY
  have CI := Lib.hid (items_any (hY.below H1.out.belowN (Nat.le_refl _)))
  simp only [Ar.v] at CI
  rw [h0] at CI
  obtain ⟨it, HIT⟩ : ∃ z, Hid (itE t b = z) := ⟨_, rfl⟩
  have HM := Lib.hid hm
  have HMT := Lib.hid hmt
  obtain ⟨P, HP⟩ : ∃ z, Hid ((pr t.tail).toNat = z) := ⟨_, rfl⟩
  rw [HP.out]
  obtain ⟨EA, HEA⟩ : ∃ z, Hid (List.replicate P (0 : Int) = z) := ⟨_, rfl⟩
  obtain ⟨TS, HTS⟩ : ∃ z, Hid (t.tail = z) := ⟨_, rfl⟩
  rw [HEA.out, HTS.out]
  clear hY hw0 hm hmt e
  go_enter Tryz.func106, Tryz.ntmps106
  go_wp2_with fail
  rw [HW.out, HB1.out]
  refine CI.out.mono ?_; rintro e w2 ⟨rfl, hb2⟩
  have H2_ := H1.out.via hb2
  try simp only [List.cons_append, List.nil_append, List.set_cons_zero, List.set_cons_succ, List.map_cons, List.map_nil, List.getD_cons_zero, List.getD_cons_succ, World.size_alloc] at H2_
  have H2 := Lib.hid H2_
  clear H2_
  clear y0 y1 hb2 CI H1
  have y0 := H2.out.cell (i := 0) rfl 0 _ rfl
  have y1 := H2.out.cell (i := 0) rfl 1 _ rfl
  have CR := Lib.hid (rest6_any (HY.out.below H2.out.belowN (Nat.le_refl _)))
  simp only [Ar.v] at CR
  go_wp2_with fail
  refine CR.out.mono ?_; rintro e w3 ⟨ro, rn, rc, rfl, hL3, hb3, -⟩
  have H3_ := H2.out.via hb3
  try simp only [List.cons_append, List.nil_append, List.set_cons_zero, List.set_cons_succ, List.map_cons, List.map_nil, List.getD_cons_zero, List.getD_cons_succ, World.size_alloc] at H3_
  have H3 := Lib.hid H3_
  clear H3_
  have CC := Lib.hid (fill_ok hL3 0 (by omega) HMT.out)
  rw [HP.out, HEA.out, HTS.out] at CC
  clear hL3 hb3 CR y0 y1 H2
  go_wp2_with fail
  refine CC.out.mono ?_; rintro e w7 ⟨⟨za, zn, zc, xa, xm, xc, zs, zt⟩, rfl, hI, hs, ha, hO, hb⟩
  have H7_ := H3.out.arrNew hI hO hb
  try simp only [List.cons_append, List.nil_append, List.set_cons_zero, List.set_cons_succ, List.map_cons, List.map_nil, List.getD_cons_zero, List.getD_cons_succ, World.size_alloc] at H7_
  have H7 := Lib.hid H7_
  clear H7_
  simp only at hs ha
  subst hs ha
  simp only [Ar.v]
  clear hI hO hb CC H3
  have x0 := H7.out.cell (i := 1) rfl 0 _ rfl
  have x1 := H7.out.cell (i := 1) rfl 1 _ rfl
  have f0 := H7.out.frozen (i := 1) rfl 0
  have f1 := H7.out.frozen (i := 1) rfl 1
  have HF : Hid (∀ u v, MadeE w zs zt 0 (.returned (.tuple #[.agg #[.slice za zn zc, .slice xa xm xc], .int .i64 0])) ((w7.setCell ⟨b1 + 1, 0, none⟩ u).setCell ⟨b1 + 1, 1, none⟩ v)) := fun u v =>
    ((H7.out.put (i := 1) rfl 0 u).put (i := 1) rfl 1 v).madeE (i := 2) (B := ⟨za, zn, zc, xa, xm, xc, zs, zt⟩) rfl 0
  clear H7
  go_wp2
  exact bodyPost_ret (v := .tuple #[.agg #[.slice za zn zc, .slice xa xm xc], .int .i64 0]) (by simp [results, Tryz.results106, go_sem, *]) rfl (HF.out _ _)
set_option maxRecDepth 100000 in
set_option maxHeartbeats 1600000 in
theorem end_e {w : World} {Y : Ar} (hY : Y.Is w) (hm : amE Y.s Y.a = 0) (at_ : Int) (ha : at_ = 0 ∨ at_ = -1) (h0 : 0 < itE Y.s Y.a) : Calls Tryz.prog 106 #[Y.v, .int .i64 at_] w (MadeE w Y.s.tail (enA Y.s Y.a at_) 0) := by
  have e : enA Y.s Y.a at_ = itemA Y.a (itJ at_ (itE Y.s Y.a)) (pr Y.s.tail).toNat := if_neg (by omega)
  rw [e]
  have hmt := may_tail (amE_zero hm).1
  obtain ⟨ta, tn, tc, ba, bn, bc, t, b⟩ := Y
  simp only [Ar.v]
  simp only at h0 hm hmt
  obtain ⟨W, HW⟩ : ∃ z, Hid ((w.alloc (.cells #[.slice ta tn tc, .slice ba bn bc] 38)).alloc (.cells #[.slice none 0 0, .slice none 0 0] 38) = z) := ⟨_, rfl⟩
  have hw0 := ((Sp.start Non w).alloc 38 2 1 #[.slice ta tn tc, .slice ba bn bc] rfl (by decide)).alloc 38 2 1 #[.slice none 0 0, .slice none 0 0] rfl (by decide)
  rw [HW.out] at hw0
  have H1_ := hw0
  try simp only [List.cons_append, List.nil_append, List.set_cons_zero, List.set_cons_succ, List.map_cons, List.map_nil, List.getD_cons_zero, List.getD_cons_succ, World.size_alloc] at H1_
  have H1 := Lib.hid H1_
  clear H1_
  obtain ⟨b1, HB1⟩ : ∃ z, Hid (w.heap.size = z) := ⟨_, rfl⟩
  rw [HB1.out] at H1
  have y0 := H1.out.cell (i := 0) rfl 0 _ rfl
  have y1 := H1.out.cell (i := 0) rfl 1 _ rfl
  have HY := Lib.hid hY
  have CI := Lib.hid (items_any (hY.below H1.out.belowN (Nat.le_refl _)))
  simp only [Ar.v] at CI
  obtain ⟨it, HIT⟩ : ∃ z, Hid (itE t b = z) := ⟨_, rfl⟩
  rw [HIT.out] at CI h0 ⊢
  have q0 : (it == 0) = false := by simp; omega
  have HM := Lib.hid hm
  have HMT := Lib.hid hmt
  obtain ⟨P, HP⟩ : ∃ z, Hid ((pr t.tail).toNat = z) := ⟨_, rfl⟩
  rw [HP.out]
  obtain ⟨EA, HEA⟩ : ∃ z, Hid (itemA b (itJ at_ it) P = z) := ⟨_, rfl⟩
  obtain ⟨TS, HTS⟩ : ∃ z, Hid (t.tail = z) := ⟨_, rfl⟩
  rw [HEA.out, HTS.out]
  clear hY hw0 hm hmt e
  go_enter Tryz.func106, Tryz.ntmps106
  go_wp2_with fail
  rw [HW.out, HB1.out]
  refine CI.out.mono ?_; rintro e w2 ⟨rfl, hb2⟩
  have H2_ := H1.out.via hb2
  try simp only [List.cons_append, List.nil_append, List.set_cons_zero, List.set_cons_succ, List.map_cons, List.map_nil, List.getD_cons_zero, List.getD_cons_succ, World.size_alloc] at H2_
  have H2 := Lib.hid H2_
  clear H2_
  clear y0 y1 hb2 CI H1
  have y0 := H2.out.cell (i := 0) rfl 0 _ rfl
  have y1 := H2.out.cell (i := 0) rfl 1 _ rfl
  have H3 := H2
  have CC := Lib.hid (item_any (HY.out.below H3.out.belowN (Nat.le_refl _)) at_ HM.out (by simp only; rw [HIT.out]; omega) (by simp only; rw [HIT.out]; omega))
  simp only [Ar.v] at CC
  rw [HIT.out, HP.out, HEA.out, HTS.out] at CC
  go_wp2_with fail
  refine CC.out.mono ?_; rintro e w7 ⟨⟨za, zn, zc, xa, xm, xc, zs, zt⟩, rfl, hI, hs, ha, hO, hb⟩
  have H7_ := H3.out.arrNew hI hO hb
  try simp only [List.cons_append, List.nil_append, List.set_cons_zero, List.set_cons_succ, List.map_cons, List.map_nil, List.getD_cons_zero, List.getD_cons_succ, World.size_alloc] at H7_
  have H7 := Lib.hid H7_
  clear H7_
  simp only at hs ha
  subst hs ha
  simp only [Ar.v]
  clear hI hO hb CC H3
  clear y0 y1
  have x0 := H7.out.cell (i := 1) rfl 0 _ rfl
  have x1 := H7.out.cell (i := 1) rfl 1 _ rfl
  have f0 := H7.out.frozen (i := 1) rfl 0
  have f1 := H7.out.frozen (i := 1) rfl 1
  have HF : Hid (∀ u v, MadeE w zs zt 0 (.returned (.tuple #[.agg #[.slice za zn zc, .slice xa xm xc], .int .i64 0])) ((w7.setCell ⟨b1 + 1, 0, none⟩ u).setCell ⟨b1 + 1, 1, none⟩ v)) := fun u v =>
    ((H7.out.put (i := 1) rfl 0 u).put (i := 1) rfl 1 v).madeE (i := 2) (B := ⟨za, zn, zc, xa, xm, xc, zs, zt⟩) rfl 0
  clear H7
  go_wp2
  exact bodyPost_ret (v := .tuple #[.agg #[.slice za zn zc, .slice xa xm xc], .int .i64 0]) (by simp [results, Tryz.results106, go_sem, *]) rfl (HF.out _ _)
theorem end_any {w : World} {Y : Ar} (hY : Y.Is w) (hm : amE Y.s Y.a = 0) (at_ : Int) (ha : at_ = 0 ∨ at_ = -1) : Calls Tryz.prog 106 #[Y.v, .int .i64 at_] w (MadeE w Y.s.tail (enA Y.s Y.a at_) 0) := by
  by_cases h0 : itE Y.s Y.a = 0
  · exact end_f hY hm at_ ha h0
  · refine end_e hY hm at_ ha ?_
    unfold itE at h0 ⊢
    rw [if_pos hm] at h0 ⊢
    split at h0
    · simp at *; split <;> omega
    · rw [if_neg ‹_›]
      have := (mayE_zero (amE_zero hm).1).1 0
      omega
def paS (s a : List Int) (f : Int) : List Int := if itE s a = 0 then mdS s else ptS s a f (itE s a - 1)
def paA (s a : List Int) (f : Int) : List Int := if itE s a = 0 then mdA s a else ptA s a f (itE s a - 1)
def paE (s a : List Int) (f : Int) : Int := if itE s a = 0 then mdE s else ptE s a f (itE s a - 1)
set_option maxRecDepth 100000 in
set_option maxHeartbeats 1600000 in
theorem part6_f {w : World} {Y : Ar} (hY : Y.Is w) (hm : amE Y.s Y.a = 0) (f : Int) (hf : 0 ≤ f ∧ f ≤ 1) (h0 : itE Y.s Y.a = 0) : Calls Tryz.prog 110 #[Y.v, .int .i64 f] w (MadeE w (paS Y.s Y.a f) (paA Y.s Y.a f) (paE Y.s Y.a f)) := by
  rw [show paS Y.s Y.a f = mdS Y.s from if_pos h0, show paA Y.s Y.a f = mdA Y.s Y.a from if_pos h0, show paE Y.s Y.a f = mdE Y.s from if_pos h0]
  have hib : 0 ≤ itE Y.s Y.a ∧ itE Y.s Y.a ≤ 4096 := by
    unfold itE
    rw [if_pos hm]
    split
    · omega
    · have h1 := mayE_zero (amE_zero hm).1
      have h2 := (pm_up Y.s 0).2.2
      have h3 := pm_all Y.s (0 + 1)
      have := h1.1 0
      omega
  obtain ⟨ta, tn, tc, ba, bn, bc, t, b⟩ := Y
  simp only [Ar.v]
  simp only at h0 hm hib
  obtain ⟨W, HW⟩ : ∃ z, Hid ((w.alloc (.cells #[.slice ta tn tc, .slice ba bn bc] 38)).alloc (.cells #[.slice none 0 0, .slice none 0 0] 38) = z) := ⟨_, rfl⟩
  have hw0 := ((Sp.start Non w).alloc 38 2 1 #[.slice ta tn tc, .slice ba bn bc] rfl (by decide)).alloc 38 2 1 #[.slice none 0 0, .slice none 0 0] rfl (by decide)
  rw [HW.out] at hw0
  have H1_ := hw0
  try simp only [List.cons_append, List.nil_append, List.set_cons_zero, List.set_cons_succ, List.map_cons, List.map_nil, List.getD_cons_zero, List.getD_cons_succ, World.size_alloc] at H1_
  have H1 := Lib.hid H1_
  clear H1_
  obtain ⟨b1, HB1⟩ : ∃ z, Hid (w.heap.size = z) := ⟨_, rfl⟩
  rw [HB1.out] at H1
  have y0 := H1.out.cell (i := 0) rfl 0 _ rfl
  have y1 := H1.out.cell (i := 0) rfl 1 _ rfl
  have HY := Lib.hid hY
  have CI := Lib.hid (items_any (hY.below H1.out.belowN (Nat.le_refl _)))
  simp only [Ar.v] at CI
  rw [h0] at CI
  obtain ⟨it, HIT⟩ : ∃ z, Hid (itE t b = z) := ⟨_, rfl⟩
  obtain ⟨VS, HVS⟩ : ∃ z, Hid (mdS t = z) := ⟨_, rfl⟩
  obtain ⟨VA, HVA⟩ : ∃ z, Hid (mdA t b = z) := ⟨_, rfl⟩
  obtain ⟨VE, HVE⟩ : ∃ z, Hid (mdE t = z) := ⟨_, rfl⟩
  rw [HVS.out, HVA.out, HVE.out]
  clear hY hw0 hm
  go_enter Tryz.func110, Tryz.ntmps110
  go_wp2_with fail
  rw [HW.out, HB1.out]
  refine CI.out.mono ?_; rintro e w2 ⟨rfl, hb2⟩
  have H2_ := H1.out.via hb2
  try simp only [List.cons_append, List.nil_append, List.set_cons_zero, List.set_cons_succ, List.map_cons, List.map_nil, List.getD_cons_zero, List.getD_cons_succ, World.size_alloc] at H2_
  have H2 := Lib.hid H2_
  clear H2_
  clear y0 y1 hb2 CI H1
  have y0 := H2.out.cell (i := 0) rfl 0 _ rfl
  have y1 := H2.out.cell (i := 0) rfl 1 _ rfl
  have CC := Lib.hid (same6_any (HY.out.below H2.out.belowN (Nat.le_refl _)))
  simp only [Ar.v] at CC
  rw [HVS.out, HVA.out, HVE.out] at CC
  go_wp2_with fail
  refine CC.out.mono ?_; rintro e w7 ⟨⟨za, zn, zc, xa, xm, xc, zs, zt⟩, rfl, hI, hs, ha, hO, hb⟩
  have H7_ := H2.out.arrNew hI hO hb
  try simp only [List.cons_append, List.nil_append, List.set_cons_zero, List.set_cons_succ, List.map_cons, List.map_nil, List.getD_cons_zero, List.getD_cons_succ, World.size_alloc] at H7_
  have H7 := Lib.hid H7_
  clear H7_
  simp only at hs ha
  subst hs ha
  simp only [Ar.v]
  clear hI hO hb CC H2 y0 y1
  have x0 := H7.out.cell (i := 1) rfl 0 _ rfl
  have x1 := H7.out.cell (i := 1) rfl 1 _ rfl
  have f0 := H7.out.frozen (i := 1) rfl 0
  have f1 := H7.out.frozen (i := 1) rfl 1
  have HF : Hid (∀ u v, MadeE w zs zt VE (.returned (.tuple #[.agg #[.slice za zn zc, .slice xa xm xc], .int .i64 VE])) ((w7.setCell ⟨b1 + 1, 0, none⟩ u).setCell ⟨b1 + 1, 1, none⟩ v)) := fun u v =>
    ((H7.out.put (i := 1) rfl 0 u).put (i := 1) rfl 1 v).madeE (i := 2) (B := ⟨za, zn, zc, xa, xm, xc, zs, zt⟩) rfl VE
  clear H7
  go_wp2
  exact bodyPost_ret (v := .tuple #[.agg #[.slice za zn zc, .slice xa xm xc], .int .i64 VE]) (by simp [results, Tryz.results110, go_sem, *]) rfl (HF.out _ _)
set_option maxRecDepth 100000 in
set_option maxHeartbeats 1600000 in
theorem part6_e {w : World} {Y : Ar} (hY : Y.Is w) (hm : amE Y.s Y.a = 0) (f : Int) (hf : 0 ≤ f ∧ f ≤ 1) (h0 : ¬ itE Y.s Y.a = 0) : Calls Tryz.prog 110 #[Y.v, .int .i64 f] w (MadeE w (paS Y.s Y.a f) (paA Y.s Y.a f) (paE Y.s Y.a f)) := by
  rw [show paS Y.s Y.a f = ptS Y.s Y.a f (itE Y.s Y.a - 1) from if_neg h0, show paA Y.s Y.a f = ptA Y.s Y.a f (itE Y.s Y.a - 1) from if_neg h0, show paE Y.s Y.a f = ptE Y.s Y.a f (itE Y.s Y.a - 1) from if_neg h0]
  have hib : 0 ≤ itE Y.s Y.a ∧ itE Y.s Y.a ≤ 4096 := by
    unfold itE
    rw [if_pos hm]
    split
    · omega
    · have h1 := mayE_zero (amE_zero hm).1
      have h2 := (pm_up Y.s 0).2.2
      have h3 := pm_all Y.s (0 + 1)
      have := h1.1 0
      omega
  obtain ⟨ta, tn, tc, ba, bn, bc, t, b⟩ := Y
  simp only [Ar.v]
  simp only at h0 hm hib
  obtain ⟨W, HW⟩ : ∃ z, Hid ((w.alloc (.cells #[.slice ta tn tc, .slice ba bn bc] 38)).alloc (.cells #[.slice none 0 0, .slice none 0 0] 38) = z) := ⟨_, rfl⟩
  have hw0 := ((Sp.start Non w).alloc 38 2 1 #[.slice ta tn tc, .slice ba bn bc] rfl (by decide)).alloc 38 2 1 #[.slice none 0 0, .slice none 0 0] rfl (by decide)
  rw [HW.out] at hw0
  have H1_ := hw0
  try simp only [List.cons_append, List.nil_append, List.set_cons_zero, List.set_cons_succ, List.map_cons, List.map_nil, List.getD_cons_zero, List.getD_cons_succ, World.size_alloc] at H1_
  have H1 := Lib.hid H1_
  clear H1_
  obtain ⟨b1, HB1⟩ : ∃ z, Hid (w.heap.size = z) := ⟨_, rfl⟩
  rw [HB1.out] at H1
  have y0 := H1.out.cell (i := 0) rfl 0 _ rfl
  have y1 := H1.out.cell (i := 0) rfl 1 _ rfl
  have HY := Lib.hid hY
  have CI := Lib.hid (items_any (hY.below H1.out.belowN (Nat.le_refl _)))
  simp only [Ar.v] at CI
  obtain ⟨it, HIT⟩ : ∃ z, Hid (itE t b = z) := ⟨_, rfl⟩
  rw [HIT.out] at CI h0 hib ⊢
  have q0 : (it == 0) = false := by simp; omega
  have z1 : IntKind.i64.wrap (it - 1) = it - 1 := IntWalk.i64_in _ (by omega)
  obtain ⟨VS, HVS⟩ : ∃ z, Hid (ptS t b f (it - 1) = z) := ⟨_, rfl⟩
  obtain ⟨VA, HVA⟩ : ∃ z, Hid (ptA t b f (it - 1) = z) := ⟨_, rfl⟩
  obtain ⟨VE, HVE⟩ : ∃ z, Hid (ptE t b f (it - 1) = z) := ⟨_, rfl⟩
  rw [HVS.out, HVA.out, HVE.out]
  clear hY hw0 hm
  go_enter Tryz.func110, Tryz.ntmps110
  go_wp2_with fail
  rw [HW.out, HB1.out]
  refine CI.out.mono ?_; rintro e w2 ⟨rfl, hb2⟩
  have H2_ := H1.out.via hb2
  try simp only [List.cons_append, List.nil_append, List.set_cons_zero, List.set_cons_succ, List.map_cons, List.map_nil, List.getD_cons_zero, List.getD_cons_succ, World.size_alloc] at H2_
  have H2 := Lib.hid H2_
  clear H2_
  clear y0 y1 hb2 CI H1
  have y0 := H2.out.cell (i := 0) rfl 0 _ rfl
  have y1 := H2.out.cell (i := 0) rfl 1 _ rfl
  have CC := Lib.hid (part_any (HY.out.below H2.out.belowN (Nat.le_refl _)) f (it - 1) (by omega) (by omega))
  simp only [Ar.v] at CC
  rw [HVS.out, HVA.out, HVE.out] at CC
  go_wp2_with fail
  refine CC.out.mono ?_; rintro e w7 ⟨⟨za, zn, zc, xa, xm, xc, zs, zt⟩, rfl, hI, hs, ha, hO, hb⟩
  have H7_ := H2.out.arrNew hI hO hb
  try simp only [List.cons_append, List.nil_append, List.set_cons_zero, List.set_cons_succ, List.map_cons, List.map_nil, List.getD_cons_zero, List.getD_cons_succ, World.size_alloc] at H7_
  have H7 := Lib.hid H7_
  clear H7_
  simp only at hs ha
  subst hs ha
  simp only [Ar.v]
  clear hI hO hb CC H2 y0 y1
  have x0 := H7.out.cell (i := 1) rfl 0 _ rfl
  have x1 := H7.out.cell (i := 1) rfl 1 _ rfl
  have f0 := H7.out.frozen (i := 1) rfl 0
  have f1 := H7.out.frozen (i := 1) rfl 1
  have HF : Hid (∀ u v, MadeE w zs zt VE (.returned (.tuple #[.agg #[.slice za zn zc, .slice xa xm xc], .int .i64 VE])) ((w7.setCell ⟨b1 + 1, 0, none⟩ u).setCell ⟨b1 + 1, 1, none⟩ v)) := fun u v =>
    ((H7.out.put (i := 1) rfl 0 u).put (i := 1) rfl 1 v).madeE (i := 2) (B := ⟨za, zn, zc, xa, xm, xc, zs, zt⟩) rfl VE
  clear H7
  go_wp2
  exact bodyPost_ret (v := .tuple #[.agg #[.slice za zn zc, .slice xa xm xc], .int .i64 VE]) (by simp [results, Tryz.results110, go_sem, *]) rfl (HF.out _ _)
theorem part6_any {w : World} {Y : Ar} (hY : Y.Is w) (hm : amE Y.s Y.a = 0) (f : Int) (hf : 0 ≤ f ∧ f ≤ 1) : Calls Tryz.prog 110 #[Y.v, .int .i64 f] w (MadeE w (paS Y.s Y.a f) (paA Y.s Y.a f) (paE Y.s Y.a f)) := by
  by_cases h0 : itE Y.s Y.a = 0
  · exact part6_f hY hm f hf h0
  · exact part6_e hY hm f hf h0
set_option maxRecDepth 100000 in
set_option maxHeartbeats 1600000 in
theorem head_m6 {w : World} {Y : Ar} (hY : Y.Is w) (hm : amE Y.s Y.a = 0) : Calls Tryz.prog 105 #[Y.v] w (MadeE w Y.s.tail (enA Y.s Y.a 0) 0) := by
  obtain ⟨ta, tn, tc, ba, bn, bc, t, b⟩ := Y
  simp only [Ar.v]
  simp only at hm
  have hb4 : bn ≤ 4096 := by
    obtain ⟨h1, h2⟩ := amE_zero hm
    have h3 := pr_nonneg h1
    have h4 : b.length = bn := hY.ats.len
    omega
  obtain ⟨W, HW⟩ : ∃ z, Hid ((w.alloc (.cells #[.slice ta tn tc, .slice ba bn bc] 38)).alloc (.cells #[.slice none 0 0, .slice none 0 0] 38) = z) := ⟨_, rfl⟩
  have hw0 := ((Sp.start Non w).alloc 38 2 1 #[.slice ta tn tc, .slice ba bn bc] rfl (by decide)).alloc 38 2 1 #[.slice none 0 0, .slice none 0 0] rfl (by decide)
  rw [HW.out] at hw0
  have H1_ := hw0
  try simp only [List.cons_append, List.nil_append, List.set_cons_zero, List.set_cons_succ, List.map_cons, List.map_nil, List.getD_cons_zero, List.getD_cons_succ, World.size_alloc] at H1_
  have H1 := Lib.hid H1_
  clear H1_
  obtain ⟨b1, HB1⟩ : ∃ z, Hid (w.heap.size = z) := ⟨_, rfl⟩
  rw [HB1.out] at H1
  have y0 := H1.out.cell (i := 0) rfl 0 _ rfl
  have y1 := H1.out.cell (i := 0) rfl 1 _ rfl
  have hI := hY.below H1.out.belowN (Nat.le_refl _)
  have CC := Lib.hid (end_any hI hm 0 (.inl rfl))
  simp only [Ar.v] at CC
  obtain ⟨VS, HVS⟩ : ∃ z, Hid (t.tail = z) := ⟨_, rfl⟩
  obtain ⟨VA, HVA⟩ : ∃ z, Hid (enA t b 0 = z) := ⟨_, rfl⟩
  rw [HVS.out, HVA.out] at CC ⊢
  clear hY hw0 hm hI
  go_enter Tryz.func105, Tryz.ntmps105
  go_wp2_with fail
  rw [HW.out, HB1.out]
  refine CC.out.mono ?_; rintro e w7 ⟨⟨za, zn, zc, xa, xm, xc, zs, zt⟩, rfl, hI, hs, ha, hO, hb⟩
  have H7_ := H1.out.arrNew hI hO hb
  try simp only [List.cons_append, List.nil_append, List.set_cons_zero, List.set_cons_succ, List.map_cons, List.map_nil, List.getD_cons_zero, List.getD_cons_succ, World.size_alloc] at H7_
  have H7 := Lib.hid H7_
  clear H7_
  simp only at hs ha
  subst hs ha
  simp only [Ar.v]
  clear hI hO hb CC H1 y0 y1
  have x0 := H7.out.cell (i := 1) rfl 0 _ rfl
  have x1 := H7.out.cell (i := 1) rfl 1 _ rfl
  have f0 := H7.out.frozen (i := 1) rfl 0
  have f1 := H7.out.frozen (i := 1) rfl 1
  have HF : Hid (∀ u v, MadeE w zs zt 0 (.returned (.tuple #[.agg #[.slice za zn zc, .slice xa xm xc], .int .i64 0])) ((w7.setCell ⟨b1 + 1, 0, none⟩ u).setCell ⟨b1 + 1, 1, none⟩ v)) := fun u v =>
    ((H7.out.put (i := 1) rfl 0 u).put (i := 1) rfl 1 v).madeE (i := 2) (B := ⟨za, zn, zc, xa, xm, xc, zs, zt⟩) rfl 0
  clear H7
  go_wp2
  exact bodyPost_ret (v := .tuple #[.agg #[.slice za zn zc, .slice xa xm xc], .int .i64 0]) (by simp [results, Tryz.results105, go_sem, *]) rfl (HF.out _ _)
set_option maxRecDepth 100000 in
set_option maxHeartbeats 1600000 in
theorem last_m6 {w : World} {Y : Ar} (hY : Y.Is w) (hm : amE Y.s Y.a = 0) : Calls Tryz.prog 108 #[Y.v] w (MadeE w Y.s.tail (enA Y.s Y.a (-1)) 0) := by
  obtain ⟨ta, tn, tc, ba, bn, bc, t, b⟩ := Y
  simp only [Ar.v]
  simp only at hm
  have hb4 : bn ≤ 4096 := by
    obtain ⟨h1, h2⟩ := amE_zero hm
    have h3 := pr_nonneg h1
    have h4 : b.length = bn := hY.ats.len
    omega
  obtain ⟨W, HW⟩ : ∃ z, Hid ((w.alloc (.cells #[.slice ta tn tc, .slice ba bn bc] 38)).alloc (.cells #[.slice none 0 0, .slice none 0 0] 38) = z) := ⟨_, rfl⟩
  have hw0 := ((Sp.start Non w).alloc 38 2 1 #[.slice ta tn tc, .slice ba bn bc] rfl (by decide)).alloc 38 2 1 #[.slice none 0 0, .slice none 0 0] rfl (by decide)
  rw [HW.out] at hw0
  have H1_ := hw0
  try simp only [List.cons_append, List.nil_append, List.set_cons_zero, List.set_cons_succ, List.map_cons, List.map_nil, List.getD_cons_zero, List.getD_cons_succ, World.size_alloc] at H1_
  have H1 := Lib.hid H1_
  clear H1_
  obtain ⟨b1, HB1⟩ : ∃ z, Hid (w.heap.size = z) := ⟨_, rfl⟩
  rw [HB1.out] at H1
  have y0 := H1.out.cell (i := 0) rfl 0 _ rfl
  have y1 := H1.out.cell (i := 0) rfl 1 _ rfl
  have hI := hY.below H1.out.belowN (Nat.le_refl _)
  have CC := Lib.hid (end_any hI hm (-1) (.inr rfl))
  simp only [Ar.v] at CC
  obtain ⟨VS, HVS⟩ : ∃ z, Hid (t.tail = z) := ⟨_, rfl⟩
  obtain ⟨VA, HVA⟩ : ∃ z, Hid (enA t b (-1) = z) := ⟨_, rfl⟩
  rw [HVS.out, HVA.out] at CC ⊢
  clear hY hw0 hm hI
  go_enter Tryz.func108, Tryz.ntmps108
  go_wp2_with fail
  rw [HW.out, HB1.out]
  refine CC.out.mono ?_; rintro e w7 ⟨⟨za, zn, zc, xa, xm, xc, zs, zt⟩, rfl, hI, hs, ha, hO, hb⟩
  have H7_ := H1.out.arrNew hI hO hb
  try simp only [List.cons_append, List.nil_append, List.set_cons_zero, List.set_cons_succ, List.map_cons, List.map_nil, List.getD_cons_zero, List.getD_cons_succ, World.size_alloc] at H7_
  have H7 := Lib.hid H7_
  clear H7_
  simp only at hs ha
  subst hs ha
  simp only [Ar.v]
  clear hI hO hb CC H1 y0 y1
  have x0 := H7.out.cell (i := 1) rfl 0 _ rfl
  have x1 := H7.out.cell (i := 1) rfl 1 _ rfl
  have f0 := H7.out.frozen (i := 1) rfl 0
  have f1 := H7.out.frozen (i := 1) rfl 1
  have HF : Hid (∀ u v, MadeE w zs zt 0 (.returned (.tuple #[.agg #[.slice za zn zc, .slice xa xm xc], .int .i64 0])) ((w7.setCell ⟨b1 + 1, 0, none⟩ u).setCell ⟨b1 + 1, 1, none⟩ v)) := fun u v =>
    ((H7.out.put (i := 1) rfl 0 u).put (i := 1) rfl 1 v).madeE (i := 2) (B := ⟨za, zn, zc, xa, xm, xc, zs, zt⟩) rfl 0
  clear H7
  go_wp2
  exact bodyPost_ret (v := .tuple #[.agg #[.slice za zn zc, .slice xa xm xc], .int .i64 0]) (by simp [results, Tryz.results108, go_sem, *]) rfl (HF.out _ _)
set_option maxRecDepth 100000 in
set_option maxHeartbeats 1600000 in
theorem rest_m6 {w : World} {Y : Ar} (hY : Y.Is w) (hm : amE Y.s Y.a = 0) : Calls Tryz.prog 109 #[Y.v] w (MadeE w (paS Y.s Y.a 1) (paA Y.s Y.a 1) (paE Y.s Y.a 1)) := by
  obtain ⟨ta, tn, tc, ba, bn, bc, t, b⟩ := Y
  simp only [Ar.v]
  simp only at hm
  have hb4 : bn ≤ 4096 := by
    obtain ⟨h1, h2⟩ := amE_zero hm
    have h3 := pr_nonneg h1
    have h4 : b.length = bn := hY.ats.len
    omega
  obtain ⟨W, HW⟩ : ∃ z, Hid ((w.alloc (.cells #[.slice ta tn tc, .slice ba bn bc] 38)).alloc (.cells #[.slice none 0 0, .slice none 0 0] 38) = z) := ⟨_, rfl⟩
  have hw0 := ((Sp.start Non w).alloc 38 2 1 #[.slice ta tn tc, .slice ba bn bc] rfl (by decide)).alloc 38 2 1 #[.slice none 0 0, .slice none 0 0] rfl (by decide)
  rw [HW.out] at hw0
  have H1_ := hw0
  try simp only [List.cons_append, List.nil_append, List.set_cons_zero, List.set_cons_succ, List.map_cons, List.map_nil, List.getD_cons_zero, List.getD_cons_succ, World.size_alloc] at H1_
  have H1 := Lib.hid H1_
  clear H1_
  obtain ⟨b1, HB1⟩ : ∃ z, Hid (w.heap.size = z) := ⟨_, rfl⟩
  rw [HB1.out] at H1
  have y0 := H1.out.cell (i := 0) rfl 0 _ rfl
  have y1 := H1.out.cell (i := 0) rfl 1 _ rfl
  have hI := hY.below H1.out.belowN (Nat.le_refl _)
  have CC := Lib.hid (part6_any hI hm 1 (by omega))
  simp only [Ar.v] at CC
  obtain ⟨VS, HVS⟩ : ∃ z, Hid (paS t b 1 = z) := ⟨_, rfl⟩
  obtain ⟨VA, HVA⟩ : ∃ z, Hid (paA t b 1 = z) := ⟨_, rfl⟩
  obtain ⟨VE, HVE⟩ : ∃ z, Hid (paE t b 1 = z) := ⟨_, rfl⟩
  rw [HVS.out, HVA.out] at CC ⊢
  rw [HVE.out] at CC ⊢
  clear hY hw0 hm hI
  go_enter Tryz.func109, Tryz.ntmps109
  go_wp2_with fail
  rw [HW.out, HB1.out]
  refine CC.out.mono ?_; rintro e w7 ⟨⟨za, zn, zc, xa, xm, xc, zs, zt⟩, rfl, hI, hs, ha, hO, hb⟩
  have H7_ := H1.out.arrNew hI hO hb
  try simp only [List.cons_append, List.nil_append, List.set_cons_zero, List.set_cons_succ, List.map_cons, List.map_nil, List.getD_cons_zero, List.getD_cons_succ, World.size_alloc] at H7_
  have H7 := Lib.hid H7_
  clear H7_
  simp only at hs ha
  subst hs ha
  simp only [Ar.v]
  clear hI hO hb CC H1 y0 y1
  have x0 := H7.out.cell (i := 1) rfl 0 _ rfl
  have x1 := H7.out.cell (i := 1) rfl 1 _ rfl
  have f0 := H7.out.frozen (i := 1) rfl 0
  have f1 := H7.out.frozen (i := 1) rfl 1
  have HF : Hid (∀ u v, MadeE w zs zt VE (.returned (.tuple #[.agg #[.slice za zn zc, .slice xa xm xc], .int .i64 VE])) ((w7.setCell ⟨b1 + 1, 0, none⟩ u).setCell ⟨b1 + 1, 1, none⟩ v)) := fun u v =>
    ((H7.out.put (i := 1) rfl 0 u).put (i := 1) rfl 1 v).madeE (i := 2) (B := ⟨za, zn, zc, xa, xm, xc, zs, zt⟩) rfl VE
  clear H7
  go_wp2
  exact bodyPost_ret (v := .tuple #[.agg #[.slice za zn zc, .slice xa xm xc], .int .i64 VE]) (by simp [results, Tryz.results109, go_sem, *]) rfl (HF.out _ _)
set_option maxRecDepth 100000 in
set_option maxHeartbeats 1600000 in
theorem front_m6 {w : World} {Y : Ar} (hY : Y.Is w) (hm : amE Y.s Y.a = 0) : Calls Tryz.prog 112 #[Y.v] w (MadeE w (paS Y.s Y.a 0) (paA Y.s Y.a 0) (paE Y.s Y.a 0)) := by
  obtain ⟨ta, tn, tc, ba, bn, bc, t, b⟩ := Y
  simp only [Ar.v]
  simp only at hm
  have hb4 : bn ≤ 4096 := by
    obtain ⟨h1, h2⟩ := amE_zero hm
    have h3 := pr_nonneg h1
    have h4 : b.length = bn := hY.ats.len
    omega
  obtain ⟨W, HW⟩ : ∃ z, Hid ((w.alloc (.cells #[.slice ta tn tc, .slice ba bn bc] 38)).alloc (.cells #[.slice none 0 0, .slice none 0 0] 38) = z) := ⟨_, rfl⟩
  have hw0 := ((Sp.start Non w).alloc 38 2 1 #[.slice ta tn tc, .slice ba bn bc] rfl (by decide)).alloc 38 2 1 #[.slice none 0 0, .slice none 0 0] rfl (by decide)
  rw [HW.out] at hw0
  have H1_ := hw0
  try simp only [List.cons_append, List.nil_append, List.set_cons_zero, List.set_cons_succ, List.map_cons, List.map_nil, List.getD_cons_zero, List.getD_cons_succ, World.size_alloc] at H1_
  have H1 := Lib.hid H1_
  clear H1_
  obtain ⟨b1, HB1⟩ : ∃ z, Hid (w.heap.size = z) := ⟨_, rfl⟩
  rw [HB1.out] at H1
  have y0 := H1.out.cell (i := 0) rfl 0 _ rfl
  have y1 := H1.out.cell (i := 0) rfl 1 _ rfl
  have hI := hY.below H1.out.belowN (Nat.le_refl _)
  have CC := Lib.hid (part6_any hI hm 0 (by omega))
  simp only [Ar.v] at CC
  obtain ⟨VS, HVS⟩ : ∃ z, Hid (paS t b 0 = z) := ⟨_, rfl⟩
  obtain ⟨VA, HVA⟩ : ∃ z, Hid (paA t b 0 = z) := ⟨_, rfl⟩
  obtain ⟨VE, HVE⟩ : ∃ z, Hid (paE t b 0 = z) := ⟨_, rfl⟩
  rw [HVS.out, HVA.out] at CC ⊢
  rw [HVE.out] at CC ⊢
  clear hY hw0 hm hI
  go_enter Tryz.func112, Tryz.ntmps112
  go_wp2_with fail
  rw [HW.out, HB1.out]
  refine CC.out.mono ?_; rintro e w7 ⟨⟨za, zn, zc, xa, xm, xc, zs, zt⟩, rfl, hI, hs, ha, hO, hb⟩
  have H7_ := H1.out.arrNew hI hO hb
  try simp only [List.cons_append, List.nil_append, List.set_cons_zero, List.set_cons_succ, List.map_cons, List.map_nil, List.getD_cons_zero, List.getD_cons_succ, World.size_alloc] at H7_
  have H7 := Lib.hid H7_
  clear H7_
  simp only at hs ha
  subst hs ha
  simp only [Ar.v]
  clear hI hO hb CC H1 y0 y1
  have x0 := H7.out.cell (i := 1) rfl 0 _ rfl
  have x1 := H7.out.cell (i := 1) rfl 1 _ rfl
  have f0 := H7.out.frozen (i := 1) rfl 0
  have f1 := H7.out.frozen (i := 1) rfl 1
  have HF : Hid (∀ u v, MadeE w zs zt VE (.returned (.tuple #[.agg #[.slice za zn zc, .slice xa xm xc], .int .i64 VE])) ((w7.setCell ⟨b1 + 1, 0, none⟩ u).setCell ⟨b1 + 1, 1, none⟩ v)) := fun u v =>
    ((H7.out.put (i := 1) rfl 0 u).put (i := 1) rfl 1 v).madeE (i := 2) (B := ⟨za, zn, zc, xa, xm, xc, zs, zt⟩) rfl VE
  clear H7
  go_wp2
  exact bodyPost_ret (v := .tuple #[.agg #[.slice za zn zc, .slice xa xm xc], .int .i64 VE]) (by simp [results, Tryz.results112, go_sem, *]) rfl (HF.out _ _)
set_option maxRecDepth 100000 in
set_option maxHeartbeats 1600000 in
theorem ravel_m6 {w : World} {Y : Ar} (hY : Y.Is w) (hm : amE Y.s Y.a = 0) : Calls Tryz.prog 96 #[Y.v] w (MadeE w [(Y.an : Int)] Y.a 0) := by
  obtain ⟨ta, tn, tc, ba, bn, bc, t, b⟩ := Y
  simp only [Ar.v]
  simp only at hm
  have hb4 : bn ≤ 4096 := by
    obtain ⟨h1, h2⟩ := amE_zero hm
    have h3 := pr_nonneg h1
    have h4 : b.length = bn := hY.ats.len
    omega
  obtain ⟨W, HW⟩ : ∃ z, Hid ((w.alloc (.cells #[.slice ta tn tc, .slice ba bn bc] 38)).alloc (.cells #[.slice none 0 0, .slice none 0 0] 38) = z) := ⟨_, rfl⟩
  have hw0 := ((Sp.start Non w).alloc 38 2 1 #[.slice ta tn tc, .slice ba bn bc] rfl (by decide)).alloc 38 2 1 #[.slice none 0 0, .slice none 0 0] rfl (by decide)
  rw [HW.out] at hw0
  have H1_ := hw0
  try simp only [List.cons_append, List.nil_append, List.set_cons_zero, List.set_cons_succ, List.map_cons, List.map_nil, List.getD_cons_zero, List.getD_cons_succ, World.size_alloc] at H1_
  have H1 := Lib.hid H1_
  clear H1_
  obtain ⟨b1, HB1⟩ : ∃ z, Hid (w.heap.size = z) := ⟨_, rfl⟩
  rw [HB1.out] at H1
  have y0 := H1.out.cell (i := 0) rfl 0 _ rfl
  have y1 := H1.out.cell (i := 0) rfl 1 _ rfl
  have hI := hY.below H1.out.belowN (Nat.le_refl _)
  have CC := Lib.hid (list_ok hI.ats hb4)
  simp only [Ar.v] at CC
  obtain ⟨VS, HVS⟩ : ∃ z, Hid ([(bn : Int)] = z) := ⟨_, rfl⟩
  obtain ⟨VA, HVA⟩ : ∃ z, Hid (b = z) := ⟨_, rfl⟩
  rw [HVS.out, HVA.out] at CC ⊢
  clear hY hw0 hm hI
  go_enter Tryz.func96, Tryz.ntmps96
  go_wp2_with fail
  rw [HW.out, HB1.out]
  refine CC.out.mono ?_; rintro e w7 ⟨⟨za, zn, zc, xa, xm, xc, zs, zt⟩, rfl, hI, hs, ha, hO, hb⟩
  have H7_ := H1.out.arrNew hI hO hb
  try simp only [List.cons_append, List.nil_append, List.set_cons_zero, List.set_cons_succ, List.map_cons, List.map_nil, List.getD_cons_zero, List.getD_cons_succ, World.size_alloc] at H7_
  have H7 := Lib.hid H7_
  clear H7_
  simp only at hs ha
  subst hs ha
  simp only [Ar.v]
  clear hI hO hb CC H1 y0 y1
  have x0 := H7.out.cell (i := 1) rfl 0 _ rfl
  have x1 := H7.out.cell (i := 1) rfl 1 _ rfl
  have f0 := H7.out.frozen (i := 1) rfl 0
  have f1 := H7.out.frozen (i := 1) rfl 1
  have HF : Hid (∀ u v, MadeE w zs zt 0 (.returned (.tuple #[.agg #[.slice za zn zc, .slice xa xm xc], .int .i64 0])) ((w7.setCell ⟨b1 + 1, 0, none⟩ u).setCell ⟨b1 + 1, 1, none⟩ v)) := fun u v =>
    ((H7.out.put (i := 1) rfl 0 u).put (i := 1) rfl 1 v).madeE (i := 2) (B := ⟨za, zn, zc, xa, xm, xc, zs, zt⟩) rfl 0
  clear H7
  go_wp2
  exact bodyPost_ret (v := .tuple #[.agg #[.slice za zn zc, .slice xa xm xc], .int .i64 0]) (by simp [results, Tryz.results96, go_sem, *]) rfl (HF.out _ _)
set_option maxRecDepth 100000 in
set_option maxHeartbeats 1600000 in
theorem tally_m6 {w : World} {Y : Ar} (hY : Y.Is w) (hm : amE Y.s Y.a = 0) : Calls Tryz.prog 91 #[Y.v] w (MadeE w [] [itE Y.s Y.a] 0) := by
  have hib : 0 ≤ itE Y.s Y.a ∧ itE Y.s Y.a ≤ 4096 := by
    unfold itE
    rw [if_pos hm]
    split
    · omega
    · have h1 := mayE_zero (amE_zero hm).1
      have h2 := (pm_up Y.s 0).2.2
      have h3 := pm_all Y.s (0 + 1)
      have := h1.1 0
      omega
  obtain ⟨ta, tn, tc, ba, bn, bc, t, b⟩ := Y
  simp only [Ar.v]
  simp only at hm hib
  obtain ⟨W, HW⟩ : ∃ z, Hid ((w.alloc (.cells #[.slice ta tn tc, .slice ba bn bc] 38)).alloc (.cells #[.slice none 0 0, .slice none 0 0] 38) = z) := ⟨_, rfl⟩
  have hw0 := ((Sp.start Non w).alloc 38 2 1 #[.slice ta tn tc, .slice ba bn bc] rfl (by decide)).alloc 38 2 1 #[.slice none 0 0, .slice none 0 0] rfl (by decide)
  rw [HW.out] at hw0
  have H1_ := hw0
  try simp only [List.cons_append, List.nil_append, List.set_cons_zero, List.set_cons_succ, List.map_cons, List.map_nil, List.getD_cons_zero, List.getD_cons_succ, World.size_alloc] at H1_
  have H1 := Lib.hid H1_
  clear H1_
  obtain ⟨b1, HB1⟩ : ∃ z, Hid (w.heap.size = z) := ⟨_, rfl⟩
  rw [HB1.out] at H1
  have y0 := H1.out.cell (i := 0) rfl 0 _ rfl
  have y1 := H1.out.cell (i := 0) rfl 1 _ rfl
  have CI := Lib.hid (items_any (hY.below H1.out.belowN (Nat.le_refl _)))
  simp only [Ar.v] at CI
  obtain ⟨it, HIT⟩ : ∃ z, Hid (itE t b = z) := ⟨_, rfl⟩
  rw [HIT.out] at CI hib ⊢
  clear hY hw0 hm
  go_enter Tryz.func91, Tryz.ntmps91
  go_wp2_with fail
  rw [HW.out, HB1.out]
  refine CI.out.mono ?_; rintro e w2 ⟨rfl, hb2⟩
  have H2_ := H1.out.via hb2
  try simp only [List.cons_append, List.nil_append, List.set_cons_zero, List.set_cons_succ, List.map_cons, List.map_nil, List.getD_cons_zero, List.getD_cons_succ, World.size_alloc] at H2_
  have H2 := Lib.hid H2_
  clear H2_
  have CC := Lib.hid (scalar_any it w2 (by omega))
  clear y0 y1 hb2 CI H1
  go_wp2_with fail
  refine CC.out.mono ?_; rintro e w7 ⟨⟨za, zn, zc, xa, xm, xc, zs, zt⟩, rfl, hI, hs, ha, hO, hb⟩
  have H7_ := H2.out.arrNew hI hO hb
  try simp only [List.cons_append, List.nil_append, List.set_cons_zero, List.set_cons_succ, List.map_cons, List.map_nil, List.getD_cons_zero, List.getD_cons_succ, World.size_alloc] at H7_
  have H7 := Lib.hid H7_
  clear H7_
  simp only at hs ha
  subst hs ha
  simp only [Ar.v]
  clear hI hO hb CC H2
  have x0 := H7.out.cell (i := 1) rfl 0 _ rfl
  have x1 := H7.out.cell (i := 1) rfl 1 _ rfl
  have f0 := H7.out.frozen (i := 1) rfl 0
  have f1 := H7.out.frozen (i := 1) rfl 1
  have HF : Hid (∀ u v, MadeE w [] [it] 0 (.returned (.tuple #[.agg #[.slice za zn zc, .slice xa xm xc], .int .i64 0])) ((w7.setCell ⟨b1 + 1, 0, none⟩ u).setCell ⟨b1 + 1, 1, none⟩ v)) := fun u v =>
    ((H7.out.put (i := 1) rfl 0 u).put (i := 1) rfl 1 v).madeE (i := 2) (B := ⟨za, zn, zc, xa, xm, xc, [], [it]⟩) rfl 0
  clear H7
  go_wp2
  exact bodyPost_ret (v := .tuple #[.agg #[.slice za zn zc, .slice xa xm xc], .int .i64 0]) (by simp [results, Tryz.results91, go_sem, *]) rfl (HF.out _ _)
set_option maxRecDepth 100000 in
set_option maxHeartbeats 1600000 in
theorem left_d6 {w : World} {X Y : Ar} (hX : X.Is w) (hY : Y.Is w) : Calls Tryz.prog 118 #[X.v, Y.v] w (MadeE w (mdS X.s) (mdA X.s X.a) (mdE X.s)) := by
  obtain ⟨sa, sn, sc, aa, an, ac, s, a⟩ := X
  obtain ⟨ta, tn, tc, ba, bn, bc, t, b⟩ := Y
  simp only [Ar.v]
  obtain ⟨W, HW⟩ : ∃ z, Hid (((w.alloc (.cells #[.slice sa sn sc, .slice aa an ac] 38)).alloc (.cells #[.slice ta tn tc, .slice ba bn bc] 38)).alloc (.cells #[.slice none 0 0, .slice none 0 0] 38) = z) := ⟨_, rfl⟩
  have hw0 := (((Sp.start Non w).alloc 38 2 1 #[.slice sa sn sc, .slice aa an ac] rfl (by decide)).alloc 38 2 1 #[.slice ta tn tc, .slice ba bn bc] rfl (by decide)).alloc 38 2 1 #[.slice none 0 0, .slice none 0 0] rfl (by decide)
  rw [HW.out] at hw0
  have H1_ := hw0
  try simp only [List.cons_append, List.nil_append, List.set_cons_zero, List.set_cons_succ, List.map_cons, List.map_nil, List.getD_cons_zero, List.getD_cons_succ, World.size_alloc] at H1_
  have H1 := Lib.hid H1_
  clear H1_
  obtain ⟨b1, HB1⟩ : ∃ z, Hid (w.heap.size = z) := ⟨_, rfl⟩
  rw [HB1.out] at H1
  have y0 := H1.out.cell (i := 0) rfl 0 _ rfl
  have y1 := H1.out.cell (i := 0) rfl 1 _ rfl
  have CC := Lib.hid (same6_any (hX.below H1.out.belowN (Nat.le_refl _)))
  simp only [Ar.v] at CC
  obtain ⟨VS, HVS⟩ : ∃ z, Hid (mdS s = z) := ⟨_, rfl⟩
  obtain ⟨VA, HVA⟩ : ∃ z, Hid (mdA s a = z) := ⟨_, rfl⟩
  obtain ⟨VE, HVE⟩ : ∃ z, Hid (mdE s = z) := ⟨_, rfl⟩
  rw [HVS.out, HVA.out, HVE.out] at CC ⊢
  clear hX hY hw0
  go_enter Tryz.func118, Tryz.ntmps118
  go_wp2_with fail
  rw [HW.out, HB1.out]
  refine CC.out.mono ?_; rintro e w7 ⟨⟨za, zn, zc, xa, xm, xc, zs, zt⟩, rfl, hI, hs, ha, hO, hb⟩
  have H7_ := H1.out.arrNew hI hO hb
  try simp only [List.cons_append, List.nil_append, List.set_cons_zero, List.set_cons_succ, List.map_cons, List.map_nil, List.getD_cons_zero, List.getD_cons_succ, World.size_alloc] at H7_
  have H7 := Lib.hid H7_
  clear H7_
  simp only at hs ha
  subst hs ha
  simp only [Ar.v]
  clear hI hO hb CC H1 y0 y1
  have x0 := H7.out.cell (i := 2) rfl 0 _ rfl
  have x1 := H7.out.cell (i := 2) rfl 1 _ rfl
  have f0 := H7.out.frozen (i := 2) rfl 0
  have f1 := H7.out.frozen (i := 2) rfl 1
  have HF : Hid (∀ u v, MadeE w zs zt VE (.returned (.tuple #[.agg #[.slice za zn zc, .slice xa xm xc], .int .i64 VE])) ((w7.setCell ⟨b1 + 1 + 1, 0, none⟩ u).setCell ⟨b1 + 1 + 1, 1, none⟩ v)) := fun u v =>
    ((H7.out.put (i := 2) rfl 0 u).put (i := 2) rfl 1 v).madeE (i := 3) (B := ⟨za, zn, zc, xa, xm, xc, zs, zt⟩) rfl VE
  clear H7
  go_wp2
  exact bodyPost_ret (v := .tuple #[.agg #[.slice za zn zc, .slice xa xm xc], .int .i64 VE]) (by simp [results, Tryz.results118, go_sem, *]) rfl (HF.out _ _)
set_option maxRecDepth 100000 in
set_option maxHeartbeats 1600000 in
theorem right_d6 {w : World} {X Y : Ar} (hX : X.Is w) (hY : Y.Is w) : Calls Tryz.prog 119 #[X.v, Y.v] w (MadeE w (mdS Y.s) (mdA Y.s Y.a) (mdE Y.s)) := by
  obtain ⟨sa, sn, sc, aa, an, ac, s, a⟩ := X
  obtain ⟨ta, tn, tc, ba, bn, bc, t, b⟩ := Y
  simp only [Ar.v]
  obtain ⟨W, HW⟩ : ∃ z, Hid (((w.alloc (.cells #[.slice sa sn sc, .slice aa an ac] 38)).alloc (.cells #[.slice ta tn tc, .slice ba bn bc] 38)).alloc (.cells #[.slice none 0 0, .slice none 0 0] 38) = z) := ⟨_, rfl⟩
  have hw0 := (((Sp.start Non w).alloc 38 2 1 #[.slice sa sn sc, .slice aa an ac] rfl (by decide)).alloc 38 2 1 #[.slice ta tn tc, .slice ba bn bc] rfl (by decide)).alloc 38 2 1 #[.slice none 0 0, .slice none 0 0] rfl (by decide)
  rw [HW.out] at hw0
  have H1_ := hw0
  try simp only [List.cons_append, List.nil_append, List.set_cons_zero, List.set_cons_succ, List.map_cons, List.map_nil, List.getD_cons_zero, List.getD_cons_succ, World.size_alloc] at H1_
  have H1 := Lib.hid H1_
  clear H1_
  obtain ⟨b1, HB1⟩ : ∃ z, Hid (w.heap.size = z) := ⟨_, rfl⟩
  rw [HB1.out] at H1
  have y0 := H1.out.cell (i := 1) rfl 0 _ rfl
  have y1 := H1.out.cell (i := 1) rfl 1 _ rfl
  have CC := Lib.hid (same6_any (hY.below H1.out.belowN (Nat.le_refl _)))
  simp only [Ar.v] at CC
  obtain ⟨VS, HVS⟩ : ∃ z, Hid (mdS t = z) := ⟨_, rfl⟩
  obtain ⟨VA, HVA⟩ : ∃ z, Hid (mdA t b = z) := ⟨_, rfl⟩
  obtain ⟨VE, HVE⟩ : ∃ z, Hid (mdE t = z) := ⟨_, rfl⟩
  rw [HVS.out, HVA.out, HVE.out] at CC ⊢
  clear hX hY hw0
  go_enter Tryz.func119, Tryz.ntmps119
  go_wp2_with fail
  rw [HW.out, HB1.out]
  refine CC.out.mono ?_; rintro e w7 ⟨⟨za, zn, zc, xa, xm, xc, zs, zt⟩, rfl, hI, hs, ha, hO, hb⟩
  have H7_ := H1.out.arrNew hI hO hb
  try simp only [List.cons_append, List.nil_append, List.set_cons_zero, List.set_cons_succ, List.map_cons, List.map_nil, List.getD_cons_zero, List.getD_cons_succ, World.size_alloc] at H7_
  have H7 := Lib.hid H7_
  clear H7_
  simp only at hs ha
  subst hs ha
  simp only [Ar.v]
  clear hI hO hb CC H1 y0 y1
  have x0 := H7.out.cell (i := 2) rfl 0 _ rfl
  have x1 := H7.out.cell (i := 2) rfl 1 _ rfl
  have f0 := H7.out.frozen (i := 2) rfl 0
  have f1 := H7.out.frozen (i := 2) rfl 1
  have HF : Hid (∀ u v, MadeE w zs zt VE (.returned (.tuple #[.agg #[.slice za zn zc, .slice xa xm xc], .int .i64 VE])) ((w7.setCell ⟨b1 + 1 + 1, 0, none⟩ u).setCell ⟨b1 + 1 + 1, 1, none⟩ v)) := fun u v =>
    ((H7.out.put (i := 2) rfl 0 u).put (i := 2) rfl 1 v).madeE (i := 3) (B := ⟨za, zn, zc, xa, xm, xc, zs, zt⟩) rfl VE
  clear H7
  go_wp2
  exact bodyPost_ret (v := .tuple #[.agg #[.slice za zn zc, .slice xa xm xc], .int .i64 VE]) (by simp [results, Tryz.results119, go_sem, *]) rfl (HF.out _ _)
set_option maxRecDepth 100000 in
set_option maxHeartbeats 1600000 in
theorem lengths_m6 {w : World} {Y : Ar} (hY : Y.Is w) (hm : amE Y.s Y.a = 0) : Calls Tryz.prog 94 #[Y.v] w (MadeE w [(Y.sn : Int)] Y.s 0) := by
  obtain ⟨ta, tn, tc, ba, bn, bc, t, b⟩ := Y
  simp only [Ar.v]
  simp only at hm
  have htl : t.length = tn := hY.shp.len
  have ht8 : tn ≤ 8 := by have := (mayE_zero (amE_zero hm).1).2.1; omega
  have hrg := hY.shp.rng
  simp only at hrg
  obtain ⟨i0, hi0, hza, hzb, hzc⟩ := info_parts (P := Tryz.prog) (e := 2) (z := .int .i64 0) (size := 1) (bytes := 8) (by kernel_rfl)
  obtain ⟨W, HW⟩ : ∃ z, Hid ((w.alloc (.cells #[.slice ta tn tc, .slice ba bn bc] 38)).alloc (.cells #[.slice none 0 0, .slice none 0 0] 38) = z) := ⟨_, rfl⟩
  have hw0 := ((Sp.start Non w).alloc 38 2 1 #[.slice ta tn tc, .slice ba bn bc] rfl (by decide)).alloc 38 2 1 #[.slice none 0 0, .slice none 0 0] rfl (by decide)
  rw [HW.out] at hw0
  have H1_ := hw0.intsNew (E := 2) (zs := []) (World.ownsRow_nil _ _ _ _) (Below.refl _ _) (by omega) (fun i => by simp [List.getD])
  try simp only [List.cons_append, List.nil_append, List.set_cons_zero, List.set_cons_succ, List.map_cons, List.map_nil, List.getD_cons_zero, List.getD_cons_succ, World.size_alloc] at H1_
  have H1 := Lib.hid H1_
  clear H1_
  obtain ⟨b1, HB1⟩ : ∃ z, Hid (w.heap.size = z) := ⟨_, rfl⟩
  rw [HB1.out] at H1
  have y0 := H1.out.cell (i := 0) rfl 0 _ rfl
  have y1 := H1.out.cell (i := 0) rfl 1 _ rfl
  have HY := Lib.hid hY
  have HTL := Lib.hid htl
  have HRG := Lib.hid hrg
  have HS : Hid (Sp Non w W [Pt.row ⟨38, 2, some ⟨b1, 0, none⟩, 1, 1, [.slice ta tn tc, .slice ba bn bc]⟩, Pt.row ⟨38, 2, some ⟨b1 + 1, 0, none⟩, 1, 1, [.slice none 0 0, .slice none 0 0]⟩, Pt.ints 2 none 0 0 (t.take 0)]) := H1.out
  clear hY hw0 hm H1 htl hrg
  go_enter Tryz.func94, Tryz.ntmps94
  go_upto_region 1 with fail
  rw [HW.out, HB1.out]
  go_wp2_with fail
  clear y0 y1
  go_loopw [4, 10] (fun v4 v10 wr => ∃ (k : Nat) (lo : Option Addr) (lc : Nat), k ≤ tn ∧ v10 = .int .i64 k ∧ v4 = .slice lo k lc ∧ Hid (Sp Non w wr [Pt.row ⟨38, 2, some ⟨b1, 0, none⟩, 1, 1, [.slice ta tn tc, .slice ba bn bc]⟩, Pt.row ⟨38, 2, some ⟨b1 + 1, 0, none⟩, 1, 1, [.slice none 0 0, .slice none 0 0]⟩, Pt.ints 2 lo k lc (t.take k)])) (fun _ v10 _ => tn - (RowKit.intOf v10).toNat)
  case atStart => exact ⟨0, none, 0, Nat.zero_le _, rfl, rfl, HS⟩
  case round =>
    clear HS
    obtain ⟨k, lo, lc, hk, rfl, rfl, HO⟩ := hrel
    by_cases hlt : k < tn
    · have hlt' : (k : Int) < tn := by omega
      obtain ⟨b2, o2, e2, hc2⟩ := (HY.out.below HO.out.belowN (Nat.le_refl _)).shp.at (by simp only; omega)
      have d1 := hc2 k hlt
      simp only at e2 d1
      subst e2
      have hxr := HRG.out k
      have hst : t.take (k + 1) = t.take k ++ [t.getD k 0] := by
        rw [List.take_add_one, List.getElem?_eq_getElem (by rw [HTL.out]; exact hlt)]
        simp [List.getD, List.getElem?_eq_getElem (show k < t.length by rw [HTL.out]; exact hlt)]
      have HST := Lib.hid hst
      obtain ⟨x, HX⟩ : ∃ z, Hid (t.getD k 0 = z) := ⟨_, rfl⟩
      rw [HX.out] at d1 hxr HST
      have HV := Lib.hid (HO.out.via (abal wr (.cells #[.int .i64 x] 2)))
      have hb1 : (k + 1) * 8 ≤ 140737488351232 := by omega
      clear hc2 hst HO
      go_wp2_with (at_builtin; refine Sp.wpList_loc (i := 2) HV.out rfl _ _ 28 rfl 2 i0 Tryz.underlying28 hi0 hza hzb hzc rfl rfl rfl (ls_lit6 wr _ (by omega)) hb1 ?_)
      intro b9 d9 w9 h9
      have HN : Hid (Sp Non w w9 [Pt.row ⟨38, 2, some ⟨b1, 0, none⟩, 1, 1, [.slice (some ⟨b2, o2, none⟩) tn tc, .slice ba bn bc]⟩, Pt.row ⟨38, 2, some ⟨b1 + 1, 0, none⟩, 1, 1, [.slice none 0 0, .slice none 0 0]⟩, Pt.ints 2 b9 (k + 1) d9 (t.take (k + 1))]) := by
        show Sp _ _ _ _
        rw [HST.out]; exact h9
      clear h9 HV HST
      go_wp2_with fail
      go_roundw
      case rel => exact ⟨k + 1, b9, d9, by omega, by go_num, rfl, HN⟩
      case measure => simp [RowKit.intOf]; omega
    · obtain rfl : k = tn := by omega
      have hge : ¬ ((k : Int) < k) := by omega
      have HT : Hid (t.take k = t) := List.take_of_length_le (by rw [HTL.out]; exact Nat.le_refl _)
      have H2 := HO.out
      rw [HT.out] at H2
      have CC := Lib.hid (list_ok (H2.ls (i := 2) rfl) (by omega))
      have H2 := Lib.hid H2
      clear HO
      go_wp2_with fail
      refine CC.out.mono ?_; rintro e w7 ⟨⟨za, zn, zc, xa, xm, xc, zs, zt⟩, rfl, hI, hs, ha, hO, hb⟩
      have H7_ := H2.out.arrNew hI hO hb
      try simp only [List.cons_append, List.nil_append, List.set_cons_zero, List.set_cons_succ, List.map_cons, List.map_nil, List.getD_cons_zero, List.getD_cons_succ, World.size_alloc] at H7_
      have H7 := Lib.hid H7_
      clear H7_
      simp only at hs ha
      subst hs ha
      simp only [Ar.v]
      clear hI hO hb CC H2
      have x0 := H7.out.cell (i := 1) rfl 0 _ rfl
      have x1 := H7.out.cell (i := 1) rfl 1 _ rfl
      have f0 := H7.out.frozen (i := 1) rfl 0
      have f1 := H7.out.frozen (i := 1) rfl 1
      have HF : Hid (∀ u v, MadeE w [(k : Int)] zt 0 (.returned (.tuple #[.agg #[.slice za zn zc, .slice xa xm xc], .int .i64 0])) ((w7.setCell ⟨b1 + 1, 0, none⟩ u).setCell ⟨b1 + 1, 1, none⟩ v)) := fun u v =>
        ((H7.out.put (i := 1) rfl 0 u).put (i := 1) rfl 1 v).madeE (i := 3) (B := ⟨za, zn, zc, xa, xm, xc, [(k : Int)], zt⟩) rfl 0
      clear H7
      go_wp2
      exact bodyPost_ret (v := .tuple #[.agg #[.slice za zn zc, .slice xa xm xc], .int .i64 0]) (by simp [results, Tryz.results94, go_sem, *]) rfl (HF.out _ _)
end Go.Proofs.YthackmkdicpdeaaGreat
