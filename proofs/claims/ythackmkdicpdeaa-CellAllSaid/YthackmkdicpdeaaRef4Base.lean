/- The document's small functions of layers 2 and 4: Size, May, Zeros. -/
import Derived.Test.YthackmkdicpdeaaShapeRef2
import Derived.Test.YthackmkdicpdeaaSep3
import Derived.Test.YthackmkdicpdeaaHeap
import Derived.Test.YthackmkdicpdeaaCellPlain2
namespace Go.Proofs.Ythackmkdicpdeaa
open Go.RowKit Go.Lib
set_option linter.unusedVariables false
set_option linter.unusedSimpArgs false
attribute [local go_sem] alloc_drewN setCell_drewN
theorem Sp.zerosR {F0 : Nat → Prop} {w0 w : World} {L : List Pt} (H : Sp F0 w0 w L) (E : TypeId) (N : Nat) (hN : N ≤ 1000000) : Sp F0 w0 (w.alloc (.cells (Array.replicate N (.int .i64 0)) E)) (L ++ [Pt.ints E (some ⟨w.heap.size, 0, none⟩) N N (List.replicate N 0)]) :=
  H.intsNew (own_zeros w E N w.heap.size hN (Nat.le_refl _)) (abal _ _) (by omega) (fun i => by simp only [List.getD, List.getElem?_replicate]; split <;> simp)
theorem madeE_nilR {w w' : World} (err : Int) (h : Below w.heap.size w w') : MadeE w [] [] err (.returned (.tuple #[.agg #[.slice none 0 0, .slice none 0 0], .int .i64 err])) w' :=
  ⟨⟨none, 0, 0, none, 0, 0, [], []⟩, rfl, Ar.is_nil _, rfl, rfl, Ar.own_nil _ _, h⟩
theorem madeE_AR {w w' : World} {s a : List Int} {u : Value} {err : Int} (h : MadeE w s a err (.returned (.tuple #[u, .int .i64 err])) w') : MadeA w s a (.returned u) w' := by
  obtain ⟨B, e, hI, hs, ha, hO, hb⟩ := h
  simp only [Ending.returned.injEq, Value.tuple.injEq, Array.mk.injEq, List.cons.injEq] at e
  exact ⟨B, by rw [e.1], hI, hs, ha, hO, hb⟩
set_option maxHeartbeats 400000 in
theorem rsize_any {w : World} {ao : Option Addr} {n c : Nat} {s : List Int} (h : Ls w ao n c s) :
    Calls Try.prog 72 #[.slice ao n c] w (RetS w (.tuple #[.int .i64 (szE s), .int .i64 (mayE s)])) := by
  have A := Lib.hid (rmay_any h)
  obtain ⟨e, HE⟩ : ∃ e, Hid (mayE s = e) := ⟨_, rfl⟩
  rw [HE.out] at A ⊢
  by_cases he : e = 0
  · subst he
    have C := Lib.hid (rcount_any h HE.out)
    have HZ : Hid (szE s = pr s) := by show _ = _; simp [szE, HE.out]
    rw [HZ.out]
    clear h
    go_enter Try.func72, Try.ntmps72
    go_wp2_with fail
    refine A.out.mono ?_; rintro e w' ⟨rfl, rfl⟩
    go_wp2_with fail
    refine C.out.mono ?_; rintro e w' ⟨rfl, rfl⟩
    go_wp2
    go_ret2
    exact RetS.mk rfl
  · have he' : (e != 0) = true := by simpa using he
    have HZ : Hid (szE s = 0) := by show _ = _; simp [szE, HE.out, he]
    rw [HZ.out]
    clear h
    go_enter Try.func72, Try.ntmps72
    go_wp2_with fail
    refine A.out.mono ?_; rintro e w' ⟨rfl, rfl⟩
    go_wp2
    go_ret2
    exact RetS.mk rfl
set_option maxHeartbeats 800000 in
theorem rmay4_any {w : World} {Y : Ar} (hY : Y.Is w) : Calls Try.prog 75 #[Y.v] w (RetB w (.bool (decide (amE Y.s Y.a = 0)))) := by
  obtain ⟨ta, tn, tc, ba, bn, bc, t, b⟩ := Y
  simp only [Ar.v]
  have H0 := (Sp.start Non w).alloc 45 2 1 #[.slice ta tn tc, .slice ba bn bc] rfl (by decide)
  obtain ⟨W, HW⟩ : ∃ z, Hid (w.alloc (.cells #[.slice ta tn tc, .slice ba bn bc] 45) = z) := ⟨_, rfl⟩
  rw [HW.out] at H0
  obtain ⟨g, HG⟩ : ∃ z, Hid (w.heap.size = z) := ⟨_, rfl⟩
  have H1_ := H0
  try simp only [List.cons_append, List.nil_append, List.set_cons_zero, List.set_cons_succ, List.map_cons, List.map_nil, List.getD_cons_zero, List.getD_cons_succ, World.size_alloc] at H1_
  have H1 := Lib.hid H1_
  clear H1_
  rw [HG.out] at H1
  have C := Lib.hid (rsize_any (hY.shp.below H1.out.belowN (Nat.le_refl _)))
  simp only at C
  have y0 := H1.out.cell (i := 0) rfl 0 _ rfl
  have y1 := H1.out.cell (i := 0) rfl 1 _ rfl
  have hbl : b.length = bn := hY.ats.len
  have HB := Lib.hid H1.out.belowN
  have HF : Hid (decide (amE t b = 0) = (decide (mayE t = 0) && decide (szE t = bn))) := by
    show _ = _
    unfold amE szE
    by_cases h : mayE t = 0
    · by_cases h2 : pr t = bn
      · simp [h, h2, hbl]
      · simp [h, h2, hbl]
    · simp [h]
  rw [HF.out]
  obtain ⟨m, HM⟩ : ∃ z, Hid (mayE t = z) := ⟨_, rfl⟩
  obtain ⟨sz, HS⟩ : ∃ z, Hid (szE t = z) := ⟨_, rfl⟩
  rw [HM.out, HS.out] at C ⊢
  clear hY H0 H1 hbl HF
  by_cases hm : m = 0
  · have q0 : (m == 0) = true := by simpa using hm
    by_cases h2 : sz = bn
    · have q1 : (sz == (bn : Int)) = true := by simpa using h2
      have e : (decide (m = 0) && decide (sz = (bn : Int))) = true := by simp [hm, h2]
      rw [e]
      clear hm h2
      go_enter Try.func75, Try.ntmps75
      go_wp2_with fail
      rw [HW.out, HG.out]
      refine C.out.mono ?_; rintro e w' ⟨rfl, hw'⟩
      have hw'' := hw'.symm
      subst hw''
      go_wp2
      go_ret
      exact RetB.mk rfl HB.out
    · have q1 : (sz == (bn : Int)) = false := by simpa using h2
      have e : (decide (m = 0) && decide (sz = (bn : Int))) = false := by simp [hm, h2]
      rw [e]
      clear hm h2
      go_enter Try.func75, Try.ntmps75
      go_wp2_with fail
      rw [HW.out, HG.out]
      refine C.out.mono ?_; rintro e w' ⟨rfl, hw'⟩
      have hw'' := hw'.symm
      subst hw''
      go_wp2
      go_ret
      exact RetB.mk rfl HB.out
  · have q0 : (m == 0) = false := by simpa using hm
    have e : (decide (m = 0) && decide (sz = (bn : Int))) = false := by simp [hm]
    rw [e]
    clear hm
    go_enter Try.func75, Try.ntmps75
    go_wp2_with fail
    rw [HW.out, HG.out]
    refine C.out.mono ?_; rintro e w' ⟨rfl, hw'⟩
    have hw'' := hw'.symm
    subst hw''
    go_wp2
    go_ret
    exact RetB.mk rfl HB.out
/-- An array of zeros of the call's own, its atoms in a block of their own. -/
def ZerP (w : World) (s : List Int) (P : Nat) (e : Ending) (w' : World) : Prop := ∃ bo n d g, e = .returned (.agg #[.slice bo n d, .slice (some ⟨g, 0, none⟩) P P]) ∧ Sp Non w w' [Pt.ints 3 bo n d s, Pt.ints 2 (some ⟨g, 0, none⟩) P P (List.replicate P 0)]
set_option maxRecDepth 100000 in
set_option maxHeartbeats 1600000 in
theorem rzeros_sp {w : World} {ao : Option Addr} {n c : Nat} {s : List Int} (h : Ls w ao n c s) (hm : mayE s = 0) :
    Calls Try.prog 81 #[.slice ao n c] w (ZerP w s (pr s).toNat) := by
  obtain ⟨i0, hi0, hza, hzb, hzc⟩ := info_parts (P := Try.prog) (e := 3) (z := .int .i64 0) (size := 1) (bytes := 8) (by kernel_rfl)
  have hpr := pr_nonneg hm
  obtain ⟨P, HP⟩ : ∃ P : Nat, Hid (pr s = P) := ⟨(pr s).toNat, (Int.toNat_of_nonneg hpr.1).symm⟩
  rw [HP.out] at hpr ⊢
  rw [Int.toNat_natCast]
  have h0 := (Sp.start Non w).alloc 45 2 1 #[.slice none 0 0, .slice none 0 0] rfl (by decide)
  obtain ⟨W, HW⟩ : ∃ z, Hid (w.alloc (.cells #[.slice none 0 0, .slice none 0 0] 45) = z) := ⟨_, rfl⟩
  rw [HW.out] at h0
  obtain ⟨g, HG⟩ : ∃ z, Hid (w.heap.size = z) := ⟨_, rfl⟩
  have H1_ := h0
  try simp only [List.cons_append, List.nil_append, List.set_cons_zero, List.set_cons_succ, List.map_cons, List.map_nil, List.getD_cons_zero, List.getD_cons_succ, World.size_alloc] at H1_
  have H1 := Lib.hid H1_
  clear H1_
  rw [HG.out] at H1
  have H2 : Hid (Sp Non w W [Pt.row ⟨45, 2, some ⟨g, 0, none⟩, 1, 1, [.slice none 0 0, .slice none 0 0]⟩, Pt.ints 3 none 0 0 []]) := H1.out.intsNew (E := 3) (zs := []) (World.ownsRow_nil _ _ _ _) (Below.refl _ _) (by omega) (fun i => by simp [List.getD])
  have HL := Lib.hid (h.below H2.out.belowN (Nat.le_refl _))
  have hn8 : n ≤ 8 := by have := (mayE_zero hm).2.1; have := h.len; omega
  have hb : (0 + n) * 8 ≤ 140737488351232 := by omega
  have hP2 : ¬ ((P : Int) < 0) := by omega
  have CC := Lib.hid (fun (w1 : World) (hb : Below w.heap.size w w1) => rcount_any (h.below hb (Nat.le_refl _)) hm)
  rw [HP.out] at CC
  clear h h0 H1
  go_enter Try.func81, Try.ntmps81
  go_wp2_with (at_builtin; rw [HW.out, HG.out]; refine Sp.wpList_loc H2.out rfl _ _ 25 (by rfl) 3 i0 Try.underlying25 hi0 hza hzb hzc (i := 1) rfl (by rfl) (by rfl) HL.out hb ?_)
  intro bo d w9 h9
  have H9 : Hid (Sp Non w w9 [Pt.row ⟨45, 2, some ⟨g, 0, none⟩, 1, 1, [.slice none 0 0, .slice none 0 0]⟩, Pt.ints 3 bo n d s]) := by
    exact h9
  have C9 := Lib.hid (CC.out _ H9.out.belowN)
  have z1 : 0 + n = n := by omega
  clear h9 H2 HL CC
  go_wp2_with fail
  refine C9.out.mono ?_; rintro e w' ⟨rfl, hw'⟩
  have hw'' := hw'.symm
  subst hw''
  have h10 := H9.out.zerosR 2 P (by omega)
  obtain ⟨V, HV⟩ : ∃ z, Hid (w9.alloc (.cells (Array.replicate P (.int .i64 0)) 2) = z) := ⟨_, rfl⟩
  rw [HV.out] at h10
  have H10_ := h10
  try simp only [List.cons_append, List.nil_append, List.set_cons_zero, List.set_cons_succ, List.map_cons, List.map_nil, List.getD_cons_zero, List.getD_cons_succ, World.size_alloc] at H10_
  have H10 := Lib.hid H10_
  clear H10_
  have x0 := H10.out.cell (i := 0) rfl 0 _ rfl
  have x1 := H10.out.cell (i := 0) rfl 1 _ rfl
  have x2 := H10.out.frozen (i := 0) rfl 0
  have x3 := H10.out.frozen (i := 0) rfl 1
  have HF : Hid (∀ u v, ZerP w s P (.returned (.agg #[.slice bo n d, .slice (some ⟨w9.heap.size, 0, none⟩) P P])) ((V.setCell ⟨g, 0, none⟩ u).setCell ⟨g, 1, none⟩ v)) := fun u v =>
    ⟨bo, n, d, w9.heap.size, rfl, ((H10.out.put (i := 0) rfl 0 u).put (i := 0) rfl 1 v).pick [1, 2] (by decide)⟩
  rw [← HV.out] at x0 x1 x2 x3 HF
  have MK := mk_int64 P (by omega) w9
  clear h10 H10 H9 C9 hw'
  go_wp2
  exact bodyPost_ret (v := .agg #[.slice bo n d, .slice (some ⟨w9.heap.size, 0, none⟩) P P]) (by simp [results, Try.results81, go_sem, *]) rfl (HF.out _ _)
theorem rzeros_any {w : World} {ao : Option Addr} {n c : Nat} {s : List Int} (h : Ls w ao n c s) (hm : mayE s = 0) :
    Calls Try.prog 81 #[.slice ao n c] w (MadeA w s (List.replicate (pr s).toNat 0)) := by
  refine (rzeros_sp h hm).mono ?_
  rintro e w' ⟨bo, n2, d, g, rfl, h2⟩
  have q := h2.arrOf (i := 0) (j := 1) rfl (by decide) rfl
  exact madeE_AR (q.madeE (i := 1) (B := ⟨bo, n2, d, some ⟨g, 0, none⟩, (pr s).toNat, (pr s).toNat, s, List.replicate (pr s).toNat 0⟩) rfl 0)
/-- A slice of ints of the call's own. -/
def MadeI (w : World) (zs : List Int) (e : Ending) (w' : World) : Prop := ∃ ao n c, e = .returned (.slice ao n c) ∧ Sp Non w w' [Pt.ints 3 ao n c zs]
end Go.Proofs.Ythackmkdicpdeaa
