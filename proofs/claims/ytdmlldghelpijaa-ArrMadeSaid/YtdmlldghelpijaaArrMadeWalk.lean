/- ArrMade: the walk of the statement's function. -/
import Derived.Test.YtdmlldghelpijaaArrBegun
import Derived.Test.YtdmlldghelpijaaArrFill
namespace Go.Proofs.Ytdmlldghelpijaa
open Go.RowKit Go.Lib
set_option linter.unusedVariables false
set_option linter.unusedSimpArgs false
attribute [local go_sem] alloc_drewN setCell_drewN

theorem below_v {W W1 W2 : World} (h : Below W.heap.size W W1) (h2 : Below W1.heap.size W1 W2) : Below W.heap.size W W2 := h.trans (h2.mono h.size)
theorem mayE_one {n : Nat} (h : n ≤ 4096) : mayE [(n : Int)] = 0 := by
  have h1 : ¬ ((n : Int) < 0) := by omega
  have h2 : ¬ (4096 < max (n : Int) 1) := by omega
  simp [mayE, pm, h1, h2]
theorem amE_list {n : Nat} {zs : List Int} (h : n ≤ 4096) (hl : zs.length = n) : amE [(n : Int)] zs = 0 := by
  unfold amE
  rw [if_pos (mayE_one h), if_pos (by simp [pr, hl])]
theorem amE_scalar (x : Int) : amE [] [x] = 0 := rfl
theorem amE_nil {s : List Int} (h : mayE s ≠ 0) : amE s [] = mayE s := by unfold amE; rw [if_neg h]
theorem amE_fill {s : List Int} {x : Int} (h : mayE s = 0) : amE s (List.replicate (pr s).toNat x) = 0 := by
  unfold amE
  obtain ⟨g1, g2, g3⟩ := mayE_zero h
  have q3 := (pr_le s g1 s.length).1
  rw [List.take_length] at q3
  rw [if_pos h, if_pos (by simp; omega)]
set_option maxRecDepth 100000 in
set_option maxHeartbeats 1600000 in
theorem arrMade_big {w : World} {x : Int} (hx : -9223372036854775808 ≤ x ∧ x ≤ 9223372036854775807) {ao : Option Addr} {n c : Nat} {zs : List Int} (hZ : Ls w ao n c zs) {bo : Option Addr} {m d : Nat} {s : List Int} (hS : Ls w bo m d s)
    (hcase : 4096 < n) (hmay : True) :
    Calls Try.prog 11 #[.int .i64 x, .slice ao n c, .slice bo m d] w (RetB w (.bool true)) := by
  have BG := Lib.hid (begun3_any w)
  have CS := Lib.hid (fun w1 => scalar_any x w1 hx)
  have CL : Hid (∀ w1, Below w.heap.size w w1 → Calls Try.prog 41 #[.slice ao n c] w1 (MadeE w1 [] [] 17)) := fun w1 hb => list_big (hZ.below hb (Nat.le_refl _)) hcase
  obtain ⟨fs, fa, fe, hfs, CF⟩ : ∃ fs fa fe, Hid ((mayE s ≠ 0 → [] = fs ∧ [] = fa ∧ mayE s = fe) ∧ (mayE s = 0 → s = fs ∧ List.replicate (pr s).toNat x = fa ∧ 0 = fe)) ∧ Hid (∀ w1, Below w.heap.size w w1 → Calls Try.prog 42 #[.slice bo m d, .int .i64 x] w1 (MadeE w1 fs fa fe)) := by
    by_cases h : mayE s = 0
    · exact ⟨_, _, _, ⟨fun h' => absurd h h', fun _ => ⟨rfl, rfl, rfl⟩⟩, fun w1 hb => fill_ok (hS.below hb (Nat.le_refl _)) x hx h⟩
    · exact ⟨_, _, _, ⟨fun _ => ⟨rfl, rfl, rfl⟩, fun h' => absurd h' h⟩, fun w1 hb => fill_bad (hS.below hb (Nat.le_refl _)) x h⟩
  have HZ := Lib.hid hZ
  have HS := Lib.hid hS
  have HMAY := Lib.hid hmay
  have HX := Lib.hid hx
  clear hZ hS hx hmay
  have hc : (4096 : Int) < n := by omega
  clear hfs
  go_enter Try.func11, Try.ntmps11
  go_wp2_with fail
  refine BG.out.mono ?_; rintro e w1 ⟨rfl, hb1⟩
  go_wp2_with fail
  refine (CS.out w1).mono ?_; rintro e w2 ⟨B1, rfl, hI1, hs1, ha1, -, hb2⟩
  have hal : ∀ (w : World) o, Below w.heap.size w (w.alloc o) := fun w o => (Below.refl _ _).alloc (Nat.le_refl _) _
  have HW3 : Hid (∀ o, Below w.heap.size w (w2.alloc o)) := fun o => below_v (below_v hb1 hb2) (hal _ _)
  obtain ⟨sa1, sn1, sc1, aa1, an1, ac1, s1, a1⟩ := B1
  simp only at hs1 ha1
  have hs1' := hs1.symm
  have ha1' := ha1.symm
  subst hs1' ha1'
  simp only [Ar.v] at *
  obtain rfl : sn1 = 0 := hI1.shp.len.symm
  obtain rfl : an1 = 1 := hI1.ats.len.symm
  obtain ⟨b1, o1, hao1, hl1, hc1⟩ := hI1.ats.mem (show 0 < 1 by omega)
  have hc1' := hc1 0 (show 0 < 1 by omega)
  simp only [Nat.add_zero, List.getD_cons_zero] at hao1 hc1'
  subst hao1
  clear hc1 hb1 hb2
  go_wp2_with fail
  refine (CL.out _ (HW3.out _)).mono ?_; rintro e w4 ⟨B2, rfl, hI2, hs2, ha2, -, hb4⟩
  have HW5 : Hid (∀ o, Below w.heap.size w (w4.alloc o)) := fun o => below_v (below_v (HW3.out _) hb4) (hal _ _)
  have h25 : ∀ o, Below w2.heap.size w2 (w4.alloc o) := fun o => below_v (below_v (hal _ _) hb4) (hal _ _)
  have x1 := (BoxA.new w2 67 (.slice sa1 0 sc1) (.slice (some ⟨b1, o1, none⟩) 1 ac1)).below hb4 (by simp)
  obtain ⟨sa2, sn2, sc2, aa2, an2, ac2, s2, a2⟩ := B2
  simp only at hs2 ha2
  have hs2' := hs2.symm
  have ha2' := ha2.symm
  subst hs2' ha2'
  simp only [Ar.v] at *
  go_wp2_with fail
  refine (CF.out _ (HW5.out _)).mono ?_; rintro e w6 ⟨B3, rfl, hI3, hs3, ha3, -, hb6⟩
  have h47 : ∀ o, Below w4.heap.size w4 (w6.alloc o) := fun o => below_v (below_v (hal _ _) hb6) (hal _ _)
  have x2 := (BoxA.new w4 67 (.slice sa2 sn2 sc2) (.slice aa2 an2 ac2)).below hb6 (by simp)
  obtain ⟨sa3, sn3, sc3, aa3, an3, ac3, s3, a3⟩ := B3
  simp only at hs3 ha3
  have hs3' := hs3.symm
  have ha3' := ha3.symm
  subst hs3' ha3'
  simp only [Ar.v] at *
  obtain ⟨W, HWW⟩ : ∃ W, Hid (w6.alloc (.cells #[.slice sa3 sn3 sc3, .slice aa3 an3 ac3] 67) = W) := ⟨_, rfl⟩
  have HW : Hid (Below w.heap.size w W) := by rw [← HWW.out]; exact below_v (below_v (HW5.out _) hb6) (hal _ _)
  have h4W : Below w4.heap.size w4 W := by rw [← HWW.out]; exact h47 _
  have h6W : Below w6.heap.size w6 W := by rw [← HWW.out]; exact hal _ _
  have h2W : Below w2.heap.size w2 W := by rw [← HWW.out]; exact below_v (below_v (h25 _) hb6) (hal _ _)
  have x1' := x1.below h4W (by have := x1.lt; omega)
  have x2' := x2.below h6W x2.lt
  have x3' : BoxA W w6.heap.size (.slice sa3 sn3 sc3) (.slice aa3 an3 ac3) := by rw [← HWW.out]; exact BoxA.new _ _ _ _
  have I1 := Lib.hid (hI1.below h2W (Nat.le_refl _))
  have I2 := Lib.hid (hI2.below h4W (Nat.le_refl _))
  have I3 := Lib.hid (hI3.below h6W (Nat.le_refl _))
  have Y : Hid (∀ w9, Below W.heap.size W w9 → w9.cell? ⟨w2.heap.size, 0, none⟩ = some (.slice sa1 0 sc1) ∧ w9.cell? ⟨w2.heap.size, 1, none⟩ = some (.slice (some ⟨b1, o1, none⟩) 1 ac1) ∧ w9.cell? ⟨w4.heap.size, 0, none⟩ = some (.slice sa2 sn2 sc2) ∧ w9.cell? ⟨w4.heap.size, 1, none⟩ = some (.slice aa2 an2 ac2) ∧ w9.cell? ⟨w6.heap.size, 0, none⟩ = some (.slice sa3 sn3 sc3) ∧ w9.cell? ⟨w6.heap.size, 1, none⟩ = some (.slice aa3 an3 ac3)) := fun w9 hb =>
    have q1 := x1'.below hb x1'.lt
    have q2 := x2'.below hb x2'.lt
    have q3 := x3'.below hb x3'.lt
    ⟨q1.c0, q1.c1, q2.c0, q2.c1, q3.c0, q3.c1⟩
  have D1 : Hid (∀ w9, Below W.heap.size W w9 → w9.cell? ⟨b1, o1, none⟩ = some (.int .i64 x)) := fun w9 hb => ((below_v h2W hb).cell (p := ⟨b1, o1, none⟩) hl1).trans hc1'
  clear x1 x2 x1' x2' x3' hI1 hI2 hI3 h25 h47 h4W h6W h2W hb4 hb6 hal hl1 hc1' HW3 HW5
  obtain ⟨r0, r1, -, -, -, -⟩ := Y.out W (Below.refl _ _)
  have d1 := D1.out W (Below.refl _ _)
  have g0 : (w6.alloc (.cells #[.slice sa3 sn3 sc3, .slice aa3 an3 ac3] 67)).cell? ⟨w2.heap.size, 0, none⟩ = some (.slice sa1 0 sc1) := by rw [HWW.out]; exact r0
  have g1 : (w6.alloc (.cells #[.slice sa3 sn3 sc3, .slice aa3 an3 ac3] 67)).cell? ⟨w2.heap.size, 1, none⟩ = some (.slice (some ⟨b1, o1, none⟩) 1 ac1) := by rw [HWW.out]; exact r1
  have g2 : (w6.alloc (.cells #[.slice sa3 sn3 sc3, .slice aa3 an3 ac3] 67)).cell? ⟨b1, o1, none⟩ = some (.int .i64 x) := by rw [HWW.out]; exact d1
  have CM1 := Lib.hid (arrmay_any I1.out)
  simp only [Ar.v, amE_scalar] at CM1
  clear r0 r1 d1
  go_wp2_with fail
  rw [HWW.out]
  refine CM1.out.mono ?_; rintro e w8 ⟨rfl, hb8⟩
  clear g0 g1 g2
  obtain ⟨-, -, r2, r3, r4, r5⟩ := Y.out w8 hb8
  have HB8 := Lib.hid hb8
  clear hb8
  obtain rfl : sn2 = 0 := I2.out.shp.len.symm
  obtain rfl : an2 = 0 := I2.out.ats.len.symm
  go_wp2
  go_ret
  exact RetB.mk rfl (below_v HW.out HB8.out)
set_option maxRecDepth 100000 in
set_option maxHeartbeats 1600000 in
theorem arrMade_bad {w : World} {x : Int} (hx : -9223372036854775808 ≤ x ∧ x ≤ 9223372036854775807) {ao : Option Addr} {n c : Nat} {zs : List Int} (hZ : Ls w ao n c zs) {bo : Option Addr} {m d : Nat} {s : List Int} (hS : Ls w bo m d s)
    (hcase : n ≤ 4096) (hmay : mayE s ≠ 0) :
    Calls Try.prog 11 #[.int .i64 x, .slice ao n c, .slice bo m d] w (RetB w (.bool true)) := by
  have BG := Lib.hid (begun3_any w)
  have CS := Lib.hid (fun w1 => scalar_any x w1 hx)
  have CL : Hid (∀ w1, Below w.heap.size w w1 → Calls Try.prog 41 #[.slice ao n c] w1 (MadeE w1 [(n : Int)] zs 0)) := fun w1 hb => list_ok (hZ.below hb (Nat.le_refl _)) hcase
  obtain ⟨fs, fa, fe, hfs, CF⟩ : ∃ fs fa fe, Hid ((mayE s ≠ 0 → [] = fs ∧ [] = fa ∧ mayE s = fe) ∧ (mayE s = 0 → s = fs ∧ List.replicate (pr s).toNat x = fa ∧ 0 = fe)) ∧ Hid (∀ w1, Below w.heap.size w w1 → Calls Try.prog 42 #[.slice bo m d, .int .i64 x] w1 (MadeE w1 fs fa fe)) := by
    by_cases h : mayE s = 0
    · exact ⟨_, _, _, ⟨fun h' => absurd h h', fun _ => ⟨rfl, rfl, rfl⟩⟩, fun w1 hb => fill_ok (hS.below hb (Nat.le_refl _)) x hx h⟩
    · exact ⟨_, _, _, ⟨fun _ => ⟨rfl, rfl, rfl⟩, fun h' => absurd h' h⟩, fun w1 hb => fill_bad (hS.below hb (Nat.le_refl _)) x h⟩
  have HZ := Lib.hid hZ
  have HS := Lib.hid hS
  have HMAY := Lib.hid hmay
  have HX := Lib.hid hx
  clear hZ hS hx hmay
  have hc : ¬ (4096 : Int) < n := by omega
  obtain ⟨rfl, rfl, rfl⟩ := hfs.out.1 HMAY.out
  obtain ⟨e, HE⟩ : ∃ e, Hid (mayE s = e) := ⟨_, rfl⟩
  rw [HE.out] at CF
  have hne : (e != 0) = true := by rw [← HE.out]; simpa using HMAY.out
  clear hfs
  go_enter Try.func11, Try.ntmps11
  go_wp2_with fail
  refine BG.out.mono ?_; rintro e w1 ⟨rfl, hb1⟩
  go_wp2_with fail
  refine (CS.out w1).mono ?_; rintro e w2 ⟨B1, rfl, hI1, hs1, ha1, -, hb2⟩
  have hal : ∀ (w : World) o, Below w.heap.size w (w.alloc o) := fun w o => (Below.refl _ _).alloc (Nat.le_refl _) _
  have HW3 : Hid (∀ o, Below w.heap.size w (w2.alloc o)) := fun o => below_v (below_v hb1 hb2) (hal _ _)
  obtain ⟨sa1, sn1, sc1, aa1, an1, ac1, s1, a1⟩ := B1
  simp only at hs1 ha1
  have hs1' := hs1.symm
  have ha1' := ha1.symm
  subst hs1' ha1'
  simp only [Ar.v] at *
  obtain rfl : sn1 = 0 := hI1.shp.len.symm
  obtain rfl : an1 = 1 := hI1.ats.len.symm
  obtain ⟨b1, o1, hao1, hl1, hc1⟩ := hI1.ats.mem (show 0 < 1 by omega)
  have hc1' := hc1 0 (show 0 < 1 by omega)
  simp only [Nat.add_zero, List.getD_cons_zero] at hao1 hc1'
  subst hao1
  clear hc1 hb1 hb2
  go_wp2_with fail
  refine (CL.out _ (HW3.out _)).mono ?_; rintro e w4 ⟨B2, rfl, hI2, hs2, ha2, -, hb4⟩
  have HW5 : Hid (∀ o, Below w.heap.size w (w4.alloc o)) := fun o => below_v (below_v (HW3.out _) hb4) (hal _ _)
  have h25 : ∀ o, Below w2.heap.size w2 (w4.alloc o) := fun o => below_v (below_v (hal _ _) hb4) (hal _ _)
  have x1 := (BoxA.new w2 67 (.slice sa1 0 sc1) (.slice (some ⟨b1, o1, none⟩) 1 ac1)).below hb4 (by simp)
  obtain ⟨sa2, sn2, sc2, aa2, an2, ac2, s2, a2⟩ := B2
  simp only at hs2 ha2
  have hs2' := hs2.symm
  have ha2' := ha2.symm
  subst hs2' ha2'
  simp only [Ar.v] at *
  go_wp2_with fail
  refine (CF.out _ (HW5.out _)).mono ?_; rintro e w6 ⟨B3, rfl, hI3, hs3, ha3, -, hb6⟩
  have h47 : ∀ o, Below w4.heap.size w4 (w6.alloc o) := fun o => below_v (below_v (hal _ _) hb6) (hal _ _)
  have x2 := (BoxA.new w4 67 (.slice sa2 sn2 sc2) (.slice aa2 an2 ac2)).below hb6 (by simp)
  obtain ⟨sa3, sn3, sc3, aa3, an3, ac3, s3, a3⟩ := B3
  simp only at hs3 ha3
  have hs3' := hs3.symm
  have ha3' := ha3.symm
  subst hs3' ha3'
  simp only [Ar.v] at *
  obtain ⟨W, HWW⟩ : ∃ W, Hid (w6.alloc (.cells #[.slice sa3 sn3 sc3, .slice aa3 an3 ac3] 67) = W) := ⟨_, rfl⟩
  have HW : Hid (Below w.heap.size w W) := by rw [← HWW.out]; exact below_v (below_v (HW5.out _) hb6) (hal _ _)
  have h4W : Below w4.heap.size w4 W := by rw [← HWW.out]; exact h47 _
  have h6W : Below w6.heap.size w6 W := by rw [← HWW.out]; exact hal _ _
  have h2W : Below w2.heap.size w2 W := by rw [← HWW.out]; exact below_v (below_v (h25 _) hb6) (hal _ _)
  have x1' := x1.below h4W (by have := x1.lt; omega)
  have x2' := x2.below h6W x2.lt
  have x3' : BoxA W w6.heap.size (.slice sa3 sn3 sc3) (.slice aa3 an3 ac3) := by rw [← HWW.out]; exact BoxA.new _ _ _ _
  have I1 := Lib.hid (hI1.below h2W (Nat.le_refl _))
  have I2 := Lib.hid (hI2.below h4W (Nat.le_refl _))
  have I3 := Lib.hid (hI3.below h6W (Nat.le_refl _))
  have Y : Hid (∀ w9, Below W.heap.size W w9 → w9.cell? ⟨w2.heap.size, 0, none⟩ = some (.slice sa1 0 sc1) ∧ w9.cell? ⟨w2.heap.size, 1, none⟩ = some (.slice (some ⟨b1, o1, none⟩) 1 ac1) ∧ w9.cell? ⟨w4.heap.size, 0, none⟩ = some (.slice sa2 sn2 sc2) ∧ w9.cell? ⟨w4.heap.size, 1, none⟩ = some (.slice aa2 an2 ac2) ∧ w9.cell? ⟨w6.heap.size, 0, none⟩ = some (.slice sa3 sn3 sc3) ∧ w9.cell? ⟨w6.heap.size, 1, none⟩ = some (.slice aa3 an3 ac3)) := fun w9 hb =>
    have q1 := x1'.below hb x1'.lt
    have q2 := x2'.below hb x2'.lt
    have q3 := x3'.below hb x3'.lt
    ⟨q1.c0, q1.c1, q2.c0, q2.c1, q3.c0, q3.c1⟩
  have D1 : Hid (∀ w9, Below W.heap.size W w9 → w9.cell? ⟨b1, o1, none⟩ = some (.int .i64 x)) := fun w9 hb => ((below_v h2W hb).cell (p := ⟨b1, o1, none⟩) hl1).trans hc1'
  clear x1 x2 x1' x2' x3' hI1 hI2 hI3 h25 h47 h4W h6W h2W hb4 hb6 hal hl1 hc1' HW3 HW5
  obtain ⟨r0, r1, -, -, -, -⟩ := Y.out W (Below.refl _ _)
  have d1 := D1.out W (Below.refl _ _)
  have g0 : (w6.alloc (.cells #[.slice sa3 sn3 sc3, .slice aa3 an3 ac3] 67)).cell? ⟨w2.heap.size, 0, none⟩ = some (.slice sa1 0 sc1) := by rw [HWW.out]; exact r0
  have g1 : (w6.alloc (.cells #[.slice sa3 sn3 sc3, .slice aa3 an3 ac3] 67)).cell? ⟨w2.heap.size, 1, none⟩ = some (.slice (some ⟨b1, o1, none⟩) 1 ac1) := by rw [HWW.out]; exact r1
  have g2 : (w6.alloc (.cells #[.slice sa3 sn3 sc3, .slice aa3 an3 ac3] 67)).cell? ⟨b1, o1, none⟩ = some (.int .i64 x) := by rw [HWW.out]; exact d1
  have CM1 := Lib.hid (arrmay_any I1.out)
  simp only [Ar.v, amE_scalar] at CM1
  clear r0 r1 d1
  go_wp2_with fail
  rw [HWW.out]
  refine CM1.out.mono ?_; rintro e w8 ⟨rfl, hb8⟩
  clear g0 g1 g2
  obtain ⟨-, -, r2, r3, r4, r5⟩ := Y.out w8 hb8
  have HB8 := Lib.hid hb8
  clear hb8
  have CM2 := Lib.hid (arrmay_any (I2.out.below HB8.out (Nat.le_refl _)))
  simp only [Ar.v, amE_list hcase HZ.out.len] at CM2
  clear r4 r5
  go_wp2_with fail
  refine CM2.out.mono ?_; rintro e w9 ⟨rfl, hb9⟩
  have hB9 := below_v HB8.out hb9
  clear r2 r3 hb9
  obtain ⟨-, -, r2, r3, r4, r5⟩ := Y.out w9 hB9
  have hal : ∀ o, Below w9.heap.size w9 (w9.alloc o) := fun o => (Below.refl _ _).alloc (Nat.le_refl _) _
  have HB10 : Hid (∀ o, Below W.heap.size W (w9.alloc o)) := fun o => below_v hB9 (hal _)
  have HW10 : Hid (∀ o, Below w.heap.size w (w9.alloc o)) := fun o => below_v HW.out (HB10.out _)
  have hl := ls_alloc w9 [(n : Int)] 3 (by simp) (rng_one (by omega))
  have CE := Lib.hid (eq_any (A := ⟨sa2, sn2, sc2, aa2, an2, ac2, [(n : Int)], zs⟩) (B := ⟨some ⟨w9.heap.size, 0, none⟩, 1, 1, ao, n, c, [(n : Int)], zs⟩) (I2.out.below (HB10.out _) (Nat.le_refl _)) ⟨hl, HZ.out.below (HW10.out _) (Nat.le_refl _)⟩)
  simp only [Ar.v, and_self, decide_true, List.map_cons, List.map_nil] at CE
  clear hB9 hal hl r4 r5
  go_wp2_with fail
  refine CE.out.mono ?_; rintro e w10 ⟨rfl, hb10⟩
  have hB10 := below_v (HB10.out _) hb10
  clear r2 r3 hb10
  obtain ⟨-, -, -, -, r4, r5⟩ := Y.out w10 hB10
  have HBX := Lib.hid hB10
  have HWX : Hid (Below w.heap.size w w10) := below_v HW.out hB10
  clear hB10
  obtain rfl : sn3 = 0 := I3.out.shp.len.symm
  obtain rfl : an3 = 0 := I3.out.ats.len.symm
  have CM3 := Lib.hid (arrmay_any (A := ⟨bo, m, d, none, 0, 0, s, []⟩) (w := w10) ⟨HS.out.below HWX.out (Nat.le_refl _), Ls.zero _ _ (Nat.zero_le _)⟩)
  simp only [Ar.v, amE_nil HMAY.out, HE.out] at CM3
  go_wp2_with fail
  refine CM3.out.mono ?_; rintro e w11 ⟨rfl, hb11⟩
  have HB11 := Lib.hid (below_v HWX.out hb11)
  clear r4 r5 hb11
  go_wp2
  go_ret
  exact RetB.mk (boolv (by simp)) HB11.out
set_option maxRecDepth 100000 in
set_option maxHeartbeats 1600000 in
theorem arrMade_ok {w : World} {x : Int} (hx : -9223372036854775808 ≤ x ∧ x ≤ 9223372036854775807) {ao : Option Addr} {n c : Nat} {zs : List Int} (hZ : Ls w ao n c zs) {bo : Option Addr} {m d : Nat} {s : List Int} (hS : Ls w bo m d s)
    (hcase : n ≤ 4096) (hmay : mayE s = 0) :
    Calls Try.prog 11 #[.int .i64 x, .slice ao n c, .slice bo m d] w (RetB w (.bool true)) := by
  have BG := Lib.hid (begun3_any w)
  have CS := Lib.hid (fun w1 => scalar_any x w1 hx)
  have CL : Hid (∀ w1, Below w.heap.size w w1 → Calls Try.prog 41 #[.slice ao n c] w1 (MadeE w1 [(n : Int)] zs 0)) := fun w1 hb => list_ok (hZ.below hb (Nat.le_refl _)) hcase
  obtain ⟨fs, fa, fe, hfs, CF⟩ : ∃ fs fa fe, Hid ((mayE s ≠ 0 → [] = fs ∧ [] = fa ∧ mayE s = fe) ∧ (mayE s = 0 → s = fs ∧ List.replicate (pr s).toNat x = fa ∧ 0 = fe)) ∧ Hid (∀ w1, Below w.heap.size w w1 → Calls Try.prog 42 #[.slice bo m d, .int .i64 x] w1 (MadeE w1 fs fa fe)) := by
    by_cases h : mayE s = 0
    · exact ⟨_, _, _, ⟨fun h' => absurd h h', fun _ => ⟨rfl, rfl, rfl⟩⟩, fun w1 hb => fill_ok (hS.below hb (Nat.le_refl _)) x hx h⟩
    · exact ⟨_, _, _, ⟨fun _ => ⟨rfl, rfl, rfl⟩, fun h' => absurd h' h⟩, fun w1 hb => fill_bad (hS.below hb (Nat.le_refl _)) x h⟩
  have HZ := Lib.hid hZ
  have HS := Lib.hid hS
  have HMAY := Lib.hid hmay
  have HX := Lib.hid hx
  clear hZ hS hx hmay
  have hc : ¬ (4096 : Int) < n := by omega
  obtain ⟨rfl, rfl, rfl⟩ := hfs.out.2 HMAY.out
  clear hfs
  go_enter Try.func11, Try.ntmps11
  go_wp2_with fail
  refine BG.out.mono ?_; rintro e w1 ⟨rfl, hb1⟩
  go_wp2_with fail
  refine (CS.out w1).mono ?_; rintro e w2 ⟨B1, rfl, hI1, hs1, ha1, -, hb2⟩
  have hal : ∀ (w : World) o, Below w.heap.size w (w.alloc o) := fun w o => (Below.refl _ _).alloc (Nat.le_refl _) _
  have HW3 : Hid (∀ o, Below w.heap.size w (w2.alloc o)) := fun o => below_v (below_v hb1 hb2) (hal _ _)
  obtain ⟨sa1, sn1, sc1, aa1, an1, ac1, s1, a1⟩ := B1
  simp only at hs1 ha1
  have hs1' := hs1.symm
  have ha1' := ha1.symm
  subst hs1' ha1'
  simp only [Ar.v] at *
  obtain rfl : sn1 = 0 := hI1.shp.len.symm
  obtain rfl : an1 = 1 := hI1.ats.len.symm
  obtain ⟨b1, o1, hao1, hl1, hc1⟩ := hI1.ats.mem (show 0 < 1 by omega)
  have hc1' := hc1 0 (show 0 < 1 by omega)
  simp only [Nat.add_zero, List.getD_cons_zero] at hao1 hc1'
  subst hao1
  clear hc1 hb1 hb2
  go_wp2_with fail
  refine (CL.out _ (HW3.out _)).mono ?_; rintro e w4 ⟨B2, rfl, hI2, hs2, ha2, -, hb4⟩
  have HW5 : Hid (∀ o, Below w.heap.size w (w4.alloc o)) := fun o => below_v (below_v (HW3.out _) hb4) (hal _ _)
  have h25 : ∀ o, Below w2.heap.size w2 (w4.alloc o) := fun o => below_v (below_v (hal _ _) hb4) (hal _ _)
  have x1 := (BoxA.new w2 67 (.slice sa1 0 sc1) (.slice (some ⟨b1, o1, none⟩) 1 ac1)).below hb4 (by simp)
  obtain ⟨sa2, sn2, sc2, aa2, an2, ac2, s2, a2⟩ := B2
  simp only at hs2 ha2
  have hs2' := hs2.symm
  have ha2' := ha2.symm
  subst hs2' ha2'
  simp only [Ar.v] at *
  go_wp2_with fail
  refine (CF.out _ (HW5.out _)).mono ?_; rintro e w6 ⟨B3, rfl, hI3, hs3, ha3, -, hb6⟩
  have h47 : ∀ o, Below w4.heap.size w4 (w6.alloc o) := fun o => below_v (below_v (hal _ _) hb6) (hal _ _)
  have x2 := (BoxA.new w4 67 (.slice sa2 sn2 sc2) (.slice aa2 an2 ac2)).below hb6 (by simp)
  obtain ⟨sa3, sn3, sc3, aa3, an3, ac3, s3, a3⟩ := B3
  simp only at hs3 ha3
  have hs3' := hs3.symm
  have ha3' := ha3.symm
  subst hs3' ha3'
  simp only [Ar.v] at *
  obtain ⟨W, HWW⟩ : ∃ W, Hid (w6.alloc (.cells #[.slice sa3 sn3 sc3, .slice aa3 an3 ac3] 67) = W) := ⟨_, rfl⟩
  have HW : Hid (Below w.heap.size w W) := by rw [← HWW.out]; exact below_v (below_v (HW5.out _) hb6) (hal _ _)
  have h4W : Below w4.heap.size w4 W := by rw [← HWW.out]; exact h47 _
  have h6W : Below w6.heap.size w6 W := by rw [← HWW.out]; exact hal _ _
  have h2W : Below w2.heap.size w2 W := by rw [← HWW.out]; exact below_v (below_v (h25 _) hb6) (hal _ _)
  have x1' := x1.below h4W (by have := x1.lt; omega)
  have x2' := x2.below h6W x2.lt
  have x3' : BoxA W w6.heap.size (.slice sa3 sn3 sc3) (.slice aa3 an3 ac3) := by rw [← HWW.out]; exact BoxA.new _ _ _ _
  have I1 := Lib.hid (hI1.below h2W (Nat.le_refl _))
  have I2 := Lib.hid (hI2.below h4W (Nat.le_refl _))
  have I3 := Lib.hid (hI3.below h6W (Nat.le_refl _))
  have Y : Hid (∀ w9, Below W.heap.size W w9 → w9.cell? ⟨w2.heap.size, 0, none⟩ = some (.slice sa1 0 sc1) ∧ w9.cell? ⟨w2.heap.size, 1, none⟩ = some (.slice (some ⟨b1, o1, none⟩) 1 ac1) ∧ w9.cell? ⟨w4.heap.size, 0, none⟩ = some (.slice sa2 sn2 sc2) ∧ w9.cell? ⟨w4.heap.size, 1, none⟩ = some (.slice aa2 an2 ac2) ∧ w9.cell? ⟨w6.heap.size, 0, none⟩ = some (.slice sa3 sn3 sc3) ∧ w9.cell? ⟨w6.heap.size, 1, none⟩ = some (.slice aa3 an3 ac3)) := fun w9 hb =>
    have q1 := x1'.below hb x1'.lt
    have q2 := x2'.below hb x2'.lt
    have q3 := x3'.below hb x3'.lt
    ⟨q1.c0, q1.c1, q2.c0, q2.c1, q3.c0, q3.c1⟩
  have D1 : Hid (∀ w9, Below W.heap.size W w9 → w9.cell? ⟨b1, o1, none⟩ = some (.int .i64 x)) := fun w9 hb => ((below_v h2W hb).cell (p := ⟨b1, o1, none⟩) hl1).trans hc1'
  clear x1 x2 x1' x2' x3' hI1 hI2 hI3 h25 h47 h4W h6W h2W hb4 hb6 hal hl1 hc1' HW3 HW5
  obtain ⟨r0, r1, -, -, -, -⟩ := Y.out W (Below.refl _ _)
  have d1 := D1.out W (Below.refl _ _)
  have g0 : (w6.alloc (.cells #[.slice sa3 sn3 sc3, .slice aa3 an3 ac3] 67)).cell? ⟨w2.heap.size, 0, none⟩ = some (.slice sa1 0 sc1) := by rw [HWW.out]; exact r0
  have g1 : (w6.alloc (.cells #[.slice sa3 sn3 sc3, .slice aa3 an3 ac3] 67)).cell? ⟨w2.heap.size, 1, none⟩ = some (.slice (some ⟨b1, o1, none⟩) 1 ac1) := by rw [HWW.out]; exact r1
  have g2 : (w6.alloc (.cells #[.slice sa3 sn3 sc3, .slice aa3 an3 ac3] 67)).cell? ⟨b1, o1, none⟩ = some (.int .i64 x) := by rw [HWW.out]; exact d1
  have CM1 := Lib.hid (arrmay_any I1.out)
  simp only [Ar.v, amE_scalar] at CM1
  clear r0 r1 d1
  go_wp2_with fail
  rw [HWW.out]
  refine CM1.out.mono ?_; rintro e w8 ⟨rfl, hb8⟩
  clear g0 g1 g2
  obtain ⟨-, -, r2, r3, r4, r5⟩ := Y.out w8 hb8
  have HB8 := Lib.hid hb8
  clear hb8
  have CM2 := Lib.hid (arrmay_any (I2.out.below HB8.out (Nat.le_refl _)))
  simp only [Ar.v, amE_list hcase HZ.out.len] at CM2
  clear r4 r5
  go_wp2_with fail
  refine CM2.out.mono ?_; rintro e w9 ⟨rfl, hb9⟩
  have hB9 := below_v HB8.out hb9
  clear r2 r3 hb9
  obtain ⟨-, -, r2, r3, r4, r5⟩ := Y.out w9 hB9
  have hal : ∀ o, Below w9.heap.size w9 (w9.alloc o) := fun o => (Below.refl _ _).alloc (Nat.le_refl _) _
  have HB10 : Hid (∀ o, Below W.heap.size W (w9.alloc o)) := fun o => below_v hB9 (hal _)
  have HW10 : Hid (∀ o, Below w.heap.size w (w9.alloc o)) := fun o => below_v HW.out (HB10.out _)
  have hl := ls_alloc w9 [(n : Int)] 3 (by simp) (rng_one (by omega))
  have CE := Lib.hid (eq_any (A := ⟨sa2, sn2, sc2, aa2, an2, ac2, [(n : Int)], zs⟩) (B := ⟨some ⟨w9.heap.size, 0, none⟩, 1, 1, ao, n, c, [(n : Int)], zs⟩) (I2.out.below (HB10.out _) (Nat.le_refl _)) ⟨hl, HZ.out.below (HW10.out _) (Nat.le_refl _)⟩)
  simp only [Ar.v, and_self, decide_true, List.map_cons, List.map_nil] at CE
  clear hB9 hal hl r4 r5
  go_wp2_with fail
  refine CE.out.mono ?_; rintro e w10 ⟨rfl, hb10⟩
  have hB10 := below_v (HB10.out _) hb10
  clear r2 r3 hb10
  obtain ⟨-, -, -, -, r4, r5⟩ := Y.out w10 hB10
  have HBX := Lib.hid hB10
  have HWX : Hid (Below w.heap.size w w10) := below_v HW.out hB10
  clear hB10
  obtain ⟨hg1, hg2, hg3⟩ := mayE_zero HMAY.out
  have HG1 := Lib.hid hg1
  have HG3 := Lib.hid hg3
  have hml := HS.out.len
  have hmb : m ≤ 8 := by omega
  have HPR : Hid (pr s = an3) := by
    have h1 := I3.out.ats.len
    have h2 := (pr_le s hg1 s.length).1
    rw [List.take_length] at h2
    simp only [List.length_replicate] at h1
    show pr s = _
    omega
  have HML := Lib.hid hml
  clear hg1 hg2 hg3 hml
  go_wp2_with fail
  go_loopw [12, 13] (fun p i wr => ∃ (k : Nat) (P : Int), k ≤ m ∧ i = .int .i64 k ∧ p = .int .i64 P ∧ Hid (pr (s.take k) = P) ∧ wr = w10) (fun _ i _ => m - (RowKit.intOf i).toNat)
  case atStart => exact ⟨0, 1, Nat.zero_le _, rfl, rfl, rfl, rfl⟩
  case round =>
    obtain ⟨k, P, hk, rfl, rfl, HP, hwr⟩ := hrel
    have hwr' := hwr.symm
    subst hwr'
    by_cases hlt : k < m
    · have hlt' : (k : Int) < m := by omega
      obtain ⟨b2, o2, rfl, hl2, hc2⟩ := HS.out.mem (by omega)
      have d2 := (HWX.out.cell (p := ⟨b2, o2 + k, none⟩) hl2).trans (hc2 k hlt)
      obtain ⟨y, HY⟩ : ∃ y, Hid (s.getD k 0 = y) := ⟨_, rfl⟩
      rw [HY.out] at d2
      have HP2 : Hid (pr (s.take (k + 1)) = P * y) := by show _ = _; rw [pr_snoc (by rw [HML.out]; exact hlt), HP.out, HY.out]
      have z1 : IntKind.i64.wrap (P * y) = P * y := by
        have h1 := pr_le s HG1.out (k + 1)
        have h2 := pm_all s (k + 1)
        have h3 := HG3.out
        rw [HP2.out] at h1
        exact IntWalk.i64_in _ (by omega)
      clear hc2 hl2
      go_wp2
      go_roundw
      case rel => exact ⟨k + 1, P * y, by omega, by go_num, rfl, HP2, by first | rfl | trivial⟩
      case measure => simp [RowKit.intOf]; omega
    · obtain rfl : k = m := by omega
      have hge : (k : Int) ≤ k := Int.le_refl _
      obtain rfl : P = an3 := by have h := HP.out; rw [List.take_of_length_le (by rw [HML.out]; omega), HPR.out] at h; omega
      have hab : an3 * 8 ≤ 140737488351232 := I3.out.ats.big
      go_wp2_with fail
      go_loopw [14] (fun i wr => ∃ k : Nat, k ≤ an3 ∧ i = .int .i64 k ∧ wr = w10) (fun i _ => an3 - (RowKit.intOf i).toNat)
      case atStart => exact ⟨0, Nat.zero_le _, rfl, rfl⟩
      case round =>
        obtain ⟨q, hq, rfl, hwr⟩ := hrel
        have hwr' := hwr.symm
        subst hwr'
        by_cases hlt : q < an3
        · have hlt' : (q : Int) < an3 := by omega
          have hI := I3.out.ats.below HBX.out (Nat.le_refl _)
          obtain ⟨b3, o3, rfl, hc3⟩ := hI.at (show 0 < an3 by omega)
          have d3 := hc3 q hlt
          have hgx : (List.replicate (pr s).toNat x).getD q 0 = x := by
            have h := HPR.out
            have hq' : q < (pr s).toNat := by omega
            simp [List.getD, hq']
          simp only [hgx] at d3
          clear hc3 hI hgx
          go_wp2
          go_roundw
          case rel => exact ⟨q + 1, by omega, by go_num, by first | rfl | trivial⟩
          case measure => simp [RowKit.intOf]; omega
        · obtain rfl : q = an3 := by omega
          have hge : (q : Int) ≤ q := Int.le_refl _
          have CM4 := Lib.hid (arrmay_any (I3.out.below HBX.out (Nat.le_refl _)))
          simp only [Ar.v, amE_fill HMAY.out] at CM4
          go_wp2_with fail
          refine CM4.out.mono ?_; rintro e w11 ⟨rfl, hb11⟩
          have hB11 := below_v HBX.out hb11
          obtain ⟨-, -, -, -, r4, r5⟩ := Y.out w11 hB11
          have HW11 : Hid (Below w.heap.size w w11) := below_v HW.out hB11
          have CE2 := Lib.hid (eq_any (w := w11) (A := ⟨sa3, sn3, sc3, none, 0, 0, s, []⟩) (B := ⟨bo, k, d, none, 0, 0, s, []⟩) ⟨I3.out.shp.below hB11 (Nat.le_refl _), Ls.zero _ _ (Nat.zero_le _)⟩ ⟨HS.out.below HW11.out (Nat.le_refl _), Ls.zero _ _ (Nat.zero_le _)⟩)
          simp only [Ar.v, and_self, decide_true] at CE2
          clear hb11 hB11
          go_wp2_with fail
          refine CE2.out.mono ?_; rintro e w12 ⟨rfl, hb12⟩
          have HB12 := Lib.hid (below_v HW11.out hb12)
          clear hb12 r4 r5
          go_wp2
          go_ret
          exact RetB.mk rfl HB12.out
theorem walkArrMade {w : World} {x : Int} (hx : -9223372036854775808 ≤ x ∧ x ≤ 9223372036854775807) {ao : Option Addr} {n c : Nat} {zs : List Int} (hZ : Ls w ao n c zs) {bo : Option Addr} {m d : Nat} {s : List Int} (hS : Ls w bo m d s) :
    Calls Try.prog 11 #[.int .i64 x, .slice ao n c, .slice bo m d] w (RetB w (.bool true)) := by
  by_cases hb : 4096 < n
  · exact arrMade_big hx hZ hS hb trivial
  · by_cases hm : mayE s = 0
    · exact arrMade_ok hx hZ hS (by omega) hm
    · exact arrMade_bad hx hZ hS (by omega) hm
end Go.Proofs.Ytdmlldghelpijaa
