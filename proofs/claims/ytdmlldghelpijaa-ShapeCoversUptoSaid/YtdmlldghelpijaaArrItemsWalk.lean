/- ArrItems: the walk of the statement's function. -/
import Derived.Test.YtdmlldghelpijaaArrBegun
import Derived.Test.YtdmlldghelpijaaAppend
namespace Go.Proofs.Ytdmlldghelpijaa
open Go.RowKit Go.Lib
set_option linter.unusedVariables false
set_option linter.unusedSimpArgs false
attribute [local go_sem] alloc_drewN setCell_drewN

theorem below_via' {W W1 W2 : World} (h : Below W.heap.size W W1) (h2 : Below W1.heap.size W1 W2) : Below W.heap.size W W2 := h.trans (h2.mono h.size)
theorem pm_cons (x : Int) (xs : List Int) : pm (x :: xs) = max x 1 * pm xs := by
  have : ∀ (xs : List Int) (a b : Int), xs.foldl (fun n k => n * max k 1) (a * b) = a * xs.foldl (fun n k => n * max k 1) b := by
    intro xs; induction xs with
    | nil => intro a b; rfl
    | cons y ys ih => intro a b; simp only [List.foldl_cons]; rw [Int.mul_assoc, ih]
  have h := this xs (max x 1) 1
  simpa [pm] using h
theorem mayE_tail {s : List Int} (h : mayE s = 0) : mayE s.tail = 0 := by
  cases s with
  | nil => exact h
  | cons x xs =>
    show mayE xs = 0
    unfold mayE at h ⊢
    have h1 : xs.any (fun k => decide (k < 0)) = false := by
      split at h
      · omega
      · rename_i h2; simp only [List.any_cons, Bool.or_eq_true, not_or] at h2; simpa using h2.2
    have h2 : ¬ 8 < xs.length ∧ ¬ 4096 < pm (x :: xs) := by
      split at h
      · omega
      · split at h
        · omega
        · split at h
          · omega
          · rename_i h3 h4; simp only [List.length_cons] at h3; exact ⟨by omega, h4⟩
    have h3 : pm xs ≤ pm (x :: xs) := by
      rw [pm_cons]
      have hp := (pm_up xs xs.length).1
      rw [List.take_length] at hp
      exact (le_mul1 (show 1 ≤ max x 1 by omega) hp).2
    rw [h1]
    simp only [Bool.false_eq_true, if_false]
    rw [if_neg h2.1, if_neg (by omega)]
theorem item_len {s a : List Int} (h : amE s a = 0) : ∃ N m : Nat, itE s a = N ∧ pr s.tail = m ∧ N * m = a.length := by
  obtain ⟨h1, h2⟩ := amE_zero h
  obtain ⟨g1, g2, g3⟩ := mayE_zero h1
  cases s with
  | nil =>
    refine ⟨1, 1, by simp [itE, h], rfl, ?_⟩
    have : pr [] = 1 := rfl
    omega
  | cons x xs =>
    have e : itE (x :: xs) a = x := by simp [itE, h]
    rw [pr_cons] at h2
    have hxs : ∀ i, 0 ≤ xs.getD i 0 := fun i => by have := g1 (i + 1); simpa [List.getD] using this
    have hp := (pr_le xs hxs xs.length).1
    rw [List.take_length] at hp
    have hx : 0 ≤ x := by simpa using g1 0
    obtain ⟨N, rfl⟩ := Int.eq_ofNat_of_zero_le hx
    obtain ⟨m, hm⟩ := Int.eq_ofNat_of_zero_le hp
    refine ⟨N, m, by rw [e], by simpa using hm, ?_⟩
    rw [hm] at h2
    exact_mod_cast h2
theorem it_one {s a : List Int} {N : Nat} (h : s.length = 0) (h2 : amE s a = 0) (h3 : itE s a = N) : N = 1 := by
  rw [itE, if_pos h2, if_pos h] at h3; omega
theorem it_head {s a : List Int} {N n : Nat} (h : s.length = n) (h0 : 0 < n) (h2 : amE s a = 0) (h3 : itE s a = N) : s.getD 0 0 = N := by
  rw [itE, if_pos h2, if_neg (by omega)] at h3; exact h3
theorem itemA_length {a : List Int} {N m k : Nat} (h : N * m = a.length) (hk : k < N) : (itemA a k m).length = m := by
  have h1 : (k + 1) * m ≤ N * m := Nat.mul_le_mul_right _ (by omega)
  rw [Nat.add_mul, Nat.one_mul] at h1
  simp [itemA]; omega
theorem itemA_take (a : List Int) (k m : Nat) : a.take (k * m) ++ itemA a k m = a.take ((k + 1) * m) := by
  rw [Nat.add_mul, Nat.one_mul, List.take_add]; rfl
theorem amE_item {s a : List Int} {N m k : Nat} (h : amE s a = 0) (hm : pr s.tail = m) (hN : N * m = a.length) (hk : k < N) : amE s.tail (itemA a k m) = 0 := by
  obtain ⟨h1, h2⟩ := amE_zero h
  unfold amE
  rw [if_pos (mayE_tail h1), itemA_length hN hk, if_pos hm]
set_option maxHeartbeats 800000 in
theorem arrItems_bad {w : World} {A : Ar} (hA : A.Is w) (hm : amE A.s A.a ≠ 0) :
    Calls Try.prog 8 #[A.v] w (RetB w (.bool true)) := by
  obtain ⟨W, HWW⟩ : ∃ W, Hid (w.alloc (.cells #[.slice A.sa A.sn A.sc, .slice A.aa A.an A.ac] 67) = W) := ⟨_, rfl⟩
  have hw : Below w.heap.size w W := by rw [← HWW.out]; exact (Below.refl _ _).alloc (Nat.le_refl _) _
  have X0 : BoxA W w.heap.size (.slice A.sa A.sn A.sc) (.slice A.aa A.an A.ac) := by
    rw [← HWW.out]; exact ⟨by simp [go_sem], by simp [go_sem], by simp [go_sem], by simp [go_sem], by simp⟩
  have BG := Lib.hid (begun3_any W)
  have hIs := hA.below hw (Nat.le_refl _)
  have CM := Lib.hid (fun W1 (hb : Below W.heap.size W W1) => arrmay_any (hIs.below hb (Nat.le_refl _)))
  have CI := Lib.hid (fun W1 (hb : Below W.heap.size W W1) => items_any (hIs.below hb (Nat.le_refl _)))
  have CT := Lib.hid (fun W1 (hb : Below W.heap.size W W1) => item_bad (hIs.below hb (Nat.le_refl _)) 0 hm)
  have hit : itE A.s A.a = 0 := by simp [itE, hm]
  rw [hit] at CI
  obtain ⟨e, HE⟩ : ∃ e, Hid (amE A.s A.a = e) := ⟨_, rfl⟩
  have he : (e != 0) = true := by rw [← HE.out]; simpa using hm
  rw [HE.out] at CM
  obtain ⟨sa, sn, sc, aa, an, ac, s, a⟩ := A
  simp only [Ar.v] at *
  have HW := Lib.hid hw
  have Y := Lib.hid X0
  clear hA hw X0 hIs hit hm
  go_enter Try.func8, Try.ntmps8
  go_wp2_with fail
  rw [HWW.out]
  refine BG.out.mono ?_; rintro e w1 ⟨rfl, hb1⟩
  obtain ⟨r0, r1, -, -, -⟩ := Y.out.below hb1 Y.out.lt
  go_wp2_with fail
  refine (CM.out _ hb1).mono ?_; rintro e w2 ⟨rfl, hb2⟩
  have hB2 := below_via' hb1 hb2
  clear hb1 hb2 r0 r1
  obtain ⟨r0, r1, -, -, -⟩ := Y.out.below hB2 Y.out.lt
  go_wp2_with fail
  refine (CT.out _ hB2).mono ?_; rintro e w3 ⟨B, rfl, -, -, -, -, hb3⟩
  have hB3 := below_via' hB2 hb3
  obtain ⟨ta, tn, tc, ba, bn, bc, t, b⟩ := B
  simp only [Ar.v] at *
  clear hB2 hb3 r0 r1
  have hB4 : ∀ o, Below W.heap.size W (w3.alloc o) := fun o => hB3.alloc hB3.size _
  have HB4 := Lib.hid hB4
  have g0 : (w3.alloc (.cells #[.slice ta tn tc, .slice ba bn bc] 67)).cell? ⟨w.heap.size, 0, none⟩ = some (.slice sa sn sc) := (Y.out.below (HB4.out _) Y.out.lt).c0
  have g1 : (w3.alloc (.cells #[.slice ta tn tc, .slice ba bn bc] 67)).cell? ⟨w.heap.size, 1, none⟩ = some (.slice aa an ac) := (Y.out.below (HB4.out _) Y.out.lt).c1
  clear hB3 hB4
  go_wp2_with fail
  refine (CI.out _ (HB4.out _)).mono ?_; rintro e w5 ⟨rfl, hb5⟩
  have hB5 := Lib.hid (below_via' (HB4.out _) hb5)
  clear hb5 g0 g1
  go_wp2
  go_ret
  exact RetB.mk rfl (HW.out.trans (hB5.out.mono HW.out.size))
set_option maxRecDepth 100000 in
set_option maxHeartbeats 1600000 in
theorem arrItems_z {w : World} {A : Ar} (hA : A.Is w) (hm : amE A.s A.a = 0) (hsn : A.sn = 0) :
    Calls Try.prog 8 #[A.v] w (RetB w (.bool true)) := by
  obtain ⟨W, HWW⟩ : ∃ W, Hid (w.alloc (.cells #[.slice A.sa A.sn A.sc, .slice A.aa A.an A.ac] 67) = W) := ⟨_, rfl⟩
  have hw : Below w.heap.size w W := by rw [← HWW.out]; exact (Below.refl _ _).alloc (Nat.le_refl _) _
  have X0 : BoxA W w.heap.size (.slice A.sa A.sn A.sc) (.slice A.aa A.an A.ac) := by
    rw [← HWW.out]; exact ⟨by simp [go_sem], by simp [go_sem], by simp [go_sem], by simp [go_sem], by simp⟩
  have BG := Lib.hid (begun3_any W)
  have hIs := hA.below hw (Nat.le_refl _)
  obtain ⟨N, m, hN, hM, hNm⟩ := item_len hm
  have hbd := itE_bd hm
  rw [hN] at hbd
  have hNb : N ≤ 4096 := by omega
  have hml : (pr A.s.tail).toNat = m := by rw [hM]; rfl
  have CM := Lib.hid (fun W1 (hb : Below W.heap.size W W1) => arrmay_any (hIs.below hb (Nat.le_refl _)))
  have CI := Lib.hid (fun W1 (hb : Below W.heap.size W W1) => items_any (hIs.below hb (Nat.le_refl _)))
  have CT : Hid (∀ W1, Below W.heap.size W W1 → ∀ k : Nat, k < N → Calls Try.prog 34 #[A.v, .int .i64 k] W1 (MadeE W1 A.s.tail (itemA A.a k m) 0)) := by
    intro W1 hb k hk
    have h := item_any (hIs.below hb (Nat.le_refl _)) k hm (by rw [hN]; omega) (by rw [hN]; omega)
    rw [hN, hml, show itJ (k : Int) N = k by unfold itJ; split <;> omega] at h
    exact h
  have CU : Hid (∀ W1, Below W.heap.size W W1 → ∀ k : Nat, k < N → Calls Try.prog 34 #[A.v, .int .i64 ((k : Int) - N)] W1 (MadeE W1 A.s.tail (itemA A.a k m) 0)) := by
    intro W1 hb k hk
    have h := item_any (hIs.below hb (Nat.le_refl _)) ((k : Int) - N) hm (by rw [hN]; omega) (by rw [hN]; omega)
    rw [hN, hml, show itJ ((k : Int) - N) N = k by unfold itJ; split <;> omega] at h
    exact h
  have CB := Lib.hid (fun W1 (hb : Below W.heap.size W W1) i hi => item_index (hIs.below hb (Nat.le_refl _)) i hm hi)
  rw [hN] at CB CI
  rw [hm] at CM
  obtain ⟨sa, sn, sc, aa, an, ac, s, a⟩ := A
  simp only [Ar.v] at *
  first | subst hsn | skip
  have hsl := hIs.shp.len
  have hal := hIs.ats.len
  have HW := Lib.hid hw
  have Y := Lib.hid X0
  have HM := Lib.hid hM
  have HNM := Lib.hid hNm
  have HHM := Lib.hid hm
  have HHN := Lib.hid hN
  have HIS := Lib.hid hIs
  have HSL := Lib.hid hsl
  have HAL := Lib.hid hal
  clear hA hw X0 hIs hm hN hM hNm hml hsl hal hbd
  go_enter Try.func8, Try.ntmps8
  go_wp2_with fail
  rw [HWW.out]
  refine BG.out.mono ?_; rintro e w1 ⟨rfl, hb1⟩
  obtain ⟨r0, r1, -, -, -⟩ := Y.out.below hb1 Y.out.lt
  go_wp2_with fail
  refine (CM.out _ hb1).mono ?_; rintro e w2 ⟨rfl, hb2⟩
  have hB2 := below_via' hb1 hb2
  clear hb1 hb2 r0 r1
  obtain ⟨r0, r1, -, -, -⟩ := Y.out.below hB2 Y.out.lt
  go_wp2_with fail
  refine (CI.out _ hB2).mono ?_; rintro e w3 ⟨rfl, hb3⟩
  have hB3 := below_via' hB2 hb3
  clear hB2 hb3 r0 r1
  obtain ⟨r0, r1, -, -, -⟩ := Y.out.below hB3 Y.out.lt
  have HB3 := Lib.hid hB3
  clear hB3
  have hN1 : ((N : Int) != 1) = false := by rw [it_one HSL.out HHM.out HHN.out]; rfl
  have hNm : N * m ≤ 4096 ∧ N * m = an := by
    obtain ⟨q1, q2⟩ := amE_zero HHM.out
    obtain ⟨g1, g2, g3⟩ := mayE_zero q1
    have q3 := pr_le s g1 s.length
    rw [List.take_length] at q3
    have := HNM.out
    have := HAL.out
    omega
  have HNB := Lib.hid hNm
  clear hNm
  go_wp2_with fail
  go_loopw [6, 7] (fun v6 v7 wr => ∃ (k : Nat) (ao : Option Addr) (n c : Nat), k ≤ N ∧ v7 = .int .i64 k ∧ v6 = .slice ao n c ∧ Hid (n = k * m) ∧ Hid (wr.ownsRow w3.heap.size 2 1 (.slice ao n c) n ((a.take n).map (Value.int .i64))) ∧ Hid (Below w3.heap.size w3 wr)) (fun _ v7 _ => N - (RowKit.intOf v7).toNat)
  case atStart => exact ⟨0, none, 0, 0, Nat.zero_le _, rfl, rfl, (Nat.zero_mul m).symm, World.ownsRow_nil _ _ _ _, Below.refl _ _⟩
  case round =>
    obtain ⟨k, ao, n, c, hk, rfl, rfl, HN, HO, HBR⟩ := hrel
    have hB := HB3.out.trans (HBR.out.mono HB3.out.size)
    have HBW := Lib.hid hB
    obtain ⟨r0, r1, -, -, -⟩ := Y.out.below hB Y.out.lt
    clear hB
    by_cases hlt : k < N
    · have hlt' : (k : Int) < N := by omega
      have z1 : IntKind.i64.wrap ((k : Int) - N) = k - N := IntWalk.i64_in _ (by omega)
      go_wp2_with fail
      refine (CT.out _ HBW.out k hlt).mono ?_; rintro e w4 ⟨B1, rfl, hI1, hs1, ha1, -, hb4⟩
      have hal4 : ∀ o, Below w4.heap.size w4 (w4.alloc o) := fun o => (Below.refl _ _).alloc (Nat.le_refl _) _
      have hxn : B1.sn = B1.s.length := hI1.shp.len.symm
      have hyn : B1.an = m := by rw [← hI1.ats.len, ha1]; exact itemA_length HNM.out hlt
      obtain ⟨xa, xn, xc, ya, yn, yc, xs, ys⟩ := B1
      simp only [Ar.v] at *
      subst hyn
      have HXN := Lib.hid hxn
      have HXS := Lib.hid hs1
      have HYS := Lib.hid ha1
      have HI5 : Hid (∀ o, Ar.Is ⟨xa, xn, xc, ya, yn, yc, xs, ys⟩ (w4.alloc o)) := fun o => hI1.below (hal4 o) (Nat.le_refl _)
      have HX5 : Hid (BoxA (w4.alloc (.cells #[.slice xa xn xc, .slice ya yn yc] 67)) w4.heap.size (.slice xa xn xc) (.slice ya yn yc)) :=
        ⟨by simp [go_sem], by simp [go_sem], by simp [go_sem], by simp [go_sem], by simp⟩
      have HR5 : Hid (∀ o, Below wr.heap.size wr (w4.alloc o)) := fun o => hb4.trans ((hal4 o).mono hb4.size)
      have HB5 : Hid (∀ o, Below W.heap.size W (w4.alloc o)) := fun o => HBW.out.trans ((HR5.out o).mono HBW.out.size)
      have g0 : (w4.alloc (.cells #[.slice xa xn xc, .slice ya yn yc] 67)).cell? ⟨w.heap.size, 0, none⟩ = some (.slice sa 0 sc) := (Y.out.below (HB5.out _) Y.out.lt).c0
      have g1 : (w4.alloc (.cells #[.slice xa xn xc, .slice ya yn yc] 67)).cell? ⟨w.heap.size, 1, none⟩ = some (.slice aa an ac) := (Y.out.below (HB5.out _) Y.out.lt).c1
      clear r0 r1 hI1 hs1 ha1 hb4 hal4 hxn
      go_wp2_with fail
      refine (CU.out _ (HB5.out _) k hlt).mono ?_; rintro e w6 ⟨B2, rfl, hI2, hs2, ha2, -, hb6⟩
      have hal6 : ∀ o, Below w6.heap.size w6 (w6.alloc o) := fun o => (Below.refl _ _).alloc (Nat.le_refl _) _
      obtain ⟨va, vn, vc, za, zn, zc, vs, zs⟩ := B2
      simp only [Ar.v] at *
      have hb7 : ∀ o, Below (w4.alloc (.cells #[.slice xa xn xc, .slice ya yn yc] 67)).heap.size (w4.alloc (.cells #[.slice xa xn xc, .slice ya yn yc] 67)) (w6.alloc o) := fun o => hb6.trans ((hal6 o).mono hb6.size)
      obtain ⟨W7, HW7⟩ : ∃ W7, Hid (w6.alloc (.cells #[.slice va vn vc, .slice za zn zc] 67) = W7) := ⟨_, rfl⟩
      have hb7' := hb7 (.cells #[.slice va vn vc, .slice za zn zc] 67)
      rw [HW7.out] at hb7'
      have HIX := Lib.hid ((HI5.out _).below hb7' (Nat.le_refl _))
      have HIV : Hid (Ar.Is ⟨va, vn, vc, za, zn, zc, vs, zs⟩ W7) := by rw [← HW7.out]; exact hI2.below (hal6 _) (Nat.le_refl _)
      have HX7 := Lib.hid (HX5.out.below hb7' HX5.out.lt)
      have HV7 : Hid (BoxA W7 w6.heap.size (.slice va vn vc) (.slice za zn zc)) := by
        rw [← HW7.out]; exact ⟨by simp [go_sem], by simp [go_sem], by simp [go_sem], by simp [go_sem], by simp⟩
      have HR7 : Hid (Below wr.heap.size wr W7) := (HR5.out _).trans (hb7'.mono (HR5.out _).size)
      have HB7 : Hid (Below W.heap.size W W7) := HBW.out.trans (HR7.out.mono HBW.out.size)
      have HSAME : Hid (decide (xs = vs ∧ ys = zs) = true) := by show _ = _; rw [HXS.out, HYS.out, hs2, ha2]; simp
      have CSM := Lib.hid (same_any HIX.out HIV.out)
      have CMX := Lib.hid (fun w8 (hb : Below W7.heap.size W7 w8) => arrmay_any (HIX.out.below hb (Nat.le_refl _)))
      have HAMX : Hid (amE xs ys = 0) := by show _ = _; rw [HXS.out, HYS.out]; exact amE_item HHM.out HM.out HNM.out hlt
      simp only [Ar.v, HSAME.out, HAMX.out] at CSM CMX
      have e0 : (w6.alloc (.cells #[.slice va vn vc, .slice za zn zc] 67)).cell? ⟨w4.heap.size, 0, none⟩ = some (.slice xa xn xc) := by rw [HW7.out]; exact HX7.out.c0
      have e1 : (w6.alloc (.cells #[.slice va vn vc, .slice za zn zc] 67)).cell? ⟨w4.heap.size, 1, none⟩ = some (.slice ya yn yc) := by rw [HW7.out]; exact HX7.out.c1
      clear g0 g1 hb6 hal6 hb7 hb7' hI2 hs2 ha2 HI5 HX5 HR5 HB5
      go_wp2_with fail
      rw [HW7.out]
      refine CSM.out.mono ?_; rintro e w8 ⟨rfl, hb8⟩
      obtain ⟨x0, x1, -, -, -⟩ := HX7.out.below hb8 HX7.out.lt
      clear e0 e1
      go_wp2_with fail
      refine (CMX.out _ hb8).mono ?_; rintro e w9 ⟨rfl, hb9⟩
      have hB9 := below_via' hb8 hb9
      clear x0 x1 hb8 hb9
      obtain ⟨x0, x1, -, -, -⟩ := HX7.out.below hB9 HX7.out.lt
      have HI9 := Lib.hid (HIX.out.below hB9 (Nat.le_refl _))
      have HR9 : Hid (Below wr.heap.size wr w9) := HR7.out.trans (hB9.mono HR7.out.size)
      have HB9 : Hid (Below W.heap.size W w9) := HBW.out.trans (HR9.out.mono HBW.out.size)
      obtain ⟨r0, r1, -, -, -⟩ := Y.out.below HB9.out Y.out.lt
      have HXL : Hid (xn = s.length - 1) := by show _ = _; rw [HXN.out, HXS.out, List.length_tail]
      clear hB9 CSM CMX
      have hx0 : xn = 0 := by rw [HXL.out, HSL.out]
      subst hx0
      go_wp2_with fail
      go_loopw [12] (fun j wq => ∃ q : Nat, q ≤ 0 ∧ j = .int .i64 q ∧ ∃ n, wq = w9.drewN n) (fun j _ => 0 - (RowKit.intOf j).toNat)
      case atStart => exact ⟨0, Nat.zero_le _, rfl, 0, rfl⟩
      case round =>
        obtain ⟨q, hq, rfl, dn, rfl⟩ := hrel
        by_cases hql : q < 0
        · exact absurd hql (by omega)
        · have hge : (0 : Int) ≤ q := by omega
          obtain ⟨i0, hi, hz0, hz1, hz2⟩ := info_parts (P := Try.prog) (e := 2) (z := .int .i64 0) (size := 1) (bytes := 8) (by kernel_rfl)
          have HRD : Hid (Below wr.heap.size wr (w9.drewN dn)) := below_drewN HR9.out _
          have HO9 := Lib.hid (own_below HO.out HRD.out (Nat.le_refl _))
          have HLY := Lib.hid (HI9.out.ats.drew dn)
          have hsz : n + yn ≤ 1000000 := by
            have h1 := HN.out
            have h2 : (k + 1) * yn ≤ N * yn := Nat.mul_le_mul_right _ (by omega)
            have h3 := HNB.out.1
            rw [Nat.add_mul, Nat.one_mul] at h2
            omega
          have hbs : w3.heap.size ≤ (w9.drewN dn).heap.size := (HBR.out.trans (HRD.out.mono HBR.out.size)).size
          go_wp2_with (at_builtin; refine wpList_append_ls _ rfl _ _ 65 rfl w3.heap.size 2 i0 Try.underlying65 hi hz0 hz1 hz2 _ n (a.take n) rfl HO9.out rfl HLY.out hsz hbs ?_)
          intro v' w10 hown hgrow
          obtain ⟨ao', c', rfl⟩ := own_form hown
          have HB10 : Hid (Below w3.heap.size w3 w10) := (HBR.out.trans (HRD.out.mono HBR.out.size)).grown hgrow hbs (by intro g hg; exact (own_block HO9.out hg).1)
          have HTK : Hid (a.take n ++ ys = a.take (n + yn)) := by
            show _ = _
            rw [HYS.out]
            have h := itemA_take a k yn
            rw [← HN.out] at h
            rw [h, HN.out, Nat.add_mul, Nat.one_mul]
          have HO10 : Hid (w10.ownsRow w3.heap.size 2 1 (.slice ao' (n + yn) c') (n + yn) ((a.take (n + yn)).map (Value.int .i64))) := by show World.ownsRow _ _ _ _ _ _ _; rw [← HTK.out]; simp only [List.map_append, List.map_take] at hown ⊢; exact hown
          have HN10 : Hid (n + yn = (k + 1) * yn) := by show _ = _; rw [Nat.add_mul, Nat.one_mul, ← HN.out]
          clear hown hgrow hsz hbs
          go_wp2
          go_roundw
          case rel => exact ⟨k + 1, ao', n + yn, c', by omega, by go_num, rfl, HN10, HO10, HB10⟩
          case measure => simp [RowKit.intOf]; omega
    · obtain rfl : k = N := by omega
      have hge : (k : Int) ≤ k := Int.le_refl _
      have z1 : IntKind.i64.wrap (-(k : Int)) = -k := IntWalk.i64_in _ (by omega)
      have z2 : IntKind.i64.wrap (-(k : Int) - 1) = -k - 1 := IntWalk.i64_in _ (by omega)
      go_wp2_with fail
      refine (CB.out _ HBW.out k (.inr (Int.le_refl _))).mono ?_; rintro e w4 ⟨B1, rfl, -, -, -, -, hb4⟩
      obtain ⟨xa, xn, xc, ya, yn, yc, xs, ys⟩ := B1
      simp only [Ar.v] at *
      have HR5 : Hid (∀ o, Below wr.heap.size wr (w4.alloc o)) := fun o => hb4.alloc hb4.size _
      have HB5 : Hid (∀ o, Below W.heap.size W (w4.alloc o)) := fun o => HBW.out.trans ((HR5.out o).mono HBW.out.size)
      have g0 : (w4.alloc (.cells #[.slice xa xn xc, .slice ya yn yc] 67)).cell? ⟨w.heap.size, 0, none⟩ = some (.slice sa 0 sc) := (Y.out.below (HB5.out _) Y.out.lt).c0
      have g1 : (w4.alloc (.cells #[.slice xa xn xc, .slice ya yn yc] 67)).cell? ⟨w.heap.size, 1, none⟩ = some (.slice aa an ac) := (Y.out.below (HB5.out _) Y.out.lt).c1
      clear r0 r1 hb4
      go_wp2_with fail
      refine (CB.out _ (HB5.out _) (-(k : Int) - 1) (.inl (by omega))).mono ?_; rintro e w6 ⟨B2, rfl, -, -, -, -, hb6⟩
      obtain ⟨va, vn, vc, za, zn, zc, vs, zs⟩ := B2
      simp only [Ar.v] at *
      have HR7 : Hid (∀ o, Below wr.heap.size wr (w6.alloc o)) := fun o => ((HR5.out _).trans (hb6.mono (HR5.out _).size)).alloc ((HR5.out _).trans (hb6.mono (HR5.out _).size)).size _
      have HB7 : Hid (∀ o, Below W.heap.size W (w6.alloc o)) := fun o => HBW.out.trans ((HR7.out o).mono HBW.out.size)
      clear g0 g1 hb6 HR5 HB5
      have g1 : (w6.alloc (.cells #[.slice va vn vc, .slice za zn zc] 67)).cell? ⟨w.heap.size, 1, none⟩ = some (.slice aa an ac) := (Y.out.below (HB7.out _) Y.out.lt).c1
      have hna : n = an := HN.out.trans HNB.out.2
      have htk : a.take n = a := by rw [hna, ← HAL.out, List.take_length]
      have CE := Lib.hid (eq_any (w := w6.alloc (.cells #[.slice va vn vc, .slice za zn zc] 67)) (A := ⟨none, 0, 0, ao, n, c, [], a⟩) (B := ⟨none, 0, 0, aa, an, ac, [], a⟩)
        ⟨Ls.zero _ _ (Nat.zero_le _), ls_of_own (by have h := own_below HO.out (HR7.out (.cells #[.slice va vn vc, .slice za zn zc] 67)) (Nat.le_refl _); rw [htk] at h; exact h) (by have := HIS.out.ats.big; simp only at this ⊢; omega) HIS.out.ats.rng⟩
        ⟨Ls.zero _ _ (Nat.zero_le _), HIS.out.ats.below (HB7.out _) (Nat.le_refl _)⟩)
      simp only [Ar.v, and_self, decide_true] at CE
      clear hna htk
      go_wp2_with fail
      refine CE.out.mono ?_; rintro e w8 ⟨rfl, hb8⟩
      have HBZ := Lib.hid (below_via' (HB7.out _) hb8)
      clear hb8 g1
      go_wp2
      go_ret
      exact RetB.mk rfl (HW.out.trans (HBZ.out.mono HW.out.size))
set_option maxRecDepth 100000 in
set_option maxHeartbeats 1600000 in
theorem arrItems_p {w : World} {A : Ar} (hA : A.Is w) (hm : amE A.s A.a = 0) (hsn : 0 < A.sn) :
    Calls Try.prog 8 #[A.v] w (RetB w (.bool true)) := by
  obtain ⟨W, HWW⟩ : ∃ W, Hid (w.alloc (.cells #[.slice A.sa A.sn A.sc, .slice A.aa A.an A.ac] 67) = W) := ⟨_, rfl⟩
  have hw : Below w.heap.size w W := by rw [← HWW.out]; exact (Below.refl _ _).alloc (Nat.le_refl _) _
  have X0 : BoxA W w.heap.size (.slice A.sa A.sn A.sc) (.slice A.aa A.an A.ac) := by
    rw [← HWW.out]; exact ⟨by simp [go_sem], by simp [go_sem], by simp [go_sem], by simp [go_sem], by simp⟩
  have BG := Lib.hid (begun3_any W)
  have hIs := hA.below hw (Nat.le_refl _)
  obtain ⟨N, m, hN, hM, hNm⟩ := item_len hm
  have hbd := itE_bd hm
  rw [hN] at hbd
  have hNb : N ≤ 4096 := by omega
  have hml : (pr A.s.tail).toNat = m := by rw [hM]; rfl
  have CM := Lib.hid (fun W1 (hb : Below W.heap.size W W1) => arrmay_any (hIs.below hb (Nat.le_refl _)))
  have CI := Lib.hid (fun W1 (hb : Below W.heap.size W W1) => items_any (hIs.below hb (Nat.le_refl _)))
  have CT : Hid (∀ W1, Below W.heap.size W W1 → ∀ k : Nat, k < N → Calls Try.prog 34 #[A.v, .int .i64 k] W1 (MadeE W1 A.s.tail (itemA A.a k m) 0)) := by
    intro W1 hb k hk
    have h := item_any (hIs.below hb (Nat.le_refl _)) k hm (by rw [hN]; omega) (by rw [hN]; omega)
    rw [hN, hml, show itJ (k : Int) N = k by unfold itJ; split <;> omega] at h
    exact h
  have CU : Hid (∀ W1, Below W.heap.size W W1 → ∀ k : Nat, k < N → Calls Try.prog 34 #[A.v, .int .i64 ((k : Int) - N)] W1 (MadeE W1 A.s.tail (itemA A.a k m) 0)) := by
    intro W1 hb k hk
    have h := item_any (hIs.below hb (Nat.le_refl _)) ((k : Int) - N) hm (by rw [hN]; omega) (by rw [hN]; omega)
    rw [hN, hml, show itJ ((k : Int) - N) N = k by unfold itJ; split <;> omega] at h
    exact h
  have CB := Lib.hid (fun W1 (hb : Below W.heap.size W W1) i hi => item_index (hIs.below hb (Nat.le_refl _)) i hm hi)
  rw [hN] at CB CI
  rw [hm] at CM
  obtain ⟨sa, sn, sc, aa, an, ac, s, a⟩ := A
  simp only [Ar.v] at *
  first | subst hsn | skip
  have hsl := hIs.shp.len
  have hal := hIs.ats.len
  have HW := Lib.hid hw
  have Y := Lib.hid X0
  have HM := Lib.hid hM
  have HNM := Lib.hid hNm
  have HHM := Lib.hid hm
  have HHN := Lib.hid hN
  have HIS := Lib.hid hIs
  have HSL := Lib.hid hsl
  have HAL := Lib.hid hal
  clear hA hw X0 hIs hm hN hM hNm hml hsl hal hbd
  go_enter Try.func8, Try.ntmps8
  go_wp2_with fail
  rw [HWW.out]
  refine BG.out.mono ?_; rintro e w1 ⟨rfl, hb1⟩
  obtain ⟨r0, r1, -, -, -⟩ := Y.out.below hb1 Y.out.lt
  go_wp2_with fail
  refine (CM.out _ hb1).mono ?_; rintro e w2 ⟨rfl, hb2⟩
  have hB2 := below_via' hb1 hb2
  clear hb1 hb2 r0 r1
  obtain ⟨r0, r1, -, -, -⟩ := Y.out.below hB2 Y.out.lt
  go_wp2_with fail
  refine (CI.out _ hB2).mono ?_; rintro e w3 ⟨rfl, hb3⟩
  have hB3 := below_via' hB2 hb3
  clear hB2 hb3 r0 r1
  obtain ⟨r0, r1, -, -, -⟩ := Y.out.below hB3 Y.out.lt
  have HB3 := Lib.hid hB3
  clear hB3
  have hsn' : (0 : Int) < sn := by omega
  obtain ⟨b0, o0, hao, hl0, hc0⟩ := HIS.out.shp.mem hsn
  simp only at hao
  subst hao
  have hd0 : w3.cell? ⟨b0, o0, none⟩ = some (.int .i64 N) := by rw [← it_head HSL.out hsn HHM.out HHN.out]; have h := hc0 0 hsn; rw [Nat.add_zero] at h; exact (HB3.out.cell (p := ⟨b0, o0, none⟩) hl0).trans h
  have HC0 := Lib.hid hc0
  have HL0 := Lib.hid hl0
  clear hc0 hl0
  have hNm : N * m ≤ 4096 ∧ N * m = an := by
    obtain ⟨q1, q2⟩ := amE_zero HHM.out
    obtain ⟨g1, g2, g3⟩ := mayE_zero q1
    have q3 := pr_le s g1 s.length
    rw [List.take_length] at q3
    have := HNM.out
    have := HAL.out
    omega
  have HNB := Lib.hid hNm
  clear hNm
  go_wp2_with fail
  go_loopw [6, 7] (fun v6 v7 wr => ∃ (k : Nat) (ao : Option Addr) (n c : Nat), k ≤ N ∧ v7 = .int .i64 k ∧ v6 = .slice ao n c ∧ Hid (n = k * m) ∧ Hid (wr.ownsRow w3.heap.size 2 1 (.slice ao n c) n ((a.take n).map (Value.int .i64))) ∧ Hid (Below w3.heap.size w3 wr)) (fun _ v7 _ => N - (RowKit.intOf v7).toNat)
  case atStart => exact ⟨0, none, 0, 0, Nat.zero_le _, rfl, rfl, (Nat.zero_mul m).symm, World.ownsRow_nil _ _ _ _, Below.refl _ _⟩
  case round =>
    obtain ⟨k, ao, n, c, hk, rfl, rfl, HN, HO, HBR⟩ := hrel
    have hB := HB3.out.trans (HBR.out.mono HB3.out.size)
    have HBW := Lib.hid hB
    obtain ⟨r0, r1, -, -, -⟩ := Y.out.below hB Y.out.lt
    clear hB
    by_cases hlt : k < N
    · have hlt' : (k : Int) < N := by omega
      have z1 : IntKind.i64.wrap ((k : Int) - N) = k - N := IntWalk.i64_in _ (by omega)
      go_wp2_with fail
      refine (CT.out _ HBW.out k hlt).mono ?_; rintro e w4 ⟨B1, rfl, hI1, hs1, ha1, -, hb4⟩
      have hal4 : ∀ o, Below w4.heap.size w4 (w4.alloc o) := fun o => (Below.refl _ _).alloc (Nat.le_refl _) _
      have hxn : B1.sn = B1.s.length := hI1.shp.len.symm
      have hyn : B1.an = m := by rw [← hI1.ats.len, ha1]; exact itemA_length HNM.out hlt
      obtain ⟨xa, xn, xc, ya, yn, yc, xs, ys⟩ := B1
      simp only [Ar.v] at *
      subst hyn
      have HXN := Lib.hid hxn
      have HXS := Lib.hid hs1
      have HYS := Lib.hid ha1
      have HI5 : Hid (∀ o, Ar.Is ⟨xa, xn, xc, ya, yn, yc, xs, ys⟩ (w4.alloc o)) := fun o => hI1.below (hal4 o) (Nat.le_refl _)
      have HX5 : Hid (BoxA (w4.alloc (.cells #[.slice xa xn xc, .slice ya yn yc] 67)) w4.heap.size (.slice xa xn xc) (.slice ya yn yc)) :=
        ⟨by simp [go_sem], by simp [go_sem], by simp [go_sem], by simp [go_sem], by simp⟩
      have HR5 : Hid (∀ o, Below wr.heap.size wr (w4.alloc o)) := fun o => hb4.trans ((hal4 o).mono hb4.size)
      have HB5 : Hid (∀ o, Below W.heap.size W (w4.alloc o)) := fun o => HBW.out.trans ((HR5.out o).mono HBW.out.size)
      have g0 : (w4.alloc (.cells #[.slice xa xn xc, .slice ya yn yc] 67)).cell? ⟨w.heap.size, 0, none⟩ = some (.slice (some ⟨b0, o0, none⟩) sn sc) := (Y.out.below (HB5.out _) Y.out.lt).c0
      have g1 : (w4.alloc (.cells #[.slice xa xn xc, .slice ya yn yc] 67)).cell? ⟨w.heap.size, 1, none⟩ = some (.slice aa an ac) := (Y.out.below (HB5.out _) Y.out.lt).c1
      clear r0 r1 hI1 hs1 ha1 hb4 hal4 hxn
      go_wp2_with fail
      refine (CU.out _ (HB5.out _) k hlt).mono ?_; rintro e w6 ⟨B2, rfl, hI2, hs2, ha2, -, hb6⟩
      have hal6 : ∀ o, Below w6.heap.size w6 (w6.alloc o) := fun o => (Below.refl _ _).alloc (Nat.le_refl _) _
      obtain ⟨va, vn, vc, za, zn, zc, vs, zs⟩ := B2
      simp only [Ar.v] at *
      have hb7 : ∀ o, Below (w4.alloc (.cells #[.slice xa xn xc, .slice ya yn yc] 67)).heap.size (w4.alloc (.cells #[.slice xa xn xc, .slice ya yn yc] 67)) (w6.alloc o) := fun o => hb6.trans ((hal6 o).mono hb6.size)
      obtain ⟨W7, HW7⟩ : ∃ W7, Hid (w6.alloc (.cells #[.slice va vn vc, .slice za zn zc] 67) = W7) := ⟨_, rfl⟩
      have hb7' := hb7 (.cells #[.slice va vn vc, .slice za zn zc] 67)
      rw [HW7.out] at hb7'
      have HIX := Lib.hid ((HI5.out _).below hb7' (Nat.le_refl _))
      have HIV : Hid (Ar.Is ⟨va, vn, vc, za, zn, zc, vs, zs⟩ W7) := by rw [← HW7.out]; exact hI2.below (hal6 _) (Nat.le_refl _)
      have HX7 := Lib.hid (HX5.out.below hb7' HX5.out.lt)
      have HV7 : Hid (BoxA W7 w6.heap.size (.slice va vn vc) (.slice za zn zc)) := by
        rw [← HW7.out]; exact ⟨by simp [go_sem], by simp [go_sem], by simp [go_sem], by simp [go_sem], by simp⟩
      have HR7 : Hid (Below wr.heap.size wr W7) := (HR5.out _).trans (hb7'.mono (HR5.out _).size)
      have HB7 : Hid (Below W.heap.size W W7) := HBW.out.trans (HR7.out.mono HBW.out.size)
      have HSAME : Hid (decide (xs = vs ∧ ys = zs) = true) := by show _ = _; rw [HXS.out, HYS.out, hs2, ha2]; simp
      have CSM := Lib.hid (same_any HIX.out HIV.out)
      have CMX := Lib.hid (fun w8 (hb : Below W7.heap.size W7 w8) => arrmay_any (HIX.out.below hb (Nat.le_refl _)))
      have HAMX : Hid (amE xs ys = 0) := by show _ = _; rw [HXS.out, HYS.out]; exact amE_item HHM.out HM.out HNM.out hlt
      simp only [Ar.v, HSAME.out, HAMX.out] at CSM CMX
      have e0 : (w6.alloc (.cells #[.slice va vn vc, .slice za zn zc] 67)).cell? ⟨w4.heap.size, 0, none⟩ = some (.slice xa xn xc) := by rw [HW7.out]; exact HX7.out.c0
      have e1 : (w6.alloc (.cells #[.slice va vn vc, .slice za zn zc] 67)).cell? ⟨w4.heap.size, 1, none⟩ = some (.slice ya yn yc) := by rw [HW7.out]; exact HX7.out.c1
      clear g0 g1 hb6 hal6 hb7 hb7' hI2 hs2 ha2 HI5 HX5 HR5 HB5
      go_wp2_with fail
      rw [HW7.out]
      refine CSM.out.mono ?_; rintro e w8 ⟨rfl, hb8⟩
      obtain ⟨x0, x1, -, -, -⟩ := HX7.out.below hb8 HX7.out.lt
      clear e0 e1
      go_wp2_with fail
      refine (CMX.out _ hb8).mono ?_; rintro e w9 ⟨rfl, hb9⟩
      have hB9 := below_via' hb8 hb9
      clear x0 x1 hb8 hb9
      obtain ⟨x0, x1, -, -, -⟩ := HX7.out.below hB9 HX7.out.lt
      have HI9 := Lib.hid (HIX.out.below hB9 (Nat.le_refl _))
      have HR9 : Hid (Below wr.heap.size wr w9) := HR7.out.trans (hB9.mono HR7.out.size)
      have HB9 : Hid (Below W.heap.size W w9) := HBW.out.trans (HR9.out.mono HBW.out.size)
      obtain ⟨r0, r1, -, -, -⟩ := Y.out.below HB9.out Y.out.lt
      have HXL : Hid (xn = s.length - 1) := by show _ = _; rw [HXN.out, HXS.out, List.length_tail]
      clear hB9 CSM CMX
      have hx1 : IntKind.i64.wrap ((sn : Int) - 1) = xn := by rw [HXL.out, HSL.out, IntWalk.i64_in _ (by have h1 : sn * 8 ≤ _ := HIS.out.shp.big; omega)]; omega
      go_wp2_with fail
      go_loopw [12] (fun j wq => ∃ q : Nat, q ≤ xn ∧ j = .int .i64 q ∧ ∃ n, wq = w9.drewN n) (fun j _ => xn - (RowKit.intOf j).toNat)
      case atStart => exact ⟨0, Nat.zero_le _, rfl, 0, rfl⟩
      case round =>
        obtain ⟨q, hq, rfl, dn, rfl⟩ := hrel
        by_cases hql : q < xn
        · have hql' : (q : Int) < xn := by omega
          have hq1 : q + 1 < sn := by have h1 := HXL.out; have h2 := HSL.out; omega
          have hq1' : (q : Int) + 1 < sn := by omega
          obtain ⟨bx, ox, hxa, _, hcx⟩ := HI9.out.shp.mem (show 0 < xn by omega)
          simp only at hxa
          subst hxa
          have d1 := hcx q hql
          have d2 : w9.cell? ⟨b0, o0 + (q + 1), none⟩ = some (.int .i64 (s.getD (q + 1) 0)) := (HB9.out.cell (p := ⟨b0, o0 + (q + 1), none⟩) HL0.out).trans (HC0.out (q + 1) hq1)
          have hgg : xs.getD q 0 = s.getD (q + 1) 0 := by rw [HXS.out]; cases s <;> simp [List.getD]
          obtain ⟨u, HU⟩ : ∃ u, Hid (s.getD (q + 1) 0 = u) := ⟨_, rfl⟩
          rw [HU.out] at d2 hgg
          simp only [hgg] at d1
          have y1 : IntKind.i64.wrap ((q : Int) + 1) = q + 1 := IntWalk.i64_in _ (by have h1 : sn * 8 ≤ _ := HIS.out.shp.big; omega)
          have y2 : ((q : Int) + 1).toNat = q + 1 := by omega
          have y3 : (0 : Int) ≤ (q : Int) + 1 := by omega
          clear hcx hgg
          go_wp2
          go_quiet (fail)
          go_wp2
          go_roundw
          case rel => exact ⟨q + 1, by omega, by go_num, _, rfl⟩
          case measure => simp [RowKit.intOf]; omega
        · have hge : (xn : Int) ≤ q := by omega
          obtain ⟨i0, hi, hz0, hz1, hz2⟩ := info_parts (P := Try.prog) (e := 2) (z := .int .i64 0) (size := 1) (bytes := 8) (by kernel_rfl)
          have HRD : Hid (Below wr.heap.size wr (w9.drewN dn)) := below_drewN HR9.out _
          have HO9 := Lib.hid (own_below HO.out HRD.out (Nat.le_refl _))
          have HLY := Lib.hid (HI9.out.ats.drew dn)
          have hsz : n + yn ≤ 1000000 := by
            have h1 := HN.out
            have h2 : (k + 1) * yn ≤ N * yn := Nat.mul_le_mul_right _ (by omega)
            have h3 := HNB.out.1
            rw [Nat.add_mul, Nat.one_mul] at h2
            omega
          have hbs : w3.heap.size ≤ (w9.drewN dn).heap.size := (HBR.out.trans (HRD.out.mono HBR.out.size)).size
          go_wp2_with (at_builtin; refine wpList_append_ls _ rfl _ _ 65 rfl w3.heap.size 2 i0 Try.underlying65 hi hz0 hz1 hz2 _ n (a.take n) rfl HO9.out rfl HLY.out hsz hbs ?_)
          intro v' w10 hown hgrow
          obtain ⟨ao', c', rfl⟩ := own_form hown
          have HB10 : Hid (Below w3.heap.size w3 w10) := (HBR.out.trans (HRD.out.mono HBR.out.size)).grown hgrow hbs (by intro g hg; exact (own_block HO9.out hg).1)
          have HTK : Hid (a.take n ++ ys = a.take (n + yn)) := by
            show _ = _
            rw [HYS.out]
            have h := itemA_take a k yn
            rw [← HN.out] at h
            rw [h, HN.out, Nat.add_mul, Nat.one_mul]
          have HO10 : Hid (w10.ownsRow w3.heap.size 2 1 (.slice ao' (n + yn) c') (n + yn) ((a.take (n + yn)).map (Value.int .i64))) := by show World.ownsRow _ _ _ _ _ _ _; rw [← HTK.out]; simp only [List.map_append, List.map_take] at hown ⊢; exact hown
          have HN10 : Hid (n + yn = (k + 1) * yn) := by show _ = _; rw [Nat.add_mul, Nat.one_mul, ← HN.out]
          clear hown hgrow hsz hbs
          go_wp2
          go_roundw
          case rel => exact ⟨k + 1, ao', n + yn, c', by omega, by go_num, rfl, HN10, HO10, HB10⟩
          case measure => simp [RowKit.intOf]; omega
    · obtain rfl : k = N := by omega
      have hge : (k : Int) ≤ k := Int.le_refl _
      have z1 : IntKind.i64.wrap (-(k : Int)) = -k := IntWalk.i64_in _ (by omega)
      have z2 : IntKind.i64.wrap (-(k : Int) - 1) = -k - 1 := IntWalk.i64_in _ (by omega)
      go_wp2_with fail
      refine (CB.out _ HBW.out k (.inr (Int.le_refl _))).mono ?_; rintro e w4 ⟨B1, rfl, -, -, -, -, hb4⟩
      obtain ⟨xa, xn, xc, ya, yn, yc, xs, ys⟩ := B1
      simp only [Ar.v] at *
      have HR5 : Hid (∀ o, Below wr.heap.size wr (w4.alloc o)) := fun o => hb4.alloc hb4.size _
      have HB5 : Hid (∀ o, Below W.heap.size W (w4.alloc o)) := fun o => HBW.out.trans ((HR5.out o).mono HBW.out.size)
      have g0 : (w4.alloc (.cells #[.slice xa xn xc, .slice ya yn yc] 67)).cell? ⟨w.heap.size, 0, none⟩ = some (.slice (some ⟨b0, o0, none⟩) sn sc) := (Y.out.below (HB5.out _) Y.out.lt).c0
      have g1 : (w4.alloc (.cells #[.slice xa xn xc, .slice ya yn yc] 67)).cell? ⟨w.heap.size, 1, none⟩ = some (.slice aa an ac) := (Y.out.below (HB5.out _) Y.out.lt).c1
      clear r0 r1 hb4
      go_wp2_with fail
      refine (CB.out _ (HB5.out _) (-(k : Int) - 1) (.inl (by omega))).mono ?_; rintro e w6 ⟨B2, rfl, -, -, -, -, hb6⟩
      obtain ⟨va, vn, vc, za, zn, zc, vs, zs⟩ := B2
      simp only [Ar.v] at *
      have HR7 : Hid (∀ o, Below wr.heap.size wr (w6.alloc o)) := fun o => ((HR5.out _).trans (hb6.mono (HR5.out _).size)).alloc ((HR5.out _).trans (hb6.mono (HR5.out _).size)).size _
      have HB7 : Hid (∀ o, Below W.heap.size W (w6.alloc o)) := fun o => HBW.out.trans ((HR7.out o).mono HBW.out.size)
      clear g0 g1 hb6 HR5 HB5
      have g1 : (w6.alloc (.cells #[.slice va vn vc, .slice za zn zc] 67)).cell? ⟨w.heap.size, 1, none⟩ = some (.slice aa an ac) := (Y.out.below (HB7.out _) Y.out.lt).c1
      have hna : n = an := HN.out.trans HNB.out.2
      have htk : a.take n = a := by rw [hna, ← HAL.out, List.take_length]
      have CE := Lib.hid (eq_any (w := w6.alloc (.cells #[.slice va vn vc, .slice za zn zc] 67)) (A := ⟨none, 0, 0, ao, n, c, [], a⟩) (B := ⟨none, 0, 0, aa, an, ac, [], a⟩)
        ⟨Ls.zero _ _ (Nat.zero_le _), ls_of_own (by have h := own_below HO.out (HR7.out (.cells #[.slice va vn vc, .slice za zn zc] 67)) (Nat.le_refl _); rw [htk] at h; exact h) (by have := HIS.out.ats.big; simp only at this ⊢; omega) HIS.out.ats.rng⟩
        ⟨Ls.zero _ _ (Nat.zero_le _), HIS.out.ats.below (HB7.out _) (Nat.le_refl _)⟩)
      simp only [Ar.v, and_self, decide_true] at CE
      clear hna htk
      go_wp2_with fail
      refine CE.out.mono ?_; rintro e w8 ⟨rfl, hb8⟩
      have HBZ := Lib.hid (below_via' (HB7.out _) hb8)
      clear hb8 g1
      go_wp2
      go_ret
      exact RetB.mk rfl (HW.out.trans (HBZ.out.mono HW.out.size))
theorem walkArrItems {w : World} {A : Ar} (hA : A.Is w) : Calls Try.prog 8 #[A.v] w (RetB w (.bool true)) := by
  by_cases hm : amE A.s A.a = 0
  · by_cases h0 : A.sn = 0
    · exact arrItems_z hA hm h0
    · exact arrItems_p hA hm (by omega)
  · exact arrItems_bad hA hm
end Go.Proofs.Ytdmlldghelpijaa
