/- Plain facts on items: how many, how long, what they are. What every statement of the layer asks ahead: begun. -/
import Derived.Test.YtdedbfbkakofgaaShapeFreshM4
namespace Go.Proofs.Ytdedbfbkakofgaa
open Go.RowKit Go.Lib
set_option linter.unusedVariables false
set_option linter.unusedSimpArgs false
theorem below_via' {W W1 W2 : World} (h : Below W.heap.size W W1) (h2 : Below W1.heap.size W1 W2) : Below W.heap.size W W2 := h.trans (h2.mono h.size)
theorem pm_cons (x : Int) (xs : List Int) : pm (x :: xs) = max x 1 * pm xs := by
  have : ∀ (xs : List Int) (a b : Int), xs.foldl (fun n k => n * max k 1) (a * b) = a * xs.foldl (fun n k => n * max k 1) b := by
    intro xs; induction xs with
    | nil => intro a b; rfl
    | cons y ys ih => intro a b; simp only [List.foldl_cons]; rw [Int.mul_assoc, ih]
  have h := this xs (max x 1) 1
  simpa [pm] using h
theorem mayE_tail {s : List Int} (h : mayE s = 0) : mayE s.tail = 0 := by
  cases s with
  | nil => exact h
  | cons x xs =>
    show mayE xs = 0
    unfold mayE at h ⊢
    have h1 : xs.any (fun k => decide (k < 0)) = false := by
      split at h
      · omega
      · rename_i h2; simp only [List.any_cons, Bool.or_eq_true, not_or] at h2; simpa using h2.2
    have h2 : ¬ 8 < xs.length ∧ ¬ 4096 < pm (x :: xs) := by
      split at h
      · omega
      · split at h
        · omega
        · split at h
          · omega
          · rename_i h3 h4; simp only [List.length_cons] at h3; exact ⟨by omega, h4⟩
    have h3 : pm xs ≤ pm (x :: xs) := by
      rw [pm_cons]
      have hp := (pm_up xs xs.length).1
      rw [List.take_length] at hp
      exact (le_mul1 (show 1 ≤ max x 1 by omega) hp).2
    rw [h1]
    simp only [Bool.false_eq_true, if_false]
    rw [if_neg h2.1, if_neg (by omega)]
theorem item_len {s a : List Int} (h : amE s a = 0) : ∃ N m : Nat, itE s a = N ∧ pr s.tail = m ∧ N * m = a.length := by
  obtain ⟨h1, h2⟩ := amE_zero h
  obtain ⟨g1, g2, g3⟩ := mayE_zero h1
  cases s with
  | nil =>
    refine ⟨1, 1, by simp [itE, h], rfl, ?_⟩
    have : pr [] = 1 := rfl
    omega
  | cons x xs =>
    have e : itE (x :: xs) a = x := by simp [itE, h]
    rw [pr_cons] at h2
    have hxs : ∀ i, 0 ≤ xs.getD i 0 := fun i => by have := g1 (i + 1); simpa [List.getD] using this
    have hp := (pr_le xs hxs xs.length).1
    rw [List.take_length] at hp
    have hx : 0 ≤ x := by simpa using g1 0
    obtain ⟨N, rfl⟩ := Int.eq_ofNat_of_zero_le hx
    obtain ⟨m, hm⟩ := Int.eq_ofNat_of_zero_le hp
    refine ⟨N, m, by rw [e], by simpa using hm, ?_⟩
    rw [hm] at h2
    exact_mod_cast h2
theorem it_one {s a : List Int} {N : Nat} (h : s.length = 0) (h2 : amE s a = 0) (h3 : itE s a = N) : N = 1 := by
  rw [itE, if_pos h2, if_pos h] at h3; omega
theorem it_head {s a : List Int} {N n : Nat} (h : s.length = n) (h0 : 0 < n) (h2 : amE s a = 0) (h3 : itE s a = N) : s.getD 0 0 = N := by
  rw [itE, if_pos h2, if_neg (by omega)] at h3; exact h3
theorem itemA_length {a : List Int} {N m k : Nat} (h : N * m = a.length) (hk : k < N) : (itemA a k m).length = m := by
  have h1 : (k + 1) * m ≤ N * m := Nat.mul_le_mul_right _ (by omega)
  rw [Nat.add_mul, Nat.one_mul] at h1
  simp [itemA]; omega
theorem itemA_take (a : List Int) (k m : Nat) : a.take (k * m) ++ itemA a k m = a.take ((k + 1) * m) := by
  rw [Nat.add_mul, Nat.one_mul, List.take_add]; rfl
theorem amE_item {s a : List Int} {N m k : Nat} (h : amE s a = 0) (hm : pr s.tail = m) (hN : N * m = a.length) (hk : k < N) : amE s.tail (itemA a k m) = 0 := by
  obtain ⟨h1, h2⟩ := amE_zero h
  unfold amE
  rw [if_pos (mayE_tail h1), itemA_length hN hk, if_pos hm]
end Go.Proofs.Ytdedbfbkakofgaa

namespace Go.Proofs.Ytdedbfbkakofgaa
open Go.RowKit Go.Lib
set_option linter.unusedVariables false
set_option linter.unusedSimpArgs false
attribute [local go_sem] alloc_drewN setCell_drewN

/-- A new block of integers reads as the list. -/
theorem ls_alloc (w : World) (zs : List Int) (T : TypeId) (h : zs.length ≤ 100000) (hr : ∀ i, -9223372036854775808 ≤ zs.getD i 0 ∧ zs.getD i 0 ≤ 9223372036854775807) :
    Ls (w.alloc (.cells (zs.map (Value.int .i64)).toArray T)) (some ⟨w.heap.size, 0, none⟩) zs.length zs.length zs := by
  refine ⟨rfl, Nat.le_refl _, by omega, by unfold maxLen; omega, fun h0 => ⟨w.heap.size, 0, rfl, by simp, fun i hi => ?_⟩, hr⟩
  rw [World.cell?_alloc_at _ _ _ _ rfl, Nat.zero_add]
  show (zs.map (Value.int .i64)).toArray[i]? = _
  rw [List.getElem?_toArray]
  exact getD_map_int zs i hi
set_option maxRecDepth 100000 in
set_option maxHeartbeats 800000 in
theorem begun3_any (w : World) : Calls Try.prog 20 #[] w (RetB w (.bool true)) := by
  obtain ⟨W, HWW⟩ : ∃ W, Hid (w.alloc (.cells #[.int .i64 5, .int .i64 6, .int .i64 7] 2) = W) := ⟨_, rfl⟩
  have hL : Ls W (some ⟨w.heap.size, 0, none⟩) 3 3 [5, 6, 7] := by
    rw [← HWW.out]
    exact ls_alloc w [5, 6, 7] _ (by decide) (by intro i; match i with
      | 0 => decide
      | 1 => decide
      | 2 => decide
      | i + 3 => simp [List.getD])
  have hW : Below w.heap.size w W := by rw [← HWW.out]; exact (Below.refl _ _).alloc (Nat.le_refl _) _
  have C1 := Lib.hid (list_ok hL (by omega))
  have C2 : Hid (∀ (w1 : World) (A : Ar), A.Is w1 → A.s = [3] → A.a = [5, 6, 7] → Calls Try.prog 39 #[A.v, .int .i64 (-1)] w1 (MadeE w1 [] [7] 0)) := by
    intro w1 A hA hs ha
    have h := item_any hA (-1) (by rw [hs, ha]; decide) (by rw [hs, ha]; decide) (by rw [hs, ha]; decide)
    rw [hs, ha, show itemA [5, 6, 7] (itJ (-1) (itE [3] [5, 6, 7])) (pr [(3 : Int)].tail).toNat = [7] by decide] at h
    exact h
  have C3 := Lib.hid (fun w1 => scalar_any 7 w1 (by omega))
  have HW := Lib.hid hW
  clear hL hW
  go_enter Try.func20, Try.ntmps20
  go_wp2_with fail
  rw [HWW.out]
  refine C1.out.mono ?_; rintro e w1 ⟨B1, rfl, hI1, hs1, ha1, -, hb1⟩
  have hI1' : ∀ u, B1.Is (w1.alloc u) := fun u => hI1.below ((Below.refl _ _).alloc (Nat.le_refl _) _) (Nat.le_refl _)
  have C2' := Lib.hid (fun u => C2.out (w1.alloc u) B1 (hI1' u) hs1 ha1)
  have H1 := Lib.hid hI1
  have S1 := Lib.hid hs1
  have A1 := Lib.hid ha1
  obtain ⟨sa1, sn1, sc1, aa1, an1, ac1, s1, a1⟩ := B1
  simp only [Ar.v] at *
  have HB1 : Hid (Below w.heap.size w w1) := HW.out.trans (hb1.mono HW.out.size)
  clear hI1 hs1 ha1 hb1 hI1'
  go_wp2_with fail
  have hw1 : ∀ u, Below w1.heap.size w1 (w1.alloc u) := fun u => (Below.refl _ _).alloc (Nat.le_refl _) _
  have X1 : BoxA (w1.alloc (.cells #[.slice sa1 sn1 sc1, .slice aa1 an1 ac1] 55)) w1.heap.size (.slice sa1 sn1 sc1) (.slice aa1 an1 ac1) :=
    ⟨by simp [go_sem], by simp [go_sem], by simp [go_sem], by simp [go_sem], by simp⟩
  refine (C2'.out _).mono ?_; rintro e w2 ⟨B3, rfl, hI3, hs3, ha3, -, hb3⟩
  have HX1 := Lib.hid (X1.below hb3 X1.lt)
  have HI1 := Lib.hid ((H1.out.below (hw1 _) (Nat.le_refl _)).below hb3 (Nat.le_refl _))
  have HB2 : Hid (Below w.heap.size w w2) := HB1.out.trans (((hw1 _).trans (hb3.mono (by simp))).mono HB1.out.size)
  have HL2 : Hid (w1.heap.size < w2.heap.size) := by have := hb3.size; simp at this; exact this
  have H3 := Lib.hid hI3
  have S3 := Lib.hid hs3
  have A3 := Lib.hid ha3
  obtain ⟨sa3, sn3, sc3, aa3, an3, ac3, s3, a3⟩ := B3
  simp only [Ar.v] at *
  clear hI3 hs3 ha3 hb3 hw1 X1 C2' H1 C1 C2
  go_wp2_with fail
  refine (C3.out _).mono ?_; rintro e w3 ⟨B5, rfl, hI5, hs5, ha5, -, hb5⟩
  have hw2 : ∀ u, Below w2.heap.size w2 (w2.alloc u) := fun u => (Below.refl _ _).alloc (Nat.le_refl _) _
  have X3 : BoxA (w2.alloc (.cells #[.slice sa3 sn3 sc3, .slice aa3 an3 ac3] 55)) w2.heap.size (.slice sa3 sn3 sc3) (.slice aa3 an3 ac3) :=
    ⟨by simp [go_sem], by simp [go_sem], by simp [go_sem], by simp [go_sem], by simp⟩
  have hb53 : Below w2.heap.size w2 w3 := (hw2 _).trans (hb5.mono (by simp))
  have HX3 := Lib.hid (X3.below hb5 X3.lt)
  have HX1' := Lib.hid (HX1.out.below hb53 HX1.out.lt)
  have HI1' := Lib.hid (HI1.out.below hb53 (Nat.le_refl _))
  have HI3' := Lib.hid (H3.out.below hb53 (Nat.le_refl _))
  have HB3 : Hid (Below w.heap.size w w3) := HB2.out.trans (hb53.mono HB2.out.size)
  have HI5 := Lib.hid hI5
  have S5 := Lib.hid hs5
  have A5 := Lib.hid ha5
  obtain ⟨sa5, sn5, sc5, aa5, an5, ac5, s5, a5⟩ := B5
  simp only [Ar.v] at *
  clear hI5 hs5 ha5 hb5 hw2 X3 H3 hb53 HX1 HI1 HB2
  obtain ⟨W3, HW3⟩ : ∃ W3, Hid (w3.alloc (.cells #[.slice sa5 sn5 sc5, .slice aa5 an5 ac5] 55) = W3) := ⟨_, rfl⟩
  have hw3 : Below w3.heap.size w3 W3 := by rw [← HW3.out]; exact (Below.refl _ _).alloc (Nat.le_refl _) _
  have Y5 : Hid (BoxA W3 w3.heap.size (.slice sa5 sn5 sc5) (.slice aa5 an5 ac5)) := by
    rw [← HW3.out]; exact ⟨by simp [go_sem], by simp [go_sem], by simp [go_sem], by simp [go_sem], by simp⟩
  have Y3 := Lib.hid (HX3.out.below hw3 HX3.out.lt)
  have Y1 := Lib.hid (HX1'.out.below hw3 HX1'.out.lt)
  have I1 := Lib.hid (HI1'.out.below hw3 (Nat.le_refl _))
  have I3 := Lib.hid (HI3'.out.below hw3 (Nat.le_refl _))
  have I5 := Lib.hid (HI5.out.below hw3 (Nat.le_refl _))
  have HB4 : Hid (Below w.heap.size w W3) := HB3.out.trans (hw3.mono HB3.out.size)
  clear hw3 HX3 HX1' HI1' HI3' HI5 HB3
  have g30 : (w3.alloc (.cells #[.slice sa5 sn5 sc5, .slice aa5 an5 ac5] 55)).cell? ⟨w2.heap.size, 0, none⟩ = some (.slice sa3 sn3 sc3) := by rw [HW3.out]; exact Y3.out.c0
  have g31 : (w3.alloc (.cells #[.slice sa5 sn5 sc5, .slice aa5 an5 ac5] 55)).cell? ⟨w2.heap.size, 1, none⟩ = some (.slice aa3 an3 ac3) := by rw [HW3.out]; exact Y3.out.c1
  have hd1 : decide (s3 = s5 ∧ a3 = a5) = true := by rw [S3.out, S5.out, A3.out, A5.out]; rfl
  have D1 := Lib.hid (same_any (A := ⟨sa3, sn3, sc3, aa3, an3, ac3, s3, a3⟩) (B := ⟨sa5, sn5, sc5, aa5, an5, ac5, s5, a5⟩) I3.out I5.out)
  simp only [Ar.v, hd1] at D1
  obtain rfl : sn5 = 0 := by have := I5.out.shp.len; rw [S5.out] at this; simp at this; omega
  obtain rfl : an5 = 1 := by have := I5.out.ats.len; rw [A5.out] at this; simp at this; omega
  obtain ⟨b5, o5, hao, hl5, hc5⟩ := I5.out.ats.mem (show 0 < 1 by omega)
  have hc5' := hc5 0 (show 0 < 1 by omega)
  clear hc5
  simp only [A5.out, Nat.add_zero, List.getD_cons_zero] at hc5'
  simp only at hao
  subst hao
  have HC5 := Lib.hid hc5'
  have HL5 := Lib.hid hl5
  clear hc5' hl5
  clear hd1
  go_wp2_with fail
  rw [HW3.out]
  refine D1.out.mono ?_; rintro e w4 ⟨rfl, hb4⟩
  obtain ⟨k0, k1, -, -, -⟩ := Y5.out.below hb4 Y5.out.lt
  obtain ⟨j0, j1, -, -, -⟩ := Y1.out.below hb4 Y1.out.lt
  have HB5 : Hid (Below w.heap.size w w4) := HB4.out.trans (hb4.mono HB4.out.size)
  have g5 : w4.cell? ⟨b5, o5, none⟩ = some (.int .i64 7) := (hb4.cell (p := ⟨b5, o5, none⟩) HL5.out).trans HC5.out
  have hcmp : cmpA ⟨sa5, 0, sc5, some ⟨b5, o5, none⟩, 1, ac5, s5, a5⟩ ⟨sa1, sn1, sc1, aa1, an1, ac1, s1, a1⟩ = -1 := by
    have := I1.out.shp.len
    rw [S1.out] at this
    simp only [List.length_cons, List.length_nil] at this
    subst this
    simp only [cmpA]
    simp [orL, cmpI]
  have E1 := Lib.hid (acompare_any ((I5.out).below hb4 (Nat.le_refl _)) ((I1.out).below hb4 (Nat.le_refl _)))
  simp only [hcmp, Ar.v] at E1
  clear hcmp g30 g31
  have Z5 := Lib.hid (Y5.out.below hb4 Y5.out.lt)
  have Z1 := Lib.hid (Y1.out.below hb4 Y1.out.lt)
  have J1 := Lib.hid (I1.out.below hb4 (Nat.le_refl _))
  clear hb4 Y5 Y1 Y3 I3 I5 I1 D1 HC5 HL5
  go_wp2_with fail
  refine E1.out.mono ?_; rintro e w5 ⟨rfl, hb5⟩
  obtain ⟨k0, k1, -, -, -⟩ := Z1.out.below hb5 Z1.out.lt
  have HB6 : Hid (Below w.heap.size w w5) := HB5.out.trans (hb5.mono HB5.out.size)
  have ham : amE s1 a1 = 0 := by rw [S1.out, A1.out]; decide
  have hit : itE s1 a1 = 3 := by rw [S1.out, A1.out]; decide
  have F1 := Lib.hid (arrmay_any (J1.out.below hb5 (Nat.le_refl _)))
  simp only [ham, Ar.v] at F1
  have K1 := Lib.hid (J1.out.below hb5 (Nat.le_refl _))
  have V1 := Lib.hid (Z1.out.below hb5 Z1.out.lt)
  clear hb5 Z5 Z1 J1
  go_wp2_with fail
  refine F1.out.mono ?_; rintro e w6 ⟨rfl, hb6⟩
  obtain ⟨k0, k1, -, -, -⟩ := V1.out.below hb6 V1.out.lt
  have HB7 : Hid (Below w.heap.size w w6) := HB6.out.trans (hb6.mono HB6.out.size)
  have G1 := Lib.hid (items_any (K1.out.below hb6 (Nat.le_refl _)))
  simp only [hit, Ar.v] at G1
  clear hb6
  go_wp2_with fail
  refine G1.out.mono ?_; rintro e w7 ⟨rfl, hb7⟩
  have HB8 : Hid (Below w.heap.size w w7) := HB7.out.trans (hb7.mono HB7.out.size)
  clear hb7
  go_wp2
  go_ret
  exact RetB.mk rfl HB8.out
end Go.Proofs.Ytdedbfbkakofgaa
