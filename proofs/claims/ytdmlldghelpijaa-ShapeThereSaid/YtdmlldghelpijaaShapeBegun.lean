/- What every statement of layer 2 asks ahead: begun. -/
import Derived.Test.YtdmlldghelpijaaShapeWalks
import Derived.Test.YtdmlldghelpijaaArrBegun
namespace Go.Proofs.Ytdmlldghelpijaa
open Go.RowKit Go.Lib
set_option linter.unusedVariables false
set_option linter.unusedSimpArgs false
attribute [local go_sem] alloc_drewN setCell_drewN

theorem lit_row (w : World) (zs : List Int) (h : (zs.length < 1000 && zs.all fun x => decide (-1000 ≤ x) && decide (x ≤ 1000)) = true) :
    Ls (w.alloc (.cells (zs.map (Value.int .i64)).toArray 3)) (some ⟨w.heap.size, 0, none⟩) zs.length zs.length zs := by
  simp only [Bool.and_eq_true, decide_eq_true_eq, List.all_eq_true] at h
  refine ls_alloc w zs _ (by omega) (fun i => ?_)
  by_cases hi : i < zs.length
  · have := h.2 _ (List.getElem_mem hi)
    simp only [List.getD, List.getElem?_eq_getElem hi, Option.getD_some]
    omega
  · simp [List.getD, List.getElem?_eq_none (show zs.length ≤ i by omega)]
theorem bal (w : World) (o : Obj) : Below w.heap.size w (w.alloc o) := (Below.refl _ _).alloc (Nat.le_refl _) _
theorem bvia {w W1 W2 : World} (h : Below w.heap.size w W1) (h2 : Below W1.heap.size W1 W2) : Below w.heap.size w W2 := h.trans (h2.mono h.size)
theorem lss_two {w : World} {b1 b2 o1 o2 : Nat} {n1 c1 n2 c2 : Nat} {s t : List Int} (h1 : Ls w (some ⟨b1, o1, none⟩) n1 c1 s) (h2 : Ls w (some ⟨b2, o2, none⟩) n2 c2 t) :
    Lss (w.alloc (.cells #[.slice (some ⟨b1, o1, none⟩) n1 c1, .slice (some ⟨b2, o2, none⟩) n2 c2] 25)) (some ⟨w.heap.size, 0, none⟩) 2 2 [s, t] := by
  refine ⟨rfl, Nat.le_refl _, by omega, by unfold maxLen; omega, fun _ => ⟨w.heap.size, 0, rfl, by simp, fun i hi => ?_⟩⟩
  match i, hi with
  | 0, _ => exact ⟨_, _, _, by rw [World.cell?_alloc_at _ _ _ _ rfl]; rfl, h1.below (bal _ _) (Nat.le_refl _)⟩
  | 1, _ => exact ⟨_, _, _, by rw [World.cell?_alloc_at _ _ _ _ rfl]; rfl, h2.below (bal _ _) (Nat.le_refl _)⟩
set_option maxRecDepth 100000 in
set_option maxHeartbeats 1600000 in
theorem begun2_any (w : World) : Calls Try.prog 13 #[] w (RetB w (.bool true)) := by
  have C1 := Lib.hid (size_any (lit_row w [2, 3, 4] rfl))
  rw [show szE [2, 3, 4] = 24 by decide, show mayE [2, 3, 4] = 0 by decide] at C1
  have C2 := Lib.hid (fun w => place_any ((lit_row w [2, 3, 4] rfl).below (bal _ (.cells ([1, 2, 3].map (Value.int .i64)).toArray 3)) (Nat.le_refl _)) (lit_row (w.alloc (.cells ([2, 3, 4].map (Value.int .i64)).toArray 3)) [1, 2, 3] rfl))
  rw [show plV [2, 3, 4] [1, 2, 3] = 23 by decide, show plE [2, 3, 4] [1, 2, 3] = 0 by decide] at C2
  have C3 := Lib.hid (fun w => at_any (lit_row w [2, 3, 4] rfl) 23)
  rw [show atL [2, 3, 4] 23 = [1, 2, 3] by decide, show atE [2, 3, 4] 23 = 0 by decide] at C3
  have C4 := Lib.hid (fun w => split_any (lit_row w [2, 3, 4] rfl) (-1) (by omega))
  have C5 := Lib.hid (fun w => agree_any ((lit_row w [2] rfl).below (bal _ (.cells ([2, 3].map (Value.int .i64)).toArray 3)) (Nat.le_refl _)) (lit_row (w.alloc (.cells ([2].map (Value.int .i64)).toArray 3)) [2, 3] rfl))
  rw [show agL [2] [2, 3] = [2, 3] by decide, show agE [2] [2, 3] = 0 by decide] at C5
  have C6 := Lib.hid (fun w => cover_any (lss_two ((lit_row w [3] rfl).below (bal _ (.cells ([2, 1].map (Value.int .i64)).toArray 3)) (Nat.le_refl _)) (lit_row (w.alloc (.cells ([3].map (Value.int .i64)).toArray 3)) [2, 1] rfl)))
  rw [show cvR [[3], [2, 1]] = ([2, 3], 0) by decide] at C6
  have C7 := Lib.hid (fun w => may_any (lit_row w [64, 65] rfl))
  rw [show mayE [64, 65] = 17 by decide] at C7
  simp only [List.map_cons, List.map_nil, List.length_cons, List.length_nil, Nat.zero_add, Nat.reduceAdd, World.size_alloc] at C1 C2 C3 C4 C5 C6 C7
  go_enter Try.func13, Try.ntmps13
  go_wp2_with fail
  refine C1.out.mono ?_; rintro e w1 ⟨rfl, hw1⟩
  have hB1 : Below w.heap.size w w1 := by rw [hw1]; exact bal _ _
  clear hw1
  go_wp2_with fail
  refine (C2.out _).mono ?_; rintro e w2 ⟨rfl, hw2⟩
  have hB2 : Below w.heap.size w w2 := by rw [hw2]; exact bvia hB1 (bvia (bal _ _) (bal _ _))
  clear hw2 hB1
  go_wp2_with fail
  refine (C3.out _).mono ?_; rintro e w3 ⟨xo, xn, xc, rfl, hL1, -, hb3⟩
  have hB3 : Below w.heap.size w w3 := bvia hB2 (bvia (bal _ _) hb3)
  have HB3 := Lib.hid hB3
  have HL1 := Lib.hid hL1
  clear hB2 hb3 hB3 hL1
  go_wp2_with fail
  refine (C4.out _).mono ?_; rintro e w4 ⟨yo, yn, yc, zo, zn, zc, rfl, hL2, hL3, -, -, -, hb4⟩
  have HB4 : Hid (Below w3.heap.size w3 w4) := bvia (bal _ _) hb4
  have HL2 := Lib.hid hL2
  have HL3 := Lib.hid hL3
  clear hb4 hL2 hL3
  go_wp2_with fail
  refine (C5.out _).mono ?_; rintro e w5 ⟨ao, an, ac, rfl, hL4, -, hb5⟩
  have HB5 : Hid (Below w4.heap.size w4 w5) := bvia (bvia (bal _ _) (bal _ _)) hb5
  have HL4 := Lib.hid hL4
  clear hb5 hL4
  go_wp2_with fail
  refine (C6.out _).mono ?_; rintro e w6 ⟨co, cn, cc, rfl, hL5, -, hb6⟩
  have HB6 : Hid (Below w5.heap.size w5 w6) := bvia (bvia (bvia (bal _ _) (bal _ _)) (bal _ _)) hb6
  have HL5 := Lib.hid hL5
  clear hb6 hL5
  go_wp2_with fail
  refine (C7.out _).mono ?_; rintro e w7 ⟨rfl, hw7⟩
  have HB7 : Hid (Below w6.heap.size w6 w7) := by show Below _ _ _; rw [hw7]; exact bal _ _
  clear hw7
  have M1 := Lib.hid (HL1.out.below (bvia HB4.out (bvia HB5.out (bvia HB6.out HB7.out))) (Nat.le_refl _))
  have M2 := Lib.hid (HL2.out.below (bvia HB5.out (bvia HB6.out HB7.out)) (Nat.le_refl _))
  have M3 := Lib.hid (HL3.out.below (bvia HB5.out (bvia HB6.out HB7.out)) (Nat.le_refl _))
  have M4 := Lib.hid (HL4.out.below (bvia HB6.out HB7.out) (Nat.le_refl _))
  have M5 := Lib.hid (HL5.out.below HB7.out (Nat.le_refl _))
  have HW7 : Hid (Below w.heap.size w w7) := bvia HB3.out (bvia HB4.out (bvia HB5.out (bvia HB6.out HB7.out)))
  rw [show spN 3 (-1) = 1 by decide, show ([2, 3, 4] : List Int).take 1 = [2] by rfl] at M2
  rw [show spN 3 (-1) = 1 by decide, show ([2, 3, 4] : List Int).drop 1 = [3, 4] by rfl] at M3
  have E1 := Lib.hid (fun w' (hb : Below w7.heap.size w7 w') => eqints_any (M1.out.below (bvia hb (bal w' (.cells ([1, 2, 3].map (Value.int .i64)).toArray 3))) (Nat.le_refl _)) (lit_row w' [1, 2, 3] rfl))
  have E2 := Lib.hid (fun w' (hb : Below w7.heap.size w7 w') => eqints_any (M2.out.below (bvia hb (bal w' (.cells ([2].map (Value.int .i64)).toArray 3))) (Nat.le_refl _)) (lit_row w' [2] rfl))
  have E3 := Lib.hid (fun w' (hb : Below w7.heap.size w7 w') => eqints_any (M3.out.below (bvia hb (bal w' (.cells ([3, 4].map (Value.int .i64)).toArray 3))) (Nat.le_refl _)) (lit_row w' [3, 4] rfl))
  have E4 := Lib.hid (fun w' (hb : Below w7.heap.size w7 w') => eqints_any (M4.out.below (bvia hb (bal w' (.cells ([2, 3].map (Value.int .i64)).toArray 3))) (Nat.le_refl _)) (lit_row w' [2, 3] rfl))
  have E5 := Lib.hid (fun w' (hb : Below w7.heap.size w7 w') => eqints_any (M5.out.below (bvia hb (bal w' (.cells ([2, 3].map (Value.int .i64)).toArray 3))) (Nat.le_refl _)) (lit_row w' [2, 3] rfl))
  simp only [List.map_cons, List.map_nil, List.length_cons, List.length_nil, Nat.zero_add, Nat.reduceAdd, decide_true] at E1 E2 E3 E4 E5
  have EA := Lib.hid (fun w' => all_any (lit_row w' [1, 2] rfl))
  simp only [List.map_cons, List.map_nil, List.length_cons, List.length_nil, Nat.zero_add, Nat.reduceAdd] at EA
  clear HL1 HL2 HL3 HL4 HL5 HB3 HB4 HB5 HB6 HB7 C1 C2 C3 C4 C5 C6 C7
  go_wp2_with fail
  refine (E1.out _ (Below.refl _ _)).mono ?_; rintro e w8 ⟨rfl, hw⟩
  have HB8 : Hid (Below w7.heap.size w7 w8) := by obtain ⟨q, rfl⟩ := hw; exact below_drewN (bvia (Below.refl _ _) (bal _ _)) q
  clear hw
  go_wp2_with fail
  refine (E2.out _ HB8.out).mono ?_; rintro e w9 ⟨rfl, hw⟩
  have HB9 : Hid (Below w7.heap.size w7 w9) := by obtain ⟨q, rfl⟩ := hw; exact below_drewN (bvia HB8.out (bal _ _)) q
  clear hw
  go_wp2_with fail
  refine (E3.out _ HB9.out).mono ?_; rintro e w10 ⟨rfl, hw⟩
  have HB10 : Hid (Below w7.heap.size w7 w10) := by obtain ⟨q, rfl⟩ := hw; exact below_drewN (bvia HB9.out (bal _ _)) q
  clear hw
  go_wp2_with fail
  refine (E4.out _ HB10.out).mono ?_; rintro e w11 ⟨rfl, hw⟩
  have HB11 : Hid (Below w7.heap.size w7 w11) := by obtain ⟨q, rfl⟩ := hw; exact below_drewN (bvia HB10.out (bal _ _)) q
  clear hw
  go_wp2_with fail
  refine (E5.out _ HB11.out).mono ?_; rintro e w12 ⟨rfl, hw⟩
  have HB12 : Hid (Below w7.heap.size w7 w12) := by obtain ⟨q, rfl⟩ := hw; exact below_drewN (bvia HB11.out (bal _ _)) q
  clear hw
  go_wp2_with fail
  refine (EA.out _).mono ?_; rintro e w13 ⟨bn, bs, so, sn, sc, rfl, hQ, -, -, -, hb13⟩
  have HB13 : Hid (Below w7.heap.size w7 w13) := bvia (bvia HB12.out (bal _ _)) hb13
  have EW := Lib.hid (fun o => walks_any (s := [1, 2]) (lit_row w13 [1, 2] rfl) (hQ.below (bal w13 (.cells ([1, 2].map (Value.int .i64)).toArray 3))) o)
  simp only [List.map_cons, List.map_nil, List.length_cons, List.length_nil, Nat.zero_add, Nat.reduceAdd, seqV] at EW
  clear hb13 hQ
  simp only [seqV]
  go_wp2_with fail
  refine (EW.out 0).mono ?_; rintro e w14 ⟨rfl, hb14⟩
  have HF : Hid (Below w.heap.size w w14) := bvia HW7.out (bvia (bvia HB13.out (bal _ _)) hb14)
  clear hb14
  go_wp2
  go_ret
  exact RetB.mk rfl HF.out
end Go.Proofs.Ytdmlldghelpijaa
