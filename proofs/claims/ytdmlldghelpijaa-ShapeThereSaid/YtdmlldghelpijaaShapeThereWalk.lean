/- ShapeThere: the walk of the statement's function. -/
import Derived.Test.YtdmlldghelpijaaShapeTherePlain
namespace Go.Proofs.Ytdmlldghelpijaa
open Go.RowKit Go.Lib Go.Shelf
set_option linter.unusedVariables false
set_option linter.unusedSimpArgs false
attribute [local go_sem] alloc_drewN setCell_drewN

theorem box1_new (W : World) (T : TypeId) (v : Value) : (W.alloc (.cells #[v] T)).cell? ⟨W.heap.size, 0, none⟩ = some v ∧ (W.alloc (.cells #[v] T)).frozen? ⟨W.heap.size, 0, none⟩ = false := by
  constructor <;> simp [go_sem]
set_option maxRecDepth 100000 in
set_option maxHeartbeats 1600000 in
theorem there_bad {w : World} {a1 : Option Addr} {n c1 : Nat} {s : List Int} (hS : Ls w a1 n c1 s) {a2 : Option Addr} {m c2 : Nat} {t : List Int} (hT : Ls w a2 m c2 t) (hm : mayE s ≠ 0) :
    Calls Try.prog 5 #[.slice a1 n c1, .slice a2 m c2] w (RetB w (.bool true)) := by
  obtain ⟨W, HWW⟩ : ∃ W, Hid ((w.alloc (.cells #[.slice a1 n c1] 25)).alloc (.cells #[.bool false] 4) = W) := ⟨_, rfl⟩
  have hw : Below w.heap.size w W := by rw [← HWW.out]; exact bvia (bal _ _) (bal _ _)
  have hsz : W.heap.size = w.heap.size + 2 := by rw [← HWW.out]; simp
  have x0 : W.cell? ⟨w.heap.size, 0, none⟩ = some (.slice a1 n c1) := by rw [← HWW.out]; simp [go_sem]
  have x1 : W.cell? ⟨w.heap.size + 1, 0, none⟩ = some (.bool false) := by rw [← HWW.out]; simp [go_sem]
  have x2 : W.frozen? ⟨w.heap.size + 1, 0, none⟩ = false := by rw [← HWW.out]; simp [go_sem]
  have BG := Lib.hid (begun2_any W)
  have SS : Hid (∀ W1, Below W.heap.size W W1 → Ls W1 a1 n c1 s) := fun W1 hb => hS.below (bvia hw hb) (Nat.le_refl _)
  have TT : Hid (∀ W1, Below W.heap.size W W1 → Ls W1 a2 m c2 t) := fun W1 hb => hT.below (bvia hw hb) (Nat.le_refl _)
  have CM := Lib.hid (fun W1 hb => may_any (SS.out W1 hb))
  have CZ := Lib.hid (fun W1 hb => size_any (SS.out W1 hb))
  have CP := Lib.hid (fun W1 hb => place_any (SS.out W1 hb) (TT.out W1 hb))
  have CA := Lib.hid (fun W1 hb => at_any (SS.out W1 hb) 0)
  have CS := Lib.hid (fun W1 hb => all_any (SS.out W1 hb))
  rw [show szE s = 0 by simp [szE, hm]] at CZ
  rw [show plV s t = 0 by simp [plV, hm], show plE s t = mayE s by simp [plE, hm]] at CP
  rw [show atL s 0 = [] by simp [atL, hm], show atE s 0 = mayE s by simp [atE, hm]] at CA
  obtain ⟨e, HE⟩ : ∃ e, Hid (mayE s = e) := ⟨_, rfl⟩
  have he : (e != 0) = true := by rw [← HE.out]; simpa using hm
  rw [HE.out] at CM CZ CP CA
  have Y : Hid (∀ W1, Below W.heap.size W W1 → W1.cell? ⟨w.heap.size, 0, none⟩ = some (.slice a1 n c1) ∧ W1.cell? ⟨w.heap.size + 1, 0, none⟩ = some (.bool false) ∧ W1.frozen? ⟨w.heap.size + 1, 0, none⟩ = false) := fun W1 hb =>
    ⟨(hb.cell (p := ⟨w.heap.size, 0, none⟩) (by dsimp only; omega)).trans x0, (hb.cell (p := ⟨w.heap.size + 1, 0, none⟩) (by dsimp only; omega)).trans x1, (hb.frozen (p := ⟨w.heap.size + 1, 0, none⟩) (by dsimp only; omega)).trans x2⟩
  have HW := Lib.hid hw
  have SZ := Lib.hid hsz
  clear hS hT hm hw hsz x0 x1 x2
  go_enter Try.func5, Try.ntmps5
  go_wp2_with fail
  rw [HWW.out]
  refine BG.out.mono ?_; rintro e' w1 ⟨rfl, hb1⟩
  obtain ⟨r0, r1, r2⟩ := Y.out w1 hb1
  have HB1 := Lib.hid hb1
  clear hb1
  go_wp2_with fail
  refine (CM.out w1 HB1.out).mono ?_; rintro e' w2 ⟨rfl, hw2⟩
  have hw2' := hw2.symm
  subst hw2'
  go_wp2_with fail
  refine (CZ.out w1 HB1.out).mono ?_; rintro e' w2 ⟨rfl, hw2⟩
  have hw2' := hw2.symm
  subst hw2'
  obtain ⟨W2, HW2⟩ : ∃ W2, Hid (w1.alloc (.cells #[.int .i64 0] 3) = W2) := ⟨_, rfl⟩
  have HB2 : Hid (Below W.heap.size W W2) := by show Below _ _ _; rw [← HW2.out]; exact bvia HB1.out (bal _ _)
  have s0 : (w1.alloc (.cells #[.int .i64 0] 3)).cell? ⟨w.heap.size, 0, none⟩ = some (.slice a1 n c1) := by rw [HW2.out]; exact (Y.out W2 HB2.out).1
  have z0 : W2.cell? ⟨w1.heap.size, 0, none⟩ = some (.int .i64 0) := by rw [← HW2.out]; simp [go_sem]
  have hlt2 : w1.heap.size < W2.heap.size := by rw [← HW2.out]; simp
  clear r0 r1 r2
  go_wp2_with fail
  rw [HW2.out]
  refine (CP.out W2 HB2.out).mono ?_; rintro e' w3 ⟨rfl, hw3⟩
  have hw3' := hw3.symm
  subst hw3'
  obtain ⟨r0, r1, r2⟩ := Y.out W2 HB2.out
  clear s0
  go_wp2_with fail
  refine (CA.out W2 HB2.out).mono ?_; rintro e' w4 ⟨lo, ln, lc, rfl, hL, -, hb4⟩
  obtain rfl : ln = 0 := hL.len.symm
  have HB4 : Hid (Below W.heap.size W w4) := bvia HB2.out hb4
  have z1 := (hb4.cell (p := ⟨w1.heap.size, 0, none⟩) hlt2).trans z0
  have Z : Hid (∀ W5, Below w4.heap.size w4 W5 → W5.cell? ⟨w1.heap.size, 0, none⟩ = some (.int .i64 0)) := fun W5 hb => (hb.cell (p := ⟨w1.heap.size, 0, none⟩) (Nat.lt_of_lt_of_le hlt2 hb4.size)).trans z1
  clear r0 r1 r2 z0 hL hb4
  obtain ⟨r0, r1, r2⟩ := Y.out w4 HB4.out
  have hee : (e == e) = true := by simp
  have hsw := HB1.out.size
  have hsw2 := SZ.out
  have hne1 : ¬ w.heap.size + 1 = w1.heap.size := by omega
  have hne2 : ¬ w1.heap.size = w.heap.size + 1 := by omega
  clear hsw hsw2
  have hd4 : Below w4.heap.size w4 w4.drew := (Below.refl _ _).drew
  go_wp2_with fail
  go_region_held3 (fun w'' => w''.cell? ⟨w.heap.size, 0, none⟩ = some (.slice a1 n c1) ∧ w''.cell? ⟨w1.heap.size, 0, none⟩ = some (.int .i64 0)) (go_keep)
    (first
      | (go_at_call 27; (with_reducible refine Calls.mono (CS.out w4.drew (bvia HB4.out hd4)) ?_); rintro e' w5 ⟨bn, bs, qo, qn, qc, rfl, hQ, -, -, -, hb5⟩; have hB5 : Below w4.heap.size w4 w5 := bvia hd4 hb5; have hQ5 := hQ; have z5 := Z.out w5 hB5; obtain ⟨r0, r1, r2⟩ := Y.out w5 (bvia HB4.out hB5); have CW := Lib.hid (walks_any (SS.out w5 (bvia HB4.out hB5)) hQ5 0); simp only [seqV] at CW; dsimp only [seqV])
      | (go_at_call 26; (with_reducible refine Calls.mono CW.out ?_); rintro e' w6 ⟨rfl, hb6⟩; have hB6 : Below w4.heap.size w4 w6 := bvia hB5 hb6; have z6 := Z.out w6 hB6; obtain ⟨t0, t1, t2⟩ := Y.out w6 (bvia HB4.out hB6)))
  have HF : Hid (∀ v, RetB w (.bool true) (.returned (.bool true)) (w6.setCell ⟨w.heap.size + 1, 0, none⟩ v)) := fun v => RetB.mk rfl ((bvia HW.out (bvia HB4.out hB6)).setCell (by dsimp only; omega) _)
  clear hB6 hB5 hQ5 hQ hb5 hb6 hd4
  go_wp2
  exact bodyPost_ret (v := .bool true) (by simp [results, Try.results5, go_sem, *]) rfl (HF.out _)
end Go.Proofs.Ytdmlldghelpijaa
