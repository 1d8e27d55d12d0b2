/- ArrOrder: the comparison is an order (plain), and the walk of the statement's function. -/
import Derived.Test.YtdmlldghelpijaaArrBegun
namespace Go.Proofs.Ytdmlldghelpijaa
open Go.RowKit Go.Lib
set_option linter.unusedVariables false
set_option linter.unusedSimpArgs false
attribute [local go_sem] alloc_drewN setCell_drewN

/-- How the three comparisons of three go together. -/
def Tri (x y z : Int) : Prop := (x ≤ 0 → y ≤ 0 → z ≤ 0 ∧ (z < 0 ∨ x = 0 ∧ y = 0)) ∧ (0 ≤ x → 0 ≤ y → 0 ≤ z ∧ (0 < z ∨ x = 0 ∧ y = 0))
theorem tri_or {x1 y1 z1 x2 y2 z2 : Int} (h1 : Tri x1 y1 z1) (h2 : Tri x2 y2 z2) : Tri (if x1 = 0 then x2 else x1) (if y1 = 0 then y2 else y1) (if z1 = 0 then z2 else z1) := by
  obtain ⟨a1, b1⟩ := h1
  obtain ⟨a2, b2⟩ := h2
  constructor <;> (intro hx hy; split at hx <;> split at hy <;> split <;> omega)
theorem tri_I (a b c : Int) : Tri (cmpI a b) (cmpI b c) (cmpI a c) := by
  unfold cmpI
  constructor <;> (intro hx hy; split at hx <;> split at hy <;> split <;> omega)
theorem cmpL_cons (x y : Int) (xs ys : List Int) : cmpL (x :: xs) (y :: ys) = if cmpI x y = 0 then cmpL xs ys else cmpI x y := by
  show (if x < y then -1 else if y < x then 1 else cmpL xs ys) = _
  unfold cmpI
  by_cases h1 : x < y
  · simp [h1]
  · by_cases h2 : y < x
    · simp [h1, h2]
    · simp [h1, h2]
theorem tri_L : ∀ xs ys zs : List Int, Tri (cmpL xs ys) (cmpL ys zs) (cmpL xs zs)
  | [], [], [] => by simp [cmpL, Tri]
  | [], [], _ :: _ => by simp [cmpL, Tri]
  | [], _ :: _, [] => by simp [cmpL, Tri]
  | [], y :: ys, z :: zs => by
    have := cmpL_bd (y :: ys) (z :: zs)
    refine ⟨fun _ _ => ⟨by simp [cmpL], .inl (by simp [cmpL])⟩, fun h => absurd h (by simp [cmpL])⟩
  | _ :: _, [], [] => by simp [cmpL, Tri]
  | _ :: _, [], _ :: _ => by simp [cmpL, Tri]
  | x :: xs, y :: ys, [] => by
    refine ⟨fun _ h => absurd h (by simp [cmpL]), fun _ _ => ⟨by simp [cmpL], .inl (by simp [cmpL])⟩⟩
  | x :: xs, y :: ys, z :: zs => by
    rw [cmpL_cons, cmpL_cons, cmpL_cons]
    exact tri_or (tri_I x y z) (tri_L xs ys zs)
theorem anti_I (a b : Int) : cmpI b a = -(cmpI a b) := by unfold cmpI; split <;> split <;> omega
theorem anti_L : ∀ xs ys : List Int, cmpL ys xs = -(cmpL xs ys)
  | [], [] => rfl
  | [], _ :: _ => rfl
  | _ :: _, [] => rfl
  | x :: xs, y :: ys => by
    rw [cmpL_cons, cmpL_cons, anti_I x y, anti_L xs ys]
    split <;> split <;> omega
theorem zero_L : ∀ xs ys : List Int, cmpL xs ys = 0 ↔ xs = ys
  | [], [] => by simp [cmpL]
  | [], _ :: _ => by simp [cmpL]
  | _ :: _, [] => by simp [cmpL]
  | x :: xs, y :: ys => by
    have h1 := zero_L xs ys
    have h2 := cmpI_zero (a := x) (b := y)
    rw [cmpL_cons, List.cons.injEq, ← h1, ← h2]
    by_cases h : cmpI x y = 0
    · simp [h]
    · simp [h]
theorem or3 (x y z : Int) : orL [x, y, z] = if x = 0 then (if y = 0 then z else y) else x := by
  simp only [orL]
  by_cases h1 : x = 0 <;> by_cases h2 : y = 0 <;> by_cases h3 : z = 0 <;> simp [*]
theorem tri_A (A B C : Ar) : Tri (cmpA A B) (cmpA B C) (cmpA A C) := by
  unfold cmpA; rw [or3, or3, or3]
  exact tri_or (tri_I _ _ _) (tri_or (tri_L _ _ _) (tri_L _ _ _))
theorem anti_A (A B : Ar) : cmpA B A = -(cmpA A B) := by
  unfold cmpA; rw [or3, or3, anti_I A.sn, anti_L A.s, anti_L A.a]
  by_cases h1 : cmpI A.sn B.sn = 0 <;> by_cases h2 : cmpL A.s B.s = 0 <;> by_cases h3 : cmpL A.a B.a = 0 <;> simp [*]
theorem zero_A {A B : Ar} (hA : A.s.length = A.sn) (hB : B.s.length = B.sn) : cmpA A B = 0 ↔ A.s = B.s ∧ A.a = B.a := by
  unfold cmpA; rw [or3, ← zero_L, ← zero_L]
  have h1 := cmpI_zero (a := A.sn) (b := B.sn)
  have h2 : cmpL A.s B.s = 0 → (A.sn : Int) = B.sn := fun h => by rw [zero_L] at h; rw [← hA, ← hB, h]
  split
  · split <;> simp [*]
  · rename_i h
    constructor
    · intro h3; exact absurd h3 h
    · intro h3; exact absurd (h1.2 (h2 h3.1)) h
theorem bd_A (A B : Ar) : -1 ≤ cmpA A B ∧ cmpA A B ≤ 1 := by
  unfold cmpA; rw [or3]
  have := cmpI_bd A.sn B.sn
  have := cmpL_bd A.s B.s
  have := cmpL_bd A.a B.a
  split
  · split <;> omega
  · omega
theorem below_via {W W1 W2 : World} (h : Below W.heap.size W W1) (h2 : Below W1.heap.size W1 W2) : Below W.heap.size W W2 := h.trans (h2.mono h.size)
set_option maxRecDepth 100000 in
set_option maxHeartbeats 1600000 in
theorem walkArrOrder {w : World} {A B C : Ar} (hA : A.Is w) (hB : B.Is w) (hC : C.Is w) :
    Calls Try.prog 9 #[A.v, B.v, C.v] w (RetB w (.bool true)) := by
  obtain ⟨W, HWW⟩ : ∃ W, Hid (((w.alloc (.cells #[.slice A.sa A.sn A.sc, .slice A.aa A.an A.ac] 67)).alloc (.cells #[.slice B.sa B.sn B.sc, .slice B.aa B.an B.ac] 67)).alloc (.cells #[.slice C.sa C.sn C.sc, .slice C.aa C.an C.ac] 67) = W) := ⟨_, rfl⟩
  have hw : Below w.heap.size w W := by rw [← HWW.out]; exact (below_box2 _ _ _ _ _).alloc (by simp; omega) _
  have X0 : BoxA W w.heap.size (.slice A.sa A.sn A.sc) (.slice A.aa A.an A.ac) := by
    rw [← HWW.out]; exact ⟨by simp [go_sem], by simp [go_sem], by simp [go_sem], by simp [go_sem], by simp; omega⟩
  have X1 : BoxA W (w.heap.size + 1) (.slice B.sa B.sn B.sc) (.slice B.aa B.an B.ac) := by
    rw [← HWW.out]; exact ⟨by simp [go_sem], by simp [go_sem], by simp [go_sem], by simp [go_sem], by simp⟩
  have X2 : BoxA W (w.heap.size + 2) (.slice C.sa C.sn C.sc) (.slice C.aa C.an C.ac) := by
    rw [← HWW.out]; exact ⟨by simp [go_sem], by simp [go_sem], by simp [go_sem], by simp [go_sem], by simp⟩
  have BG := Lib.hid (begun3_any W)
  have hAB : (cmpA A B == 0) = decide (A.s = B.s ∧ A.a = B.a) := by
    rw [Bool.eq_iff_iff]; simp [zero_A hA.shp.len hB.shp.len]
  have hBA := anti_A A B
  have hAA : cmpA A A = 0 := (zero_A hA.shp.len hA.shp.len).2 ⟨rfl, rfl⟩
  have bx := bd_A A B
  have by' := bd_A B C
  have bz := bd_A A C
  have tr := tri_A A B C
  have E1 := Lib.hid (fun W1 (hb : Below W.heap.size W W1) => acompare_any ((hA.below hw (Nat.le_refl _)).below hb (Nat.le_refl _)) ((hB.below hw (Nat.le_refl _)).below hb (Nat.le_refl _)))
  have E2 := Lib.hid (fun W1 (hb : Below W.heap.size W W1) => acompare_any ((hB.below hw (Nat.le_refl _)).below hb (Nat.le_refl _)) ((hC.below hw (Nat.le_refl _)).below hb (Nat.le_refl _)))
  have E3 := Lib.hid (fun W1 (hb : Below W.heap.size W W1) => acompare_any ((hA.below hw (Nat.le_refl _)).below hb (Nat.le_refl _)) ((hC.below hw (Nat.le_refl _)).below hb (Nat.le_refl _)))
  have E4 := Lib.hid (fun W1 (hb : Below W.heap.size W W1) => acompare_any ((hB.below hw (Nat.le_refl _)).below hb (Nat.le_refl _)) ((hA.below hw (Nat.le_refl _)).below hb (Nat.le_refl _)))
  have E5 := Lib.hid (fun W1 (hb : Below W.heap.size W W1) => acompare_any ((hA.below hw (Nat.le_refl _)).below hb (Nat.le_refl _)) ((hA.below hw (Nat.le_refl _)).below hb (Nat.le_refl _)))
  have E6 := Lib.hid (fun W1 (hb : Below W.heap.size W W1) => same_any ((hA.below hw (Nat.le_refl _)).below hb (Nat.le_refl _)) ((hB.below hw (Nat.le_refl _)).below hb (Nat.le_refl _)))
  have E7 := Lib.hid (fun W1 (hb : Below W.heap.size W W1) => eq_any ((hA.below hw (Nat.le_refl _)).below hb (Nat.le_refl _)) ((hB.below hw (Nat.le_refl _)).below hb (Nat.le_refl _)))
  rw [hBA] at E4
  rw [hAA] at E5
  rw [← hAB] at E6 E7
  obtain ⟨x, HX⟩ : ∃ x, Hid (cmpA A B = x) := ⟨_, rfl⟩
  obtain ⟨y, HY⟩ : ∃ y, Hid (cmpA B C = y) := ⟨_, rfl⟩
  obtain ⟨z, HZ⟩ : ∃ z, Hid (cmpA A C = z) := ⟨_, rfl⟩
  rw [HX.out] at E1 E4 E6 E7 bx tr
  rw [HY.out] at E2 by' tr
  rw [HZ.out] at E3 bz tr
  obtain ⟨sa, sn, sc, aa, an, ac, s, a⟩ := A
  obtain ⟨ta, tn, tc, ba, bn, bc, t, b⟩ := B
  obtain ⟨ua, un, uc, ca, cn, cc, u, c⟩ := C
  simp only [Ar.v] at *
  have HW := Lib.hid hw
  have HTR := Lib.hid tr
  have Y : Hid (∀ w2, Below W.heap.size W w2 → w2.cell? ⟨w.heap.size, 0, none⟩ = some (.slice sa sn sc) ∧ w2.cell? ⟨w.heap.size, 1, none⟩ = some (.slice aa an ac) ∧ w2.cell? ⟨w.heap.size + 1, 0, none⟩ = some (.slice ta tn tc) ∧ w2.cell? ⟨w.heap.size + 1, 1, none⟩ = some (.slice ba bn bc) ∧ w2.cell? ⟨w.heap.size + 2, 0, none⟩ = some (.slice ua un uc) ∧ w2.cell? ⟨w.heap.size + 2, 1, none⟩ = some (.slice ca cn cc)) := fun w2 hb =>
    have q0 := X0.below hb X0.lt
    have q1 := X1.below hb X1.lt
    have q2 := X2.below hb X2.lt
    ⟨q0.c0, q0.c1, q1.c0, q1.c1, q2.c0, q2.c1⟩
  clear hA hB hC hw X0 X1 X2 hAB hBA hAA HX HY HZ tr
  go_enter Try.func9, Try.ntmps9
  go_wp2_with fail
  rw [HWW.out]
  refine BG.out.mono ?_; rintro e w1 ⟨rfl, hb1⟩
  obtain ⟨r0, r1, r2, r3, r4, r5⟩ := Y.out w1 hb1
  have hd1 : Below W.heap.size W w1.drew := hb1.drew
  go_wp2_with fail
  go_region_held3 (fun w'' => w''.cell? ⟨w.heap.size, 0, none⟩ = some (.slice sa sn sc) ∧ w''.cell? ⟨w.heap.size, 1, none⟩ = some (.slice aa an ac) ∧ w''.cell? ⟨w.heap.size + 1, 0, none⟩ = some (.slice ta tn tc) ∧ w''.cell? ⟨w.heap.size + 1, 1, none⟩ = some (.slice ba bn bc) ∧ w''.cell? ⟨w.heap.size + 2, 0, none⟩ = some (.slice ua un uc) ∧ w''.cell? ⟨w.heap.size + 2, 1, none⟩ = some (.slice ca cn cc)) (go_keep)
    (first
      | (go_at_call 38; (with_reducible refine Calls.mono (E1.out _ ?_) ?_); (assumption); rintro e w2 ⟨rfl, hb2⟩; have hB2 := below_via (W := W) (by assumption) hb2; clear hb2 r0 r1 r2 r3 r4 r5; obtain ⟨r0, r1, r2, r3, r4, r5⟩ := Y.out w2 hB2)
      | (go_at_call 38; (with_reducible refine Calls.mono (E2.out _ ?_) ?_); (assumption); rintro e w2 ⟨rfl, hb2⟩; have hB2 := below_via (W := W) (by assumption) hb2; clear hb2 r0 r1 r2 r3 r4 r5; obtain ⟨r0, r1, r2, r3, r4, r5⟩ := Y.out w2 hB2)
      | (go_at_call 38; (with_reducible refine Calls.mono (E3.out _ ?_) ?_); (assumption); rintro e w2 ⟨rfl, hb2⟩; have hB2 := below_via (W := W) (by assumption) hb2; clear hb2 r0 r1 r2 r3 r4 r5; obtain ⟨r0, r1, r2, r3, r4, r5⟩ := Y.out w2 hB2)
    )
  have hB4 := Lib.hid hB2
  clear hB2 hd1 hb1 E1 E2 E3
  have hd1 : Below W.heap.size W w2.drew := hB4.out.drew
  have x1 : decide (x < -1) = false := by simpa using bx.1
  have x2 : decide (1 < x) = false := by simpa using bx.2
  have x3 : IntKind.i64.wrap (-x) = -x := IntWalk.i64_in _ (by omega)
  have bx' := Lib.hid bx
  clear bx
  go_wp2_with fail
  go_region_held3 (fun w'' => w''.cell? ⟨w.heap.size, 0, none⟩ = some (.slice sa sn sc) ∧ w''.cell? ⟨w.heap.size, 1, none⟩ = some (.slice aa an ac) ∧ w''.cell? ⟨w.heap.size + 1, 0, none⟩ = some (.slice ta tn tc) ∧ w''.cell? ⟨w.heap.size + 1, 1, none⟩ = some (.slice ba bn bc) ∧ w''.cell? ⟨w.heap.size + 2, 0, none⟩ = some (.slice ua un uc) ∧ w''.cell? ⟨w.heap.size + 2, 1, none⟩ = some (.slice ca cn cc)) (go_keep)
    (first
      | (go_at_call 38; (with_reducible refine Calls.mono (E4.out _ ?_) ?_); (assumption); rintro e w2 ⟨rfl, hb2⟩; have hB2 := below_via (W := W) (by assumption) hb2; clear hb2 r0 r1 r2 r3 r4 r5; obtain ⟨r0, r1, r2, r3, r4, r5⟩ := Y.out w2 hB2)
      | (go_at_call 38; (with_reducible refine Calls.mono (E5.out _ ?_) ?_); (assumption); rintro e w2 ⟨rfl, hb2⟩; have hB2 := below_via (W := W) (by assumption) hb2; clear hb2 r0 r1 r2 r3 r4 r5; obtain ⟨r0, r1, r2, r3, r4, r5⟩ := Y.out w2 hB2)
      | (go_at_call 36; (with_reducible refine Calls.mono (E6.out _ ?_) ?_); (assumption); rintro e w2 ⟨rfl, hb2⟩; have hB2 := below_via (W := W) (by assumption) hb2; clear hb2 r0 r1 r2 r3 r4 r5; obtain ⟨r0, r1, r2, r3, r4, r5⟩ := Y.out w2 hB2)
      | (go_at_call 37; (with_reducible refine Calls.mono (E7.out _ ?_) ?_); (assumption); rintro e w2 ⟨rfl, hb2⟩; have hB2 := below_via (W := W) (by assumption) hb2; clear hb2 r0 r1 r2 r3 r4 r5; obtain ⟨r0, r1, r2, r3, r4, r5⟩ := Y.out w2 hB2)
    )
  have hB5 := Lib.hid hB2
  clear hB2 hd1 E4 E5 E6 E7 x1 x2 x3 r0 r1 r2 r3 r4 r5 Y
  have HF : Hid (RetB w (.bool true) (.returned (.bool true)) w2) := RetB.mk rfl (HW.out.trans (hB5.out.mono HW.out.size))
  clear HWW BG HW hB4 hB5
  have bx := bx'.out
  have tr := HTR.out
  unfold Tri at tr
  rcases (show x = -1 ∨ x = 0 ∨ x = 1 by omega) with rfl | rfl | rfl <;> rcases (show y = -1 ∨ y = 0 ∨ y = 1 by omega) with rfl | rfl | rfl <;> rcases (show z = -1 ∨ z = 0 ∨ z = 1 by omega) with rfl | rfl | rfl <;> first
    | (exfalso; omega)
    | (clear tr bx by' bz bx' HTR; go_wp2; go_ret; exact HF.out)
end Go.Proofs.Ytdmlldghelpijaa
