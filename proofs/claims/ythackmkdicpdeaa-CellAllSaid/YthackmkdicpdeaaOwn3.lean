/- Contracts of abacuslaw3: Own (an array in memory of its own). -/
import Derived.Test.YthackmkdicpdeaaMerge
import Derived.Test.YthackmkdicpdeaaHeap
namespace Go.Proofs.Ythackmkdicpdeaa
open Go.RowKit Go.Lib
set_option linter.unusedVariables false
set_option linter.unusedSimpArgs false
attribute [local go_sem] alloc_drewN setCell_drewN
theorem grown_below {w w' : World} (h : w.grownBy w' none) : Below w.heap.size w w' := ⟨h.os, h.tape, h.output, h.size, fun k hk => h.block k hk (by simp)⟩
theorem madeE_A {w w' : World} {s a : List Int} {u : Value} {err : Int} (h : MadeE w s a err (.returned (.tuple #[u, .int .i64 err])) w') : MadeA w s a (.returned u) w' := by
  obtain ⟨B, e, h⟩ := h
  simp only [Ending.returned.injEq, Value.tuple.injEq, Array.mk.injEq, List.cons.injEq] at e
  exact ⟨B, by rw [e.1], h⟩
set_option maxRecDepth 100000 in
set_option maxHeartbeats 1600000 in
theorem copy4_any {w : World} {A : Ar} (hA : A.Is w) : Calls Try.prog 56 #[A.v] w (MadeA w A.s A.a) := by
  obtain ⟨sa, sn, sc, aa, an, ac, s, a⟩ := A
  simp only [Ar.v]
  obtain ⟨W, HW⟩ : ∃ z, Hid ((w.alloc (.cells #[.slice sa sn sc, .slice aa an ac] 45)).alloc (.cells #[.slice none 0 0, .slice none 0 0] 45) = z) := ⟨_, rfl⟩
  have hw : Below w.heap.size w W := by rw [← HW.out]; exact below_box2 _ _ _ _ _
  have hsz : W.heap.size = w.heap.size + 2 := by rw [← HW.out]; simp
  have B0 : BoxA W w.heap.size (.slice sa sn sc) (.slice aa an ac) := by
    rw [← HW.out]; exact ⟨by simp [go_sem], by simp [go_sem], by simp [go_sem], by simp [go_sem], by simp; omega⟩
  have B1 : BoxA W (w.heap.size + 1) (.slice none 0 0) (.slice none 0 0) := by
    rw [← HW.out]; exact ⟨by simp [go_sem], by simp [go_sem], by simp [go_sem], by simp [go_sem], by simp⟩
  have HI := Lib.hid (hA.below hw (Nat.le_refl _))
  have HWB := Lib.hid hw
  have SZ := Lib.hid hsz
  have HB0 := Lib.hid B0
  have HB1 := Lib.hid B1
  obtain ⟨y0, y1, -, -, -⟩ := B0
  obtain ⟨x0, x1, x2, x3, -⟩ := B1
  have KC : Hid (∀ wx, Below W.heap.size W wx → wx.cell? ⟨w.heap.size, 0, none⟩ = some (.slice sa sn sc) ∧ wx.cell? ⟨w.heap.size, 1, none⟩ = some (.slice aa an ac)) := fun wx hb =>
    have q := HB0.out.below hb HB0.out.lt
    ⟨q.c0, q.c1⟩
  obtain ⟨i0, hi0, hz0, hz1, hz2⟩ := info_parts (P := Try.prog) (e := 3) (z := .int .i64 0) (size := 1) (bytes := 8) (by kernel_rfl)
  obtain ⟨i1, hi1, hy0, hy1, hy2⟩ := info_parts (P := Try.prog) (e := 2) (z := .int .i64 0) (size := 1) (bytes := 8) (by kernel_rfl)
  have hbs : sn * 8 ≤ 140737488355328 := by have := HI.out.shp.big; simp only at this; omega
  have hba : an * 8 ≤ 140737488355328 := by have := HI.out.ats.big; simp only at this; omega
  have HLS : Hid (Ls W.drew sa sn sc s) := HI.out.shp.drew 1
  clear hA hw hsz
  go_enter Try.func56, Try.ntmps56
  go_upto_region 1 with fail
  rw [HW.out]
  go_region_held3 (fun wx => wx.cell? ⟨w.heap.size, 0, none⟩ = some (.slice sa sn sc) ∧ wx.cell? ⟨w.heap.size, 1, none⟩ = some (.slice aa an ac)) (first | (with_reducible exact KC.out _ hC1) | (with_reducible exact KC.out _ hC2) | go_keep)
    (first
    | ((refine step_append_loc0 _ (by rfl) _ _ 25 (by rfl) W.heap.size 3 i0 Try.underlying25 hi0 hz0 hz1 hz2 _ (by rfl) (World.ownsRow_nil _ _ _ _) (by rfl) HLS.out hbs (Nat.le_refl _) ?_); intro b1 d1 w3 ho1 hg1 hl1 hn1; have hC1 := abvia (adrew1 W) (grown_below hg1))
    | ((refine step_append_loc0 _ (by rfl) _ _ 28 (by rfl) w3.heap.size 2 i1 Try.underlying28 hi1 hy0 hy1 hy2 _ (by rfl) (World.ownsRow_nil _ _ _ _) (by rfl) (HI.out.ats.below hC1 (Nat.le_refl _)) hba (Nat.le_refl _) ?_); intro b2 d2 w4 ho2 hg2 hl2 hn2; have hC2 := abvia hC1 (grown_below hg2); obtain ⟨q0, q1, q2, q3, -⟩ := HB1.out.below hC2 HB1.out.lt))
  have HE : Hid (∀ u v, MadeA w s a (.returned (.agg #[.slice b1 sn d1, .slice b2 an d2])) ((w4.setCell ⟨w.heap.size + 1, 0, none⟩ u).setCell ⟨w.heap.size + 1, 1, none⟩ v)) := fun u v =>
    madeE_A (err := 0) (made_end HWB.out (by have := SZ.out; omega) hC1 ho1 (grown_below hg2) ho2 (ls_of_own ho1 HI.out.shp.big HI.out.shp.rng) (ls_of_own ho2 HI.out.ats.big HI.out.ats.rng) 0 u v rfl rfl rfl)
  clear hC1 hC2 ho1 hg1 hl1 hn1 ho2 hg2 hl2 hn2 y0 y1 x0 x1 x2 x3
  go_wp2
  exact bodyPost_ret (v := .agg #[.slice b1 sn d1, .slice b2 an d2]) (by simp [results, Try.results56, go_sem, *]) rfl (HE.out _ _)
end Go.Proofs.Ythackmkdicpdeaa
