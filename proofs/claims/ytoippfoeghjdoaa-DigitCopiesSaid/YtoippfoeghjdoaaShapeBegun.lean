/- What every statement of layer 2 asks ahead: begun. -/
import Derived.Test.YtoippfoeghjdoaaShapeWalks
import Derived.Test.YtoippfoeghjdoaaArrBegun
namespace Go.Proofs.Ytoippfoeghjdoaa
open Go.RowKit Go.Lib
set_option linter.unusedVariables false
set_option linter.unusedSimpArgs false
attribute [local go_sem] alloc_drewN setCell_drewN

theorem lit_row (w : World) (zs : List Int) (h : (zs.length < 1000 && zs.all fun x => decide (-1000 ≤ x) && decide (x ≤ 1000)) = true) :
    Ls (w.alloc (.cells (zs.map (Value.int .i64)).toArray 3)) (some ⟨w.heap.size, 0, none⟩) zs.length zs.length zs := by
  simp only [Bool.and_eq_true, decide_eq_true_eq, List.all_eq_true] at h
  refine ls_alloc w zs _ (by omega) (fun i => ?_)
  by_cases hi : i < zs.length
  · have := h.2 _ (List.getElem_mem hi)
    simp only [List.getD, List.getElem?_eq_getElem hi, Option.getD_some]
    omega
  · simp [List.getD, List.getElem?_eq_none (show zs.length ≤ i by omega)]
theorem bal (w : World) (o : Obj) : Below w.heap.size w (w.alloc o) := (Below.refl _ _).alloc (Nat.le_refl _) _
theorem bvia {w W1 W2 : World} (h : Below w.heap.size w W1) (h2 : Below W1.heap.size W1 W2) : Below w.heap.size w W2 := h.trans (h2.mono h.size)
theorem lss_two {w : World} {b1 b2 o1 o2 : Nat} {n1 c1 n2 c2 : Nat} {s t : List Int} (h1 : Ls w (some ⟨b1, o1, none⟩) n1 c1 s) (h2 : Ls w (some ⟨b2, o2, none⟩) n2 c2 t) :
    Lss (w.alloc (.cells #[.slice (some ⟨b1, o1, none⟩) n1 c1, .slice (some ⟨b2, o2, none⟩) n2 c2] 25)) (some ⟨w.heap.size, 0, none⟩) 2 2 [s, t] := by
  refine ⟨rfl, Nat.le_refl _, by omega, by unfold maxLen; omega, fun _ => ⟨w.heap.size, 0, rfl, by simp, fun i hi => ?_⟩⟩
  match i, hi with
  | 0, _ => exact ⟨_, _, _, by rw [World.cell?_alloc_at _ _ _ _ rfl]; rfl, h1.below (bal _ _) (Nat.le_refl _)⟩
  | 1, _ => exact ⟨_, _, _, by rw [World.cell?_alloc_at _ _ _ _ rfl]; rfl, h2.below (bal _ _) (Nat.le_refl _)⟩
end Go.Proofs.Ytoippfoeghjdoaa
