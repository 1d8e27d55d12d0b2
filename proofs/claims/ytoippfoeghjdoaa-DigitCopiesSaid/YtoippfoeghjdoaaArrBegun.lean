/- What every statement of the layer asks ahead: begun. -/
import Derived.Test.YtoippfoeghjdoaaArrMake
namespace Go.Proofs.Ytoippfoeghjdoaa
open Go.RowKit Go.Lib
set_option linter.unusedVariables false
set_option linter.unusedSimpArgs false
attribute [local go_sem] alloc_drewN setCell_drewN

/-- A new block of integers reads as the list. -/
theorem ls_alloc (w : World) (zs : List Int) (T : TypeId) (h : zs.length ≤ 100000) (hr : ∀ i, -9223372036854775808 ≤ zs.getD i 0 ∧ zs.getD i 0 ≤ 9223372036854775807) :
    Ls (w.alloc (.cells (zs.map (Value.int .i64)).toArray T)) (some ⟨w.heap.size, 0, none⟩) zs.length zs.length zs := by
  refine ⟨rfl, Nat.le_refl _, by omega, by unfold maxLen; omega, fun h0 => ⟨w.heap.size, 0, rfl, by simp, fun i hi => ?_⟩, hr⟩
  rw [World.cell?_alloc_at _ _ _ _ rfl, Nat.zero_add]
  show (zs.map (Value.int .i64)).toArray[i]? = _
  rw [List.getElem?_toArray]
  exact getD_map_int zs i hi
end Go.Proofs.Ytoippfoeghjdoaa
