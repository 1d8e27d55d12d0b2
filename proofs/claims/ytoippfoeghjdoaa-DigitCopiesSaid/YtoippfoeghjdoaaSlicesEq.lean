/- Contracts of slices.Equal at int and int64. -/
import Derived.Test.YtoippfoeghjdoaaMem
namespace Go.Proofs.Ytoippfoeghjdoaa
open Go.RowKit
set_option linter.unusedVariables false
set_option linter.unusedSimpArgs false

theorem list_eq_of {xs ys : List Int} {n k : Nat} (hx : xs.length = n) (hy : ys.length = n) (h : ∀ i, i < k → xs.getD i 0 = ys.getD i 0) (hk : n ≤ k) : xs = ys := by
  apply List.ext_getElem (by omega)
  intro i h1 h2
  have := h i (by omega)
  simpa [List.getD, h1, h2] using this
end Go.Proofs.Ytoippfoeghjdoaa
