/- Contracts of abacuslaw2.EqInts, shape.Place. -/
import Derived.Test.YtadblhnakdkciaaArrFill
namespace Go.Proofs.Ytadblhnakdkciaa
open Go.RowKit Go.Lib
set_option linter.unusedVariables false
set_option linter.unusedSimpArgs false
attribute [local go_sem] alloc_drewN setCell_drewN

/-- The number of the place with the first k indices. -/
def plN (s a : List Int) : Nat → Int
  | 0 => 0
  | k + 1 => plN s a k * s.getD k 0 + a.getD k 0
/-- The first k indices lie in the shape. -/
def inR (s a : List Int) (k : Nat) : Prop := ∀ i, i < k → 0 ≤ a.getD i 0 ∧ a.getD i 0 < s.getD i 0
instance (s a : List Int) (k : Nat) : Decidable (inR s a k) := by unfold inR; infer_instance
theorem plN_bd {s a : List Int} (hs : ∀ i, 0 ≤ s.getD i 0) {k : Nat} (hk : k ≤ s.length) (h : inR s a k) : 0 ≤ plN s a k ∧ plN s a k < pr (s.take k) := by
  induction k with
  | zero => simp [plN, pr]
  | succ k ih =>
    obtain ⟨h1, h2⟩ := ih (by omega) (fun i hi => h i (by omega))
    obtain ⟨h3, h4⟩ := h k (by omega)
    rw [pr_snoc (by omega)]
    simp only [plN]
    have h5 : 0 ≤ plN s a k * s.getD k 0 := Int.mul_nonneg h1 (hs k)
    have h6 : (plN s a k + 1) * s.getD k 0 ≤ pr (s.take k) * s.getD k 0 := Int.mul_le_mul_of_nonneg_right (by omega) (hs k)
    rw [Int.add_mul, Int.one_mul] at h6
    omega
def plV (s a : List Int) : Int := if mayE s = 0 ∧ a.length = s.length ∧ inR s a s.length then plN s a s.length else 0
def plE (s a : List Int) : Int := if mayE s = 0 then if a.length = s.length then if inR s a s.length then 0 else 13 else 12 else mayE s
end Go.Proofs.Ytadblhnakdkciaa
