/- Contracts of arr.Item (all cases), arr.Scalar, arr.List. -/
import Derived.Test.YtfmabpdkjhlihaaArrItem
namespace Go.Proofs.Ytfmabpdkjhlihaa
open Go.RowKit Go.Lib
set_option linter.unusedVariables false
set_option linter.unusedSimpArgs false
attribute [local go_sem] alloc_drewN setCell_drewN

/-- The place of an item, counted from the front. -/
def itJ (i n : Int) : Nat := (if i < 0 then i + n else i).toNat
theorem made_mk {w w' : World} {ao1 ao2 : Option Addr} {n1 c1 n2 c2 : Nat} {s a : List Int} (err : Int) (hB : Below w.heap.size w w')
    (O1 : w'.ownsRow w.heap.size 3 1 (.slice ao1 n1 c1) n1 (s.map (Value.int .i64))) (O2 : w'.ownsRow w.heap.size 2 1 (.slice ao2 n2 c2) n2 (a.map (Value.int .i64)))
    (h2 : ∀ g, (Value.slice ao1 n1 c1).ownBlock = some g → (Value.slice ao2 n2 c2).ownBlock ≠ some g)
    (b1 : n1 * 8 ≤ 140737488351232) (b2 : n2 * 8 ≤ 140737488351232) (r1 : ∀ i, -9223372036854775808 ≤ s.getD i 0 ∧ s.getD i 0 ≤ 9223372036854775807) (r2 : ∀ i, -9223372036854775808 ≤ a.getD i 0 ∧ a.getD i 0 ≤ 9223372036854775807) :
    MadeE w s a err (.returned (.tuple #[.agg #[.slice ao1 n1 c1, .slice ao2 n2 c2], .int .i64 err])) w' :=
  ⟨⟨ao1, n1, c1, ao2, n2, c2, s, a⟩, rfl, ⟨ls_of_own O1 b1 r1, ls_of_own O2 b2 r2⟩, rfl, rfl, ⟨O1, O2, h2⟩, hB⟩
theorem rng_one {n : Int} (h : -9223372036854775808 ≤ n ∧ n ≤ 9223372036854775807) : ∀ i, -9223372036854775808 ≤ [n].getD i 0 ∧ [n].getD i 0 ≤ 9223372036854775807 := by
  intro i; cases i with
  | zero => exact h
  | succ k => simp [List.getD]
/-- The call hands back an array of its own. -/
def MadeA (w : World) (s a : List Int) (e : Ending) (w' : World) : Prop :=
  ∃ B : Ar, e = .returned B.v ∧ B.Is w' ∧ B.s = s ∧ B.a = a ∧ B.Own w' w.heap.size ∧ Below w.heap.size w w'
end Go.Proofs.Ytfmabpdkjhlihaa
