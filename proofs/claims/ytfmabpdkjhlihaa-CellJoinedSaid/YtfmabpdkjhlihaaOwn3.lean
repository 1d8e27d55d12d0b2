/- Contracts of abacuslaw3: Own (an array in memory of its own). -/
import Derived.Test.YtfmabpdkjhlihaaRnd
import Derived.Test.YtfmabpdkjhlihaaArrMake
import Derived.Test.YtfmabpdkjhlihaaAppendAt
namespace Go.Proofs.Ytfmabpdkjhlihaa
open Go.RowKit Go.Lib
set_option linter.unusedVariables false
set_option linter.unusedSimpArgs false
attribute [local go_sem] alloc_drewN setCell_drewN
theorem grown_below {w w' : World} (h : w.grownBy w' none) : Below w.heap.size w w' := ⟨h.os, h.tape, h.output, h.size, fun k hk => h.block k hk (by simp)⟩
theorem madeE_A {w w' : World} {s a : List Int} {u : Value} {err : Int} (h : MadeE w s a err (.returned (.tuple #[u, .int .i64 err])) w') : MadeA w s a (.returned u) w' := by
  obtain ⟨B, e, h⟩ := h
  simp only [Ending.returned.injEq, Value.tuple.injEq, Array.mk.injEq, List.cons.injEq] at e
  exact ⟨B, by rw [e.1], h⟩
end Go.Proofs.Ytfmabpdkjhlihaa
