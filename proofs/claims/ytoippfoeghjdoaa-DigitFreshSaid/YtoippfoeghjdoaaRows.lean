/-
  No cell of these rows narrows 'for every input' (looked for: loops, veiled, ifaces, maps, wideKeys, modest, calm, conditions, laid).
  DERIVED. THE GIVEN ROWS OF THIS SEAT. 6 by the template 'for every input the law returns true; each argument reads behind the call as it read before'; 0 by the template 'total and deterministic' (their statements: YtoippfoeghjdoaaTotals.lean).
  GIVEN WITH THE SEED: the statements are not yours to turn. If you find one false, say at which input.
  Laid BY PROGRAM, IN A SANDBOX (cutbox-rows.mjs): the forced cells as the released guide's own fill.sh prints them over the translation 032e060421d6b195… (all of the seat's roots in one cut). By AI agents, Wed Nov 11 2026. No macro, syntax, notation, axiom, sorry.
-/
import Derived.Test.YtoippfoeghjdoaaChecked
import GoSem.Claim
import GoSem.ClaimJoined
import GoSem.ClaimMapViews
import Derived.JoinedTies
import Derived.KernelRfl
namespace Go.Proofs.Ytoippfoeghjdoaa
/- THE CELL 'sum', in the pinned program and in every row, IS THE sha256 OF THE DUMP (.gsa) THAT YtoippfoeghjdoaaProg.lean LOADS. Nothing in Lean hashes anything: it is a label: what it is worth is what the hold of that sum in a sandbox is worth. -/
noncomputable def Try.pinned : Pinned := { name := "ytoippfoeghjdoaa", sum := "032e060421d6b1957c57cdd8c9f4b7f16a3fb669893524b5a1a14cb286f2a5f2", checked := Try.checked }
namespace Rows
def none {H : Type} : Left H := { results := [], args := [] }

/-- 'abacuslaw8.DigitAll': WHATEVER THE INPUT: true; the input reads as it did. -/
def digitAllSpec : ChangeSpec := { name := "digitAll", fn := fun _ => fun
  | [d] => { results := [.lit (.bool true)], args := [d] }
  | _ => none }
def digitAllRow : OpenClaim := { program := "ytoippfoeghjdoaa", sum := "032e060421d6b1957c57cdd8c9f4b7f16a3fb669893524b5a1a14cb286f2a5f2", func := "abacus/abacuslaw8.DigitAll", spec := "digitAll", unfollowed := true, recurses := true, named := ["math/bits.divideError", "math/bits.overflowError"], apart := false }
def DigitAllSaid : Prop := digitAllRow.holds Try.pinned (OpenSpec.ofChange digitAllSpec)

/-- ITS FALSE NEIGHBOUR: 'it returns false'. Refute it at one input. -/
def digitAllWrong : ChangeSpec := { name := "digitAll", fn := fun _ => fun
  | [d] => { results := [.lit (.bool false)], args := [d] }
  | _ => none }
def DigitAllWrongFalsely : Prop := digitAllRow.holds Try.pinned (OpenSpec.ofChange digitAllWrong)

/-- 'abacuslaw8.DigitFresh': WHATEVER THE INPUT: true; the input reads as it did. -/
def digitFreshSpec : ChangeSpec := { name := "digitFresh", fn := fun _ => fun
  | [d] => { results := [.lit (.bool true)], args := [d] }
  | _ => none }
def digitFreshRow : OpenClaim := { program := "ytoippfoeghjdoaa", sum := "032e060421d6b1957c57cdd8c9f4b7f16a3fb669893524b5a1a14cb286f2a5f2", func := "abacus/abacuslaw8.DigitFresh", spec := "digitFresh", unfollowed := true, recurses := true, named := ["math/bits.divideError", "math/bits.overflowError"], apart := false }
def DigitFreshSaid : Prop := digitFreshRow.holds Try.pinned (OpenSpec.ofChange digitFreshSpec)

/-- ITS FALSE NEIGHBOUR: 'it returns false'. Refute it at one input. -/
def digitFreshWrong : ChangeSpec := { name := "digitFresh", fn := fun _ => fun
  | [d] => { results := [.lit (.bool false)], args := [d] }
  | _ => none }
def DigitFreshWrongFalsely : Prop := digitFreshRow.holds Try.pinned (OpenSpec.ofChange digitFreshWrong)

/-- 'abacuslaw8.DigitCounts': WHATEVER THE INPUT: true; the input reads as it did. -/
def digitCountsSpec : ChangeSpec := { name := "digitCounts", fn := fun _ => fun
  | [d1, d2] => { results := [.lit (.bool true)], args := [d1, d2] }
  | _ => none }
def digitCountsRow : OpenClaim := { program := "ytoippfoeghjdoaa", sum := "032e060421d6b1957c57cdd8c9f4b7f16a3fb669893524b5a1a14cb286f2a5f2", func := "abacus/abacuslaw8.DigitCounts", spec := "digitCounts", unfollowed := true, recurses := true, named := ["math/bits.divideError", "math/bits.overflowError"], apart := false }
def DigitCountsSaid : Prop := digitCountsRow.holds Try.pinned (OpenSpec.ofChange digitCountsSpec)

/-- ITS FALSE NEIGHBOUR: 'it returns false'. Refute it at one input. -/
def digitCountsWrong : ChangeSpec := { name := "digitCounts", fn := fun _ => fun
  | [d1, d2] => { results := [.lit (.bool false)], args := [d1, d2] }
  | _ => none }
def DigitCountsWrongFalsely : Prop := digitCountsRow.holds Try.pinned (OpenSpec.ofChange digitCountsWrong)

/-- 'abacuslaw8.DigitCopies': WHATEVER THE INPUT: true; the input reads as it did. -/
def digitCopiesSpec : ChangeSpec := { name := "digitCopies", fn := fun _ => fun
  | [d1, d2] => { results := [.lit (.bool true)], args := [d1, d2] }
  | _ => none }
def digitCopiesRow : OpenClaim := { program := "ytoippfoeghjdoaa", sum := "032e060421d6b1957c57cdd8c9f4b7f16a3fb669893524b5a1a14cb286f2a5f2", func := "abacus/abacuslaw8.DigitCopies", spec := "digitCopies", unfollowed := true, recurses := true, named := ["math/bits.divideError", "math/bits.overflowError"], apart := false }
def DigitCopiesSaid : Prop := digitCopiesRow.holds Try.pinned (OpenSpec.ofChange digitCopiesSpec)

/-- ITS FALSE NEIGHBOUR: 'it returns false'. Refute it at one input. -/
def digitCopiesWrong : ChangeSpec := { name := "digitCopies", fn := fun _ => fun
  | [d1, d2] => { results := [.lit (.bool false)], args := [d1, d2] }
  | _ => none }
def DigitCopiesWrongFalsely : Prop := digitCopiesRow.holds Try.pinned (OpenSpec.ofChange digitCopiesWrong)

/-- 'abacuslaw8.DigitBases': WHATEVER THE INPUT: true; the input reads as it did. -/
def digitBasesSpec : ChangeSpec := { name := "digitBases", fn := fun _ => fun
  | [d1, d2] => { results := [.lit (.bool true)], args := [d1, d2] }
  | _ => none }
def digitBasesRow : OpenClaim := { program := "ytoippfoeghjdoaa", sum := "032e060421d6b1957c57cdd8c9f4b7f16a3fb669893524b5a1a14cb286f2a5f2", func := "abacus/abacuslaw8.DigitBases", spec := "digitBases", unfollowed := true, recurses := true, named := ["math/bits.divideError", "math/bits.overflowError"], apart := false }
def DigitBasesSaid : Prop := digitBasesRow.holds Try.pinned (OpenSpec.ofChange digitBasesSpec)

/-- ITS FALSE NEIGHBOUR: 'it returns false'. Refute it at one input. -/
def digitBasesWrong : ChangeSpec := { name := "digitBases", fn := fun _ => fun
  | [d1, d2] => { results := [.lit (.bool false)], args := [d1, d2] }
  | _ => none }
def DigitBasesWrongFalsely : Prop := digitBasesRow.holds Try.pinned (OpenSpec.ofChange digitBasesWrong)

/-- 'abacuslaw8.DigitBinary': WHATEVER THE INPUT: true; the input reads as it did. -/
def digitBinarySpec : ChangeSpec := { name := "digitBinary", fn := fun _ => fun
  | [d] => { results := [.lit (.bool true)], args := [d] }
  | _ => none }
def digitBinaryRow : OpenClaim := { program := "ytoippfoeghjdoaa", sum := "032e060421d6b1957c57cdd8c9f4b7f16a3fb669893524b5a1a14cb286f2a5f2", func := "abacus/abacuslaw8.DigitBinary", spec := "digitBinary", unfollowed := true, recurses := true, named := ["math/bits.divideError", "math/bits.overflowError"], apart := false }
def DigitBinarySaid : Prop := digitBinaryRow.holds Try.pinned (OpenSpec.ofChange digitBinarySpec)

/-- ITS FALSE NEIGHBOUR: 'it returns false'. Refute it at one input. -/
def digitBinaryWrong : ChangeSpec := { name := "digitBinary", fn := fun _ => fun
  | [d] => { results := [.lit (.bool false)], args := [d] }
  | _ => none }
def DigitBinaryWrongFalsely : Prop := digitBinaryRow.holds Try.pinned (OpenSpec.ofChange digitBinaryWrong)

/- THE SECOND FORM. 'bulk': how many values and letters a reading holds, each counted each time it is reached (what is shared counts as often as it is met; a slice's spare places count too). A statement '..UptoSaid' is the law's where the arguments, and the package variables that the reading takes, are together of bulk at most 1048576: NARROWER than '..Said'. Prove '..Said' where nothing that the law and all that it calls make is longer than what came in: it says more and counts as full. Else prove '..UptoSaid'. A law counts once. -/
mutual
def uptoBulk {H : Type} : DataW H → Nat
  | .lit (.string bytes) => bytes.length + 1
  | .lit _ => 1
  | .nil => 1
  | .ptr d => uptoBulk d + 1
  | .slice elems spare => uptoBulkAll elems + uptoBulkAll spare + 1
  | .agg parts => uptoBulkAll parts + 1
  | .iface _ d => uptoBulk d + 1
  | .map entries => uptoBulkEntries entries + 1
  | .held _ => 1
def uptoBulkAll {H : Type} : List (DataW H) → Nat
  | [] => 0
  | d :: r => uptoBulk d + uptoBulkAll r
def uptoBulkEntries {H : Type} : List (Lit × DataW H) → Nat
  | [] => 0
  | x :: r => uptoBulkEntry x + uptoBulkEntries r
def uptoBulkEntry {H : Type} : Lit × DataW H → Nat
  | (.string bytes, d) => bytes.length + uptoBulk d + 1
  | (_, d) => uptoBulk d + 1
 end
def uptoSmall : (H : Type) → List (DataW H) → Bool := fun _ ds => decide (uptoBulkAll ds ≤ 1048576)
def OpenSpec.upto (s : _root_.Go.ChangeSpec) : _root_.Go.OpenSpec := { _root_.Go.OpenSpec.ofChange s with cond := some uptoSmall }

/-- 'abacuslaw8.DigitAll', WHERE WHAT IT READS IS OF BULK AT MOST 1048576: true; the input reads as it did. -/
def digitAllUptoRow : OpenClaim := { program := "ytoippfoeghjdoaa", sum := "032e060421d6b1957c57cdd8c9f4b7f16a3fb669893524b5a1a14cb286f2a5f2", func := "abacus/abacuslaw8.DigitAll", spec := "digitAll", unfollowed := true, recurses := true, named := ["math/bits.divideError", "math/bits.overflowError"], apart := false, narrowed := true }
def DigitAllUptoSaid : Prop := digitAllUptoRow.holds Try.pinned (OpenSpec.upto digitAllSpec)

/-- 'abacuslaw8.DigitFresh', WHERE WHAT IT READS IS OF BULK AT MOST 1048576: true; the input reads as it did. -/
def digitFreshUptoRow : OpenClaim := { program := "ytoippfoeghjdoaa", sum := "032e060421d6b1957c57cdd8c9f4b7f16a3fb669893524b5a1a14cb286f2a5f2", func := "abacus/abacuslaw8.DigitFresh", spec := "digitFresh", unfollowed := true, recurses := true, named := ["math/bits.divideError", "math/bits.overflowError"], apart := false, narrowed := true }
def DigitFreshUptoSaid : Prop := digitFreshUptoRow.holds Try.pinned (OpenSpec.upto digitFreshSpec)

/-- 'abacuslaw8.DigitCounts', WHERE WHAT IT READS IS OF BULK AT MOST 1048576: true; the input reads as it did. -/
def digitCountsUptoRow : OpenClaim := { program := "ytoippfoeghjdoaa", sum := "032e060421d6b1957c57cdd8c9f4b7f16a3fb669893524b5a1a14cb286f2a5f2", func := "abacus/abacuslaw8.DigitCounts", spec := "digitCounts", unfollowed := true, recurses := true, named := ["math/bits.divideError", "math/bits.overflowError"], apart := false, narrowed := true }
def DigitCountsUptoSaid : Prop := digitCountsUptoRow.holds Try.pinned (OpenSpec.upto digitCountsSpec)

/-- 'abacuslaw8.DigitCopies', WHERE WHAT IT READS IS OF BULK AT MOST 1048576: true; the input reads as it did. -/
def digitCopiesUptoRow : OpenClaim := { program := "ytoippfoeghjdoaa", sum := "032e060421d6b1957c57cdd8c9f4b7f16a3fb669893524b5a1a14cb286f2a5f2", func := "abacus/abacuslaw8.DigitCopies", spec := "digitCopies", unfollowed := true, recurses := true, named := ["math/bits.divideError", "math/bits.overflowError"], apart := false, narrowed := true }
def DigitCopiesUptoSaid : Prop := digitCopiesUptoRow.holds Try.pinned (OpenSpec.upto digitCopiesSpec)

/-- 'abacuslaw8.DigitBases', WHERE WHAT IT READS IS OF BULK AT MOST 1048576: true; the input reads as it did. -/
def digitBasesUptoRow : OpenClaim := { program := "ytoippfoeghjdoaa", sum := "032e060421d6b1957c57cdd8c9f4b7f16a3fb669893524b5a1a14cb286f2a5f2", func := "abacus/abacuslaw8.DigitBases", spec := "digitBases", unfollowed := true, recurses := true, named := ["math/bits.divideError", "math/bits.overflowError"], apart := false, narrowed := true }
def DigitBasesUptoSaid : Prop := digitBasesUptoRow.holds Try.pinned (OpenSpec.upto digitBasesSpec)

/-- 'abacuslaw8.DigitBinary', WHERE WHAT IT READS IS OF BULK AT MOST 1048576: true; the input reads as it did. -/
def digitBinaryUptoRow : OpenClaim := { program := "ytoippfoeghjdoaa", sum := "032e060421d6b1957c57cdd8c9f4b7f16a3fb669893524b5a1a14cb286f2a5f2", func := "abacus/abacuslaw8.DigitBinary", spec := "digitBinary", unfollowed := true, recurses := true, named := ["math/bits.divideError", "math/bits.overflowError"], apart := false, narrowed := true }
def DigitBinaryUptoSaid : Prop := digitBinaryUptoRow.holds Try.pinned (OpenSpec.upto digitBinarySpec)

end Rows
end Go.Proofs.Ytoippfoeghjdoaa
