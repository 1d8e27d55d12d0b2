/-
  No cell of these rows narrows 'for every input' (looked for: loops, veiled, ifaces, maps, wideKeys, modest, calm, conditions, laid).
  DERIVED. THE GIVEN ROWS OF THIS SEAT. 8 by the template 'for every input the law returns true; each argument reads behind the call as it read before'; 0 by the template 'total and deterministic' (their statements: YtkgakpofophhjaaTotals.lean).
  GIVEN WITH THE SEED: the statements are not yours to turn. If you find one false, say at which input.
  Laid BY PROGRAM, IN A SANDBOX (cutbox-rows.mjs): the forced cells as the released guide's own fill.sh prints them over the translation a4bb8bcf6e42029a… (all of the seat's roots in one cut). By AI agents, Wed Nov 11 2026. No macro, syntax, notation, axiom, sorry.
-/
import Derived.Test.YtkgakpofophhjaaChecked
import GoSem.Claim
import GoSem.ClaimJoined
import GoSem.ClaimMapViews
import Derived.JoinedTies
import Derived.KernelRfl
namespace Go.Proofs.Ytkgakpofophhjaa
/- THE CELL 'sum', in the pinned program and in every row, IS THE sha256 OF THE DUMP (.gsa) THAT YtkgakpofophhjaaProg.lean LOADS. Nothing in Lean hashes anything: it is a label: what it is worth is what the hold of that sum in a sandbox is worth. -/
noncomputable def Try.pinned : Pinned := { name := "ytkgakpofophhjaa", sum := "a4bb8bcf6e42029a49d3a4b123329cf028b22cc925099a7f94ca87e26ff97c36", checked := Try.checked }
namespace Rows
def none {H : Type} : Left H := { results := [], args := [] }

/-- 'abacuslaw1.NumAll': WHATEVER THE INPUT: true; the input reads as it did. -/
def numAllSpec : ChangeSpec := { name := "numAll", fn := fun _ => fun
  | [d] => { results := [.lit (.bool true)], args := [d] }
  | _ => none }
def numAllRow : OpenClaim := { program := "ytkgakpofophhjaa", sum := "a4bb8bcf6e42029a49d3a4b123329cf028b22cc925099a7f94ca87e26ff97c36", func := "abacus/abacuslaw1.NumAll", spec := "numAll", named := ["math/bits.divideError", "math/bits.overflowError"], apart := false }
def NumAllSaid : Prop := numAllRow.holds Try.pinned (OpenSpec.ofChange numAllSpec)

/-- ITS FALSE NEIGHBOUR: 'it returns false'. Refute it at one input. -/
def numAllWrong : ChangeSpec := { name := "numAll", fn := fun _ => fun
  | [d] => { results := [.lit (.bool false)], args := [d] }
  | _ => none }
def NumAllWrongFalsely : Prop := numAllRow.holds Try.pinned (OpenSpec.ofChange numAllWrong)

/-- 'abacuslaw1.NumSmall': WHATEVER THE INPUT: true; the input reads as it did. -/
def numSmallSpec : ChangeSpec := { name := "numSmall", fn := fun _ => fun
  | [d1, d2] => { results := [.lit (.bool true)], args := [d1, d2] }
  | _ => none }
def numSmallRow : OpenClaim := { program := "ytkgakpofophhjaa", sum := "a4bb8bcf6e42029a49d3a4b123329cf028b22cc925099a7f94ca87e26ff97c36", func := "abacus/abacuslaw1.NumSmall", spec := "numSmall", named := ["math/bits.divideError", "math/bits.overflowError"], apart := false }
def NumSmallSaid : Prop := numSmallRow.holds Try.pinned (OpenSpec.ofChange numSmallSpec)

/-- ITS FALSE NEIGHBOUR: 'it returns false'. Refute it at one input. -/
def numSmallWrong : ChangeSpec := { name := "numSmall", fn := fun _ => fun
  | [d1, d2] => { results := [.lit (.bool false)], args := [d1, d2] }
  | _ => none }
def NumSmallWrongFalsely : Prop := numSmallRow.holds Try.pinned (OpenSpec.ofChange numSmallWrong)

/-- 'abacuslaw1.NumDivides': WHATEVER THE INPUT: true; the input reads as it did. -/
def numDividesSpec : ChangeSpec := { name := "numDivides", fn := fun _ => fun
  | [d1, d2] => { results := [.lit (.bool true)], args := [d1, d2] }
  | _ => none }
def numDividesRow : OpenClaim := { program := "ytkgakpofophhjaa", sum := "a4bb8bcf6e42029a49d3a4b123329cf028b22cc925099a7f94ca87e26ff97c36", func := "abacus/abacuslaw1.NumDivides", spec := "numDivides", named := ["math/bits.divideError", "math/bits.overflowError"], apart := false }
def NumDividesSaid : Prop := numDividesRow.holds Try.pinned (OpenSpec.ofChange numDividesSpec)

/-- ITS FALSE NEIGHBOUR: 'it returns false'. Refute it at one input. -/
def numDividesWrong : ChangeSpec := { name := "numDivides", fn := fun _ => fun
  | [d1, d2] => { results := [.lit (.bool false)], args := [d1, d2] }
  | _ => none }
def NumDividesWrongFalsely : Prop := numDividesRow.holds Try.pinned (OpenSpec.ofChange numDividesWrong)

/-- 'abacuslaw1.NumCommon': WHATEVER THE INPUT: true; the input reads as it did. -/
def numCommonSpec : ChangeSpec := { name := "numCommon", fn := fun _ => fun
  | [d1, d2, d3] => { results := [.lit (.bool true)], args := [d1, d2, d3] }
  | _ => none }
def numCommonRow : OpenClaim := { program := "ytkgakpofophhjaa", sum := "a4bb8bcf6e42029a49d3a4b123329cf028b22cc925099a7f94ca87e26ff97c36", func := "abacus/abacuslaw1.NumCommon", spec := "numCommon", named := ["math/bits.divideError", "math/bits.overflowError"], apart := false }
def NumCommonSaid : Prop := numCommonRow.holds Try.pinned (OpenSpec.ofChange numCommonSpec)

/-- ITS FALSE NEIGHBOUR: 'it returns false'. Refute it at one input. -/
def numCommonWrong : ChangeSpec := { name := "numCommon", fn := fun _ => fun
  | [d1, d2, d3] => { results := [.lit (.bool false)], args := [d1, d2, d3] }
  | _ => none }
def NumCommonWrongFalsely : Prop := numCommonRow.holds Try.pinned (OpenSpec.ofChange numCommonWrong)

/-- 'abacuslaw1.NumPowers': WHATEVER THE INPUT: true; the input reads as it did. -/
def numPowersSpec : ChangeSpec := { name := "numPowers", fn := fun _ => fun
  | [d1, d2, d3] => { results := [.lit (.bool true)], args := [d1, d2, d3] }
  | _ => none }
def numPowersRow : OpenClaim := { program := "ytkgakpofophhjaa", sum := "a4bb8bcf6e42029a49d3a4b123329cf028b22cc925099a7f94ca87e26ff97c36", func := "abacus/abacuslaw1.NumPowers", spec := "numPowers", named := ["math/bits.divideError", "math/bits.overflowError"], apart := false }
def NumPowersSaid : Prop := numPowersRow.holds Try.pinned (OpenSpec.ofChange numPowersSpec)

/-- ITS FALSE NEIGHBOUR: 'it returns false'. Refute it at one input. -/
def numPowersWrong : ChangeSpec := { name := "numPowers", fn := fun _ => fun
  | [d1, d2, d3] => { results := [.lit (.bool false)], args := [d1, d2, d3] }
  | _ => none }
def NumPowersWrongFalsely : Prop := numPowersRow.holds Try.pinned (OpenSpec.ofChange numPowersWrong)

/-- 'abacuslaw1.NumChosen': WHATEVER THE INPUT: true; the input reads as it did. -/
def numChosenSpec : ChangeSpec := { name := "numChosen", fn := fun _ => fun
  | [d1, d2] => { results := [.lit (.bool true)], args := [d1, d2] }
  | _ => none }
def numChosenRow : OpenClaim := { program := "ytkgakpofophhjaa", sum := "a4bb8bcf6e42029a49d3a4b123329cf028b22cc925099a7f94ca87e26ff97c36", func := "abacus/abacuslaw1.NumChosen", spec := "numChosen", named := ["math/bits.divideError", "math/bits.overflowError"], apart := false }
def NumChosenSaid : Prop := numChosenRow.holds Try.pinned (OpenSpec.ofChange numChosenSpec)

/-- ITS FALSE NEIGHBOUR: 'it returns false'. Refute it at one input. -/
def numChosenWrong : ChangeSpec := { name := "numChosen", fn := fun _ => fun
  | [d1, d2] => { results := [.lit (.bool false)], args := [d1, d2] }
  | _ => none }
def NumChosenWrongFalsely : Prop := numChosenRow.holds Try.pinned (OpenSpec.ofChange numChosenWrong)

/-- 'abacuslaw1.NumOrder': WHATEVER THE INPUT: true; the input reads as it did. -/
def numOrderSpec : ChangeSpec := { name := "numOrder", fn := fun _ => fun
  | [d1, d2] => { results := [.lit (.bool true)], args := [d1, d2] }
  | _ => none }
def numOrderRow : OpenClaim := { program := "ytkgakpofophhjaa", sum := "a4bb8bcf6e42029a49d3a4b123329cf028b22cc925099a7f94ca87e26ff97c36", func := "abacus/abacuslaw1.NumOrder", spec := "numOrder", named := ["math/bits.divideError", "math/bits.overflowError"], apart := false }
def NumOrderSaid : Prop := numOrderRow.holds Try.pinned (OpenSpec.ofChange numOrderSpec)

/-- ITS FALSE NEIGHBOUR: 'it returns false'. Refute it at one input. -/
def numOrderWrong : ChangeSpec := { name := "numOrder", fn := fun _ => fun
  | [d1, d2] => { results := [.lit (.bool false)], args := [d1, d2] }
  | _ => none }
def NumOrderWrongFalsely : Prop := numOrderRow.holds Try.pinned (OpenSpec.ofChange numOrderWrong)

/-- 'abacuslaw1.NumBack': WHATEVER THE INPUT: true; the input reads as it did. -/
def numBackSpec : ChangeSpec := { name := "numBack", fn := fun _ => fun
  | [d] => { results := [.lit (.bool true)], args := [d] }
  | _ => none }
def numBackRow : OpenClaim := { program := "ytkgakpofophhjaa", sum := "a4bb8bcf6e42029a49d3a4b123329cf028b22cc925099a7f94ca87e26ff97c36", func := "abacus/abacuslaw1.NumBack", spec := "numBack", named := ["math/bits.divideError", "math/bits.overflowError"], apart := false }
def NumBackSaid : Prop := numBackRow.holds Try.pinned (OpenSpec.ofChange numBackSpec)

/-- ITS FALSE NEIGHBOUR: 'it returns false'. Refute it at one input. -/
def numBackWrong : ChangeSpec := { name := "numBack", fn := fun _ => fun
  | [d] => { results := [.lit (.bool false)], args := [d] }
  | _ => none }
def NumBackWrongFalsely : Prop := numBackRow.holds Try.pinned (OpenSpec.ofChange numBackWrong)

/- THE SECOND FORM. 'bulk': how many values and letters a reading holds, each counted each time it is reached (what is shared counts as often as it is met; a slice's spare places count too). A statement '..UptoSaid' is the law's where the arguments, and the package variables that the reading takes, are together of bulk at most 1048576: NARROWER than '..Said'. Prove '..Said' where nothing that the law and all that it calls make is longer than what came in: it says more and counts as full. Else prove '..UptoSaid'. A law counts once. -/
mutual
def uptoBulk {H : Type} : DataW H → Nat
  | .lit (.string bytes) => bytes.length + 1
  | .lit _ => 1
  | .nil => 1
  | .ptr d => uptoBulk d + 1
  | .slice elems spare => uptoBulkAll elems + uptoBulkAll spare + 1
  | .agg parts => uptoBulkAll parts + 1
  | .iface _ d => uptoBulk d + 1
  | .map entries => uptoBulkEntries entries + 1
  | .held _ => 1
def uptoBulkAll {H : Type} : List (DataW H) → Nat
  | [] => 0
  | d :: r => uptoBulk d + uptoBulkAll r
def uptoBulkEntries {H : Type} : List (Lit × DataW H) → Nat
  | [] => 0
  | x :: r => uptoBulkEntry x + uptoBulkEntries r
def uptoBulkEntry {H : Type} : Lit × DataW H → Nat
  | (.string bytes, d) => bytes.length + uptoBulk d + 1
  | (_, d) => uptoBulk d + 1
 end
def uptoSmall : (H : Type) → List (DataW H) → Bool := fun _ ds => decide (uptoBulkAll ds ≤ 1048576)
def OpenSpec.upto (s : _root_.Go.ChangeSpec) : _root_.Go.OpenSpec := { _root_.Go.OpenSpec.ofChange s with cond := some uptoSmall }

/-- 'abacuslaw1.NumAll', WHERE WHAT IT READS IS OF BULK AT MOST 1048576: true; the input reads as it did. -/
def numAllUptoRow : OpenClaim := { program := "ytkgakpofophhjaa", sum := "a4bb8bcf6e42029a49d3a4b123329cf028b22cc925099a7f94ca87e26ff97c36", func := "abacus/abacuslaw1.NumAll", spec := "numAll", named := ["math/bits.divideError", "math/bits.overflowError"], apart := false, narrowed := true }
def NumAllUptoSaid : Prop := numAllUptoRow.holds Try.pinned (OpenSpec.upto numAllSpec)

/-- 'abacuslaw1.NumSmall', WHERE WHAT IT READS IS OF BULK AT MOST 1048576: true; the input reads as it did. -/
def numSmallUptoRow : OpenClaim := { program := "ytkgakpofophhjaa", sum := "a4bb8bcf6e42029a49d3a4b123329cf028b22cc925099a7f94ca87e26ff97c36", func := "abacus/abacuslaw1.NumSmall", spec := "numSmall", named := ["math/bits.divideError", "math/bits.overflowError"], apart := false, narrowed := true }
def NumSmallUptoSaid : Prop := numSmallUptoRow.holds Try.pinned (OpenSpec.upto numSmallSpec)

/-- 'abacuslaw1.NumDivides', WHERE WHAT IT READS IS OF BULK AT MOST 1048576: true; the input reads as it did. -/
def numDividesUptoRow : OpenClaim := { program := "ytkgakpofophhjaa", sum := "a4bb8bcf6e42029a49d3a4b123329cf028b22cc925099a7f94ca87e26ff97c36", func := "abacus/abacuslaw1.NumDivides", spec := "numDivides", named := ["math/bits.divideError", "math/bits.overflowError"], apart := false, narrowed := true }
def NumDividesUptoSaid : Prop := numDividesUptoRow.holds Try.pinned (OpenSpec.upto numDividesSpec)

/-- 'abacuslaw1.NumCommon', WHERE WHAT IT READS IS OF BULK AT MOST 1048576: true; the input reads as it did. -/
def numCommonUptoRow : OpenClaim := { program := "ytkgakpofophhjaa", sum := "a4bb8bcf6e42029a49d3a4b123329cf028b22cc925099a7f94ca87e26ff97c36", func := "abacus/abacuslaw1.NumCommon", spec := "numCommon", named := ["math/bits.divideError", "math/bits.overflowError"], apart := false, narrowed := true }
def NumCommonUptoSaid : Prop := numCommonUptoRow.holds Try.pinned (OpenSpec.upto numCommonSpec)

/-- 'abacuslaw1.NumPowers', WHERE WHAT IT READS IS OF BULK AT MOST 1048576: true; the input reads as it did. -/
def numPowersUptoRow : OpenClaim := { program := "ytkgakpofophhjaa", sum := "a4bb8bcf6e42029a49d3a4b123329cf028b22cc925099a7f94ca87e26ff97c36", func := "abacus/abacuslaw1.NumPowers", spec := "numPowers", named := ["math/bits.divideError", "math/bits.overflowError"], apart := false, narrowed := true }
def NumPowersUptoSaid : Prop := numPowersUptoRow.holds Try.pinned (OpenSpec.upto numPowersSpec)

/-- 'abacuslaw1.NumChosen', WHERE WHAT IT READS IS OF BULK AT MOST 1048576: true; the input reads as it did. -/
def numChosenUptoRow : OpenClaim := { program := "ytkgakpofophhjaa", sum := "a4bb8bcf6e42029a49d3a4b123329cf028b22cc925099a7f94ca87e26ff97c36", func := "abacus/abacuslaw1.NumChosen", spec := "numChosen", named := ["math/bits.divideError", "math/bits.overflowError"], apart := false, narrowed := true }
def NumChosenUptoSaid : Prop := numChosenUptoRow.holds Try.pinned (OpenSpec.upto numChosenSpec)

/-- 'abacuslaw1.NumOrder', WHERE WHAT IT READS IS OF BULK AT MOST 1048576: true; the input reads as it did. -/
def numOrderUptoRow : OpenClaim := { program := "ytkgakpofophhjaa", sum := "a4bb8bcf6e42029a49d3a4b123329cf028b22cc925099a7f94ca87e26ff97c36", func := "abacus/abacuslaw1.NumOrder", spec := "numOrder", named := ["math/bits.divideError", "math/bits.overflowError"], apart := false, narrowed := true }
def NumOrderUptoSaid : Prop := numOrderUptoRow.holds Try.pinned (OpenSpec.upto numOrderSpec)

/-- 'abacuslaw1.NumBack', WHERE WHAT IT READS IS OF BULK AT MOST 1048576: true; the input reads as it did. -/
def numBackUptoRow : OpenClaim := { program := "ytkgakpofophhjaa", sum := "a4bb8bcf6e42029a49d3a4b123329cf028b22cc925099a7f94ca87e26ff97c36", func := "abacus/abacuslaw1.NumBack", spec := "numBack", named := ["math/bits.divideError", "math/bits.overflowError"], apart := false, narrowed := true }
def NumBackUptoSaid : Prop := numBackUptoRow.holds Try.pinned (OpenSpec.upto numBackSpec)

end Rows
end Go.Proofs.Ytkgakpofophhjaa
