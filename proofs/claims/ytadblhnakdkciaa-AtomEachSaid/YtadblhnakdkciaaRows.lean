/-
  No cell of these rows narrows 'for every input' (looked for: loops, veiled, ifaces, maps, wideKeys, modest, calm, conditions, laid).
  DERIVED. THE GIVEN ROWS OF THIS SEAT. 11 by the template 'for every input the law returns true; each argument reads behind the call as it read before'; 0 by the template 'total and deterministic' (their statements: YtadblhnakdkciaaTotals.lean).
  GIVEN WITH THE SEED: the statements are not yours to turn. If you find one false, say at which input.
  Laid BY PROGRAM, IN A SANDBOX (cutbox-rows.mjs): the forced cells as the released guide's own fill.sh prints them over the translation bb35ab79bda39867… (all of the seat's roots in one cut). By AI agents, Wed Nov 11 2026. No macro, syntax, notation, axiom, sorry.
-/
import Derived.Test.YtadblhnakdkciaaChecked
import GoSem.Claim
import GoSem.ClaimJoined
import GoSem.ClaimMapViews
import Derived.JoinedTies
import Derived.KernelRfl
namespace Go.Proofs.Ytadblhnakdkciaa
/- THE CELL 'sum', in the pinned program and in every row, IS THE sha256 OF THE DUMP (.gsa) THAT YtadblhnakdkciaaProg.lean LOADS. Nothing in Lean hashes anything: it is a label: what it is worth is what the hold of that sum in a sandbox is worth. -/
noncomputable def Try.pinned : Pinned := { name := "ytadblhnakdkciaa", sum := "bb35ab79bda398679a70e987a417c13361df4329196f06c8bbe16ef2d309f85d", checked := Try.checked }
namespace Rows
def none {H : Type} : Left H := { results := [], args := [] }

/-- 'abacuslaw5.AtomAll': WHATEVER THE INPUT: true; the input reads as it did. -/
def atomAllSpec : ChangeSpec := { name := "atomAll", fn := fun _ => fun
  | [d] => { results := [.lit (.bool true)], args := [d] }
  | _ => none }
def atomAllRow : OpenClaim := { program := "ytadblhnakdkciaa", sum := "bb35ab79bda398679a70e987a417c13361df4329196f06c8bbe16ef2d309f85d", func := "abacus/abacuslaw5.AtomAll", spec := "atomAll", unfollowed := true, recurses := true, named := ["math/bits.divideError", "math/bits.overflowError"], apart := false }
def AtomAllSaid : Prop := atomAllRow.holds Try.pinned (OpenSpec.ofChange atomAllSpec)

/-- ITS FALSE NEIGHBOUR: 'it returns false'. Refute it at one input. -/
def atomAllWrong : ChangeSpec := { name := "atomAll", fn := fun _ => fun
  | [d] => { results := [.lit (.bool false)], args := [d] }
  | _ => none }
def AtomAllWrongFalsely : Prop := atomAllRow.holds Try.pinned (OpenSpec.ofChange atomAllWrong)

/-- 'abacuslaw5.AtomEach': WHATEVER THE INPUT: true; the input reads as it did. -/
def atomEachSpec : ChangeSpec := { name := "atomEach", fn := fun _ => fun
  | [d1, d2, d3] => { results := [.lit (.bool true)], args := [d1, d2, d3] }
  | _ => none }
def atomEachRow : OpenClaim := { program := "ytadblhnakdkciaa", sum := "bb35ab79bda398679a70e987a417c13361df4329196f06c8bbe16ef2d309f85d", func := "abacus/abacuslaw5.AtomEach", spec := "atomEach", unfollowed := true, recurses := true, named := ["math/bits.divideError", "math/bits.overflowError"], apart := false }
def AtomEachSaid : Prop := atomEachRow.holds Try.pinned (OpenSpec.ofChange atomEachSpec)

/-- ITS FALSE NEIGHBOUR: 'it returns false'. Refute it at one input. -/
def atomEachWrong : ChangeSpec := { name := "atomEach", fn := fun _ => fun
  | [d1, d2, d3] => { results := [.lit (.bool false)], args := [d1, d2, d3] }
  | _ => none }
def AtomEachWrongFalsely : Prop := atomEachRow.holds Try.pinned (OpenSpec.ofChange atomEachWrong)

/-- 'abacuslaw5.AtomLengths': WHATEVER THE INPUT: true; the input reads as it did. -/
def atomLengthsSpec : ChangeSpec := { name := "atomLengths", fn := fun _ => fun
  | [d1, d2, d3] => { results := [.lit (.bool true)], args := [d1, d2, d3] }
  | _ => none }
def atomLengthsRow : OpenClaim := { program := "ytadblhnakdkciaa", sum := "bb35ab79bda398679a70e987a417c13361df4329196f06c8bbe16ef2d309f85d", func := "abacus/abacuslaw5.AtomLengths", spec := "atomLengths", unfollowed := true, recurses := true, named := ["math/bits.divideError", "math/bits.overflowError"], apart := false }
def AtomLengthsSaid : Prop := atomLengthsRow.holds Try.pinned (OpenSpec.ofChange atomLengthsSpec)

/-- ITS FALSE NEIGHBOUR: 'it returns false'. Refute it at one input. -/
def atomLengthsWrong : ChangeSpec := { name := "atomLengths", fn := fun _ => fun
  | [d1, d2, d3] => { results := [.lit (.bool false)], args := [d1, d2, d3] }
  | _ => none }
def AtomLengthsWrongFalsely : Prop := atomLengthsRow.holds Try.pinned (OpenSpec.ofChange atomLengthsWrong)

/-- 'abacuslaw5.AtomFresh': WHATEVER THE INPUT: true; the input reads as it did. -/
def atomFreshSpec : ChangeSpec := { name := "atomFresh", fn := fun _ => fun
  | [d] => { results := [.lit (.bool true)], args := [d] }
  | _ => none }
def atomFreshRow : OpenClaim := { program := "ytadblhnakdkciaa", sum := "bb35ab79bda398679a70e987a417c13361df4329196f06c8bbe16ef2d309f85d", func := "abacus/abacuslaw5.AtomFresh", spec := "atomFresh", unfollowed := true, recurses := true, named := ["math/bits.divideError", "math/bits.overflowError"], apart := false }
def AtomFreshSaid : Prop := atomFreshRow.holds Try.pinned (OpenSpec.ofChange atomFreshSpec)

/-- ITS FALSE NEIGHBOUR: 'it returns false'. Refute it at one input. -/
def atomFreshWrong : ChangeSpec := { name := "atomFresh", fn := fun _ => fun
  | [d] => { results := [.lit (.bool false)], args := [d] }
  | _ => none }
def AtomFreshWrongFalsely : Prop := atomFreshRow.holds Try.pinned (OpenSpec.ofChange atomFreshWrong)

/-- 'abacuslaw7.SeekAll': WHATEVER THE INPUT: true; the input reads as it did. -/
def seekAllSpec : ChangeSpec := { name := "seekAll", fn := fun _ => fun
  | [d] => { results := [.lit (.bool true)], args := [d] }
  | _ => none }
def seekAllRow : OpenClaim := { program := "ytadblhnakdkciaa", sum := "bb35ab79bda398679a70e987a417c13361df4329196f06c8bbe16ef2d309f85d", func := "abacus/abacuslaw7.SeekAll", spec := "seekAll", unfollowed := true, recurses := true, apart := false }
def SeekAllSaid : Prop := seekAllRow.holds Try.pinned (OpenSpec.ofChange seekAllSpec)

/-- ITS FALSE NEIGHBOUR: 'it returns false'. Refute it at one input. -/
def seekAllWrong : ChangeSpec := { name := "seekAll", fn := fun _ => fun
  | [d] => { results := [.lit (.bool false)], args := [d] }
  | _ => none }
def SeekAllWrongFalsely : Prop := seekAllRow.holds Try.pinned (OpenSpec.ofChange seekAllWrong)

/-- 'abacuslaw7.SeekNub': WHATEVER THE INPUT: true; the input reads as it did. -/
def seekNubSpec : ChangeSpec := { name := "seekNub", fn := fun _ => fun
  | [d] => { results := [.lit (.bool true)], args := [d] }
  | _ => none }
def seekNubRow : OpenClaim := { program := "ytadblhnakdkciaa", sum := "bb35ab79bda398679a70e987a417c13361df4329196f06c8bbe16ef2d309f85d", func := "abacus/abacuslaw7.SeekNub", spec := "seekNub", unfollowed := true, recurses := true, apart := false }
def SeekNubSaid : Prop := seekNubRow.holds Try.pinned (OpenSpec.ofChange seekNubSpec)

/-- ITS FALSE NEIGHBOUR: 'it returns false'. Refute it at one input. -/
def seekNubWrong : ChangeSpec := { name := "seekNub", fn := fun _ => fun
  | [d] => { results := [.lit (.bool false)], args := [d] }
  | _ => none }
def SeekNubWrongFalsely : Prop := seekNubRow.holds Try.pinned (OpenSpec.ofChange seekNubWrong)

/-- 'abacuslaw7.SeekFound': WHATEVER THE INPUT: true; the input reads as it did. -/
def seekFoundSpec : ChangeSpec := { name := "seekFound", fn := fun _ => fun
  | [d1, d2] => { results := [.lit (.bool true)], args := [d1, d2] }
  | _ => none }
def seekFoundRow : OpenClaim := { program := "ytadblhnakdkciaa", sum := "bb35ab79bda398679a70e987a417c13361df4329196f06c8bbe16ef2d309f85d", func := "abacus/abacuslaw7.SeekFound", spec := "seekFound", unfollowed := true, recurses := true, apart := false }
def SeekFoundSaid : Prop := seekFoundRow.holds Try.pinned (OpenSpec.ofChange seekFoundSpec)

/-- ITS FALSE NEIGHBOUR: 'it returns false'. Refute it at one input. -/
def seekFoundWrong : ChangeSpec := { name := "seekFound", fn := fun _ => fun
  | [d1, d2] => { results := [.lit (.bool false)], args := [d1, d2] }
  | _ => none }
def SeekFoundWrongFalsely : Prop := seekFoundRow.holds Try.pinned (OpenSpec.ofChange seekFoundWrong)

/-- 'abacuslaw7.SeekFrom': WHATEVER THE INPUT: true; the input reads as it did. -/
def seekFromSpec : ChangeSpec := { name := "seekFrom", fn := fun _ => fun
  | [d1, d2] => { results := [.lit (.bool true)], args := [d1, d2] }
  | _ => none }
def seekFromRow : OpenClaim := { program := "ytadblhnakdkciaa", sum := "bb35ab79bda398679a70e987a417c13361df4329196f06c8bbe16ef2d309f85d", func := "abacus/abacuslaw7.SeekFrom", spec := "seekFrom", unfollowed := true, recurses := true, apart := false }
def SeekFromSaid : Prop := seekFromRow.holds Try.pinned (OpenSpec.ofChange seekFromSpec)

/-- ITS FALSE NEIGHBOUR: 'it returns false'. Refute it at one input. -/
def seekFromWrong : ChangeSpec := { name := "seekFrom", fn := fun _ => fun
  | [d1, d2] => { results := [.lit (.bool false)], args := [d1, d2] }
  | _ => none }
def SeekFromWrongFalsely : Prop := seekFromRow.holds Try.pinned (OpenSpec.ofChange seekFromWrong)

/-- 'abacuslaw7.SeekFresh': WHATEVER THE INPUT: true; the input reads as it did. -/
def seekFreshSpec : ChangeSpec := { name := "seekFresh", fn := fun _ => fun
  | [d] => { results := [.lit (.bool true)], args := [d] }
  | _ => none }
def seekFreshRow : OpenClaim := { program := "ytadblhnakdkciaa", sum := "bb35ab79bda398679a70e987a417c13361df4329196f06c8bbe16ef2d309f85d", func := "abacus/abacuslaw7.SeekFresh", spec := "seekFresh", unfollowed := true, recurses := true, apart := false }
def SeekFreshSaid : Prop := seekFreshRow.holds Try.pinned (OpenSpec.ofChange seekFreshSpec)

/-- ITS FALSE NEIGHBOUR: 'it returns false'. Refute it at one input. -/
def seekFreshWrong : ChangeSpec := { name := "seekFresh", fn := fun _ => fun
  | [d] => { results := [.lit (.bool false)], args := [d] }
  | _ => none }
def SeekFreshWrongFalsely : Prop := seekFreshRow.holds Try.pinned (OpenSpec.ofChange seekFreshWrong)

/-- 'abacuslaw7.SeekOrder': WHATEVER THE INPUT: true; the input reads as it did. -/
def seekOrderSpec : ChangeSpec := { name := "seekOrder", fn := fun _ => fun
  | [d] => { results := [.lit (.bool true)], args := [d] }
  | _ => none }
def seekOrderRow : OpenClaim := { program := "ytadblhnakdkciaa", sum := "bb35ab79bda398679a70e987a417c13361df4329196f06c8bbe16ef2d309f85d", func := "abacus/abacuslaw7.SeekOrder", spec := "seekOrder", unfollowed := true, recurses := true, apart := false }
def SeekOrderSaid : Prop := seekOrderRow.holds Try.pinned (OpenSpec.ofChange seekOrderSpec)

/-- ITS FALSE NEIGHBOUR: 'it returns false'. Refute it at one input. -/
def seekOrderWrong : ChangeSpec := { name := "seekOrder", fn := fun _ => fun
  | [d] => { results := [.lit (.bool false)], args := [d] }
  | _ => none }
def SeekOrderWrongFalsely : Prop := seekOrderRow.holds Try.pinned (OpenSpec.ofChange seekOrderWrong)

/-- 'abacuslaw5.AtomBelow': WHATEVER THE INPUT: true; the input reads as it did. -/
def atomBelowSpec : ChangeSpec := { name := "atomBelow", fn := fun _ => fun
  | [d1, d2, d3] => { results := [.lit (.bool true)], args := [d1, d2, d3] }
  | _ => none }
def atomBelowRow : OpenClaim := { program := "ytadblhnakdkciaa", sum := "bb35ab79bda398679a70e987a417c13361df4329196f06c8bbe16ef2d309f85d", func := "abacus/abacuslaw5.AtomBelow", spec := "atomBelow", unfollowed := true, recurses := true, named := ["math/bits.divideError", "math/bits.overflowError"], apart := false }
def AtomBelowSaid : Prop := atomBelowRow.holds Try.pinned (OpenSpec.ofChange atomBelowSpec)

/-- ITS FALSE NEIGHBOUR: 'it returns false'. Refute it at one input. -/
def atomBelowWrong : ChangeSpec := { name := "atomBelow", fn := fun _ => fun
  | [d1, d2, d3] => { results := [.lit (.bool false)], args := [d1, d2, d3] }
  | _ => none }
def AtomBelowWrongFalsely : Prop := atomBelowRow.holds Try.pinned (OpenSpec.ofChange atomBelowWrong)

/- THE SECOND FORM. 'bulk': how many values and letters a reading holds, each counted each time it is reached (what is shared counts as often as it is met; a slice's spare places count too). A statement '..UptoSaid' is the law's where the arguments, and the package variables that the reading takes, are together of bulk at most 1048576: NARROWER than '..Said'. Prove '..Said' where nothing that the law and all that it calls make is longer than what came in: it says more and counts as full. Else prove '..UptoSaid'. A law counts once. -/
mutual
def uptoBulk {H : Type} : DataW H → Nat
  | .lit (.string bytes) => bytes.length + 1
  | .lit _ => 1
  | .nil => 1
  | .ptr d => uptoBulk d + 1
  | .slice elems spare => uptoBulkAll elems + uptoBulkAll spare + 1
  | .agg parts => uptoBulkAll parts + 1
  | .iface _ d => uptoBulk d + 1
  | .map entries => uptoBulkEntries entries + 1
  | .held _ => 1
def uptoBulkAll {H : Type} : List (DataW H) → Nat
  | [] => 0
  | d :: r => uptoBulk d + uptoBulkAll r
def uptoBulkEntries {H : Type} : List (Lit × DataW H) → Nat
  | [] => 0
  | x :: r => uptoBulkEntry x + uptoBulkEntries r
def uptoBulkEntry {H : Type} : Lit × DataW H → Nat
  | (.string bytes, d) => bytes.length + uptoBulk d + 1
  | (_, d) => uptoBulk d + 1
 end
def uptoSmall : (H : Type) → List (DataW H) → Bool := fun _ ds => decide (uptoBulkAll ds ≤ 1048576)
def OpenSpec.upto (s : _root_.Go.ChangeSpec) : _root_.Go.OpenSpec := { _root_.Go.OpenSpec.ofChange s with cond := some uptoSmall }

/-- 'abacuslaw5.AtomAll', WHERE WHAT IT READS IS OF BULK AT MOST 1048576: true; the input reads as it did. -/
def atomAllUptoRow : OpenClaim := { program := "ytadblhnakdkciaa", sum := "bb35ab79bda398679a70e987a417c13361df4329196f06c8bbe16ef2d309f85d", func := "abacus/abacuslaw5.AtomAll", spec := "atomAll", unfollowed := true, recurses := true, named := ["math/bits.divideError", "math/bits.overflowError"], apart := false, narrowed := true }
def AtomAllUptoSaid : Prop := atomAllUptoRow.holds Try.pinned (OpenSpec.upto atomAllSpec)

/-- 'abacuslaw5.AtomEach', WHERE WHAT IT READS IS OF BULK AT MOST 1048576: true; the input reads as it did. -/
def atomEachUptoRow : OpenClaim := { program := "ytadblhnakdkciaa", sum := "bb35ab79bda398679a70e987a417c13361df4329196f06c8bbe16ef2d309f85d", func := "abacus/abacuslaw5.AtomEach", spec := "atomEach", unfollowed := true, recurses := true, named := ["math/bits.divideError", "math/bits.overflowError"], apart := false, narrowed := true }
def AtomEachUptoSaid : Prop := atomEachUptoRow.holds Try.pinned (OpenSpec.upto atomEachSpec)

/-- 'abacuslaw5.AtomLengths', WHERE WHAT IT READS IS OF BULK AT MOST 1048576: true; the input reads as it did. -/
def atomLengthsUptoRow : OpenClaim := { program := "ytadblhnakdkciaa", sum := "bb35ab79bda398679a70e987a417c13361df4329196f06c8bbe16ef2d309f85d", func := "abacus/abacuslaw5.AtomLengths", spec := "atomLengths", unfollowed := true, recurses := true, named := ["math/bits.divideError", "math/bits.overflowError"], apart := false, narrowed := true }
def AtomLengthsUptoSaid : Prop := atomLengthsUptoRow.holds Try.pinned (OpenSpec.upto atomLengthsSpec)

/-- 'abacuslaw5.AtomFresh', WHERE WHAT IT READS IS OF BULK AT MOST 1048576: true; the input reads as it did. -/
def atomFreshUptoRow : OpenClaim := { program := "ytadblhnakdkciaa", sum := "bb35ab79bda398679a70e987a417c13361df4329196f06c8bbe16ef2d309f85d", func := "abacus/abacuslaw5.AtomFresh", spec := "atomFresh", unfollowed := true, recurses := true, named := ["math/bits.divideError", "math/bits.overflowError"], apart := false, narrowed := true }
def AtomFreshUptoSaid : Prop := atomFreshUptoRow.holds Try.pinned (OpenSpec.upto atomFreshSpec)

/-- 'abacuslaw7.SeekAll', WHERE WHAT IT READS IS OF BULK AT MOST 1048576: true; the input reads as it did. -/
def seekAllUptoRow : OpenClaim := { program := "ytadblhnakdkciaa", sum := "bb35ab79bda398679a70e987a417c13361df4329196f06c8bbe16ef2d309f85d", func := "abacus/abacuslaw7.SeekAll", spec := "seekAll", unfollowed := true, recurses := true, apart := false, narrowed := true }
def SeekAllUptoSaid : Prop := seekAllUptoRow.holds Try.pinned (OpenSpec.upto seekAllSpec)

/-- 'abacuslaw7.SeekNub', WHERE WHAT IT READS IS OF BULK AT MOST 1048576: true; the input reads as it did. -/
def seekNubUptoRow : OpenClaim := { program := "ytadblhnakdkciaa", sum := "bb35ab79bda398679a70e987a417c13361df4329196f06c8bbe16ef2d309f85d", func := "abacus/abacuslaw7.SeekNub", spec := "seekNub", unfollowed := true, recurses := true, apart := false, narrowed := true }
def SeekNubUptoSaid : Prop := seekNubUptoRow.holds Try.pinned (OpenSpec.upto seekNubSpec)

/-- 'abacuslaw7.SeekFound', WHERE WHAT IT READS IS OF BULK AT MOST 1048576: true; the input reads as it did. -/
def seekFoundUptoRow : OpenClaim := { program := "ytadblhnakdkciaa", sum := "bb35ab79bda398679a70e987a417c13361df4329196f06c8bbe16ef2d309f85d", func := "abacus/abacuslaw7.SeekFound", spec := "seekFound", unfollowed := true, recurses := true, apart := false, narrowed := true }
def SeekFoundUptoSaid : Prop := seekFoundUptoRow.holds Try.pinned (OpenSpec.upto seekFoundSpec)

/-- 'abacuslaw7.SeekFrom', WHERE WHAT IT READS IS OF BULK AT MOST 1048576: true; the input reads as it did. -/
def seekFromUptoRow : OpenClaim := { program := "ytadblhnakdkciaa", sum := "bb35ab79bda398679a70e987a417c13361df4329196f06c8bbe16ef2d309f85d", func := "abacus/abacuslaw7.SeekFrom", spec := "seekFrom", unfollowed := true, recurses := true, apart := false, narrowed := true }
def SeekFromUptoSaid : Prop := seekFromUptoRow.holds Try.pinned (OpenSpec.upto seekFromSpec)

/-- 'abacuslaw7.SeekFresh', WHERE WHAT IT READS IS OF BULK AT MOST 1048576: true; the input reads as it did. -/
def seekFreshUptoRow : OpenClaim := { program := "ytadblhnakdkciaa", sum := "bb35ab79bda398679a70e987a417c13361df4329196f06c8bbe16ef2d309f85d", func := "abacus/abacuslaw7.SeekFresh", spec := "seekFresh", unfollowed := true, recurses := true, apart := false, narrowed := true }
def SeekFreshUptoSaid : Prop := seekFreshUptoRow.holds Try.pinned (OpenSpec.upto seekFreshSpec)

/-- 'abacuslaw7.SeekOrder', WHERE WHAT IT READS IS OF BULK AT MOST 1048576: true; the input reads as it did. -/
def seekOrderUptoRow : OpenClaim := { program := "ytadblhnakdkciaa", sum := "bb35ab79bda398679a70e987a417c13361df4329196f06c8bbe16ef2d309f85d", func := "abacus/abacuslaw7.SeekOrder", spec := "seekOrder", unfollowed := true, recurses := true, apart := false, narrowed := true }
def SeekOrderUptoSaid : Prop := seekOrderUptoRow.holds Try.pinned (OpenSpec.upto seekOrderSpec)

/-- 'abacuslaw5.AtomBelow', WHERE WHAT IT READS IS OF BULK AT MOST 1048576: true; the input reads as it did. -/
def atomBelowUptoRow : OpenClaim := { program := "ytadblhnakdkciaa", sum := "bb35ab79bda398679a70e987a417c13361df4329196f06c8bbe16ef2d309f85d", func := "abacus/abacuslaw5.AtomBelow", spec := "atomBelow", unfollowed := true, recurses := true, named := ["math/bits.divideError", "math/bits.overflowError"], apart := false, narrowed := true }
def AtomBelowUptoSaid : Prop := atomBelowUptoRow.holds Try.pinned (OpenSpec.upto atomBelowSpec)

end Rows
end Go.Proofs.Ytadblhnakdkciaa
