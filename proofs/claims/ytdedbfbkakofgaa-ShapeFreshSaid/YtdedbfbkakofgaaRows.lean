/-
  No cell of these rows narrows 'for every input' (looked for: loops, veiled, ifaces, maps, wideKeys, modest, calm, conditions, laid).
  DERIVED. THE GIVEN ROWS OF THIS SEAT. 8 by the template 'for every input the law returns true; each argument reads behind the call as it read before'; 0 by the template 'total and deterministic' (their statements: YtdedbfbkakofgaaTotals.lean).
  GIVEN WITH THE SEED: the statements are not yours to turn. If you find one false, say at which input.
  Laid BY PROGRAM, IN A SANDBOX (cutbox-rows.mjs): the forced cells as the released guide's own fill.sh prints them over the translation 9a9f4a03f8cca703… (all of the seat's roots in one cut). By AI agents, Wed Nov 11 2026. No macro, syntax, notation, axiom, sorry.
-/
import Derived.Test.YtdedbfbkakofgaaChecked
import GoSem.Claim
import GoSem.ClaimJoined
import GoSem.ClaimMapViews
import Derived.JoinedTies
import Derived.KernelRfl
namespace Go.Proofs.Ytdedbfbkakofgaa
/- THE CELL 'sum', in the pinned program and in every row, IS THE sha256 OF THE DUMP (.gsa) THAT YtdedbfbkakofgaaProg.lean LOADS. Nothing in Lean hashes anything: it is a label: what it is worth is what the hold of that sum in a sandbox is worth. -/
noncomputable def Try.pinned : Pinned := { name := "ytdedbfbkakofgaa", sum := "9a9f4a03f8cca7035c76a3b86016cc1df6c7911b5965d73cf96bed99fe11d55d", checked := Try.checked }
namespace Rows
def none {H : Type} : Left H := { results := [], args := [] }

/-- 'abacuslaw2.ShapeAll': WHATEVER THE INPUT: true; the input reads as it did. -/
def shapeAllSpec : ChangeSpec := { name := "shapeAll", fn := fun _ => fun
  | [d] => { results := [.lit (.bool true)], args := [d] }
  | _ => none }
def shapeAllRow : OpenClaim := { program := "ytdedbfbkakofgaa", sum := "9a9f4a03f8cca7035c76a3b86016cc1df6c7911b5965d73cf96bed99fe11d55d", func := "abacus/abacuslaw2.ShapeAll", spec := "shapeAll", unfollowed := true, recurses := true, apart := false }
def ShapeAllSaid : Prop := shapeAllRow.holds Try.pinned (OpenSpec.ofChange shapeAllSpec)

/-- ITS FALSE NEIGHBOUR: 'it returns false'. Refute it at one input. -/
def shapeAllWrong : ChangeSpec := { name := "shapeAll", fn := fun _ => fun
  | [d] => { results := [.lit (.bool false)], args := [d] }
  | _ => none }
def ShapeAllWrongFalsely : Prop := shapeAllRow.holds Try.pinned (OpenSpec.ofChange shapeAllWrong)

/-- 'abacuslaw2.ShapeFresh': WHATEVER THE INPUT: true; the input reads as it did. -/
def shapeFreshSpec : ChangeSpec := { name := "shapeFresh", fn := fun _ => fun
  | [d] => { results := [.lit (.bool true)], args := [d] }
  | _ => none }
def shapeFreshRow : OpenClaim := { program := "ytdedbfbkakofgaa", sum := "9a9f4a03f8cca7035c76a3b86016cc1df6c7911b5965d73cf96bed99fe11d55d", func := "abacus/abacuslaw2.ShapeFresh", spec := "shapeFresh", unfollowed := true, recurses := true, apart := false }
def ShapeFreshSaid : Prop := shapeFreshRow.holds Try.pinned (OpenSpec.ofChange shapeFreshSpec)

/-- ITS FALSE NEIGHBOUR: 'it returns false'. Refute it at one input. -/
def shapeFreshWrong : ChangeSpec := { name := "shapeFresh", fn := fun _ => fun
  | [d] => { results := [.lit (.bool false)], args := [d] }
  | _ => none }
def ShapeFreshWrongFalsely : Prop := shapeFreshRow.holds Try.pinned (OpenSpec.ofChange shapeFreshWrong)

/-- 'abacuslaw3.ArrAll': WHATEVER THE INPUT: true; the input reads as it did. -/
def arrAllSpec : ChangeSpec := { name := "arrAll", fn := fun _ => fun
  | [d] => { results := [.lit (.bool true)], args := [d] }
  | _ => none }
def arrAllRow : OpenClaim := { program := "ytdedbfbkakofgaa", sum := "9a9f4a03f8cca7035c76a3b86016cc1df6c7911b5965d73cf96bed99fe11d55d", func := "abacus/abacuslaw3.ArrAll", spec := "arrAll", unfollowed := true, recurses := true, apart := false }
def ArrAllSaid : Prop := arrAllRow.holds Try.pinned (OpenSpec.ofChange arrAllSpec)

/-- ITS FALSE NEIGHBOUR: 'it returns false'. Refute it at one input. -/
def arrAllWrong : ChangeSpec := { name := "arrAll", fn := fun _ => fun
  | [d] => { results := [.lit (.bool false)], args := [d] }
  | _ => none }
def ArrAllWrongFalsely : Prop := arrAllRow.holds Try.pinned (OpenSpec.ofChange arrAllWrong)

/-- 'abacuslaw3.ArrFresh': WHATEVER THE INPUT: true; the input reads as it did. -/
def arrFreshSpec : ChangeSpec := { name := "arrFresh", fn := fun _ => fun
  | [d] => { results := [.lit (.bool true)], args := [d] }
  | _ => none }
def arrFreshRow : OpenClaim := { program := "ytdedbfbkakofgaa", sum := "9a9f4a03f8cca7035c76a3b86016cc1df6c7911b5965d73cf96bed99fe11d55d", func := "abacus/abacuslaw3.ArrFresh", spec := "arrFresh", unfollowed := true, recurses := true, apart := false }
def ArrFreshSaid : Prop := arrFreshRow.holds Try.pinned (OpenSpec.ofChange arrFreshSpec)

/-- ITS FALSE NEIGHBOUR: 'it returns false'. Refute it at one input. -/
def arrFreshWrong : ChangeSpec := { name := "arrFresh", fn := fun _ => fun
  | [d] => { results := [.lit (.bool false)], args := [d] }
  | _ => none }
def ArrFreshWrongFalsely : Prop := arrFreshRow.holds Try.pinned (OpenSpec.ofChange arrFreshWrong)

/-- 'abacuslaw5.AtomAll': WHATEVER THE INPUT: true; the input reads as it did. -/
def atomAllSpec : ChangeSpec := { name := "atomAll", fn := fun _ => fun
  | [d] => { results := [.lit (.bool true)], args := [d] }
  | _ => none }
def atomAllRow : OpenClaim := { program := "ytdedbfbkakofgaa", sum := "9a9f4a03f8cca7035c76a3b86016cc1df6c7911b5965d73cf96bed99fe11d55d", func := "abacus/abacuslaw5.AtomAll", spec := "atomAll", unfollowed := true, recurses := true, named := ["math/bits.divideError", "math/bits.overflowError"], apart := false }
def AtomAllSaid : Prop := atomAllRow.holds Try.pinned (OpenSpec.ofChange atomAllSpec)

/-- ITS FALSE NEIGHBOUR: 'it returns false'. Refute it at one input. -/
def atomAllWrong : ChangeSpec := { name := "atomAll", fn := fun _ => fun
  | [d] => { results := [.lit (.bool false)], args := [d] }
  | _ => none }
def AtomAllWrongFalsely : Prop := atomAllRow.holds Try.pinned (OpenSpec.ofChange atomAllWrong)

/-- 'abacuslaw5.AtomLengths': WHATEVER THE INPUT: true; the input reads as it did. -/
def atomLengthsSpec : ChangeSpec := { name := "atomLengths", fn := fun _ => fun
  | [d1, d2, d3] => { results := [.lit (.bool true)], args := [d1, d2, d3] }
  | _ => none }
def atomLengthsRow : OpenClaim := { program := "ytdedbfbkakofgaa", sum := "9a9f4a03f8cca7035c76a3b86016cc1df6c7911b5965d73cf96bed99fe11d55d", func := "abacus/abacuslaw5.AtomLengths", spec := "atomLengths", unfollowed := true, recurses := true, named := ["math/bits.divideError", "math/bits.overflowError"], apart := false }
def AtomLengthsSaid : Prop := atomLengthsRow.holds Try.pinned (OpenSpec.ofChange atomLengthsSpec)

/-- ITS FALSE NEIGHBOUR: 'it returns false'. Refute it at one input. -/
def atomLengthsWrong : ChangeSpec := { name := "atomLengths", fn := fun _ => fun
  | [d1, d2, d3] => { results := [.lit (.bool false)], args := [d1, d2, d3] }
  | _ => none }
def AtomLengthsWrongFalsely : Prop := atomLengthsRow.holds Try.pinned (OpenSpec.ofChange atomLengthsWrong)

/-- 'abacuslaw5.AtomFresh': WHATEVER THE INPUT: true; the input reads as it did. -/
def atomFreshSpec : ChangeSpec := { name := "atomFresh", fn := fun _ => fun
  | [d] => { results := [.lit (.bool true)], args := [d] }
  | _ => none }
def atomFreshRow : OpenClaim := { program := "ytdedbfbkakofgaa", sum := "9a9f4a03f8cca7035c76a3b86016cc1df6c7911b5965d73cf96bed99fe11d55d", func := "abacus/abacuslaw5.AtomFresh", spec := "atomFresh", unfollowed := true, recurses := true, named := ["math/bits.divideError", "math/bits.overflowError"], apart := false }
def AtomFreshSaid : Prop := atomFreshRow.holds Try.pinned (OpenSpec.ofChange atomFreshSpec)

/-- ITS FALSE NEIGHBOUR: 'it returns false'. Refute it at one input. -/
def atomFreshWrong : ChangeSpec := { name := "atomFresh", fn := fun _ => fun
  | [d] => { results := [.lit (.bool false)], args := [d] }
  | _ => none }
def AtomFreshWrongFalsely : Prop := atomFreshRow.holds Try.pinned (OpenSpec.ofChange atomFreshWrong)

/-- 'abacuslaw5.AtomBelow': WHATEVER THE INPUT: true; the input reads as it did. -/
def atomBelowSpec : ChangeSpec := { name := "atomBelow", fn := fun _ => fun
  | [d1, d2, d3] => { results := [.lit (.bool true)], args := [d1, d2, d3] }
  | _ => none }
def atomBelowRow : OpenClaim := { program := "ytdedbfbkakofgaa", sum := "9a9f4a03f8cca7035c76a3b86016cc1df6c7911b5965d73cf96bed99fe11d55d", func := "abacus/abacuslaw5.AtomBelow", spec := "atomBelow", unfollowed := true, recurses := true, named := ["math/bits.divideError", "math/bits.overflowError"], apart := false }
def AtomBelowSaid : Prop := atomBelowRow.holds Try.pinned (OpenSpec.ofChange atomBelowSpec)

/-- ITS FALSE NEIGHBOUR: 'it returns false'. Refute it at one input. -/
def atomBelowWrong : ChangeSpec := { name := "atomBelow", fn := fun _ => fun
  | [d1, d2, d3] => { results := [.lit (.bool false)], args := [d1, d2, d3] }
  | _ => none }
def AtomBelowWrongFalsely : Prop := atomBelowRow.holds Try.pinned (OpenSpec.ofChange atomBelowWrong)

/- THE SECOND FORM. 'bulk': how many values and letters a reading holds, each counted each time it is reached (what is shared counts as often as it is met; a slice's spare places count too). A statement '..UptoSaid' is the law's where the arguments, and the package variables that the reading takes, are together of bulk at most 1048576: NARROWER than '..Said'. Prove '..Said' where nothing that the law and all that it calls make is longer than what came in: it says more and counts as full. Else prove '..UptoSaid'. A law counts once. -/
mutual
def uptoBulk {H : Type} : DataW H → Nat
  | .lit (.string bytes) => bytes.length + 1
  | .lit _ => 1
  | .nil => 1
  | .ptr d => uptoBulk d + 1
  | .slice elems spare => uptoBulkAll elems + uptoBulkAll spare + 1
  | .agg parts => uptoBulkAll parts + 1
  | .iface _ d => uptoBulk d + 1
  | .map entries => uptoBulkEntries entries + 1
  | .held _ => 1
def uptoBulkAll {H : Type} : List (DataW H) → Nat
  | [] => 0
  | d :: r => uptoBulk d + uptoBulkAll r
def uptoBulkEntries {H : Type} : List (Lit × DataW H) → Nat
  | [] => 0
  | x :: r => uptoBulkEntry x + uptoBulkEntries r
def uptoBulkEntry {H : Type} : Lit × DataW H → Nat
  | (.string bytes, d) => bytes.length + uptoBulk d + 1
  | (_, d) => uptoBulk d + 1
 end
def uptoSmall : (H : Type) → List (DataW H) → Bool := fun _ ds => decide (uptoBulkAll ds ≤ 1048576)
def OpenSpec.upto (s : _root_.Go.ChangeSpec) : _root_.Go.OpenSpec := { _root_.Go.OpenSpec.ofChange s with cond := some uptoSmall }

/-- 'abacuslaw2.ShapeAll', WHERE WHAT IT READS IS OF BULK AT MOST 1048576: true; the input reads as it did. -/
def shapeAllUptoRow : OpenClaim := { program := "ytdedbfbkakofgaa", sum := "9a9f4a03f8cca7035c76a3b86016cc1df6c7911b5965d73cf96bed99fe11d55d", func := "abacus/abacuslaw2.ShapeAll", spec := "shapeAll", unfollowed := true, recurses := true, apart := false, narrowed := true }
def ShapeAllUptoSaid : Prop := shapeAllUptoRow.holds Try.pinned (OpenSpec.upto shapeAllSpec)

/-- 'abacuslaw2.ShapeFresh', WHERE WHAT IT READS IS OF BULK AT MOST 1048576: true; the input reads as it did. -/
def shapeFreshUptoRow : OpenClaim := { program := "ytdedbfbkakofgaa", sum := "9a9f4a03f8cca7035c76a3b86016cc1df6c7911b5965d73cf96bed99fe11d55d", func := "abacus/abacuslaw2.ShapeFresh", spec := "shapeFresh", unfollowed := true, recurses := true, apart := false, narrowed := true }
def ShapeFreshUptoSaid : Prop := shapeFreshUptoRow.holds Try.pinned (OpenSpec.upto shapeFreshSpec)

/-- 'abacuslaw3.ArrAll', WHERE WHAT IT READS IS OF BULK AT MOST 1048576: true; the input reads as it did. -/
def arrAllUptoRow : OpenClaim := { program := "ytdedbfbkakofgaa", sum := "9a9f4a03f8cca7035c76a3b86016cc1df6c7911b5965d73cf96bed99fe11d55d", func := "abacus/abacuslaw3.ArrAll", spec := "arrAll", unfollowed := true, recurses := true, apart := false, narrowed := true }
def ArrAllUptoSaid : Prop := arrAllUptoRow.holds Try.pinned (OpenSpec.upto arrAllSpec)

/-- 'abacuslaw3.ArrFresh', WHERE WHAT IT READS IS OF BULK AT MOST 1048576: true; the input reads as it did. -/
def arrFreshUptoRow : OpenClaim := { program := "ytdedbfbkakofgaa", sum := "9a9f4a03f8cca7035c76a3b86016cc1df6c7911b5965d73cf96bed99fe11d55d", func := "abacus/abacuslaw3.ArrFresh", spec := "arrFresh", unfollowed := true, recurses := true, apart := false, narrowed := true }
def ArrFreshUptoSaid : Prop := arrFreshUptoRow.holds Try.pinned (OpenSpec.upto arrFreshSpec)

/-- 'abacuslaw5.AtomAll', WHERE WHAT IT READS IS OF BULK AT MOST 1048576: true; the input reads as it did. -/
def atomAllUptoRow : OpenClaim := { program := "ytdedbfbkakofgaa", sum := "9a9f4a03f8cca7035c76a3b86016cc1df6c7911b5965d73cf96bed99fe11d55d", func := "abacus/abacuslaw5.AtomAll", spec := "atomAll", unfollowed := true, recurses := true, named := ["math/bits.divideError", "math/bits.overflowError"], apart := false, narrowed := true }
def AtomAllUptoSaid : Prop := atomAllUptoRow.holds Try.pinned (OpenSpec.upto atomAllSpec)

/-- 'abacuslaw5.AtomLengths', WHERE WHAT IT READS IS OF BULK AT MOST 1048576: true; the input reads as it did. -/
def atomLengthsUptoRow : OpenClaim := { program := "ytdedbfbkakofgaa", sum := "9a9f4a03f8cca7035c76a3b86016cc1df6c7911b5965d73cf96bed99fe11d55d", func := "abacus/abacuslaw5.AtomLengths", spec := "atomLengths", unfollowed := true, recurses := true, named := ["math/bits.divideError", "math/bits.overflowError"], apart := false, narrowed := true }
def AtomLengthsUptoSaid : Prop := atomLengthsUptoRow.holds Try.pinned (OpenSpec.upto atomLengthsSpec)

/-- 'abacuslaw5.AtomFresh', WHERE WHAT IT READS IS OF BULK AT MOST 1048576: true; the input reads as it did. -/
def atomFreshUptoRow : OpenClaim := { program := "ytdedbfbkakofgaa", sum := "9a9f4a03f8cca7035c76a3b86016cc1df6c7911b5965d73cf96bed99fe11d55d", func := "abacus/abacuslaw5.AtomFresh", spec := "atomFresh", unfollowed := true, recurses := true, named := ["math/bits.divideError", "math/bits.overflowError"], apart := false, narrowed := true }
def AtomFreshUptoSaid : Prop := atomFreshUptoRow.holds Try.pinned (OpenSpec.upto atomFreshSpec)

/-- 'abacuslaw5.AtomBelow', WHERE WHAT IT READS IS OF BULK AT MOST 1048576: true; the input reads as it did. -/
def atomBelowUptoRow : OpenClaim := { program := "ytdedbfbkakofgaa", sum := "9a9f4a03f8cca7035c76a3b86016cc1df6c7911b5965d73cf96bed99fe11d55d", func := "abacus/abacuslaw5.AtomBelow", spec := "atomBelow", unfollowed := true, recurses := true, named := ["math/bits.divideError", "math/bits.overflowError"], apart := false, narrowed := true }
def AtomBelowUptoSaid : Prop := atomBelowUptoRow.holds Try.pinned (OpenSpec.upto atomBelowSpec)

end Rows
end Go.Proofs.Ytdedbfbkakofgaa
