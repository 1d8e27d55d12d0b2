/-
  No cell of these rows narrows 'for every input' (looked for: loops, veiled, ifaces, maps, wideKeys, modest, calm, conditions, laid).
  DERIVED. THE GIVEN ROWS OF THIS SEAT. 10 by the template 'for every input the law returns true; each argument reads behind the call as it read before'; 0 by the template 'total and deterministic' (their statements: YtdmlldghelpijaaTotals.lean).
  GIVEN WITH THE SEED: the statements are not yours to turn. If you find one false, say at which input.
  Laid BY PROGRAM, IN A SANDBOX (cutbox-rows.mjs): the forced cells as the released guide's own fill.sh prints them over the translation 6ee7f238d4c0c283… (all of the seat's roots in one cut). By AI agents, Wed Nov 11 2026. No macro, syntax, notation, axiom, sorry.
-/
import Derived.Test.YtdmlldghelpijaaChecked
import GoSem.Claim
import GoSem.ClaimJoined
import GoSem.ClaimMapViews
import Derived.JoinedTies
import Derived.KernelRfl
namespace Go.Proofs.Ytdmlldghelpijaa
/- THE CELL 'sum', in the pinned program and in every row, IS THE sha256 OF THE DUMP (.gsa) THAT YtdmlldghelpijaaProg.lean LOADS. Nothing in Lean hashes anything: it is a label: what it is worth is what the hold of that sum in a sandbox is worth. -/
noncomputable def Try.pinned : Pinned := { name := "ytdmlldghelpijaa", sum := "6ee7f238d4c0c2833399a87df8c96777f15876b40f0d8f552c89b43579bd9485", checked := Try.checked }
namespace Rows
def none {H : Type} : Left H := { results := [], args := [] }

/-- 'abacuslaw2.ShapeAll': WHATEVER THE INPUT: true; the input reads as it did. -/
def shapeAllSpec : ChangeSpec := { name := "shapeAll", fn := fun _ => fun
  | [d] => { results := [.lit (.bool true)], args := [d] }
  | _ => none }
def shapeAllRow : OpenClaim := { program := "ytdmlldghelpijaa", sum := "6ee7f238d4c0c2833399a87df8c96777f15876b40f0d8f552c89b43579bd9485", func := "abacus/abacuslaw2.ShapeAll", spec := "shapeAll", unfollowed := true, recurses := true, apart := false }
def ShapeAllSaid : Prop := shapeAllRow.holds Try.pinned (OpenSpec.ofChange shapeAllSpec)

/-- ITS FALSE NEIGHBOUR: 'it returns false'. Refute it at one input. -/
def shapeAllWrong : ChangeSpec := { name := "shapeAll", fn := fun _ => fun
  | [d] => { results := [.lit (.bool false)], args := [d] }
  | _ => none }
def ShapeAllWrongFalsely : Prop := shapeAllRow.holds Try.pinned (OpenSpec.ofChange shapeAllWrong)

/-- 'abacuslaw2.ShapeFresh': WHATEVER THE INPUT: true; the input reads as it did. -/
def shapeFreshSpec : ChangeSpec := { name := "shapeFresh", fn := fun _ => fun
  | [d] => { results := [.lit (.bool true)], args := [d] }
  | _ => none }
def shapeFreshRow : OpenClaim := { program := "ytdmlldghelpijaa", sum := "6ee7f238d4c0c2833399a87df8c96777f15876b40f0d8f552c89b43579bd9485", func := "abacus/abacuslaw2.ShapeFresh", spec := "shapeFresh", unfollowed := true, recurses := true, apart := false }
def ShapeFreshSaid : Prop := shapeFreshRow.holds Try.pinned (OpenSpec.ofChange shapeFreshSpec)

/-- ITS FALSE NEIGHBOUR: 'it returns false'. Refute it at one input. -/
def shapeFreshWrong : ChangeSpec := { name := "shapeFresh", fn := fun _ => fun
  | [d] => { results := [.lit (.bool false)], args := [d] }
  | _ => none }
def ShapeFreshWrongFalsely : Prop := shapeFreshRow.holds Try.pinned (OpenSpec.ofChange shapeFreshWrong)

/-- 'abacuslaw2.ShapeThere': WHATEVER THE INPUT: true; the input reads as it did. -/
def shapeThereSpec : ChangeSpec := { name := "shapeThere", fn := fun _ => fun
  | [d1, d2] => { results := [.lit (.bool true)], args := [d1, d2] }
  | _ => none }
def shapeThereRow : OpenClaim := { program := "ytdmlldghelpijaa", sum := "6ee7f238d4c0c2833399a87df8c96777f15876b40f0d8f552c89b43579bd9485", func := "abacus/abacuslaw2.ShapeThere", spec := "shapeThere", unfollowed := true, recurses := true, apart := false }
def ShapeThereSaid : Prop := shapeThereRow.holds Try.pinned (OpenSpec.ofChange shapeThereSpec)

/-- ITS FALSE NEIGHBOUR: 'it returns false'. Refute it at one input. -/
def shapeThereWrong : ChangeSpec := { name := "shapeThere", fn := fun _ => fun
  | [d1, d2] => { results := [.lit (.bool false)], args := [d1, d2] }
  | _ => none }
def ShapeThereWrongFalsely : Prop := shapeThereRow.holds Try.pinned (OpenSpec.ofChange shapeThereWrong)

/-- 'abacuslaw2.ShapeCuts': WHATEVER THE INPUT: true; the input reads as it did. -/
def shapeCutsSpec : ChangeSpec := { name := "shapeCuts", fn := fun _ => fun
  | [d1, d2, d3] => { results := [.lit (.bool true)], args := [d1, d2, d3] }
  | _ => none }
def shapeCutsRow : OpenClaim := { program := "ytdmlldghelpijaa", sum := "6ee7f238d4c0c2833399a87df8c96777f15876b40f0d8f552c89b43579bd9485", func := "abacus/abacuslaw2.ShapeCuts", spec := "shapeCuts", unfollowed := true, recurses := true, apart := false }
def ShapeCutsSaid : Prop := shapeCutsRow.holds Try.pinned (OpenSpec.ofChange shapeCutsSpec)

/-- ITS FALSE NEIGHBOUR: 'it returns false'. Refute it at one input. -/
def shapeCutsWrong : ChangeSpec := { name := "shapeCuts", fn := fun _ => fun
  | [d1, d2, d3] => { results := [.lit (.bool false)], args := [d1, d2, d3] }
  | _ => none }
def ShapeCutsWrongFalsely : Prop := shapeCutsRow.holds Try.pinned (OpenSpec.ofChange shapeCutsWrong)

/-- 'abacuslaw2.ShapeCovers': WHATEVER THE INPUT: true; the input reads as it did. -/
def shapeCoversSpec : ChangeSpec := { name := "shapeCovers", fn := fun _ => fun
  | [d] => { results := [.lit (.bool true)], args := [d] }
  | _ => none }
def shapeCoversRow : OpenClaim := { program := "ytdmlldghelpijaa", sum := "6ee7f238d4c0c2833399a87df8c96777f15876b40f0d8f552c89b43579bd9485", func := "abacus/abacuslaw2.ShapeCovers", spec := "shapeCovers", unfollowed := true, recurses := true, apart := false }
def ShapeCoversSaid : Prop := shapeCoversRow.holds Try.pinned (OpenSpec.ofChange shapeCoversSpec)

/-- ITS FALSE NEIGHBOUR: 'it returns false'. Refute it at one input. -/
def shapeCoversWrong : ChangeSpec := { name := "shapeCovers", fn := fun _ => fun
  | [d] => { results := [.lit (.bool false)], args := [d] }
  | _ => none }
def ShapeCoversWrongFalsely : Prop := shapeCoversRow.holds Try.pinned (OpenSpec.ofChange shapeCoversWrong)

/-- 'abacuslaw3.ArrItems': WHATEVER THE INPUT: true; the input reads as it did. -/
def arrItemsSpec : ChangeSpec := { name := "arrItems", fn := fun _ => fun
  | [d] => { results := [.lit (.bool true)], args := [d] }
  | _ => none }
def arrItemsRow : OpenClaim := { program := "ytdmlldghelpijaa", sum := "6ee7f238d4c0c2833399a87df8c96777f15876b40f0d8f552c89b43579bd9485", func := "abacus/abacuslaw3.ArrItems", spec := "arrItems", unfollowed := true, recurses := true, apart := false }
def ArrItemsSaid : Prop := arrItemsRow.holds Try.pinned (OpenSpec.ofChange arrItemsSpec)

/-- ITS FALSE NEIGHBOUR: 'it returns false'. Refute it at one input. -/
def arrItemsWrong : ChangeSpec := { name := "arrItems", fn := fun _ => fun
  | [d] => { results := [.lit (.bool false)], args := [d] }
  | _ => none }
def ArrItemsWrongFalsely : Prop := arrItemsRow.holds Try.pinned (OpenSpec.ofChange arrItemsWrong)

/-- 'abacuslaw3.ArrOrder': WHATEVER THE INPUT: true; the input reads as it did. -/
def arrOrderSpec : ChangeSpec := { name := "arrOrder", fn := fun _ => fun
  | [d1, d2, d3] => { results := [.lit (.bool true)], args := [d1, d2, d3] }
  | _ => none }
def arrOrderRow : OpenClaim := { program := "ytdmlldghelpijaa", sum := "6ee7f238d4c0c2833399a87df8c96777f15876b40f0d8f552c89b43579bd9485", func := "abacus/abacuslaw3.ArrOrder", spec := "arrOrder", unfollowed := true, recurses := true, apart := false }
def ArrOrderSaid : Prop := arrOrderRow.holds Try.pinned (OpenSpec.ofChange arrOrderSpec)

/-- ITS FALSE NEIGHBOUR: 'it returns false'. Refute it at one input. -/
def arrOrderWrong : ChangeSpec := { name := "arrOrder", fn := fun _ => fun
  | [d1, d2, d3] => { results := [.lit (.bool false)], args := [d1, d2, d3] }
  | _ => none }
def ArrOrderWrongFalsely : Prop := arrOrderRow.holds Try.pinned (OpenSpec.ofChange arrOrderWrong)

/-- 'abacuslaw3.ArrAll': WHATEVER THE INPUT: true; the input reads as it did. -/
def arrAllSpec : ChangeSpec := { name := "arrAll", fn := fun _ => fun
  | [d] => { results := [.lit (.bool true)], args := [d] }
  | _ => none }
def arrAllRow : OpenClaim := { program := "ytdmlldghelpijaa", sum := "6ee7f238d4c0c2833399a87df8c96777f15876b40f0d8f552c89b43579bd9485", func := "abacus/abacuslaw3.ArrAll", spec := "arrAll", unfollowed := true, recurses := true, apart := false }
def ArrAllSaid : Prop := arrAllRow.holds Try.pinned (OpenSpec.ofChange arrAllSpec)

/-- ITS FALSE NEIGHBOUR: 'it returns false'. Refute it at one input. -/
def arrAllWrong : ChangeSpec := { name := "arrAll", fn := fun _ => fun
  | [d] => { results := [.lit (.bool false)], args := [d] }
  | _ => none }
def ArrAllWrongFalsely : Prop := arrAllRow.holds Try.pinned (OpenSpec.ofChange arrAllWrong)

/-- 'abacuslaw3.ArrMade': WHATEVER THE INPUT: true; the input reads as it did. -/
def arrMadeSpec : ChangeSpec := { name := "arrMade", fn := fun _ => fun
  | [d1, d2, d3] => { results := [.lit (.bool true)], args := [d1, d2, d3] }
  | _ => none }
def arrMadeRow : OpenClaim := { program := "ytdmlldghelpijaa", sum := "6ee7f238d4c0c2833399a87df8c96777f15876b40f0d8f552c89b43579bd9485", func := "abacus/abacuslaw3.ArrMade", spec := "arrMade", unfollowed := true, recurses := true, apart := false }
def ArrMadeSaid : Prop := arrMadeRow.holds Try.pinned (OpenSpec.ofChange arrMadeSpec)

/-- ITS FALSE NEIGHBOUR: 'it returns false'. Refute it at one input. -/
def arrMadeWrong : ChangeSpec := { name := "arrMade", fn := fun _ => fun
  | [d1, d2, d3] => { results := [.lit (.bool false)], args := [d1, d2, d3] }
  | _ => none }
def ArrMadeWrongFalsely : Prop := arrMadeRow.holds Try.pinned (OpenSpec.ofChange arrMadeWrong)

/-- 'abacuslaw3.ArrFresh': WHATEVER THE INPUT: true; the input reads as it did. -/
def arrFreshSpec : ChangeSpec := { name := "arrFresh", fn := fun _ => fun
  | [d] => { results := [.lit (.bool true)], args := [d] }
  | _ => none }
def arrFreshRow : OpenClaim := { program := "ytdmlldghelpijaa", sum := "6ee7f238d4c0c2833399a87df8c96777f15876b40f0d8f552c89b43579bd9485", func := "abacus/abacuslaw3.ArrFresh", spec := "arrFresh", unfollowed := true, recurses := true, apart := false }
def ArrFreshSaid : Prop := arrFreshRow.holds Try.pinned (OpenSpec.ofChange arrFreshSpec)

/-- ITS FALSE NEIGHBOUR: 'it returns false'. Refute it at one input. -/
def arrFreshWrong : ChangeSpec := { name := "arrFresh", fn := fun _ => fun
  | [d] => { results := [.lit (.bool false)], args := [d] }
  | _ => none }
def ArrFreshWrongFalsely : Prop := arrFreshRow.holds Try.pinned (OpenSpec.ofChange arrFreshWrong)

/- THE SECOND FORM. 'bulk': how many values and letters a reading holds, each counted each time it is reached (what is shared counts as often as it is met; a slice's spare places count too). A statement '..UptoSaid' is the law's where the arguments, and the package variables that the reading takes, are together of bulk at most 1048576: NARROWER than '..Said'. Prove '..Said' where nothing that the law and all that it calls make is longer than what came in: it says more and counts as full. Else prove '..UptoSaid'. A law counts once. -/
mutual
def uptoBulk {H : Type} : DataW H → Nat
  | .lit (.string bytes) => bytes.length + 1
  | .lit _ => 1
  | .nil => 1
  | .ptr d => uptoBulk d + 1
  | .slice elems spare => uptoBulkAll elems + uptoBulkAll spare + 1
  | .agg parts => uptoBulkAll parts + 1
  | .iface _ d => uptoBulk d + 1
  | .map entries => uptoBulkEntries entries + 1
  | .held _ => 1
def uptoBulkAll {H : Type} : List (DataW H) → Nat
  | [] => 0
  | d :: r => uptoBulk d + uptoBulkAll r
def uptoBulkEntries {H : Type} : List (Lit × DataW H) → Nat
  | [] => 0
  | x :: r => uptoBulkEntry x + uptoBulkEntries r
def uptoBulkEntry {H : Type} : Lit × DataW H → Nat
  | (.string bytes, d) => bytes.length + uptoBulk d + 1
  | (_, d) => uptoBulk d + 1
 end
def uptoSmall : (H : Type) → List (DataW H) → Bool := fun _ ds => decide (uptoBulkAll ds ≤ 1048576)
def OpenSpec.upto (s : _root_.Go.ChangeSpec) : _root_.Go.OpenSpec := { _root_.Go.OpenSpec.ofChange s with cond := some uptoSmall }

/-- 'abacuslaw2.ShapeAll', WHERE WHAT IT READS IS OF BULK AT MOST 1048576: true; the input reads as it did. -/
def shapeAllUptoRow : OpenClaim := { program := "ytdmlldghelpijaa", sum := "6ee7f238d4c0c2833399a87df8c96777f15876b40f0d8f552c89b43579bd9485", func := "abacus/abacuslaw2.ShapeAll", spec := "shapeAll", unfollowed := true, recurses := true, apart := false, narrowed := true }
def ShapeAllUptoSaid : Prop := shapeAllUptoRow.holds Try.pinned (OpenSpec.upto shapeAllSpec)

/-- 'abacuslaw2.ShapeFresh', WHERE WHAT IT READS IS OF BULK AT MOST 1048576: true; the input reads as it did. -/
def shapeFreshUptoRow : OpenClaim := { program := "ytdmlldghelpijaa", sum := "6ee7f238d4c0c2833399a87df8c96777f15876b40f0d8f552c89b43579bd9485", func := "abacus/abacuslaw2.ShapeFresh", spec := "shapeFresh", unfollowed := true, recurses := true, apart := false, narrowed := true }
def ShapeFreshUptoSaid : Prop := shapeFreshUptoRow.holds Try.pinned (OpenSpec.upto shapeFreshSpec)

/-- 'abacuslaw2.ShapeThere', WHERE WHAT IT READS IS OF BULK AT MOST 1048576: true; the input reads as it did. -/
def shapeThereUptoRow : OpenClaim := { program := "ytdmlldghelpijaa", sum := "6ee7f238d4c0c2833399a87df8c96777f15876b40f0d8f552c89b43579bd9485", func := "abacus/abacuslaw2.ShapeThere", spec := "shapeThere", unfollowed := true, recurses := true, apart := false, narrowed := true }
def ShapeThereUptoSaid : Prop := shapeThereUptoRow.holds Try.pinned (OpenSpec.upto shapeThereSpec)

/-- 'abacuslaw2.ShapeCuts', WHERE WHAT IT READS IS OF BULK AT MOST 1048576: true; the input reads as it did. -/
def shapeCutsUptoRow : OpenClaim := { program := "ytdmlldghelpijaa", sum := "6ee7f238d4c0c2833399a87df8c96777f15876b40f0d8f552c89b43579bd9485", func := "abacus/abacuslaw2.ShapeCuts", spec := "shapeCuts", unfollowed := true, recurses := true, apart := false, narrowed := true }
def ShapeCutsUptoSaid : Prop := shapeCutsUptoRow.holds Try.pinned (OpenSpec.upto shapeCutsSpec)

/-- 'abacuslaw2.ShapeCovers', WHERE WHAT IT READS IS OF BULK AT MOST 1048576: true; the input reads as it did. -/
def shapeCoversUptoRow : OpenClaim := { program := "ytdmlldghelpijaa", sum := "6ee7f238d4c0c2833399a87df8c96777f15876b40f0d8f552c89b43579bd9485", func := "abacus/abacuslaw2.ShapeCovers", spec := "shapeCovers", unfollowed := true, recurses := true, apart := false, narrowed := true }
def ShapeCoversUptoSaid : Prop := shapeCoversUptoRow.holds Try.pinned (OpenSpec.upto shapeCoversSpec)

/-- 'abacuslaw3.ArrItems', WHERE WHAT IT READS IS OF BULK AT MOST 1048576: true; the input reads as it did. -/
def arrItemsUptoRow : OpenClaim := { program := "ytdmlldghelpijaa", sum := "6ee7f238d4c0c2833399a87df8c96777f15876b40f0d8f552c89b43579bd9485", func := "abacus/abacuslaw3.ArrItems", spec := "arrItems", unfollowed := true, recurses := true, apart := false, narrowed := true }
def ArrItemsUptoSaid : Prop := arrItemsUptoRow.holds Try.pinned (OpenSpec.upto arrItemsSpec)

/-- 'abacuslaw3.ArrOrder', WHERE WHAT IT READS IS OF BULK AT MOST 1048576: true; the input reads as it did. -/
def arrOrderUptoRow : OpenClaim := { program := "ytdmlldghelpijaa", sum := "6ee7f238d4c0c2833399a87df8c96777f15876b40f0d8f552c89b43579bd9485", func := "abacus/abacuslaw3.ArrOrder", spec := "arrOrder", unfollowed := true, recurses := true, apart := false, narrowed := true }
def ArrOrderUptoSaid : Prop := arrOrderUptoRow.holds Try.pinned (OpenSpec.upto arrOrderSpec)

/-- 'abacuslaw3.ArrAll', WHERE WHAT IT READS IS OF BULK AT MOST 1048576: true; the input reads as it did. -/
def arrAllUptoRow : OpenClaim := { program := "ytdmlldghelpijaa", sum := "6ee7f238d4c0c2833399a87df8c96777f15876b40f0d8f552c89b43579bd9485", func := "abacus/abacuslaw3.ArrAll", spec := "arrAll", unfollowed := true, recurses := true, apart := false, narrowed := true }
def ArrAllUptoSaid : Prop := arrAllUptoRow.holds Try.pinned (OpenSpec.upto arrAllSpec)

/-- 'abacuslaw3.ArrMade', WHERE WHAT IT READS IS OF BULK AT MOST 1048576: true; the input reads as it did. -/
def arrMadeUptoRow : OpenClaim := { program := "ytdmlldghelpijaa", sum := "6ee7f238d4c0c2833399a87df8c96777f15876b40f0d8f552c89b43579bd9485", func := "abacus/abacuslaw3.ArrMade", spec := "arrMade", unfollowed := true, recurses := true, apart := false, narrowed := true }
def ArrMadeUptoSaid : Prop := arrMadeUptoRow.holds Try.pinned (OpenSpec.upto arrMadeSpec)

/-- 'abacuslaw3.ArrFresh', WHERE WHAT IT READS IS OF BULK AT MOST 1048576: true; the input reads as it did. -/
def arrFreshUptoRow : OpenClaim := { program := "ytdmlldghelpijaa", sum := "6ee7f238d4c0c2833399a87df8c96777f15876b40f0d8f552c89b43579bd9485", func := "abacus/abacuslaw3.ArrFresh", spec := "arrFresh", unfollowed := true, recurses := true, apart := false, narrowed := true }
def ArrFreshUptoSaid : Prop := arrFreshUptoRow.holds Try.pinned (OpenSpec.upto arrFreshSpec)

end Rows
end Go.Proofs.Ytdmlldghelpijaa
