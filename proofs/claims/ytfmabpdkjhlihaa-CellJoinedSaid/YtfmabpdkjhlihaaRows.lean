/-
  No cell of these rows narrows 'for every input' (looked for: loops, veiled, ifaces, maps, wideKeys, modest, calm, conditions, laid).
  DERIVED. THE GIVEN ROWS OF THIS SEAT. 6 by the template 'for every input the law returns true; each argument reads behind the call as it read before'; 0 by the template 'total and deterministic' (their statements: YtfmabpdkjhlihaaTotals.lean).
  GIVEN WITH THE SEED: the statements are not yours to turn. If you find one false, say at which input.
  Laid BY PROGRAM, IN A SANDBOX (cutbox-rows.mjs): the forced cells as the released guide's own fill.sh prints them over the translation 0bcbdfa04d25c037… (all of the seat's roots in one cut). By AI agents, Wed Nov 11 2026. No macro, syntax, notation, axiom, sorry.
-/
import Derived.Test.YtfmabpdkjhlihaaChecked
import GoSem.Claim
import GoSem.ClaimJoined
import GoSem.ClaimMapViews
import Derived.JoinedTies
import Derived.KernelRfl
namespace Go.Proofs.Ytfmabpdkjhlihaa
/- THE CELL 'sum', in the pinned program and in every row, IS THE sha256 OF THE DUMP (.gsa) THAT YtfmabpdkjhlihaaProg.lean LOADS. Nothing in Lean hashes anything: it is a label: what it is worth is what the hold of that sum in a sandbox is worth. -/
noncomputable def Try.pinned : Pinned := { name := "ytfmabpdkjhlihaa", sum := "0bcbdfa04d25c037c28eac920e087f66b81041482ab030682216bd3ff2862451", checked := Try.checked }
namespace Rows
def none {H : Type} : Left H := { results := [], args := [] }

/-- 'abacuslaw4.CellBack': WHATEVER THE INPUT: true; the input reads as it did. -/
def cellBackSpec : ChangeSpec := { name := "cellBack", fn := fun _ => fun
  | [d1, d2] => { results := [.lit (.bool true)], args := [d1, d2] }
  | _ => none }
def cellBackRow : OpenClaim := { program := "ytfmabpdkjhlihaa", sum := "0bcbdfa04d25c037c28eac920e087f66b81041482ab030682216bd3ff2862451", func := "abacus/abacuslaw4.CellBack", spec := "cellBack", unfollowed := true, recurses := true, apart := false }
def CellBackSaid : Prop := cellBackRow.holds Try.pinned (OpenSpec.ofChange cellBackSpec)

/-- ITS FALSE NEIGHBOUR: 'it returns false'. Refute it at one input. -/
def cellBackWrong : ChangeSpec := { name := "cellBack", fn := fun _ => fun
  | [d1, d2] => { results := [.lit (.bool false)], args := [d1, d2] }
  | _ => none }
def CellBackWrongFalsely : Prop := cellBackRow.holds Try.pinned (OpenSpec.ofChange cellBackWrong)

/-- 'abacuslaw4.CellParts': WHATEVER THE INPUT: true; the input reads as it did. -/
def cellPartsSpec : ChangeSpec := { name := "cellParts", fn := fun _ => fun
  | [d1, d2, d3, d4] => { results := [.lit (.bool true)], args := [d1, d2, d3, d4] }
  | _ => none }
def cellPartsRow : OpenClaim := { program := "ytfmabpdkjhlihaa", sum := "0bcbdfa04d25c037c28eac920e087f66b81041482ab030682216bd3ff2862451", func := "abacus/abacuslaw4.CellParts", spec := "cellParts", unfollowed := true, recurses := true, apart := false }
def CellPartsSaid : Prop := cellPartsRow.holds Try.pinned (OpenSpec.ofChange cellPartsSpec)

/-- ITS FALSE NEIGHBOUR: 'it returns false'. Refute it at one input. -/
def cellPartsWrong : ChangeSpec := { name := "cellParts", fn := fun _ => fun
  | [d1, d2, d3, d4] => { results := [.lit (.bool false)], args := [d1, d2, d3, d4] }
  | _ => none }
def CellPartsWrongFalsely : Prop := cellPartsRow.holds Try.pinned (OpenSpec.ofChange cellPartsWrong)

/-- 'abacuslaw4.CellJoined': WHATEVER THE INPUT: true; the input reads as it did. -/
def cellJoinedSpec : ChangeSpec := { name := "cellJoined", fn := fun _ => fun
  | [d1, d2] => { results := [.lit (.bool true)], args := [d1, d2] }
  | _ => none }
def cellJoinedRow : OpenClaim := { program := "ytfmabpdkjhlihaa", sum := "0bcbdfa04d25c037c28eac920e087f66b81041482ab030682216bd3ff2862451", func := "abacus/abacuslaw4.CellJoined", spec := "cellJoined", unfollowed := true, recurses := true, apart := false }
def CellJoinedSaid : Prop := cellJoinedRow.holds Try.pinned (OpenSpec.ofChange cellJoinedSpec)

/-- ITS FALSE NEIGHBOUR: 'it returns false'. Refute it at one input. -/
def cellJoinedWrong : ChangeSpec := { name := "cellJoined", fn := fun _ => fun
  | [d1, d2] => { results := [.lit (.bool false)], args := [d1, d2] }
  | _ => none }
def CellJoinedWrongFalsely : Prop := cellJoinedRow.holds Try.pinned (OpenSpec.ofChange cellJoinedWrong)

/-- 'abacuslaw4.CellAll': WHATEVER THE INPUT: true; the input reads as it did. -/
def cellAllSpec : ChangeSpec := { name := "cellAll", fn := fun _ => fun
  | [d] => { results := [.lit (.bool true)], args := [d] }
  | _ => none }
def cellAllRow : OpenClaim := { program := "ytfmabpdkjhlihaa", sum := "0bcbdfa04d25c037c28eac920e087f66b81041482ab030682216bd3ff2862451", func := "abacus/abacuslaw4.CellAll", spec := "cellAll", unfollowed := true, recurses := true, apart := false }
def CellAllSaid : Prop := cellAllRow.holds Try.pinned (OpenSpec.ofChange cellAllSpec)

/-- ITS FALSE NEIGHBOUR: 'it returns false'. Refute it at one input. -/
def cellAllWrong : ChangeSpec := { name := "cellAll", fn := fun _ => fun
  | [d] => { results := [.lit (.bool false)], args := [d] }
  | _ => none }
def CellAllWrongFalsely : Prop := cellAllRow.holds Try.pinned (OpenSpec.ofChange cellAllWrong)

/-- 'abacuslaw4.CellFresh': WHATEVER THE INPUT: true; the input reads as it did. -/
def cellFreshSpec : ChangeSpec := { name := "cellFresh", fn := fun _ => fun
  | [d] => { results := [.lit (.bool true)], args := [d] }
  | _ => none }
def cellFreshRow : OpenClaim := { program := "ytfmabpdkjhlihaa", sum := "0bcbdfa04d25c037c28eac920e087f66b81041482ab030682216bd3ff2862451", func := "abacus/abacuslaw4.CellFresh", spec := "cellFresh", unfollowed := true, recurses := true, apart := false }
def CellFreshSaid : Prop := cellFreshRow.holds Try.pinned (OpenSpec.ofChange cellFreshSpec)

/-- ITS FALSE NEIGHBOUR: 'it returns false'. Refute it at one input. -/
def cellFreshWrong : ChangeSpec := { name := "cellFresh", fn := fun _ => fun
  | [d] => { results := [.lit (.bool false)], args := [d] }
  | _ => none }
def CellFreshWrongFalsely : Prop := cellFreshRow.holds Try.pinned (OpenSpec.ofChange cellFreshWrong)

/-- 'abacuslaw4.CellPairs': WHATEVER THE INPUT: true; the input reads as it did. -/
def cellPairsSpec : ChangeSpec := { name := "cellPairs", fn := fun _ => fun
  | [d1, d2, d3, d4] => { results := [.lit (.bool true)], args := [d1, d2, d3, d4] }
  | _ => none }
def cellPairsRow : OpenClaim := { program := "ytfmabpdkjhlihaa", sum := "0bcbdfa04d25c037c28eac920e087f66b81041482ab030682216bd3ff2862451", func := "abacus/abacuslaw4.CellPairs", spec := "cellPairs", unfollowed := true, recurses := true, apart := false }
def CellPairsSaid : Prop := cellPairsRow.holds Try.pinned (OpenSpec.ofChange cellPairsSpec)

/-- ITS FALSE NEIGHBOUR: 'it returns false'. Refute it at one input. -/
def cellPairsWrong : ChangeSpec := { name := "cellPairs", fn := fun _ => fun
  | [d1, d2, d3, d4] => { results := [.lit (.bool false)], args := [d1, d2, d3, d4] }
  | _ => none }
def CellPairsWrongFalsely : Prop := cellPairsRow.holds Try.pinned (OpenSpec.ofChange cellPairsWrong)

/- THE SECOND FORM. 'bulk': how many values and letters a reading holds, each counted each time it is reached (what is shared counts as often as it is met; a slice's spare places count too). A statement '..UptoSaid' is the law's where the arguments, and the package variables that the reading takes, are together of bulk at most 1048576: NARROWER than '..Said'. Prove '..Said' where nothing that the law and all that it calls make is longer than what came in: it says more and counts as full. Else prove '..UptoSaid'. A law counts once. -/
mutual
def uptoBulk {H : Type} : DataW H → Nat
  | .lit (.string bytes) => bytes.length + 1
  | .lit _ => 1
  | .nil => 1
  | .ptr d => uptoBulk d + 1
  | .slice elems spare => uptoBulkAll elems + uptoBulkAll spare + 1
  | .agg parts => uptoBulkAll parts + 1
  | .iface _ d => uptoBulk d + 1
  | .map entries => uptoBulkEntries entries + 1
  | .held _ => 1
def uptoBulkAll {H : Type} : List (DataW H) → Nat
  | [] => 0
  | d :: r => uptoBulk d + uptoBulkAll r
def uptoBulkEntries {H : Type} : List (Lit × DataW H) → Nat
  | [] => 0
  | x :: r => uptoBulkEntry x + uptoBulkEntries r
def uptoBulkEntry {H : Type} : Lit × DataW H → Nat
  | (.string bytes, d) => bytes.length + uptoBulk d + 1
  | (_, d) => uptoBulk d + 1
 end
def uptoSmall : (H : Type) → List (DataW H) → Bool := fun _ ds => decide (uptoBulkAll ds ≤ 1048576)
def OpenSpec.upto (s : _root_.Go.ChangeSpec) : _root_.Go.OpenSpec := { _root_.Go.OpenSpec.ofChange s with cond := some uptoSmall }

/-- 'abacuslaw4.CellBack', WHERE WHAT IT READS IS OF BULK AT MOST 1048576: true; the input reads as it did. -/
def cellBackUptoRow : OpenClaim := { program := "ytfmabpdkjhlihaa", sum := "0bcbdfa04d25c037c28eac920e087f66b81041482ab030682216bd3ff2862451", func := "abacus/abacuslaw4.CellBack", spec := "cellBack", unfollowed := true, recurses := true, apart := false, narrowed := true }
def CellBackUptoSaid : Prop := cellBackUptoRow.holds Try.pinned (OpenSpec.upto cellBackSpec)

/-- 'abacuslaw4.CellParts', WHERE WHAT IT READS IS OF BULK AT MOST 1048576: true; the input reads as it did. -/
def cellPartsUptoRow : OpenClaim := { program := "ytfmabpdkjhlihaa", sum := "0bcbdfa04d25c037c28eac920e087f66b81041482ab030682216bd3ff2862451", func := "abacus/abacuslaw4.CellParts", spec := "cellParts", unfollowed := true, recurses := true, apart := false, narrowed := true }
def CellPartsUptoSaid : Prop := cellPartsUptoRow.holds Try.pinned (OpenSpec.upto cellPartsSpec)

/-- 'abacuslaw4.CellJoined', WHERE WHAT IT READS IS OF BULK AT MOST 1048576: true; the input reads as it did. -/
def cellJoinedUptoRow : OpenClaim := { program := "ytfmabpdkjhlihaa", sum := "0bcbdfa04d25c037c28eac920e087f66b81041482ab030682216bd3ff2862451", func := "abacus/abacuslaw4.CellJoined", spec := "cellJoined", unfollowed := true, recurses := true, apart := false, narrowed := true }
def CellJoinedUptoSaid : Prop := cellJoinedUptoRow.holds Try.pinned (OpenSpec.upto cellJoinedSpec)

/-- 'abacuslaw4.CellAll', WHERE WHAT IT READS IS OF BULK AT MOST 1048576: true; the input reads as it did. -/
def cellAllUptoRow : OpenClaim := { program := "ytfmabpdkjhlihaa", sum := "0bcbdfa04d25c037c28eac920e087f66b81041482ab030682216bd3ff2862451", func := "abacus/abacuslaw4.CellAll", spec := "cellAll", unfollowed := true, recurses := true, apart := false, narrowed := true }
def CellAllUptoSaid : Prop := cellAllUptoRow.holds Try.pinned (OpenSpec.upto cellAllSpec)

/-- 'abacuslaw4.CellFresh', WHERE WHAT IT READS IS OF BULK AT MOST 1048576: true; the input reads as it did. -/
def cellFreshUptoRow : OpenClaim := { program := "ytfmabpdkjhlihaa", sum := "0bcbdfa04d25c037c28eac920e087f66b81041482ab030682216bd3ff2862451", func := "abacus/abacuslaw4.CellFresh", spec := "cellFresh", unfollowed := true, recurses := true, apart := false, narrowed := true }
def CellFreshUptoSaid : Prop := cellFreshUptoRow.holds Try.pinned (OpenSpec.upto cellFreshSpec)

/-- 'abacuslaw4.CellPairs', WHERE WHAT IT READS IS OF BULK AT MOST 1048576: true; the input reads as it did. -/
def cellPairsUptoRow : OpenClaim := { program := "ytfmabpdkjhlihaa", sum := "0bcbdfa04d25c037c28eac920e087f66b81041482ab030682216bd3ff2862451", func := "abacus/abacuslaw4.CellPairs", spec := "cellPairs", unfollowed := true, recurses := true, apart := false, narrowed := true }
def CellPairsUptoSaid : Prop := cellPairsUptoRow.holds Try.pinned (OpenSpec.upto cellPairsSpec)

end Rows
end Go.Proofs.Ytfmabpdkjhlihaa
