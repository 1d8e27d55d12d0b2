/-
  No cell of these rows narrows 'for every input' (looked for: loops, veiled, ifaces, maps, wideKeys, modest, calm, conditions, laid).
  DERIVED. THE GIVEN ROWS OF THIS SEAT. 8 by the template 'for every input the law returns true; each argument reads behind the call as it read before'; 0 by the template 'total and deterministic' (their statements: YthackmkdicpdeaaGreatTotals.lean).
  GIVEN WITH THE SEED: the statements are not yours to turn. If you find one false, say at which input.
  Laid BY PROGRAM, IN A SANDBOX (cutbox-rows.mjs): the forced cells as the released guide's own fill.sh prints them over the translation 5b27bd90d92e0ea7… (all of the seat's roots in one cut). By AI agents, Wed Nov 11 2026. No macro, syntax, notation, axiom, sorry.
-/
import Derived.Test.YthackmkdicpdeaaGreatChecked
import GoSem.Claim
import GoSem.ClaimJoined
import GoSem.ClaimMapViews
import Derived.JoinedTies
import Derived.KernelRfl
namespace Go.Proofs.YthackmkdicpdeaaGreat
/- THE CELL 'sum', in the pinned program and in every row, IS THE sha256 OF THE DUMP (.gsa) THAT YthackmkdicpdeaaGreatProg.lean LOADS. Nothing in Lean hashes anything: it is a label: what it is worth is what the hold of that sum in a sandbox is worth. -/
noncomputable def Tryz.pinned : Pinned := { name := "ythackmkdicpdeaagreat", sum := "5b27bd90d92e0ea7a6c759da86829dd35f226dccaea270642bf7a26d68cfa218", checked := Tryz.checked }
namespace Rows
def none {H : Type} : Left H := { results := [], args := [] }

/-- 'abacuslaw6.MoldAll': WHATEVER THE INPUT: true; the input reads as it did. -/
def moldAllSpec : ChangeSpec := { name := "moldAll", fn := fun _ => fun
  | [d] => { results := [.lit (.bool true)], args := [d] }
  | _ => none }
def moldAllRow : OpenClaim := { program := "ythackmkdicpdeaagreat", sum := "5b27bd90d92e0ea7a6c759da86829dd35f226dccaea270642bf7a26d68cfa218", func := "abacus/abacuslaw6.MoldAll", spec := "moldAll", unfollowed := true, recurses := true, apart := false }
def MoldAllSaid : Prop := moldAllRow.holds Tryz.pinned (OpenSpec.ofChange moldAllSpec)

/-- ITS FALSE NEIGHBOUR: 'it returns false'. Refute it at one input. -/
def moldAllWrong : ChangeSpec := { name := "moldAll", fn := fun _ => fun
  | [d] => { results := [.lit (.bool false)], args := [d] }
  | _ => none }
def MoldAllWrongFalsely : Prop := moldAllRow.holds Tryz.pinned (OpenSpec.ofChange moldAllWrong)

/-- 'abacuslaw6.MoldFresh': WHATEVER THE INPUT: true; the input reads as it did. -/
def moldFreshSpec : ChangeSpec := { name := "moldFresh", fn := fun _ => fun
  | [d] => { results := [.lit (.bool true)], args := [d] }
  | _ => none }
def moldFreshRow : OpenClaim := { program := "ythackmkdicpdeaagreat", sum := "5b27bd90d92e0ea7a6c759da86829dd35f226dccaea270642bf7a26d68cfa218", func := "abacus/abacuslaw6.MoldFresh", spec := "moldFresh", unfollowed := true, recurses := true, apart := false }
def MoldFreshSaid : Prop := moldFreshRow.holds Tryz.pinned (OpenSpec.ofChange moldFreshSpec)

/-- ITS FALSE NEIGHBOUR: 'it returns false'. Refute it at one input. -/
def moldFreshWrong : ChangeSpec := { name := "moldFresh", fn := fun _ => fun
  | [d] => { results := [.lit (.bool false)], args := [d] }
  | _ => none }
def MoldFreshWrongFalsely : Prop := moldFreshRow.holds Tryz.pinned (OpenSpec.ofChange moldFreshWrong)

/-- 'abacuslaw6.MoldBack': WHATEVER THE INPUT: true; the input reads as it did. -/
def moldBackSpec : ChangeSpec := { name := "moldBack", fn := fun _ => fun
  | [d] => { results := [.lit (.bool true)], args := [d] }
  | _ => none }
def moldBackRow : OpenClaim := { program := "ythackmkdicpdeaagreat", sum := "5b27bd90d92e0ea7a6c759da86829dd35f226dccaea270642bf7a26d68cfa218", func := "abacus/abacuslaw6.MoldBack", spec := "moldBack", unfollowed := true, recurses := true, apart := false }
def MoldBackSaid : Prop := moldBackRow.holds Tryz.pinned (OpenSpec.ofChange moldBackSpec)

/-- ITS FALSE NEIGHBOUR: 'it returns false'. Refute it at one input. -/
def moldBackWrong : ChangeSpec := { name := "moldBack", fn := fun _ => fun
  | [d] => { results := [.lit (.bool false)], args := [d] }
  | _ => none }
def MoldBackWrongFalsely : Prop := moldBackRow.holds Tryz.pinned (OpenSpec.ofChange moldBackWrong)

/-- 'abacuslaw6.MoldEnds': WHATEVER THE INPUT: true; the input reads as it did. -/
def moldEndsSpec : ChangeSpec := { name := "moldEnds", fn := fun _ => fun
  | [d] => { results := [.lit (.bool true)], args := [d] }
  | _ => none }
def moldEndsRow : OpenClaim := { program := "ythackmkdicpdeaagreat", sum := "5b27bd90d92e0ea7a6c759da86829dd35f226dccaea270642bf7a26d68cfa218", func := "abacus/abacuslaw6.MoldEnds", spec := "moldEnds", unfollowed := true, recurses := true, apart := false }
def MoldEndsSaid : Prop := moldEndsRow.holds Tryz.pinned (OpenSpec.ofChange moldEndsSpec)

/-- ITS FALSE NEIGHBOUR: 'it returns false'. Refute it at one input. -/
def moldEndsWrong : ChangeSpec := { name := "moldEnds", fn := fun _ => fun
  | [d] => { results := [.lit (.bool false)], args := [d] }
  | _ => none }
def MoldEndsWrongFalsely : Prop := moldEndsRow.holds Tryz.pinned (OpenSpec.ofChange moldEndsWrong)

/-- 'abacuslaw6.MoldCuts': WHATEVER THE INPUT: true; the input reads as it did. -/
def moldCutsSpec : ChangeSpec := { name := "moldCuts", fn := fun _ => fun
  | [d1, d2] => { results := [.lit (.bool true)], args := [d1, d2] }
  | _ => none }
def moldCutsRow : OpenClaim := { program := "ythackmkdicpdeaagreat", sum := "5b27bd90d92e0ea7a6c759da86829dd35f226dccaea270642bf7a26d68cfa218", func := "abacus/abacuslaw6.MoldCuts", spec := "moldCuts", unfollowed := true, recurses := true, apart := false }
def MoldCutsSaid : Prop := moldCutsRow.holds Tryz.pinned (OpenSpec.ofChange moldCutsSpec)

/-- ITS FALSE NEIGHBOUR: 'it returns false'. Refute it at one input. -/
def moldCutsWrong : ChangeSpec := { name := "moldCuts", fn := fun _ => fun
  | [d1, d2] => { results := [.lit (.bool false)], args := [d1, d2] }
  | _ => none }
def MoldCutsWrongFalsely : Prop := moldCutsRow.holds Tryz.pinned (OpenSpec.ofChange moldCutsWrong)

/-- 'abacuslaw6.MoldRounds': WHATEVER THE INPUT: true; the input reads as it did. -/
def moldRoundsSpec : ChangeSpec := { name := "moldRounds", fn := fun _ => fun
  | [d1, d2, d3] => { results := [.lit (.bool true)], args := [d1, d2, d3] }
  | _ => none }
def moldRoundsRow : OpenClaim := { program := "ythackmkdicpdeaagreat", sum := "5b27bd90d92e0ea7a6c759da86829dd35f226dccaea270642bf7a26d68cfa218", func := "abacus/abacuslaw6.MoldRounds", spec := "moldRounds", unfollowed := true, recurses := true, apart := false }
def MoldRoundsSaid : Prop := moldRoundsRow.holds Tryz.pinned (OpenSpec.ofChange moldRoundsSpec)

/-- ITS FALSE NEIGHBOUR: 'it returns false'. Refute it at one input. -/
def moldRoundsWrong : ChangeSpec := { name := "moldRounds", fn := fun _ => fun
  | [d1, d2, d3] => { results := [.lit (.bool false)], args := [d1, d2, d3] }
  | _ => none }
def MoldRoundsWrongFalsely : Prop := moldRoundsRow.holds Tryz.pinned (OpenSpec.ofChange moldRoundsWrong)

/-- 'abacuslaw6.MoldMoves': WHATEVER THE INPUT: true; the input reads as it did. -/
def moldMovesSpec : ChangeSpec := { name := "moldMoves", fn := fun _ => fun
  | [d1, d2] => { results := [.lit (.bool true)], args := [d1, d2] }
  | _ => none }
def moldMovesRow : OpenClaim := { program := "ythackmkdicpdeaagreat", sum := "5b27bd90d92e0ea7a6c759da86829dd35f226dccaea270642bf7a26d68cfa218", func := "abacus/abacuslaw6.MoldMoves", spec := "moldMoves", unfollowed := true, recurses := true, apart := false }
def MoldMovesSaid : Prop := moldMovesRow.holds Tryz.pinned (OpenSpec.ofChange moldMovesSpec)

/-- ITS FALSE NEIGHBOUR: 'it returns false'. Refute it at one input. -/
def moldMovesWrong : ChangeSpec := { name := "moldMoves", fn := fun _ => fun
  | [d1, d2] => { results := [.lit (.bool false)], args := [d1, d2] }
  | _ => none }
def MoldMovesWrongFalsely : Prop := moldMovesRow.holds Tryz.pinned (OpenSpec.ofChange moldMovesWrong)

/-- 'abacuslaw6.MoldJoins': WHATEVER THE INPUT: true; the input reads as it did. -/
def moldJoinsSpec : ChangeSpec := { name := "moldJoins", fn := fun _ => fun
  | [d1, d2] => { results := [.lit (.bool true)], args := [d1, d2] }
  | _ => none }
def moldJoinsRow : OpenClaim := { program := "ythackmkdicpdeaagreat", sum := "5b27bd90d92e0ea7a6c759da86829dd35f226dccaea270642bf7a26d68cfa218", func := "abacus/abacuslaw6.MoldJoins", spec := "moldJoins", unfollowed := true, recurses := true, apart := false }
def MoldJoinsSaid : Prop := moldJoinsRow.holds Tryz.pinned (OpenSpec.ofChange moldJoinsSpec)

/-- ITS FALSE NEIGHBOUR: 'it returns false'. Refute it at one input. -/
def moldJoinsWrong : ChangeSpec := { name := "moldJoins", fn := fun _ => fun
  | [d1, d2] => { results := [.lit (.bool false)], args := [d1, d2] }
  | _ => none }
def MoldJoinsWrongFalsely : Prop := moldJoinsRow.holds Tryz.pinned (OpenSpec.ofChange moldJoinsWrong)

/- THE SECOND FORM. 'bulk': how many values and letters a reading holds, each counted each time it is reached (what is shared counts as often as it is met; a slice's spare places count too). A statement '..UptoSaid' is the law's where the arguments, and the package variables that the reading takes, are together of bulk at most 1048576: NARROWER than '..Said'. Prove '..Said' where nothing that the law and all that it calls make is longer than what came in: it says more and counts as full. Else prove '..UptoSaid'. A law counts once. -/
mutual
def uptoBulk {H : Type} : DataW H → Nat
  | .lit (.string bytes) => bytes.length + 1
  | .lit _ => 1
  | .nil => 1
  | .ptr d => uptoBulk d + 1
  | .slice elems spare => uptoBulkAll elems + uptoBulkAll spare + 1
  | .agg parts => uptoBulkAll parts + 1
  | .iface _ d => uptoBulk d + 1
  | .map entries => uptoBulkEntries entries + 1
  | .held _ => 1
def uptoBulkAll {H : Type} : List (DataW H) → Nat
  | [] => 0
  | d :: r => uptoBulk d + uptoBulkAll r
def uptoBulkEntries {H : Type} : List (Lit × DataW H) → Nat
  | [] => 0
  | x :: r => uptoBulkEntry x + uptoBulkEntries r
def uptoBulkEntry {H : Type} : Lit × DataW H → Nat
  | (.string bytes, d) => bytes.length + uptoBulk d + 1
  | (_, d) => uptoBulk d + 1
 end
def uptoSmall : (H : Type) → List (DataW H) → Bool := fun _ ds => decide (uptoBulkAll ds ≤ 1048576)
def OpenSpec.upto (s : _root_.Go.ChangeSpec) : _root_.Go.OpenSpec := { _root_.Go.OpenSpec.ofChange s with cond := some uptoSmall }

/-- 'abacuslaw6.MoldAll', WHERE WHAT IT READS IS OF BULK AT MOST 1048576: true; the input reads as it did. -/
def moldAllUptoRow : OpenClaim := { program := "ythackmkdicpdeaagreat", sum := "5b27bd90d92e0ea7a6c759da86829dd35f226dccaea270642bf7a26d68cfa218", func := "abacus/abacuslaw6.MoldAll", spec := "moldAll", unfollowed := true, recurses := true, apart := false, narrowed := true }
def MoldAllUptoSaid : Prop := moldAllUptoRow.holds Tryz.pinned (OpenSpec.upto moldAllSpec)

/-- 'abacuslaw6.MoldFresh', WHERE WHAT IT READS IS OF BULK AT MOST 1048576: true; the input reads as it did. -/
def moldFreshUptoRow : OpenClaim := { program := "ythackmkdicpdeaagreat", sum := "5b27bd90d92e0ea7a6c759da86829dd35f226dccaea270642bf7a26d68cfa218", func := "abacus/abacuslaw6.MoldFresh", spec := "moldFresh", unfollowed := true, recurses := true, apart := false, narrowed := true }
def MoldFreshUptoSaid : Prop := moldFreshUptoRow.holds Tryz.pinned (OpenSpec.upto moldFreshSpec)

/-- 'abacuslaw6.MoldBack', WHERE WHAT IT READS IS OF BULK AT MOST 1048576: true; the input reads as it did. -/
def moldBackUptoRow : OpenClaim := { program := "ythackmkdicpdeaagreat", sum := "5b27bd90d92e0ea7a6c759da86829dd35f226dccaea270642bf7a26d68cfa218", func := "abacus/abacuslaw6.MoldBack", spec := "moldBack", unfollowed := true, recurses := true, apart := false, narrowed := true }
def MoldBackUptoSaid : Prop := moldBackUptoRow.holds Tryz.pinned (OpenSpec.upto moldBackSpec)

/-- 'abacuslaw6.MoldEnds', WHERE WHAT IT READS IS OF BULK AT MOST 1048576: true; the input reads as it did. -/
def moldEndsUptoRow : OpenClaim := { program := "ythackmkdicpdeaagreat", sum := "5b27bd90d92e0ea7a6c759da86829dd35f226dccaea270642bf7a26d68cfa218", func := "abacus/abacuslaw6.MoldEnds", spec := "moldEnds", unfollowed := true, recurses := true, apart := false, narrowed := true }
def MoldEndsUptoSaid : Prop := moldEndsUptoRow.holds Tryz.pinned (OpenSpec.upto moldEndsSpec)

/-- 'abacuslaw6.MoldCuts', WHERE WHAT IT READS IS OF BULK AT MOST 1048576: true; the input reads as it did. -/
def moldCutsUptoRow : OpenClaim := { program := "ythackmkdicpdeaagreat", sum := "5b27bd90d92e0ea7a6c759da86829dd35f226dccaea270642bf7a26d68cfa218", func := "abacus/abacuslaw6.MoldCuts", spec := "moldCuts", unfollowed := true, recurses := true, apart := false, narrowed := true }
def MoldCutsUptoSaid : Prop := moldCutsUptoRow.holds Tryz.pinned (OpenSpec.upto moldCutsSpec)

/-- 'abacuslaw6.MoldRounds', WHERE WHAT IT READS IS OF BULK AT MOST 1048576: true; the input reads as it did. -/
def moldRoundsUptoRow : OpenClaim := { program := "ythackmkdicpdeaagreat", sum := "5b27bd90d92e0ea7a6c759da86829dd35f226dccaea270642bf7a26d68cfa218", func := "abacus/abacuslaw6.MoldRounds", spec := "moldRounds", unfollowed := true, recurses := true, apart := false, narrowed := true }
def MoldRoundsUptoSaid : Prop := moldRoundsUptoRow.holds Tryz.pinned (OpenSpec.upto moldRoundsSpec)

/-- 'abacuslaw6.MoldMoves', WHERE WHAT IT READS IS OF BULK AT MOST 1048576: true; the input reads as it did. -/
def moldMovesUptoRow : OpenClaim := { program := "ythackmkdicpdeaagreat", sum := "5b27bd90d92e0ea7a6c759da86829dd35f226dccaea270642bf7a26d68cfa218", func := "abacus/abacuslaw6.MoldMoves", spec := "moldMoves", unfollowed := true, recurses := true, apart := false, narrowed := true }
def MoldMovesUptoSaid : Prop := moldMovesUptoRow.holds Tryz.pinned (OpenSpec.upto moldMovesSpec)

/-- 'abacuslaw6.MoldJoins', WHERE WHAT IT READS IS OF BULK AT MOST 1048576: true; the input reads as it did. -/
def moldJoinsUptoRow : OpenClaim := { program := "ythackmkdicpdeaagreat", sum := "5b27bd90d92e0ea7a6c759da86829dd35f226dccaea270642bf7a26d68cfa218", func := "abacus/abacuslaw6.MoldJoins", spec := "moldJoins", unfollowed := true, recurses := true, apart := false, narrowed := true }
def MoldJoinsUptoSaid : Prop := moldJoinsUptoRow.holds Tryz.pinned (OpenSpec.upto moldJoinsSpec)

end Rows
end Go.Proofs.YthackmkdicpdeaaGreat
