/- DigitAll: the contracts of the package and of the document, joined. -/
import Derived.Test.YtoippfoeghjdoaaAllXY
import Derived.Test.YtoippfoeghjdoaaDigRefMon
namespace Go.Proofs.Ytoippfoeghjdoaa
open Go.RowKit Go.Lib
set_option linter.unusedVariables false
set_option linter.unusedSimpArgs false
theorem pkg8 : Pkg8 dHas dMon dDya where
  chas op v w := (dhas_any op v w).mono fun _ _ ⟨h1, h2⟩ => ⟨h1, 0, h2⟩
  crhas op v w := (rhas8_any op v w).mono fun _ _ ⟨h1, h2⟩ => ⟨h1, 0, h2⟩
  cmon h op := dmonad_any h op
  crmon h op := rmonad8_any h op
  cdya h1 h2 op := ddyad_any h1 h2 op
  crdya h1 h2 op := rdyad8_any h1 h2 op
  cbegun w := begun8_any w
theorem walkDigitAll {w : World} {ao : Option Addr} {n c : Nat} {os : Nat → Opv} (hO : Ops w ao n c os) :
    Calls Try.prog 3 #[.slice ao n c] w (RetB w (.bool true)) := all8_any pkg8 hO
end Go.Proofs.Ytoippfoeghjdoaa
