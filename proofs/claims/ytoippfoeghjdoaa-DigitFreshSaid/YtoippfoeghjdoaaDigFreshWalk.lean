/- DigitFresh: the contracts of the package and of the document, joined. -/
import Derived.Test.YtoippfoeghjdoaaDigFit
import Derived.Test.YtoippfoeghjdoaaFreshXY
namespace Go.Proofs.Ytoippfoeghjdoaa
open Go.RowKit Go.Lib
set_option linter.unusedVariables false
set_option linter.unusedSimpArgs false
theorem walkDigitFresh {w : World} {ao : Option Addr} {n c : Nat} {os : Nat → Opv} (hO : Ops w ao n c os) :
    Calls Try.prog 4 #[.slice ao n c] w (RetB w (.bool true)) := fresh8_any pkg8 fit8 hO
end Go.Proofs.Ytoippfoeghjdoaa
