/- Contracts of Format's closures. -/
import Derived.Test.YtkhfnkokdmoipaaRawWf2
import Derived.Test.YtkhfnkokdmoipaaRawText
import Derived.Test.YtkhfnkokdmoipaaRawNames
import Derived.Test.YtkhfnkokdmoipaaBuild
import Derived.StillTailTactics
set_option linter.unusedVariables false
set_option linter.unusedSimpArgs false
namespace Go.Proofs.Ytkhfnkokdmoipaa
open Go.RowKit

def P (b : Nat) : Value := .pointer (some ⟨b, 0, none⟩)
end Go.Proofs.Ytkhfnkokdmoipaa
