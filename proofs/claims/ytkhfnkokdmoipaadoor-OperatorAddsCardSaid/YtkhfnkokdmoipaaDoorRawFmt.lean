/- Contracts of Format's closures. -/
import Derived.Test.YtkhfnkokdmoipaaDoorRawWf2
import Derived.Test.YtkhfnkokdmoipaaDoorRawText
import Derived.Test.YtkhfnkokdmoipaaDoorRawNames
import Derived.Test.YtkhfnkokdmoipaaDoorBuild
import Derived.StillTailTactics
set_option linter.unusedVariables false
set_option linter.unusedSimpArgs false
namespace Go.Proofs.YtkhfnkokdmoipaaDoor
open Go.RowKit

def P (b : Nat) : Value := .pointer (some ⟨b, 0, none⟩)
end Go.Proofs.YtkhfnkokdmoipaaDoor
