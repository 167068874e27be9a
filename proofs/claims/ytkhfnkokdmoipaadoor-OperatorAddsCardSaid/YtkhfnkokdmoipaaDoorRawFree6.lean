/- The contract of Free. -/
import Derived.Test.YtkhfnkokdmoipaaDoorRawFree5
import Derived.Test.YtkhfnkokdmoipaaDoorRawFmt4
import Derived.Test.YtkhfnkokdmoipaaDoorLex
set_option linter.unusedVariables false
set_option linter.unusedSimpArgs false
namespace Go.Proofs.YtkhfnkokdmoipaaDoor
open Go.RowKit Go.Maps Go.WideMaps

end Go.Proofs.YtkhfnkokdmoipaaDoor
