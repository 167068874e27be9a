/- The contract of Free's closure walk: the binders. -/
import Derived.Test.YtkhfnkokdmoipaaDoorRawFree4
set_option linter.unusedVariables false
set_option linter.unusedSimpArgs false
namespace Go.Proofs.YtkhfnkokdmoipaaDoor
open Go.RowKit Go.Maps Go.WideMaps

end Go.Proofs.YtkhfnkokdmoipaaDoor
