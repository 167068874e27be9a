/- The contract of Free's closure walk: the other kinds. -/
import Derived.Test.YtkhfnkokdmoipaaDoorRawFree3
set_option linter.unusedVariables false
set_option linter.unusedSimpArgs false
namespace Go.Proofs.YtkhfnkokdmoipaaDoor
open Go.RowKit Go.Maps Go.WideMaps

end Go.Proofs.YtkhfnkokdmoipaaDoor
