/- The contract of Free's closure walk. -/
import Derived.Test.YtkhfnkokdmoipaaRawFree2
import Derived.Test.YtkhfnkokdmoipaaRawFmt3
set_option linter.unusedVariables false
set_option linter.unusedSimpArgs false
namespace Go.Proofs.Ytkhfnkokdmoipaa
open Go.RowKit Go.Maps Go.WideMaps

end Go.Proofs.Ytkhfnkokdmoipaa
