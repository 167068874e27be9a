/- The contract of Free. -/
import Derived.Test.YtkhfnkokdmoipaaRawFree5
import Derived.Test.YtkhfnkokdmoipaaRawFmt4
import Derived.Test.YtkhfnkokdmoipaaLex
set_option linter.unusedVariables false
set_option linter.unusedSimpArgs false
namespace Go.Proofs.Ytkhfnkokdmoipaa
open Go.RowKit Go.Maps Go.WideMaps

end Go.Proofs.Ytkhfnkokdmoipaa
