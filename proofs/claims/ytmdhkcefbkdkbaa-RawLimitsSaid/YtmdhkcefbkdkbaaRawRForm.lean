/- Contracts of WellFormed: the program's and the reference's. -/
import Derived.Test.YtmdhkcefbkdkbaaRawWf
import Derived.Deep.DeepCutAuto
import Derived.Deep.CutBlock
import Derived.RegionTactic
set_option linter.unusedVariables false
set_option linter.unusedSimpArgs false
namespace Go.Proofs.Ytmdhkcefbkdkbaa
open Go.RowKit

end Go.Proofs.Ytmdhkcefbkdkbaa
