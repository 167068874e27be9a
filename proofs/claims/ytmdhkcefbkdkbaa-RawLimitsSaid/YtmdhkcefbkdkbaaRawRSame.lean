/- The contract of the reference's Same. -/
import Derived.Test.YtmdhkcefbkdkbaaRawSame
set_option linter.unusedVariables false
set_option linter.unusedSimpArgs false
namespace Go.Proofs.Ytmdhkcefbkdkbaa
open Go.RowKit

theorem kept {w w1 : World} {p : Addr} {v : Value} (h : Below w.drew.heap.size w.drew w1) (hp : p.block < w.heap.size) (hv : w.cell? p = some v) : w1.cell? p = some v := (h.cell hp).trans hv

end Go.Proofs.Ytmdhkcefbkdkbaa
