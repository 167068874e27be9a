/- Contracts of Format's closures binder and write, and of Format. -/
import Derived.Test.YtkhfnkokdmoipaaDoorRawFmt
set_option linter.unusedVariables false
set_option linter.unusedSimpArgs false
namespace Go.Proofs.YtkhfnkokdmoipaaDoor
open Go.RowKit

theorem bcat (a b : List UInt8) : (⟨a.toArray⟩ ++ ⟨b.toArray⟩ : ByteArray) = ⟨(a ++ b).toArray⟩ := by
  apply ByteArray.ext; simp

end Go.Proofs.YtkhfnkokdmoipaaDoor
