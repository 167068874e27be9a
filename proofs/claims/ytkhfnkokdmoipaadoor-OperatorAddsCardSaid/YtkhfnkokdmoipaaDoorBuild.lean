/- Contracts of strings.Builder's copyCheck and WriteString at this dump (the shelf's own laying falls at these two: the dump's copyCheck has no operation behind the check); turned from the shelf's proofs. -/
import Derived.Test.YtkhfnkokdmoipaaDoorShelf
import Derived.Shelf.Strings.BuilderK
import Derived.Test.YtkhfnkokdmoipaaDoorLeaf
set_option linter.unusedVariables false
set_option linter.unusedSimpArgs false
namespace Go.Proofs.YtkhfnkokdmoipaaDoor
open Go.RowKit Go.Shelf

/-- Every block but the builder's and the rows of bytes stands. -/
def Kept (b : Nat) (w w' : World) : Prop := Lib.OthersKept 5 (some b) w w'
theorem Kept.cells {b : Nat} {w w' : World} (h : Kept b w w') {k : Nat} {c : Array Value} {t : TypeId} (hk : w.heap[k]? = some (.cells c t (0, 0))) (hb : k ≠ b) (ht : t ≠ 5) : w'.heap[k]? = some (.cells c t (0, 0)) :=
  h k _ hk (by simpa using hb) (by intro c' fz e; cases e; exact ht rfl)

end Go.Proofs.YtkhfnkokdmoipaaDoor
