/- The contract of Format. -/
import Derived.Test.YtkhfnkokdmoipaaDoorRawFmt3
set_option linter.unusedVariables false
set_option linter.unusedSimpArgs false
namespace Lfc
def Raw.fmt (q : List (List UInt8)) (t : Raw) : List UInt8 := if t.wf = 0 then t.text q else []
theorem wf_zero {t : Raw} (h : t.wf = 0) : t.form = true ∧ t.size ≤ 4096 ∧ t.depth ≤ 128 := by
  unfold Raw.wf at h
  split at h
  · cases h
  · rename_i h1
    split at h
    · cases h
    · rename_i h2
      exact ⟨by simpa using h1, by omega, by omega⟩
end Lfc
namespace Go.Proofs.YtkhfnkokdmoipaaDoor
open Go.RowKit

theorem heap_alloc_old (w : World) (o : Obj) (k : Nat) (x : Obj) (h : w.heap[k]? = some x) : (w.alloc o).heap[k]? = some x :=
  (Lib.alloc_old w o k (lt_of_block h)).trans h

end Go.Proofs.YtkhfnkokdmoipaaDoor
