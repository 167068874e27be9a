/- Contracts of Format's closure write, and of Format. -/
import Derived.Test.YtkhfnkokdmoipaaDoorRawFmt2
set_option linter.unusedVariables false
set_option linter.unusedSimpArgs false
namespace Go.Proofs.YtkhfnkokdmoipaaDoor
open Go.RowKit

/-- The quoted names in their variable. -/
def QuoteAt (w0 : World) (Bq : Nat) (q : List (List UInt8)) : Prop := Bq < w0.heap.size ∧ q.length ≤ 1000000000 ∧ ∃ A c, w0.cell? ⟨Bq, 0, none⟩ = some (.slice A q.length c) ∧ NamesAt w0 A q

theorem formed_cases {k : Int} {n : List UInt8} {m : Nat} (h : Lfc.formed k n m = true) :
    ((k = 1 ∨ k = 2 ∨ k = 3 ∨ k = 4) ∧ m = 0) ∨ ((k = 5 ∨ k = 6 ∨ k = 9) ∧ m = 2) ∨ ((k = 7 ∨ k = 8) ∧ (m = 1 ∨ m = 2)) := by
  unfold Lfc.formed at h
  split at h
  · simp at h; omega
  split at h
  · simp at h; omega
  split at h
  · simp at h; omega
  split at h
  · simp at h; omega
  · cases h

end Go.Proofs.YtkhfnkokdmoipaaDoor
