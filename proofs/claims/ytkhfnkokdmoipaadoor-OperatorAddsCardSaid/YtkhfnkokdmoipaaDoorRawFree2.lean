/- The contract of Free's closure walk. -/
import Derived.Test.YtkhfnkokdmoipaaDoorRawFree
set_option linter.unusedVariables false
set_option linter.unusedSimpArgs false
namespace Lfc
theorem frs_app (bound : List (List UInt8)) : ∀ (a c : List Raw) (out : List (List UInt8)), Raw.frs bound (a ++ c) out = Raw.frs bound c (Raw.frs bound a out)
  | [], _, _ => by simp [Raw.frs]
  | x :: r, c, out => by simp only [List.cons_append, Raw.frs]; exact frs_app bound r c _
theorem frs_take (bound : List (List UInt8)) (ts : List Raw) (k : Nat) (h : k < ts.length) (out : List (List UInt8)) : Raw.frs bound (ts.take (k + 1)) out = Raw.fr bound ts[k] (Raw.frs bound (ts.take k) out) := by
  rw [List.take_succ_eq_append_getElem h, frs_app]; simp [Raw.frs]
end Lfc
namespace Go.Proofs.YtkhfnkokdmoipaaDoor
open Go.RowKit Go.Maps Go.WideMaps

end Go.Proofs.YtkhfnkokdmoipaaDoor
