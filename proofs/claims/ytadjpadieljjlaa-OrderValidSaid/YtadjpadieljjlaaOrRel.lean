/- The contract of relation: is a number a relation. -/
import Derived.Test.YtadjpadieljjlaaLeaf
set_option linter.unusedVariables false
set_option linter.unusedSimpArgs false
namespace Go.Proofs.Ytadjpadieljjlaa
open Go.RowKit
set_option maxRecDepth 100000 in
set_option maxHeartbeats 1000000 in
theorem oRel_any (r : Int) (w : World) : Calls Try.prog 47 #[.int .i64 r] w fun e w' => e = .returned (.bool (r == 1 || r == 2 || r == 3)) ∧ w' = w := by
  go_enter Try.func47, Try.ntmps47
  go_wp2_with fail
  all_goals
    go_ret
    exact ⟨ret_bool (by simp_all), rfl⟩
end Go.Proofs.Ytadjpadieljjlaa
