/- The contract of relation: is a number a relation. -/
import Derived.Test.YtadjpadieljjlaaGreatLeaf
set_option linter.unusedVariables false
set_option linter.unusedSimpArgs false
namespace Go.Proofs.YtadjpadieljjlaaGreat
open Go.RowKit
set_option maxRecDepth 100000 in
set_option maxHeartbeats 1000000 in
theorem oRel_any (r : Int) (w : World) : Calls Tryz.prog 61 #[.int .i64 r] w fun e w' => e = .returned (.bool (r == 1 || r == 2 || r == 3)) ∧ w' = w := by
  go_enter Tryz.func61, Tryz.ntmps61
  go_wp2_with fail
  all_goals
    go_ret
    exact ⟨ret_bool (by simp_all), rfl⟩
end Go.Proofs.YtadjpadieljjlaaGreat
