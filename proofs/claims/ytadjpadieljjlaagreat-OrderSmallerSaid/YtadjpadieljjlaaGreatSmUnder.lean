/- The contract of Under of the reference 05. -/
import Derived.Test.YtadjpadieljjlaaGreatOrPar
set_option linter.unusedVariables false
set_option linter.unusedSimpArgs false
namespace Go.Proofs.YtadjpadieljjlaaGreat
open Go.RowKit
set_option maxRecDepth 100000 in
set_option maxHeartbeats 2000000 in
theorem sUnder_any (kd ps i : Int) (nm : List UInt8) (A : Option Addr) (l c : Nat) (w : World) :
    Calls Tryz.prog 76 #[.agg #[.int .i64 kd, S nm, .int .i64 ps, .slice A l c], .int .i64 i] w fun e w' => (∃ r : Nat, r ≤ 1 ∧ e = .returned (.int .i64 (r : Int))) ∧ Below w.heap.size w w' := by
  have HB : Hid (Below w.heap.size w (w.alloc (.cells #[.int .i64 kd, S nm, .int .i64 ps, .slice A l c] 51))) := Lib.hid ((Below.refl _ _).alloc (Nat.le_refl _) _)
  by_cases h3 : kd = 3
  · subst h3
    go_enter Tryz.func76, Tryz.ntmps76
    go_wp2_with fail
    go_ret
    exact ⟨⟨1, by omega, rfl⟩, HB.out⟩
  · have g3 : (kd == 3) = false := by simpa using h3
    by_cases h2 : kd = 2 ∧ i = 1
    · obtain ⟨rfl, rfl⟩ := h2
      clear h3
      go_enter Tryz.func76, Tryz.ntmps76
      go_wp2_with fail
      go_ret
      exact ⟨⟨1, by omega, rfl⟩, HB.out⟩
    · have h4 : (kd == 2) = false ∨ ((kd == 2) = true ∧ (i == 1) = false) := by
        by_cases e : kd = 2
        · exact .inr ⟨by simp [e], by simpa using fun h => h2 ⟨e, h⟩⟩
        · exact .inl (by simpa using e)
      clear h2 h3
      rcases h4 with g2 | ⟨g2, g1⟩
      all_goals
        go_enter Tryz.func76, Tryz.ntmps76
        go_wp2_with fail
        go_ret
        exact ⟨⟨0, by omega, rfl⟩, HB.out⟩
end Go.Proofs.YtadjpadieljjlaaGreat
