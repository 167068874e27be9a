/- The contract of both at two bare arguments. -/
import Derived.Test.YtadjpadieljjlaaOrArg
set_option linter.unusedVariables false
set_option linter.unusedSimpArgs false
namespace Go.Proofs.Ytadjpadieljjlaa
open Go.RowKit
set_option maxRecDepth 100000 in
set_option maxHeartbeats 4000000 in
theorem oBothArg_any (a b : Int) (w : World) :
    Calls Try.prog 41 #[.agg #[.int .i64 1, .int .i64 a, .slice none 0 0], .agg #[.int .i64 1, .int .i64 b, .slice none 0 0]] w fun e w' => e = .returned (.iface 98 (.agg #[.int .i64 a, .int .i64 b])) ∧ Below w.heap.size w w' := by
  obtain ⟨w1, hw1⟩ : ∃ w1, w.alloc (.cells #[.int .i64 1, .int .i64 a, .slice none 0 0] 28) = w1 := ⟨_, rfl⟩
  obtain ⟨w2, hw2⟩ : ∃ w2, w1.alloc (.cells #[.int .i64 1, .int .i64 b, .slice none 0 0] 28) = w2 := ⟨_, rfl⟩
  have b1 : Below w.heap.size w w1 := by rw [← hw1]; exact (Below.refl _ _).alloc (Nat.le_refl _) _
  have b2 : Below w1.heap.size w1 w2 := by rw [← hw2]; exact (Below.refl _ _).alloc (Nat.le_refl _) _
  have q1 : w1.heap[w.heap.size]? = some (.cells #[.int .i64 1, .int .i64 a, .slice none 0 0] 28 (0, 0)) := by rw [← hw1]; exact heap_alloc_new _ _
  have q2 : w2.heap[w1.heap.size]? = some (.cells #[.int .i64 1, .int .i64 b, .slice none 0 0] 28 (0, 0)) := by rw [← hw2]; exact heap_alloc_new _ _
  have l1 := lt_of_block q1
  have b02 : Below w.heap.size w w2 := b1.trans (b2.mono (by omega))
  have HB := Lib.hid b02
  obtain ⟨y0, y1, y2⟩ := cells3o ((b2.block _ l1).trans q1)
  obtain ⟨z0, z1, z2⟩ := cells3o q2
  clear b1 b2 q1 q2 b02
  go_enter Try.func41, Try.ntmps41
  go_wp2_with fail
  go_loopw [10] (fun i wr => i = .int .i64 0 ∧ wr = w2) (fun i _ => 0)
  case atStart => exact ⟨rfl, rfl⟩
  case round =>
    obtain ⟨rfl, hwx⟩ := hrel
    subst hwx
    go_wp2_with fail
    go_ret
    exact ⟨rfl, HB.out⟩
end Go.Proofs.Ytadjpadieljjlaa
