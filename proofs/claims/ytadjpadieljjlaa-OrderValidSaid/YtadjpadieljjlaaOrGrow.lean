/- The contracts of slices.Grow at nil and of slices.Concat for terms. -/
import Derived.Test.YtadjpadieljjlaaOrBoth
import Derived.Lib.AppendZerosOnto
import Derived.Laws.AppendOwnNone
import Derived.Maps.AppendAt
set_option linter.unusedVariables false
set_option linter.unusedSimpArgs false
namespace Go.Proofs.Ytadjpadieljjlaa
open Go.RowKit Go.Maps
set_option maxRecDepth 100000 in
set_option maxHeartbeats 4000000 in
theorem growT_any (n : Nat) (w : World) (hn : n ≤ 10000000) :
    Calls Try.prog 55 #[.slice none 0 0, .int .i64 (n : Int)] w fun e w' => (∃ v, e = .returned v ∧ w'.ownsRow w.heap.size 34 4 v 0 []) ∧ Below w.heap.size w w' := by
  obtain ⟨i0, hi, hz0, hz1, hz2⟩ := info_parts termInfo
  by_cases h0 : n = 0
  · subst h0
    have h2 : IntKind.i64.wrap (0 - 0) = 0 := by decide
    simp only [Int.natCast_zero]
    go_enter Try.func55, Try.ntmps55
    go_wp2_with fail
    go_ret
    exact ⟨⟨_, rfl, World.ownsRow_nil w w.heap.size _ 4⟩, Below.refl _ _⟩
  · have hn0 : ¬ ((n : Int) < 0) := by omega
    have h1 : IntKind.i64.wrap (0 - 0) = 0 := by decide
    have h2 : IntKind.i64.wrap ((n : Int) - 0) = (n : Int) := by rw [IntWalk.i64_in _ (by omega)]; omega
    have h3 : (n : Int) > 0 := by omega
    have h4 : decide ((n : Int) > 0) = true := by rw [decide_eq_true_eq]; exact h3
    have h5 : decide ((n : Int) < 0) = false := by rw [decide_eq_false_iff_not]; exact hn0
    have hold : (Builtin.firstCells i0.size 0 (.slice none 0 0)).run Try.prog w.drew = .ok (#[] : Array Value) w.drew := run_firstCells_none w.drew i0.size 0 0 0
    have hr : ∀ ty, (Builtin.append_ #[32, 3] ty #[.slice none 0 0, .int .i64 (n : Int)]).run Try.prog w = .ok (.slice (some ⟨w.heap.size, 0, none⟩) n (grownCap w n 0 34)) (w.drew.alloc (.cells (Builtin.zeroCells #[.int .i64 0, S [], .int .i64 0, .slice none 0 0] n ++ Builtin.zeroCells #[.int .i64 0, S [], .int .i64 0, .slice none 0 0] (grownCap w n 0 34 - n)) 34)) := fun ty => by
      have h := Lib.run_append_grow_zeros w 32 3 ty 34 i0 _ .i64 .i64 Try.underlying32 Try.underlying3 hi hz0 none 0 0 [] hold n (by omega) (by omega) (by omega) (by omega) (by rw [hz2]; omega) (by rw [Nat.zero_add]; exact growslice_fits (by omega) (by rw [hz2]; omega))
      rw [show (Value.agg #[.int .i64 0, S [], .int .i64 0, .slice none 0 0]).cells = #[.int .i64 0, S [], .int .i64 0, .slice none 0 0] from rfl] at h
      simpa using h
    have hG := grownCap_ge w n 0 34
    have hG2 := grownCap_le_maxLen w n 0 34 (by unfold maxLen; omega)
    obtain ⟨G, hG0⟩ : ∃ G, grownCap w n 0 34 = G := ⟨_, rfl⟩
    rw [hG0] at hr hG hG2
    obtain ⟨w1, hw1⟩ : ∃ w1, w.drew.alloc (.cells (Builtin.zeroCells #[.int .i64 0, S [], .int .i64 0, .slice none 0 0] n ++ Builtin.zeroCells #[.int .i64 0, S [], .int .i64 0, .slice none 0 0] (G - n)) 34) = w1 := ⟨_, rfl⟩
    rw [hw1] at hr
    have HZ : Hid (w1.ownsRow w.heap.size 34 4 (.slice (some ⟨w.heap.size, 0, none⟩) 0 G) 0 [] ∧ Below w.heap.size w w1) := Lib.hid (by
      refine ⟨⟨rfl, .inr ⟨w.heap.size, G, _, rfl, Nat.le_refl _, by rw [← hw1]; exact heap_alloc_new w.drew _, Nat.zero_le _, hG2, ?_, ?_⟩⟩, ?_⟩
      · rw [Array.size_append, size_zeroCells, size_zeroCells]
        show n * 4 + (G - n) * 4 = G * 4
        omega
      · simp
      · rw [← hw1]; exact ((Below.refl _ _).drew).alloc (Nat.le_refl _) _)
    have hG3 : (0 : Int) ≤ (G : Int) := Int.natCast_nonneg _
    unfold maxLen at hG2
    clear hG0 hw1 hold
    go_enter Try.func55, Try.ntmps55
    go_wp2_with (at_builtin; refine Lib.wpList_append_run _ rfl _ _ _ _ rfl _ _ rfl rfl _ _ (hr _) ?_)
    all_goals
      go_ret
      exact ⟨⟨_, rfl, HZ.out.1⟩, HZ.out.2⟩
end Go.Proofs.Ytadjpadieljjlaa
