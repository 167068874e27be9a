/- The contract of layer 2's awake. -/
import Derived.Test.YtkhfnkokdmoipaaDoorRawFree6
import Derived.Test.YtkhfnkokdmoipaaDoorRawRSame
set_option linter.unusedVariables false
set_option linter.unusedSimpArgs false
namespace Lfc
def awS : Raw := .node 1 [115] 0 []
def awZ : Raw := .node 1 [122] 0 []
def awR : Raw := .node 5 [] 0 [awS, awZ]
def awN : Raw := .node 0 [] 0 []
end Lfc
namespace Go.Proofs.YtkhfnkokdmoipaaDoor
open Go.RowKit

structure AwE (h : Nat) (w : World) : Prop where
  le : h + 4 ≤ w.heap.size
  s0 : w.cell? ⟨h, 0, none⟩ = some (.int .i64 1) ∧ w.cell? ⟨h, 1, none⟩ = some (S [115]) ∧ w.cell? ⟨h, 2, none⟩ = some (.int .i64 0) ∧ w.cell? ⟨h, 3, none⟩ = some (.slice none 0 0)
  z0 : w.cell? ⟨h + 1, 0, none⟩ = some (.int .i64 1) ∧ w.cell? ⟨h + 1, 1, none⟩ = some (S [122]) ∧ w.cell? ⟨h + 1, 2, none⟩ = some (.int .i64 0) ∧ w.cell? ⟨h + 1, 3, none⟩ = some (.slice none 0 0)
  r0 : w.cell? ⟨h + 1 + 1 + 1, 0, none⟩ = some (.int .i64 5) ∧ w.cell? ⟨h + 1 + 1 + 1, 1, none⟩ = some (S []) ∧ w.cell? ⟨h + 1 + 1 + 1, 2, none⟩ = some (.int .i64 0) ∧ w.cell? ⟨h + 1 + 1 + 1, 3, none⟩ = some (.slice (some ⟨h + 1 + 1, 0, none⟩) 2 2)
  s : TreeV w Lfc.awS (.agg #[.int .i64 1, S [115], .int .i64 0, .slice none 0 0])
  z : TreeV w Lfc.awZ (.agg #[.int .i64 1, S [122], .int .i64 0, .slice none 0 0])
  r : TreeV w Lfc.awR (.agg #[.int .i64 5, S [], .int .i64 0, .slice (some ⟨h + 1 + 1, 0, none⟩) 2 2])
theorem AwE.below {h : Nat} {w w' : World} (e : AwE h w) (hb : Below w.heap.size w w') : AwE h w' := by
  have hl := e.le
  refine ⟨Nat.le_trans hl hb.size, ?_, ?_, ?_, e.s.below hb, e.z.below hb, e.r.below hb⟩
  · exact ⟨(hb.cell (p := ⟨h, 0, none⟩) (by simp only; omega)).trans e.s0.1, (hb.cell (p := ⟨h, 1, none⟩) (by simp only; omega)).trans e.s0.2.1, (hb.cell (p := ⟨h, 2, none⟩) (by simp only; omega)).trans e.s0.2.2.1, (hb.cell (p := ⟨h, 3, none⟩) (by simp only; omega)).trans e.s0.2.2.2⟩
  · exact ⟨(hb.cell (p := ⟨h + 1, 0, none⟩) (by simp only; omega)).trans e.z0.1, (hb.cell (p := ⟨h + 1, 1, none⟩) (by simp only; omega)).trans e.z0.2.1, (hb.cell (p := ⟨h + 1, 2, none⟩) (by simp only; omega)).trans e.z0.2.2.1, (hb.cell (p := ⟨h + 1, 3, none⟩) (by simp only; omega)).trans e.z0.2.2.2⟩
  · exact ⟨(hb.cell (p := ⟨h + 1 + 1 + 1, 0, none⟩) (by simp only; omega)).trans e.r0.1, (hb.cell (p := ⟨h + 1 + 1 + 1, 1, none⟩) (by simp only; omega)).trans e.r0.2.1, (hb.cell (p := ⟨h + 1 + 1 + 1, 2, none⟩) (by simp only; omega)).trans e.r0.2.2.1, (hb.cell (p := ⟨h + 1 + 1 + 1, 3, none⟩) (by simp only; omega)).trans e.r0.2.2.2⟩
theorem treeV_nil (w : World) (k p : Int) (n : List UInt8) (hn : n.length ≤ 1000000) : TreeV w (.node k n p []) (.agg #[.int .i64 k, S n, .int .i64 p, .slice none 0 0]) :=
  TreeV.mk (ts := []) hn (Nat.le_refl _) (fun h => absurd rfl h)

theorem awEnv (w : World) : ∃ w4, (((w.alloc (.cells #[.int .i64 1, S [115], .int .i64 0, .slice none 0 0] 39)).alloc (.cells #[.int .i64 1, S [122], .int .i64 0, .slice none 0 0] 39)).alloc (.cells #[.int .i64 1, S [115], .int .i64 0, .slice none 0 0, .int .i64 1, S [122], .int .i64 0, .slice none 0 0] 39)).alloc (.cells #[.int .i64 5, S [], .int .i64 0, .slice (some ⟨w.heap.size + 1 + 1, 0, none⟩) 2 2] 39) = w4 ∧ AwE w.heap.size w4 ∧ Below w.heap.size w w4 := by
  obtain ⟨w4, hw4⟩ : ∃ w4, (((w.alloc (.cells #[.int .i64 1, S [115], .int .i64 0, .slice none 0 0] 39)).alloc (.cells #[.int .i64 1, S [122], .int .i64 0, .slice none 0 0] 39)).alloc (.cells #[.int .i64 1, S [115], .int .i64 0, .slice none 0 0, .int .i64 1, S [122], .int .i64 0, .slice none 0 0] 39)).alloc (.cells #[.int .i64 5, S [], .int .i64 0, .slice (some ⟨w.heap.size + 1 + 1, 0, none⟩) 2 2] 39) = w4 := ⟨_, rfl⟩
  have hn := fun (W : World) (o : Obj) (k : Nat) (h : k = W.heap.size) => (h ▸ heap_alloc_new W o : (W.alloc o).heap[k]? = some o)
  have q0 : w4.heap[w.heap.size]? = some (.cells #[.int .i64 1, S [115], .int .i64 0, .slice none 0 0] 39) := by
    rw [← hw4]; exact heap_alloc_old _ _ _ _ (heap_alloc_old _ _ _ _ (heap_alloc_old _ _ _ _ (heap_alloc_new _ _)))
  have q1 : w4.heap[w.heap.size + 1]? = some (.cells #[.int .i64 1, S [122], .int .i64 0, .slice none 0 0] 39) := by
    rw [← hw4]; exact heap_alloc_old _ _ _ _ (heap_alloc_old _ _ _ _ (hn _ _ _ (by simp)))
  have q2 : w4.heap[w.heap.size + 1 + 1]? = some (.cells #[.int .i64 1, S [115], .int .i64 0, .slice none 0 0, .int .i64 1, S [122], .int .i64 0, .slice none 0 0] 39) := by
    rw [← hw4]; exact heap_alloc_old _ _ _ _ (hn _ _ _ (by simp))
  have q3 : w4.heap[w.heap.size + 1 + 1 + 1]? = some (.cells #[.int .i64 5, S [], .int .i64 0, .slice (some ⟨w.heap.size + 1 + 1, 0, none⟩) 2 2] 39) := by
    rw [← hw4]; exact hn _ _ _ (by simp)
  have hb : Below w.heap.size w w4 := by
    rw [← hw4]; exact ((((Below.refl _ _).alloc (Nat.le_refl _) _).alloc (by simp) _).alloc (by simp; omega) _).alloc (by simp; omega) _
  have hsz : w4.heap.size = w.heap.size + 4 := by rw [← hw4]; simp
  refine ⟨w4, hw4, ⟨by omega, ⟨Lib.cell_of_heap q0 0, Lib.cell_of_heap q0 1, Lib.cell_of_heap q0 2, Lib.cell_of_heap q0 3⟩, ⟨Lib.cell_of_heap q1 0, Lib.cell_of_heap q1 1, Lib.cell_of_heap q1 2, Lib.cell_of_heap q1 3⟩, ⟨Lib.cell_of_heap q3 0, Lib.cell_of_heap q3 1, Lib.cell_of_heap q3 2, Lib.cell_of_heap q3 3⟩, treeV_nil _ _ _ _ (by simp), treeV_nil _ _ _ _ (by simp), ?_⟩, hb⟩
  refine TreeV.mk (ts := [Lfc.awS, Lfc.awZ]) (by simp) (Nat.le_refl _) (fun _ => ⟨_, _, rfl, by omega, ?_⟩)
  refine ⟨⟨_, _, _, _, Lib.cell_of_heap q2 0, Lib.cell_of_heap q2 1, Lib.cell_of_heap q2 2, Lib.cell_of_heap q2 3, ?_⟩, ⟨_, _, _, _, Lib.cell_of_heap q2 4, Lib.cell_of_heap q2 5, Lib.cell_of_heap q2 6, Lib.cell_of_heap q2 7, ?_⟩, trivial⟩
  · exact ⟨rfl, rfl, by simp, rfl, none, 0, rfl, Nat.le_refl _, fun h => absurd rfl h⟩
  · exact ⟨rfl, rfl, by simp, rfl, none, 0, rfl, Nat.le_refl _, fun h => absurd rfl h⟩

end Go.Proofs.YtkhfnkokdmoipaaDoor
