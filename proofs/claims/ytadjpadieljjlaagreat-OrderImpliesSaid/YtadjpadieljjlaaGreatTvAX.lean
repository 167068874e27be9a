/- Parts of the proof that no input makes the law false: OcAk1, OcAk2. -/
import Derived.Test.YtadjpadieljjlaaGreatTvAR
import Derived.Test.YtadjpadieljjlaaGreatTvAW
set_option linter.unusedVariables false
set_option linter.unusedSimpArgs false
namespace Lfc
def good (t : Raw) : Prop := t.size ≤ 40 ∧ t.posB 1048576 = true
end Lfc
namespace Go.Proofs.YtadjpadieljjlaaGreat
open Go.RowKit Go.Maps
set_option maxHeartbeats 2000000 in
theorem put9 {W : World} {R : Nat} {a0 a1 a2 a3 a4 a5 a6 a7 a8 : Value} {t : TypeId} (h : W.heap[R]? = some (.cells #[a0, a1, a2, a3, a4, a5, a6, a7, a8] t (0, 0))) (v0 v1 v2 v3 v4 v5 v6 v7 v8 : Value) : ∃ s1 s2 s3 s4 s5 s6 s7 s8 s9, W.setCell ⟨R, 0, none⟩ v0 = s1 ∧ s1.setCell ⟨R, 1, none⟩ v1 = s2 ∧ s2.setCell ⟨R, 2, none⟩ v2 = s3 ∧ s3.setCell ⟨R, 3, none⟩ v3 = s4 ∧ s4.setCell ⟨R, 4, none⟩ v4 = s5 ∧ s5.setCell ⟨R, 5, none⟩ v5 = s6 ∧ s6.setCell ⟨R, 6, none⟩ v6 = s7 ∧ s7.setCell ⟨R, 7, none⟩ v7 = s8 ∧ s8.setCell ⟨R, 8, none⟩ v8 = s9 ∧
  (W.cell? ⟨R, 0, none⟩ = some a0 ∧ s1.cell? ⟨R, 1, none⟩ = some a1 ∧ s2.cell? ⟨R, 2, none⟩ = some a2 ∧ s3.cell? ⟨R, 3, none⟩ = some a3 ∧ s4.cell? ⟨R, 4, none⟩ = some a4 ∧ s5.cell? ⟨R, 5, none⟩ = some a5 ∧ s6.cell? ⟨R, 6, none⟩ = some a6 ∧ s7.cell? ⟨R, 7, none⟩ = some a7 ∧ s8.cell? ⟨R, 8, none⟩ = some a8) ∧
  (W.frozen? ⟨R, 0, none⟩ = false ∧ s1.frozen? ⟨R, 1, none⟩ = false ∧ s2.frozen? ⟨R, 2, none⟩ = false ∧ s3.frozen? ⟨R, 3, none⟩ = false ∧ s4.frozen? ⟨R, 4, none⟩ = false ∧ s5.frozen? ⟨R, 5, none⟩ = false ∧ s6.frozen? ⟨R, 6, none⟩ = false ∧ s7.frozen? ⟨R, 7, none⟩ = false ∧ s8.frozen? ⟨R, 8, none⟩ = false) ∧
  s9.heap[R]? = some (.cells #[v0, v1, v2, v3, v4, v5, v6, v7, v8] t (0, 0)) ∧ Oth R W s9 := by
 obtain ⟨s1, h1⟩ : ∃ s1, W.setCell ⟨R, 0, none⟩ v0 = s1 := ⟨_, rfl⟩
 obtain ⟨s2, h2⟩ : ∃ s2, s1.setCell ⟨R, 1, none⟩ v1 = s2 := ⟨_, rfl⟩
 obtain ⟨s3, h3⟩ : ∃ s3, s2.setCell ⟨R, 2, none⟩ v2 = s3 := ⟨_, rfl⟩
 obtain ⟨s4, h4⟩ : ∃ s4, s3.setCell ⟨R, 3, none⟩ v3 = s4 := ⟨_, rfl⟩
 obtain ⟨s5, h5⟩ : ∃ s5, s4.setCell ⟨R, 4, none⟩ v4 = s5 := ⟨_, rfl⟩
 obtain ⟨s6, h6⟩ : ∃ s6, s5.setCell ⟨R, 5, none⟩ v5 = s6 := ⟨_, rfl⟩
 obtain ⟨s7, h7⟩ : ∃ s7, s6.setCell ⟨R, 6, none⟩ v6 = s7 := ⟨_, rfl⟩
 obtain ⟨s8, h8⟩ : ∃ s8, s7.setCell ⟨R, 7, none⟩ v7 = s8 := ⟨_, rfl⟩
 obtain ⟨s9, h9⟩ : ∃ s9, s8.setCell ⟨R, 8, none⟩ v8 = s9 := ⟨_, rfl⟩
 have q1 : s1.heap[R]? = some (.cells #[v0, a1, a2, a3, a4, a5, a6, a7, a8] t (0, 0)) := by rw [← h1]; simp [World.setCell, Array.getElem?_modify, h]
 have q2 : s2.heap[R]? = some (.cells #[v0, v1, a2, a3, a4, a5, a6, a7, a8] t (0, 0)) := by rw [← h2]; simp [World.setCell, Array.getElem?_modify, q1]
 have q3 : s3.heap[R]? = some (.cells #[v0, v1, v2, a3, a4, a5, a6, a7, a8] t (0, 0)) := by rw [← h3]; simp [World.setCell, Array.getElem?_modify, q2]
 have q4 : s4.heap[R]? = some (.cells #[v0, v1, v2, v3, a4, a5, a6, a7, a8] t (0, 0)) := by rw [← h4]; simp [World.setCell, Array.getElem?_modify, q3]
 have q5 : s5.heap[R]? = some (.cells #[v0, v1, v2, v3, v4, a5, a6, a7, a8] t (0, 0)) := by rw [← h5]; simp [World.setCell, Array.getElem?_modify, q4]
 have q6 : s6.heap[R]? = some (.cells #[v0, v1, v2, v3, v4, v5, a6, a7, a8] t (0, 0)) := by rw [← h6]; simp [World.setCell, Array.getElem?_modify, q5]
 have q7 : s7.heap[R]? = some (.cells #[v0, v1, v2, v3, v4, v5, v6, a7, a8] t (0, 0)) := by rw [← h7]; simp [World.setCell, Array.getElem?_modify, q6]
 have q8 : s8.heap[R]? = some (.cells #[v0, v1, v2, v3, v4, v5, v6, v7, a8] t (0, 0)) := by rw [← h8]; simp [World.setCell, Array.getElem?_modify, q7]
 have q9 : s9.heap[R]? = some (.cells #[v0, v1, v2, v3, v4, v5, v6, v7, v8] t (0, 0)) := by rw [← h9]; simp [World.setCell, Array.getElem?_modify, q8]
 refine ⟨s1, s2, s3, s4, s5, s6, s7, s8, s9, h1, h2, h3, h4, h5, h6, h7, h8, h9, ⟨Lib.cell_of_heap h 0, Lib.cell_of_heap q1 1, Lib.cell_of_heap q2 2, Lib.cell_of_heap q3 3, Lib.cell_of_heap q4 4, Lib.cell_of_heap q5 5, Lib.cell_of_heap q6 6, Lib.cell_of_heap q7 7, Lib.cell_of_heap q8 8⟩, ⟨Lib.frozen_of_heap h 0, Lib.frozen_of_heap q1 1, Lib.frozen_of_heap q2 2, Lib.frozen_of_heap q3 3, Lib.frozen_of_heap q4 4, Lib.frozen_of_heap q5 5, Lib.frozen_of_heap q6 6, Lib.frozen_of_heap q7 7, Lib.frozen_of_heap q8 8⟩, q9, ?_⟩
 rw [← h9, ← h8, ← h7, ← h6, ← h5, ← h4, ← h3, ← h2, ← h1]
 exact ((((((((Oth.set W v0).trans (Oth.set _ v1)).trans (Oth.set _ v2)).trans (Oth.set _ v3)).trans (Oth.set _ v4)).trans (Oth.set _ v5)).trans (Oth.set _ v6)).trans (Oth.set _ v7)).trans (Oth.set _ v8)
set_option maxHeartbeats 2000000 in
theorem put11 {W : World} {R : Nat} {a0 a1 a2 a3 a4 a5 a6 a7 a8 a9 a10 : Value} {t : TypeId} (h : W.heap[R]? = some (.cells #[a0, a1, a2, a3, a4, a5, a6, a7, a8, a9, a10] t (0, 0))) (v0 v1 v2 v3 v4 v5 v6 v7 v8 v9 v10 : Value) : ∃ s1 s2 s3 s4 s5 s6 s7 s8 s9 s10 s11, W.setCell ⟨R, 0, none⟩ v0 = s1 ∧ s1.setCell ⟨R, 1, none⟩ v1 = s2 ∧ s2.setCell ⟨R, 2, none⟩ v2 = s3 ∧ s3.setCell ⟨R, 3, none⟩ v3 = s4 ∧ s4.setCell ⟨R, 4, none⟩ v4 = s5 ∧ s5.setCell ⟨R, 5, none⟩ v5 = s6 ∧ s6.setCell ⟨R, 6, none⟩ v6 = s7 ∧ s7.setCell ⟨R, 7, none⟩ v7 = s8 ∧ s8.setCell ⟨R, 8, none⟩ v8 = s9 ∧ s9.setCell ⟨R, 9, none⟩ v9 = s10 ∧ s10.setCell ⟨R, 10, none⟩ v10 = s11 ∧
  (W.cell? ⟨R, 0, none⟩ = some a0 ∧ s1.cell? ⟨R, 1, none⟩ = some a1 ∧ s2.cell? ⟨R, 2, none⟩ = some a2 ∧ s3.cell? ⟨R, 3, none⟩ = some a3 ∧ s4.cell? ⟨R, 4, none⟩ = some a4 ∧ s5.cell? ⟨R, 5, none⟩ = some a5 ∧ s6.cell? ⟨R, 6, none⟩ = some a6 ∧ s7.cell? ⟨R, 7, none⟩ = some a7 ∧ s8.cell? ⟨R, 8, none⟩ = some a8 ∧ s9.cell? ⟨R, 9, none⟩ = some a9 ∧ s10.cell? ⟨R, 10, none⟩ = some a10) ∧
  (W.frozen? ⟨R, 0, none⟩ = false ∧ s1.frozen? ⟨R, 1, none⟩ = false ∧ s2.frozen? ⟨R, 2, none⟩ = false ∧ s3.frozen? ⟨R, 3, none⟩ = false ∧ s4.frozen? ⟨R, 4, none⟩ = false ∧ s5.frozen? ⟨R, 5, none⟩ = false ∧ s6.frozen? ⟨R, 6, none⟩ = false ∧ s7.frozen? ⟨R, 7, none⟩ = false ∧ s8.frozen? ⟨R, 8, none⟩ = false ∧ s9.frozen? ⟨R, 9, none⟩ = false ∧ s10.frozen? ⟨R, 10, none⟩ = false) ∧
  s11.heap[R]? = some (.cells #[v0, v1, v2, v3, v4, v5, v6, v7, v8, v9, v10] t (0, 0)) ∧ Oth R W s11 := by
 obtain ⟨s1, h1⟩ : ∃ s1, W.setCell ⟨R, 0, none⟩ v0 = s1 := ⟨_, rfl⟩
 obtain ⟨s2, h2⟩ : ∃ s2, s1.setCell ⟨R, 1, none⟩ v1 = s2 := ⟨_, rfl⟩
 obtain ⟨s3, h3⟩ : ∃ s3, s2.setCell ⟨R, 2, none⟩ v2 = s3 := ⟨_, rfl⟩
 obtain ⟨s4, h4⟩ : ∃ s4, s3.setCell ⟨R, 3, none⟩ v3 = s4 := ⟨_, rfl⟩
 obtain ⟨s5, h5⟩ : ∃ s5, s4.setCell ⟨R, 4, none⟩ v4 = s5 := ⟨_, rfl⟩
 obtain ⟨s6, h6⟩ : ∃ s6, s5.setCell ⟨R, 5, none⟩ v5 = s6 := ⟨_, rfl⟩
 obtain ⟨s7, h7⟩ : ∃ s7, s6.setCell ⟨R, 6, none⟩ v6 = s7 := ⟨_, rfl⟩
 obtain ⟨s8, h8⟩ : ∃ s8, s7.setCell ⟨R, 7, none⟩ v7 = s8 := ⟨_, rfl⟩
 obtain ⟨s9, h9⟩ : ∃ s9, s8.setCell ⟨R, 8, none⟩ v8 = s9 := ⟨_, rfl⟩
 obtain ⟨s10, h10⟩ : ∃ s10, s9.setCell ⟨R, 9, none⟩ v9 = s10 := ⟨_, rfl⟩
 obtain ⟨s11, h11⟩ : ∃ s11, s10.setCell ⟨R, 10, none⟩ v10 = s11 := ⟨_, rfl⟩
 have q1 : s1.heap[R]? = some (.cells #[v0, a1, a2, a3, a4, a5, a6, a7, a8, a9, a10] t (0, 0)) := by rw [← h1]; simp [World.setCell, Array.getElem?_modify, h]
 have q2 : s2.heap[R]? = some (.cells #[v0, v1, a2, a3, a4, a5, a6, a7, a8, a9, a10] t (0, 0)) := by rw [← h2]; simp [World.setCell, Array.getElem?_modify, q1]
 have q3 : s3.heap[R]? = some (.cells #[v0, v1, v2, a3, a4, a5, a6, a7, a8, a9, a10] t (0, 0)) := by rw [← h3]; simp [World.setCell, Array.getElem?_modify, q2]
 have q4 : s4.heap[R]? = some (.cells #[v0, v1, v2, v3, a4, a5, a6, a7, a8, a9, a10] t (0, 0)) := by rw [← h4]; simp [World.setCell, Array.getElem?_modify, q3]
 have q5 : s5.heap[R]? = some (.cells #[v0, v1, v2, v3, v4, a5, a6, a7, a8, a9, a10] t (0, 0)) := by rw [← h5]; simp [World.setCell, Array.getElem?_modify, q4]
 have q6 : s6.heap[R]? = some (.cells #[v0, v1, v2, v3, v4, v5, a6, a7, a8, a9, a10] t (0, 0)) := by rw [← h6]; simp [World.setCell, Array.getElem?_modify, q5]
 have q7 : s7.heap[R]? = some (.cells #[v0, v1, v2, v3, v4, v5, v6, a7, a8, a9, a10] t (0, 0)) := by rw [← h7]; simp [World.setCell, Array.getElem?_modify, q6]
 have q8 : s8.heap[R]? = some (.cells #[v0, v1, v2, v3, v4, v5, v6, v7, a8, a9, a10] t (0, 0)) := by rw [← h8]; simp [World.setCell, Array.getElem?_modify, q7]
 have q9 : s9.heap[R]? = some (.cells #[v0, v1, v2, v3, v4, v5, v6, v7, v8, a9, a10] t (0, 0)) := by rw [← h9]; simp [World.setCell, Array.getElem?_modify, q8]
 have q10 : s10.heap[R]? = some (.cells #[v0, v1, v2, v3, v4, v5, v6, v7, v8, v9, a10] t (0, 0)) := by rw [← h10]; simp [World.setCell, Array.getElem?_modify, q9]
 have q11 : s11.heap[R]? = some (.cells #[v0, v1, v2, v3, v4, v5, v6, v7, v8, v9, v10] t (0, 0)) := by rw [← h11]; simp [World.setCell, Array.getElem?_modify, q10]
 refine ⟨s1, s2, s3, s4, s5, s6, s7, s8, s9, s10, s11, h1, h2, h3, h4, h5, h6, h7, h8, h9, h10, h11, ⟨Lib.cell_of_heap h 0, Lib.cell_of_heap q1 1, Lib.cell_of_heap q2 2, Lib.cell_of_heap q3 3, Lib.cell_of_heap q4 4, Lib.cell_of_heap q5 5, Lib.cell_of_heap q6 6, Lib.cell_of_heap q7 7, Lib.cell_of_heap q8 8, Lib.cell_of_heap q9 9, Lib.cell_of_heap q10 10⟩, ⟨Lib.frozen_of_heap h 0, Lib.frozen_of_heap q1 1, Lib.frozen_of_heap q2 2, Lib.frozen_of_heap q3 3, Lib.frozen_of_heap q4 4, Lib.frozen_of_heap q5 5, Lib.frozen_of_heap q6 6, Lib.frozen_of_heap q7 7, Lib.frozen_of_heap q8 8, Lib.frozen_of_heap q9 9, Lib.frozen_of_heap q10 10⟩, q11, ?_⟩
 rw [← h11, ← h10, ← h9, ← h8, ← h7, ← h6, ← h5, ← h4, ← h3, ← h2, ← h1]
 exact ((((((((((Oth.set W v0).trans (Oth.set _ v1)).trans (Oth.set _ v2)).trans (Oth.set _ v3)).trans (Oth.set _ v4)).trans (Oth.set _ v5)).trans (Oth.set _ v6)).trans (Oth.set _ v7)).trans (Oth.set _ v8)).trans (Oth.set _ v9)).trans (Oth.set _ v10)
set_option maxHeartbeats 2000000 in
theorem put9l {W : World} {R : Nat} {a0 a1 a2 a3 a4 a5 a6 a7 a8 : Value} {t : TypeId} (h : W.heap[R]? = some (.cells #[a0, a1, a2, a3, a4, a5, a6, a7, a8] t (0, 0))) (v0 v1 v2 v3 : Value) : ∃ s1 s2 s3 s4, W.setCell ⟨R, 0, none⟩ v0 = s1 ∧ s1.setCell ⟨R, 1, none⟩ v1 = s2 ∧ s2.setCell ⟨R, 2, none⟩ v2 = s3 ∧ s3.setCell ⟨R, 3, none⟩ v3 = s4 ∧
  (W.cell? ⟨R, 0, none⟩ = some a0 ∧ s1.cell? ⟨R, 1, none⟩ = some a1 ∧ s2.cell? ⟨R, 2, none⟩ = some a2 ∧ s3.cell? ⟨R, 3, none⟩ = some a3) ∧
  (W.frozen? ⟨R, 0, none⟩ = false ∧ s1.frozen? ⟨R, 1, none⟩ = false ∧ s2.frozen? ⟨R, 2, none⟩ = false ∧ s3.frozen? ⟨R, 3, none⟩ = false) ∧
  s4.heap[R]? = some (.cells #[v0, v1, v2, v3, a4, a5, a6, a7, a8] t (0, 0)) ∧ Oth R W s4 := by
 obtain ⟨s1, h1⟩ : ∃ s1, W.setCell ⟨R, 0, none⟩ v0 = s1 := ⟨_, rfl⟩
 obtain ⟨s2, h2⟩ : ∃ s2, s1.setCell ⟨R, 1, none⟩ v1 = s2 := ⟨_, rfl⟩
 obtain ⟨s3, h3⟩ : ∃ s3, s2.setCell ⟨R, 2, none⟩ v2 = s3 := ⟨_, rfl⟩
 obtain ⟨s4, h4⟩ : ∃ s4, s3.setCell ⟨R, 3, none⟩ v3 = s4 := ⟨_, rfl⟩
 have q1 : s1.heap[R]? = some (.cells #[v0, a1, a2, a3, a4, a5, a6, a7, a8] t (0, 0)) := by rw [← h1]; simp [World.setCell, Array.getElem?_modify, h]
 have q2 : s2.heap[R]? = some (.cells #[v0, v1, a2, a3, a4, a5, a6, a7, a8] t (0, 0)) := by rw [← h2]; simp [World.setCell, Array.getElem?_modify, q1]
 have q3 : s3.heap[R]? = some (.cells #[v0, v1, v2, a3, a4, a5, a6, a7, a8] t (0, 0)) := by rw [← h3]; simp [World.setCell, Array.getElem?_modify, q2]
 have q4 : s4.heap[R]? = some (.cells #[v0, v1, v2, v3, a4, a5, a6, a7, a8] t (0, 0)) := by rw [← h4]; simp [World.setCell, Array.getElem?_modify, q3]
 refine ⟨s1, s2, s3, s4, h1, h2, h3, h4, ⟨Lib.cell_of_heap h 0, Lib.cell_of_heap q1 1, Lib.cell_of_heap q2 2, Lib.cell_of_heap q3 3⟩, ⟨Lib.frozen_of_heap h 0, Lib.frozen_of_heap q1 1, Lib.frozen_of_heap q2 2, Lib.frozen_of_heap q3 3⟩, q4, ?_⟩
 rw [← h4, ← h3, ← h2, ← h1]
 exact (((Oth.set W v0).trans (Oth.set _ v1)).trans (Oth.set _ v2)).trans (Oth.set _ v3)
set_option maxHeartbeats 2000000 in
theorem put9r {W : World} {R : Nat} {a0 a1 a2 a3 a4 a5 a6 a7 a8 : Value} {t : TypeId} (h : W.heap[R]? = some (.cells #[a0, a1, a2, a3, a4, a5, a6, a7, a8] t (0, 0))) (v5 v6 v7 v8 : Value) : ∃ s1 s2 s3 s4, W.setCell ⟨R, 5, none⟩ v5 = s1 ∧ s1.setCell ⟨R, 6, none⟩ v6 = s2 ∧ s2.setCell ⟨R, 7, none⟩ v7 = s3 ∧ s3.setCell ⟨R, 8, none⟩ v8 = s4 ∧
  (W.cell? ⟨R, 5, none⟩ = some a5 ∧ s1.cell? ⟨R, 6, none⟩ = some a6 ∧ s2.cell? ⟨R, 7, none⟩ = some a7 ∧ s3.cell? ⟨R, 8, none⟩ = some a8) ∧
  (W.frozen? ⟨R, 5, none⟩ = false ∧ s1.frozen? ⟨R, 6, none⟩ = false ∧ s2.frozen? ⟨R, 7, none⟩ = false ∧ s3.frozen? ⟨R, 8, none⟩ = false) ∧
  s4.heap[R]? = some (.cells #[a0, a1, a2, a3, a4, v5, v6, v7, v8] t (0, 0)) ∧ Oth R W s4 := by
 obtain ⟨s1, h1⟩ : ∃ s1, W.setCell ⟨R, 5, none⟩ v5 = s1 := ⟨_, rfl⟩
 obtain ⟨s2, h2⟩ : ∃ s2, s1.setCell ⟨R, 6, none⟩ v6 = s2 := ⟨_, rfl⟩
 obtain ⟨s3, h3⟩ : ∃ s3, s2.setCell ⟨R, 7, none⟩ v7 = s3 := ⟨_, rfl⟩
 obtain ⟨s4, h4⟩ : ∃ s4, s3.setCell ⟨R, 8, none⟩ v8 = s4 := ⟨_, rfl⟩
 have q1 : s1.heap[R]? = some (.cells #[a0, a1, a2, a3, a4, v5, a6, a7, a8] t (0, 0)) := by rw [← h1]; simp [World.setCell, Array.getElem?_modify, h]
 have q2 : s2.heap[R]? = some (.cells #[a0, a1, a2, a3, a4, v5, v6, a7, a8] t (0, 0)) := by rw [← h2]; simp [World.setCell, Array.getElem?_modify, q1]
 have q3 : s3.heap[R]? = some (.cells #[a0, a1, a2, a3, a4, v5, v6, v7, a8] t (0, 0)) := by rw [← h3]; simp [World.setCell, Array.getElem?_modify, q2]
 have q4 : s4.heap[R]? = some (.cells #[a0, a1, a2, a3, a4, v5, v6, v7, v8] t (0, 0)) := by rw [← h4]; simp [World.setCell, Array.getElem?_modify, q3]
 refine ⟨s1, s2, s3, s4, h1, h2, h3, h4, ⟨Lib.cell_of_heap h 5, Lib.cell_of_heap q1 6, Lib.cell_of_heap q2 7, Lib.cell_of_heap q3 8⟩, ⟨Lib.frozen_of_heap h 5, Lib.frozen_of_heap q1 6, Lib.frozen_of_heap q2 7, Lib.frozen_of_heap q3 8⟩, q4, ?_⟩
 rw [← h4, ← h3, ← h2, ← h1]
 exact (((Oth.set W v5).trans (Oth.set _ v6)).trans (Oth.set _ v7)).trans (Oth.set _ v8)
set_option maxHeartbeats 2000000 in
theorem put11o {W : World} {R : Nat} {a0 a1 a2 a3 a4 a5 a6 a7 a8 a9 a10 : Value} {t : TypeId} (h : W.heap[R]? = some (.cells #[a0, a1, a2, a3, a4, a5, a6, a7, a8, a9, a10] t (0, 0))) (v2 v3 v4 : Value) : ∃ s1 s2 s3, W.setCell ⟨R, 2, none⟩ v2 = s1 ∧ s1.setCell ⟨R, 3, none⟩ v3 = s2 ∧ s2.setCell ⟨R, 4, none⟩ v4 = s3 ∧
  (W.cell? ⟨R, 2, none⟩ = some a2 ∧ s1.cell? ⟨R, 3, none⟩ = some a3 ∧ s2.cell? ⟨R, 4, none⟩ = some a4) ∧
  (W.frozen? ⟨R, 2, none⟩ = false ∧ s1.frozen? ⟨R, 3, none⟩ = false ∧ s2.frozen? ⟨R, 4, none⟩ = false) ∧
  s3.heap[R]? = some (.cells #[a0, a1, v2, v3, v4, a5, a6, a7, a8, a9, a10] t (0, 0)) ∧ Oth R W s3 := by
 obtain ⟨s1, h1⟩ : ∃ s1, W.setCell ⟨R, 2, none⟩ v2 = s1 := ⟨_, rfl⟩
 obtain ⟨s2, h2⟩ : ∃ s2, s1.setCell ⟨R, 3, none⟩ v3 = s2 := ⟨_, rfl⟩
 obtain ⟨s3, h3⟩ : ∃ s3, s2.setCell ⟨R, 4, none⟩ v4 = s3 := ⟨_, rfl⟩
 have q1 : s1.heap[R]? = some (.cells #[a0, a1, v2, a3, a4, a5, a6, a7, a8, a9, a10] t (0, 0)) := by rw [← h1]; simp [World.setCell, Array.getElem?_modify, h]
 have q2 : s2.heap[R]? = some (.cells #[a0, a1, v2, v3, a4, a5, a6, a7, a8, a9, a10] t (0, 0)) := by rw [← h2]; simp [World.setCell, Array.getElem?_modify, q1]
 have q3 : s3.heap[R]? = some (.cells #[a0, a1, v2, v3, v4, a5, a6, a7, a8, a9, a10] t (0, 0)) := by rw [← h3]; simp [World.setCell, Array.getElem?_modify, q2]
 refine ⟨s1, s2, s3, h1, h2, h3, ⟨Lib.cell_of_heap h 2, Lib.cell_of_heap q1 3, Lib.cell_of_heap q2 4⟩, ⟨Lib.frozen_of_heap h 2, Lib.frozen_of_heap q1 3, Lib.frozen_of_heap q2 4⟩, q3, ?_⟩
 rw [← h3, ← h2, ← h1]
 exact ((Oth.set W v2).trans (Oth.set _ v3)).trans (Oth.set _ v4)
set_option maxHeartbeats 2000000 in
theorem put11p {W : World} {R : Nat} {a0 a1 a2 a3 a4 a5 a6 a7 a8 a9 a10 : Value} {t : TypeId} (h : W.heap[R]? = some (.cells #[a0, a1, a2, a3, a4, a5, a6, a7, a8, a9, a10] t (0, 0))) (v5 v6 v7 : Value) : ∃ s1 s2 s3, W.setCell ⟨R, 5, none⟩ v5 = s1 ∧ s1.setCell ⟨R, 6, none⟩ v6 = s2 ∧ s2.setCell ⟨R, 7, none⟩ v7 = s3 ∧
  (W.cell? ⟨R, 5, none⟩ = some a5 ∧ s1.cell? ⟨R, 6, none⟩ = some a6 ∧ s2.cell? ⟨R, 7, none⟩ = some a7) ∧
  (W.frozen? ⟨R, 5, none⟩ = false ∧ s1.frozen? ⟨R, 6, none⟩ = false ∧ s2.frozen? ⟨R, 7, none⟩ = false) ∧
  s3.heap[R]? = some (.cells #[a0, a1, a2, a3, a4, v5, v6, v7, a8, a9, a10] t (0, 0)) ∧ Oth R W s3 := by
 obtain ⟨s1, h1⟩ : ∃ s1, W.setCell ⟨R, 5, none⟩ v5 = s1 := ⟨_, rfl⟩
 obtain ⟨s2, h2⟩ : ∃ s2, s1.setCell ⟨R, 6, none⟩ v6 = s2 := ⟨_, rfl⟩
 obtain ⟨s3, h3⟩ : ∃ s3, s2.setCell ⟨R, 7, none⟩ v7 = s3 := ⟨_, rfl⟩
 have q1 : s1.heap[R]? = some (.cells #[a0, a1, a2, a3, a4, v5, a6, a7, a8, a9, a10] t (0, 0)) := by rw [← h1]; simp [World.setCell, Array.getElem?_modify, h]
 have q2 : s2.heap[R]? = some (.cells #[a0, a1, a2, a3, a4, v5, v6, a7, a8, a9, a10] t (0, 0)) := by rw [← h2]; simp [World.setCell, Array.getElem?_modify, q1]
 have q3 : s3.heap[R]? = some (.cells #[a0, a1, a2, a3, a4, v5, v6, v7, a8, a9, a10] t (0, 0)) := by rw [← h3]; simp [World.setCell, Array.getElem?_modify, q2]
 refine ⟨s1, s2, s3, h1, h2, h3, ⟨Lib.cell_of_heap h 5, Lib.cell_of_heap q1 6, Lib.cell_of_heap q2 7⟩, ⟨Lib.frozen_of_heap h 5, Lib.frozen_of_heap q1 6, Lib.frozen_of_heap q2 7⟩, q3, ?_⟩
 rw [← h3, ← h2, ← h1]
 exact ((Oth.set W v5).trans (Oth.set _ v6)).trans (Oth.set _ v7)
structure Mid (w3 wr : World) (vL0 vR0 : Value) (W : World) (vL : Value) (nL : Nat) (xL : List Value) (vR : Value) (nR : Nat) (xR : List Value) : Prop where
 L : W.ownsRow w3.heap.size 51 4 vL nL xL
 R : W.ownsRow w3.heap.size 51 4 vR nR xR
 dj : ∀ b, vL.ownBlock = some b → vR.ownBlock ≠ some b
 keep : ∀ b, b < wr.heap.size → vL0.ownBlock ≠ some b → vR0.ownBlock ≠ some b → W.heap[b]? = wr.heap[b]?
 fL : vL.ownBlock = vL0.ownBlock ∨ ∃ g, vL.ownBlock = some g ∧ wr.heap.size ≤ g
 fR : vR.ownBlock = vR0.ownBlock ∨ ∃ g, vR.ownBlock = some g ∧ wr.heap.size ≤ g
 size : wr.heap.size ≤ W.heap.size
 os : W.os = wr.os
 tape : W.tape = wr.tape
 output : W.output = wr.output
theorem Mid.start {w3 wr : World} {vL vR : Value} {nL nR : Nat} {xL xR : List Value} (hL : wr.ownsRow w3.heap.size 51 4 vL nL xL) (hR : wr.ownsRow w3.heap.size 51 4 vR nR xR) (hd : ∀ b, vL.ownBlock = some b → vR.ownBlock ≠ some b) : Mid w3 wr vL vR wr.drew vL nL xL vR nR xR :=
 ⟨hL.drew, hR.drew, hd, fun _ _ _ _ => rfl, .inl rfl, .inl rfl, Nat.le_refl _, rfl, rfl, rfl⟩
theorem Mid.alloc {w3 wr W : World} {vL0 vR0 vL vR : Value} {nL nR : Nat} {xL xR : List Value} (h : Mid w3 wr vL0 vR0 W vL nL xL vR nR xR) (o : Obj) : Mid w3 wr vL0 vR0 (W.alloc o) vL nL xL vR nR xR :=
 ⟨h.L.alloc _, h.R.alloc _, h.dj, fun b hb h1 h2 => (Lib.alloc_old _ _ _ (Nat.lt_of_lt_of_le hb h.size)).trans (h.keep b hb h1 h2), h.fL, h.fR, Nat.le_trans h.size (by simp), h.os, h.tape, h.output⟩
theorem Mid.appL {w3 wr W w' : World} {vL0 vR0 vL vR v' : Value} {nL nR nL' : Nat} {xL xR xL' : List Value} (h : Mid w3 wr vL0 vR0 W vL nL xL vR nR xR) (hown : w'.ownsRow w3.heap.size 51 4 v' nL' xL') (hg : W.grownBy w' vL.ownBlock) (hloc : v'.ownBlock = vL.ownBlock ∨ v'.ownBlock = some W.heap.size) : Mid w3 wr vL0 vR0 w' v' nL' xL' vR nR xR := by
 have hs := hg.size
 have hsz := h.size
 refine ⟨hown, ownsRow_keep h.R (fun g hg2 => hg.block g (h.R.lt g hg2).2 (fun e => h.dj g e.symm hg2)), fun b hb hb2 => ?_, fun b hb h1 h2 => ?_, ?_, h.fR, by omega, hg.os.trans h.os, hg.tape.trans h.tape, hg.output.trans h.output⟩
 ·rcases hloc with e | e
  ·exact h.dj b (e ▸ hb) hb2
  ·rw [e] at hb; have := Option.some.inj hb; have := (h.R.lt b hb2).2; omega
 ·refine (hg.block b (by omega) (fun e => ?_)).trans (h.keep b hb h1 h2)
  rcases h.fL with e2 | ⟨g, e2, hge⟩
  ·exact h1 (e2 ▸ e.symm)
  ·rw [e2] at e; have := Option.some.inj e; omega
 ·rcases hloc with e | e
  ·rw [e]; exact h.fL
  ·exact .inr ⟨_, e, hsz⟩
theorem Mid.appR {w3 wr W w' : World} {vL0 vR0 vL vR v' : Value} {nL nR nR' : Nat} {xL xR xR' : List Value} (h : Mid w3 wr vL0 vR0 W vL nL xL vR nR xR) (hown : w'.ownsRow w3.heap.size 51 4 v' nR' xR') (hg : W.grownBy w' vR.ownBlock) (hloc : v'.ownBlock = vR.ownBlock ∨ v'.ownBlock = some W.heap.size) : Mid w3 wr vL0 vR0 w' vL nL xL v' nR' xR' := by
 have hs := hg.size
 have hsz := h.size
 refine ⟨ownsRow_keep h.L (fun g hg2 => hg.block g (h.L.lt g hg2).2 (fun e => h.dj g hg2 e.symm)), hown, fun b hb hb2 => ?_, fun b hb h1 h2 => ?_, h.fL, ?_, by omega, hg.os.trans h.os, hg.tape.trans h.tape, hg.output.trans h.output⟩
 ·rcases hloc with e | e
  ·exact h.dj b hb (e ▸ hb2)
  ·rw [e] at hb2; have := Option.some.inj hb2; have := (h.L.lt b hb).2; omega
 ·refine (hg.block b (by omega) (fun e => ?_)).trans (h.keep b hb h1 h2)
  rcases h.fR with e2 | ⟨g, e2, hge⟩
  ·exact h2 (e2 ▸ e.symm)
  ·rw [e2] at e; have := Option.some.inj e; omega
 ·rcases hloc with e | e
  ·rw [e]; exact h.fR
  ·exact .inr ⟨_, e, hsz⟩
def Ext (W : World) (vL vR : Value) (g : Nat) (o : Obj) : Prop := W.heap[g]? = some o ∧ vL.ownBlock ≠ some g ∧ vR.ownBlock ≠ some g
theorem Ext.new {w3 wr W : World} {vL0 vR0 vL vR : Value} {nL nR : Nat} {xL xR : List Value} (h : Mid w3 wr vL0 vR0 W vL nL xL vR nR xR) (cur : Array Value) (t : TypeId) : Ext (W.alloc (.cells cur t)) vL vR W.heap.size (.cells cur t (0, 0)) :=
 ⟨heap_alloc_new _ _, fun e => by have := (h.L.lt _ e).2; omega, fun e => by have := (h.R.lt _ e).2; omega⟩
theorem Ext.alloc {W : World} {vL vR : Value} {g : Nat} {o : Obj} (h : Ext W vL vR g o) (o' : Obj) : Ext (W.alloc o') vL vR g o := ⟨(Lib.alloc_old _ _ _ (lt_of_block h.1)).trans h.1, h.2⟩
theorem Ext.appL {W w' : World} {vL vR v' : Value} {g : Nat} {o : Obj} (h : Ext W vL vR g o) (hg : W.grownBy w' vL.ownBlock) (hloc : v'.ownBlock = vL.ownBlock ∨ v'.ownBlock = some W.heap.size) : Ext w' v' vR g o := by
 have hl := lt_of_block h.1
 refine ⟨(hg.block g hl (fun e => h.2.1 e.symm)).trans h.1, fun e => ?_, h.2.2⟩
 rcases hloc with e2 | e2
 ·exact h.2.1 (e2 ▸ e)
 ·rw [e2] at e; have := Option.some.inj e; omega
theorem Ext.cells {W : World} {vL vR : Value} {g : Nat} {xs : List Value} {t : TypeId} (h : Ext W vL vR g (.cells xs.toArray t (0, 0))) (j : Nat) (u : Value) (hj : xs[j]? = some u) : W.cell? ((⟨g, 0, none⟩ : Addr).add j) = some u := by
 rw [ocell_add, Lib.cell_of_heap h.1]
 simpa using hj
structure As1 (w w3 : World) (T Qb : Nat) (rel : Int) (A0 : Option Addr) (nk c0 : Nat) (ks : List Int) (k : Nat) (ts us : List Lfc.Raw) (AL : Option Addr) (cl : Nat) (AR : Option Addr) (cr : Nat) (W : World) : Prop where
 blk : W.heap[Qb]? = some (.cells #[.slice none 0 0, .int .i64 rel, .int .i64 0, .int .i64 0, .slice none 0 0, .int .i64 0, .int .i64 0, .slice none 0 0, .slice AL k cl, .slice AR k cr, .slice A0 nk c0] 29 (0, 0))
 lt : ts.length = k
 lu : us.length = k
 rows : ∃ xL xR, W.ownsRow w3.heap.size 51 4 (.slice AL k cl) k xL ∧ W.ownsRow w3.heap.size 51 4 (.slice AR k cr) k xR ∧ RowP (fun b => w3.heap.size ≤ b ∧ (Value.slice AL k cl).ownBlock ≠ some b ∧ (Value.slice AR k cr).ownBlock ≠ some b) W ts xL ∧ RowP (fun b => w3.heap.size ≤ b ∧ (Value.slice AL k cl).ownBlock ≠ some b ∧ (Value.slice AR k cr).ownBlock ≠ some b) W us xR
 dj : ∀ b, (Value.slice AL k cl).ownBlock = some b → (Value.slice AR k cr).ownBlock ≠ some b
 ks : IntsP (fun b => w.heap.size < b ∧ b < w3.heap.size ∧ b ≠ Qb) W A0 ks
 tape : TapeI T W
 oth : Oth T w W
 size : w3.heap.size ≤ W.heap.size
 zt : ∀ t ∈ ts, t.size ≤ 40
 zu : ∀ t ∈ us, Lfc.good t
 res : W.heap[w.heap.size]? = some (.cells #[.slice none 0 0, .int .i64 0, .int .i64 0, .int .i64 0, .slice none 0 0, .int .i64 0, .int .i64 0, .slice none 0 0, .slice none 0 0, .slice none 0 0, .slice none 0 0] 29 (0, 0))
theorem As1.othT {w w3 W W' : World} {T Qb nk c0 k cl cr : Nat} {rel : Int} {A0 AL AR : Option Addr} {ks : List Int} {ts us : List Lfc.Raw} (h : As1 w w3 T Qb rel A0 nk c0 ks k ts us AL cl AR cr W) (hT : T < w.heap.size) (hQ : w.heap.size < Qb) (hQ3 : Qb < w3.heap.size) (ho : Oth T W W') (ht : TapeI T W') : As1 w w3 T Qb rel A0 nk c0 ks k ts us AL cl AR cr W' := by
 obtain ⟨xL, xR, h1, h2, h3, h4⟩ := h.rows
 have hk : ∀ b, w3.heap.size ≤ b → b < W.heap.size → W'.heap[b]? = W.heap[b]? := fun b hb hlt => ho.block b hlt (fun e => by have := Option.some.inj e; omega)
 exact ⟨ho.heap h.blk (by omega), h.lt, h.lu, ⟨xL, xR, ownsRow_keep h1 (fun g hg => hk g (h1.lt g hg).1 (h1.lt g hg).2), ownsRow_keep h2 (fun g hg => hk g (h2.lt g hg).1 (h2.lt g hg).2), h3.keep (fun b hb hlt => hk b hb.1 hlt) ho.size (fun _ _ h => h), h4.keep (fun b hb hlt => hk b hb.1 hlt) ho.size (fun _ _ h => h)⟩, h.dj,
  h.ks.keep (fun b hb hlt => ho.block b hlt (fun e => by have := Option.some.inj e; omega)) ho.size (fun _ _ h => h), ht, h.oth.trans ho, Nat.le_trans h.size ho.size, h.zt, h.zu, ho.heap h.res (by omega)⟩
theorem As1.below {w w3 W W' : World} {T Qb nk c0 k cl cr : Nat} {rel : Int} {A0 AL AR : Option Addr} {ks : List Int} {ts us : List Lfc.Raw} (h : As1 w w3 T Qb rel A0 nk c0 ks k ts us AL cl AR cr W) (hT : T < w.heap.size) (hQ : w.heap.size < Qb) (hQ3 : Qb < w3.heap.size) (hb : Below W.heap.size W W') : As1 w w3 T Qb rel A0 nk c0 ks k ts us AL cl AR cr W' :=
 h.othT hT hQ hQ3 (Oth.of_below hb) (h.tape.below hb)
set_option maxHeartbeats 1000000 in
theorem As1.push {w w3 wr W W' : World} {T Qb nk c0 k cl cr : Nat} {rel : Int} {A0 AL AR AL' AR' : Option Addr} {cl' cr' : Nat} {ks : List Int} {ts us : List Lfc.Raw} {x u : Lfc.Raw} {x0 x1 x2 x3 u0 u1 u2 u3 : Value} {xL xR : List Value} (h : As1 w w3 T Qb rel A0 nk c0 ks k ts us AL cl AR cr wr) (hT : T < w.heap.size) (hQ : w.heap.size < Qb) (hQ3 : Qb < w3.heap.size)
  (hrL : RowP (fun b => w3.heap.size ≤ b ∧ (Value.slice AL k cl).ownBlock ≠ some b ∧ (Value.slice AR k cr).ownBlock ≠ some b) wr ts xL) (hrR : RowP (fun b => w3.heap.size ≤ b ∧ (Value.slice AL k cl).ownBlock ≠ some b ∧ (Value.slice AR k cr).ownBlock ≠ some b) wr us xR)
  (hx : TreeP (fun b => w3.heap.size ≤ b ∧ (Value.slice AL k cl).ownBlock ≠ some b ∧ (Value.slice AR k cr).ownBlock ≠ some b) wr x x0 x1 x2 x3) (hu : TreeP (fun b => w3.heap.size ≤ b ∧ (Value.slice AL k cl).ownBlock ≠ some b ∧ (Value.slice AR k cr).ownBlock ≠ some b) wr u u0 u1 u2 u3) (hzx : x.size ≤ 40) (hzu : Lfc.good u)
  (hM : Mid w3 wr (.slice AL k cl) (.slice AR k cr) W (.slice AL' (k + 1) cl') (k + 1) (xL ++ [x0, x1, x2, x3]) (.slice AR' (k + 1) cr') (k + 1) (xR ++ [u0, u1, u2, u3])) (ho : Oth Qb W W') (hblk : W'.heap[Qb]? = some (.cells #[.slice none 0 0, .int .i64 rel, .int .i64 0, .int .i64 0, .slice none 0 0, .int .i64 0, .int .i64 0, .slice none 0 0, .slice AL' (k + 1) cl', .slice AR' (k + 1) cr', .slice A0 nk c0] 29 (0, 0))) :
  As1 w w3 T Qb rel A0 nk c0 ks (k + 1) (ts ++ [x]) (us ++ [u]) AL' cl' AR' cr' W' := by
 have hsr := h.size
 have hsM := hM.size
 have hso := ho.size
 have hw := h.oth.size
 have hnb : ∀ b, b < w3.heap.size → (Value.slice AL k cl).ownBlock ≠ some b ∧ (Value.slice AR k cr).ownBlock ≠ some b := fun b hb => by
  obtain ⟨xL, xR, h1, h2, _⟩ := h.rows
  exact ⟨fun e => by have := (h1.lt b e).1; omega, fun e => by have := (h2.lt b e).1; omega⟩
 have hold : ∀ b, b < w3.heap.size → b ≠ Qb → W'.heap[b]? = wr.heap[b]? := fun b hb hne => (ho.block b (by omega) (fun e => hne (Option.some.inj e))).trans (hM.keep b (by omega) (hnb b hb).1 (hnb b hb).2)
 have hq : ∀ b, b < wr.heap.size → (w3.heap.size ≤ b ∧ (Value.slice AL k cl).ownBlock ≠ some b ∧ (Value.slice AR k cr).ownBlock ≠ some b) → (w3.heap.size ≤ b ∧ (Value.slice AL' (k + 1) cl').ownBlock ≠ some b ∧ (Value.slice AR' (k + 1) cr').ownBlock ≠ some b) := fun b hlt hb => ⟨hb.1, fun e => by
  rcases hM.fL with e2 | ⟨g, e2, hge⟩
  ·exact hb.2.1 (e2 ▸ e)
  ·rw [e2] at e; have := Option.some.inj e; omega, fun e => by
  rcases hM.fR with e2 | ⟨g, e2, hge⟩
  ·exact hb.2.2 (e2 ▸ e)
  ·rw [e2] at e; have := Option.some.inj e; omega⟩
 have hkeep : ∀ b, (w3.heap.size ≤ b ∧ (Value.slice AL k cl).ownBlock ≠ some b ∧ (Value.slice AR k cr).ownBlock ≠ some b) → b < wr.heap.size → W'.heap[b]? = wr.heap[b]? := fun b hb hlt => (ho.block b (by omega) (fun e => by have := Option.some.inj e; omega)).trans (hM.keep b hlt hb.2.1 hb.2.2)
 have hrow : ∀ {v : Value} {n : Nat} {xs : List Value}, W.ownsRow w3.heap.size 51 4 v n xs → W'.ownsRow w3.heap.size 51 4 v n xs := fun hr => ownsRow_keep hr (fun g hg => ho.block g (hr.lt g hg).2 (fun e => by have := Option.some.inj e; have := (hr.lt g hg).1; omega))
 refine ⟨hblk, by rw [List.length_append, h.lt]; rfl, by rw [List.length_append, h.lu]; rfl, ⟨_, _, hrow hM.L, hrow hM.R, RowP.append (RowP.one (TreeP.keep hkeep (by omega) hq _ _ _ _ _ hx)) (hrL.keep hkeep (by omega) hq), RowP.append (RowP.one (TreeP.keep hkeep (by omega) hq _ _ _ _ _ hu)) (hrR.keep hkeep (by omega) hq)⟩, hM.dj,
  h.ks.keep (fun b hb hlt => hold b hb.2.1 hb.2.2) (by omega) (fun _ _ h => h), h.tape.like (fun b hb => hold b (by omega) (by omega)), ?_, by omega, fun t ht => ?_, fun t ht => ?_, (hold _ (by omega) (by omega)).trans h.res⟩
 ·exact ⟨ho.os.trans (hM.os.trans h.oth.os), ho.tape.trans (hM.tape.trans h.oth.tape), ho.output.trans (hM.output.trans h.oth.output), by omega, fun b hb hn => (hold b (by omega) (by omega)).trans (h.oth.block b hb hn)⟩
 ·rcases List.mem_append.1 ht with h1 | h1
  ·exact h.zt t h1
  ·rw [List.mem_singleton] at h1; subst h1; exact hzx
 ·rcases List.mem_append.1 ht with h1 | h1
  ·exact h.zu t h1
  ·rw [List.mem_singleton] at h1; subst h1; exact hzu
end Go.Proofs.YtadjpadieljjlaaGreat
namespace Go.Proofs.YtadjpadieljjlaaGreat
open Go.RowKit Go.Maps
structure QuP (q : Nat → Prop) (w : World) (fs : List Lfc.Fact) (F : Option Addr) (o p : Lfc.Ord) (vo vp : Value) (ts us : List Lfc.Raw) (L R : Option Addr) (cl cr : Nat) (ks : List Int) (A0 : Option Addr) : Prop where
 fl : fs.length ≤ 3
 rl : ∀ f ∈ fs, f.rel = 1 ∨ f.rel = 2 ∨ f.rel = 3
 ff : FactsP q w F fs
 os : o.size ≤ 20
 ps : p.size ≤ 20
 vo : OrdVP q w o vo
 vp : OrdVP q w p vp
 n1 : 1 ≤ ts.length
 n : ts.length ≤ 3
 eq : us.length = ts.length
 l : L = none → ts.length = 0 ∧ cl = 0
 r : R = none → us.length = 0 ∧ cr = 0
 tt : TreesAtP q w L ts
 uu : TreesAtP q w R us
 kl : ks.length ≤ 5
 kk : IntsP q w A0 ks
 zt : ∀ t ∈ ts, t.size ≤ 40
 zu : ∀ t ∈ us, Lfc.good t
 gf : ∀ f ∈ fs, f.l.size ≤ 40 ∧ (Lfc.good f.l ∨ f.l ∈ ts) ∧ Lfc.good f.r
def AskAns (w : World) (T : Nat) (e : Ending) (w' : World) : Prop :=
 (∃ (fs : List Lfc.Fact) (F : Option Addr) (f0 : Nat) (rel : Int) (o p : Lfc.Ord) (k1 a1 k2 a2 : Int) (A1 A2 : Option Addr) (l1 c1 l2 c2 : Nat) (ts us : List Lfc.Raw) (L R : Option Addr) (cl cr : Nat) (ks : List Int) (A0 : Option Addr) (c0 : Nat),
  e = .returned (.agg #[.slice F fs.length f0, .int .i64 rel, .int .i64 k1, .int .i64 a1, .slice A1 l1 c1, .int .i64 k2, .int .i64 a2, .slice A2 l2 c2, .slice L ts.length cl, .slice R us.length cr, .slice A0 ks.length c0]) ∧
  (rel = 1 ∨ rel = 2 ∨ rel = 3) ∧ (fs.length ≤ f0 ∧ (F = none → f0 = 0)) ∧ QuP (fun b => w.heap.size ≤ b) w' fs F o p (.agg #[.int .i64 k1, .int .i64 a1, .slice A1 l1 c1]) (.agg #[.int .i64 k2, .int .i64 a2, .slice A2 l2 c2]) ts us L R cl cr ks A0) ∧ TapeI T w' ∧ Oth T w w'
def FRow (q : Nat → Prop) (w : World) : List Lfc.Fact → List Value → Prop
 | [], xs => xs = []
 | f :: r, xs => ∃ k n p ls A c k' n' p' rs A' c' ys, xs = .int .i64 k :: S n :: .int .i64 p :: .slice A (List.length ls) c :: .int .i64 f.rel :: .int .i64 k' :: S n' :: .int .i64 p' :: .slice A' (List.length rs) c' :: ys ∧ (f.l = .node k n p ls ∧ f.r = .node k' n' p' rs) ∧
   (TreeVP q w f.l (.agg #[.int .i64 k, S n, .int .i64 p, .slice A (List.length ls) c]) ∧ TreeVP q w f.r (.agg #[.int .i64 k', S n', .int .i64 p', .slice A' (List.length rs) c'])) ∧ FRow q w r ys
theorem FRow.keep {q q' : Nat → Prop} {w w' : World} (hk : ∀ b, q b → b < w.heap.size → w'.heap[b]? = w.heap[b]?) (hs : w.heap.size ≤ w'.heap.size) (hq : ∀ b, b < w.heap.size → q b → q' b) : ∀ {fs : List Lfc.Fact} {xs : List Value}, FRow q w fs xs → FRow q' w' fs xs
 | [], xs, h => by rw [FRow] at h ⊢; exact h
 | f :: r, xs, h => by
  rw [FRow] at h ⊢
  obtain ⟨k, n, p, ls, A, c, k', n', p', rs, A', c', ys, hx, he, ⟨h1, h2⟩, hr⟩ := h
  exact ⟨k, n, p, ls, A, c, k', n', p', rs, A', c', ys, hx, he, ⟨h1.keep hk hs hq, h2.keep hk hs hq⟩, hr.keep hk hs hq⟩
theorem FRow.append {q : Nat → Prop} {w : World} {gs : List Lfc.Fact} {zs : List Value} (hz : FRow q w gs zs) : ∀ {fs : List Lfc.Fact} {xs : List Value}, FRow q w fs xs → FRow q w (fs ++ gs) (xs ++ zs)
 | [], xs, h => by rw [FRow] at h; subst h; exact hz
 | f :: r, xs, h => by
  rw [FRow] at h
  obtain ⟨k, n, p, ls, A, c, k', n', p', rs, A', c', ys, rfl, he, h12, hr⟩ := h
  rw [List.cons_append, FRow]
  exact ⟨k, n, p, ls, A, c, k', n', p', rs, A', c', ys ++ zs, by simp, he, h12, FRow.append hz hr⟩
theorem FRow.lie {q : Nat → Prop} {w : World} {b : Nat} : ∀ {fs : List Lfc.Fact} {xs : List Value} {o : Nat}, FRow q w fs xs → (∀ j u, xs[j]? = some u → w.cell? ⟨b, o + j, none⟩ = some u) → ∀ i (h : i < fs.length), FactO q w b (o + i * 9) fs[i]
 | [], _, _, _, _, i, h => by cases h
 | f :: r, xs, o, h, hc, i, hi => by
  rw [FRow] at h
  obtain ⟨k, n, p, ls, A, c, k', n', p', rs, A', c', ys, rfl, ⟨e1, e2⟩, ⟨h1, h2⟩, hr⟩ := h
  cases i with
  | zero => exact ⟨k, n, p, ls, A, c, k', n', p', rs, A', c', e1, e2, ⟨by simpa using hc 0 _ rfl, by simpa using hc 1 _ rfl, by simpa using hc 2 _ rfl, by simpa using hc 3 _ rfl⟩, by simpa using hc 4 _ rfl, ⟨by simpa using hc 5 _ rfl, by simpa using hc 6 _ rfl, by simpa using hc 7 _ rfl, by simpa using hc 8 _ rfl⟩, h1, h2⟩
  | succ i =>
   have := FRow.lie (o := o + 9) hr (fun j u hj => by
    have := hc (j + 9) u (by simpa using hj)
    rw [show o + 9 + j = o + (j + 9) by omega]
    exact this) i (by simpa using hi)
   rw [show o + (i + 1) * 9 = o + 9 + i * 9 by omega]
   exact this
theorem factsP_own {q : Nat → Prop} {w : World} {base : Nat} {F : Option Addr} {n c : Nat} {xs : List Value} {fs : List Lfc.Fact} (hl : fs.length = n) (h : w.ownsRow base 70 9 (.slice F n c) n xs) (hq : ∀ b, base ≤ b → q b) (hr : FRow q w fs xs) : FactsP q w F fs := fun hne => by
 rcases h.2 with ⟨_, e0⟩ | ⟨g, cap, cur, hv, hbg, hg, _⟩
 ·exact absurd (List.length_eq_zero_iff.1 (hl.trans e0)) hne
 ·injection hv with e1 _ _
  refine ⟨g, 0, e1, lt_of_block hg, hq g hbg, hr.lie (fun j u hj => ?_)⟩
  subst e1
  have := h.cells (g := g) rfl j u hj
  rw [ocell_add] at this
  simpa using this
theorem treesP_own {q : Nat → Prop} {w : World} {base : Nat} {A : Option Addr} {n c : Nat} {xs : List Value} {ts : List Lfc.Raw} (hl : ts.length = n) (h : w.ownsRow base 51 4 (.slice A n c) n xs) (hq : ∀ b, base ≤ b → q b) (hr : RowP q w ts xs) : TreesAtP q w A ts ∧ (A = none → n = 0 ∧ c = 0) := by
 rcases h.2 with ⟨hv, e0⟩ | ⟨g, cap, cur, hv, hbg, hg, _⟩
 ·injection hv with e1 _ e3
  exact ⟨fun hne => absurd (List.length_eq_zero_iff.1 (hl.trans e0)) hne, fun _ => ⟨e0, e3⟩⟩
 ·injection hv with e1 _ e3
  subst e1 e3
  exact ⟨fun _ => ⟨g, 0, rfl, lt_of_block hg, hq g hbg, hr.lie (own_cells h)⟩, fun e => by cases e⟩
structure As2 (w wB : World) (T Qb : Nat) (rel : Int) (A0 : Option Addr) (nk c0 : Nat) (ks : List Int) (n : Nat) (ts us : List Lfc.Raw) (AL : Option Addr) (cl : Nat) (AR : Option Addr) (cr : Nat) (fs : List Lfc.Fact) (nf : Nat) (F : Option Addr) (f0 : Nat) (W : World) : Prop where
 blk : W.heap[Qb]? = some (.cells #[.slice F nf f0, .int .i64 rel, .int .i64 0, .int .i64 0, .slice none 0 0, .int .i64 0, .int .i64 0, .slice none 0 0, .slice AL n cl, .slice AR n cr, .slice A0 nk c0] 29 (0, 0))
 lf : fs.length = nf
 L : TreesAtP (fun b => w.heap.size < b ∧ b ≠ Qb ∧ (Value.slice F nf f0).ownBlock ≠ some b) W AL ts
 R : TreesAtP (fun b => w.heap.size < b ∧ b ≠ Qb ∧ (Value.slice F nf f0).ownBlock ≠ some b) W AR us
 row : ∃ xF, W.ownsRow wB.heap.size 70 9 (.slice F nf f0) nf xF ∧ FRow (fun b => w.heap.size < b ∧ b ≠ Qb ∧ (Value.slice F nf f0).ownBlock ≠ some b) W fs xF
 ks : IntsP (fun b => w.heap.size < b ∧ b ≠ Qb ∧ (Value.slice F nf f0).ownBlock ≠ some b) W A0 ks
 tape : TapeI T W
 oth : Oth T w W
 size : wB.heap.size ≤ W.heap.size
 gf : ∀ f ∈ fs, (f.rel = 1 ∨ f.rel = 2 ∨ f.rel = 3) ∧ f.l.size ≤ 40 ∧ (Lfc.good f.l ∨ f.l ∈ ts) ∧ Lfc.good f.r
 res : W.heap[w.heap.size]? = some (.cells #[.slice none 0 0, .int .i64 0, .int .i64 0, .int .i64 0, .slice none 0 0, .int .i64 0, .int .i64 0, .slice none 0 0, .slice none 0 0, .slice none 0 0, .slice none 0 0] 29 (0, 0))
theorem As1.two {w w3 W : World} {T Qb nk c0 k cl cr : Nat} {rel : Int} {A0 AL AR : Option Addr} {ks : List Int} {ts us : List Lfc.Raw} (h : As1 w w3 T Qb rel A0 nk c0 ks k ts us AL cl AR cr W) (hQ : w.heap.size < Qb) (hQ3 : Qb < w3.heap.size) :
  As2 w W T Qb rel A0 nk c0 ks k ts us AL cl AR cr [] 0 none 0 W ∧ (AL = none → k = 0 ∧ cl = 0) ∧ (AR = none → k = 0 ∧ cr = 0) := by
 obtain ⟨xL, xR, h1, h2, h3, h4⟩ := h.rows
 have hnil : ∀ b, (Value.slice none 0 0).ownBlock ≠ some b := fun b e => by simp [Value.ownBlock] at e
 have hL := treesP_own (q := fun b => w.heap.size < b ∧ b ≠ Qb ∧ (Value.slice none 0 0).ownBlock ≠ some b) h.lt h1 (fun b hb => ⟨by omega, by omega, hnil b⟩) (h3.keep (fun _ _ _ => rfl) (Nat.le_refl _) (fun b _ hb => ⟨by have := hb.1; omega, by have := hb.1; omega, hnil b⟩))
 have hR := treesP_own (q := fun b => w.heap.size < b ∧ b ≠ Qb ∧ (Value.slice none 0 0).ownBlock ≠ some b) h.lu h2 (fun b hb => ⟨by omega, by omega, hnil b⟩) (h4.keep (fun _ _ _ => rfl) (Nat.le_refl _) (fun b _ hb => ⟨by have := hb.1; omega, by have := hb.1; omega, hnil b⟩))
 exact ⟨⟨h.blk, rfl, hL.1, hR.1, ⟨[], World.ownsRow_nil W W.heap.size _ 9, by rw [FRow]⟩, h.ks.keep (fun _ _ _ => rfl) (Nat.le_refl _) (fun b _ hb => ⟨hb.1, hb.2.2, hnil b⟩), h.tape, h.oth, Nat.le_refl _, (fun f hf => by cases hf), h.res⟩, hL.2, hR.2⟩
section
variable {w wB W W' : World} {T Qb nk c0 n cl cr nf f0 : Nat} {rel : Int} {A0 AL AR F : Option Addr} {ks : List Int} {ts us : List Lfc.Raw} {fs : List Lfc.Fact}
theorem As2.othT (h : As2 w wB T Qb rel A0 nk c0 ks n ts us AL cl AR cr fs nf F f0 W) (hT : T < w.heap.size) (hQ : w.heap.size < Qb) (hB : w.heap.size ≤ wB.heap.size) (ho : Oth T W W') (ht : TapeI T W') : As2 w wB T Qb rel A0 nk c0 ks n ts us AL cl AR cr fs nf F f0 W' := by
 obtain ⟨xF, h1, h2⟩ := h.row
 have hk : ∀ b, (w.heap.size < b ∧ b ≠ Qb ∧ (Value.slice F nf f0).ownBlock ≠ some b) → b < W.heap.size → W'.heap[b]? = W.heap[b]? := fun b hb hlt => ho.block b hlt (fun e => by have := Option.some.inj e; omega)
 exact ⟨ho.heap h.blk (by omega), h.lf, h.L.keep hk ho.size (fun _ _ h => h), h.R.keep hk ho.size (fun _ _ h => h), ⟨xF, ownsRow_keep h1 (fun g hg => ho.block g (h1.lt g hg).2 (fun e => by have := Option.some.inj e; have := (h1.lt g hg).1; omega)), h2.keep hk ho.size (fun _ _ h => h)⟩, h.ks.keep hk ho.size (fun _ _ h => h), ht, h.oth.trans ho, Nat.le_trans h.size ho.size, h.gf, ho.heap h.res (by omega)⟩
set_option maxHeartbeats 1000000 in
theorem As2.push {w9 w10 : World} {f : Lfc.Fact} {k p k' p' : Int} {n1 n2 : List UInt8} {ls rs : List Lfc.Raw} {A A' F' : Option Addr} {c c' f0' : Nat} {xF : List Value} {o : Obj} (h : As2 w wB T Qb rel A0 nk c0 ks n ts us AL cl AR cr fs nf F f0 W) (hT : T < w.heap.size) (hQ : w.heap.size < Qb) (hQB : Qb < wB.heap.size)
  (hown : W.ownsRow wB.heap.size 70 9 (.slice F nf f0) nf xF) (hrow : FRow (fun b => w.heap.size < b ∧ b ≠ Qb ∧ (Value.slice F nf f0).ownBlock ≠ some b) W fs xF) (he : f.l = .node k n1 p ls ∧ f.r = .node k' n2 p' rs)
  (hl : TreeVP (fun b => w.heap.size < b ∧ b ≠ Qb ∧ (Value.slice F nf f0).ownBlock ≠ some b) W f.l (.agg #[.int .i64 k, S n1, .int .i64 p, .slice A (List.length ls) c])) (hr : TreeVP (fun b => w.heap.size < b ∧ b ≠ Qb ∧ (Value.slice F nf f0).ownBlock ≠ some b) W f.r (.agg #[.int .i64 k', S n2, .int .i64 p', .slice A' (List.length rs) c']))
  (hg : (f.rel = 1 ∨ f.rel = 2 ∨ f.rel = 3) ∧ f.l.size ≤ 40 ∧ (Lfc.good f.l ∨ f.l ∈ ts) ∧ Lfc.good f.r)
  (hown' : w10.ownsRow wB.heap.size 70 9 (.slice F' (nf + 1) f0') (nf + 1) (xF ++ [.int .i64 k, S n1, .int .i64 p, .slice A (List.length ls) c, .int .i64 f.rel, .int .i64 k', S n2, .int .i64 p', .slice A' (List.length rs) c'])) (hgr : (W.alloc o).grownBy w10 (Value.slice F nf f0).ownBlock) (hloc : (Value.slice F' (nf + 1) f0').ownBlock = (Value.slice F nf f0).ownBlock ∨ (Value.slice F' (nf + 1) f0').ownBlock = some (W.heap.size + 1)) :
  w10.heap[Qb]? = W.heap[Qb]? ∧ As2 w wB T Qb rel A0 nk c0 ks n ts us AL cl AR cr (fs ++ [f]) (nf + 1) F' f0' (w10.setCell ⟨Qb, 0, none⟩ (.slice F' (nf + 1) f0')) := by
 have hs10 : W.heap.size + 1 ≤ w10.heap.size := by have := hgr.size; simpa using this
 have hsz := h.size
 have hw := h.oth.size
 have hlt : ∀ b, (Value.slice F nf f0).ownBlock = some b → wB.heap.size ≤ b ∧ b < W.heap.size := fun b e => hown.lt b e
 have k10 : ∀ b, b < W.heap.size → (Value.slice F nf f0).ownBlock ≠ some b → w10.heap[b]? = W.heap[b]? := fun b hb hne => (hgr.block b (by simp; omega) (fun e => hne e.symm)).trans (Lib.alloc_old _ _ _ hb)
 have hQW : Qb < W.heap.size := lt_of_block h.blk
 have e10 : w10.heap[Qb]? = W.heap[Qb]? := k10 Qb hQW (fun e => by have := (hlt _ e).1; omega)
 have ho : Oth Qb w10 (w10.setCell ⟨Qb, 0, none⟩ (.slice F' (nf + 1) f0')) := Oth.set _ _
 have hso := ho.size
 have hk : ∀ b, (w.heap.size < b ∧ b ≠ Qb ∧ (Value.slice F nf f0).ownBlock ≠ some b) → b < W.heap.size → (w10.setCell ⟨Qb, 0, none⟩ (.slice F' (nf + 1) f0')).heap[b]? = W.heap[b]? := fun b hb hlt => (ho.block b (by omega) (fun e => hb.2.1 (Option.some.inj e))).trans (k10 b hlt hb.2.2)
 have hq : ∀ b, b < W.heap.size → (w.heap.size < b ∧ b ≠ Qb ∧ (Value.slice F nf f0).ownBlock ≠ some b) → (w.heap.size < b ∧ b ≠ Qb ∧ (Value.slice F' (nf + 1) f0').ownBlock ≠ some b) := fun b hlt hb => ⟨hb.1, hb.2.1, fun e => by
  rcases hloc with e2 | e2
  ·exact hb.2.2 (e2 ▸ e)
  ·rw [e2] at e; have := Option.some.inj e; omega⟩
 have hss : W.heap.size ≤ (w10.setCell ⟨Qb, 0, none⟩ (.slice F' (nf + 1) f0')).heap.size := by omega
 have hold : ∀ b, b < wB.heap.size → b ≠ Qb → (w10.setCell ⟨Qb, 0, none⟩ (.slice F' (nf + 1) f0')).heap[b]? = W.heap[b]? := fun b hb hne => (ho.block b (by omega) (fun e => hne (Option.some.inj e))).trans (k10 b (by omega) (fun e => by have := (hlt _ e).1; omega))
 refine ⟨e10, ⟨?_, by rw [List.length_append, h.lf]; rfl, h.L.keep hk hss hq, h.R.keep hk hss hq, ⟨_, ownsRow_keep hown' (fun g hg => ho.block g (hown'.lt g hg).2 (fun e => by have := Option.some.inj e; have := (hown'.lt g hg).1; omega)), FRow.append (gs := [f]) (zs := [.int .i64 k, S n1, .int .i64 p, .slice A (List.length ls) c, .int .i64 f.rel, .int .i64 k', S n2, .int .i64 p', .slice A' (List.length rs) c']) (by rw [FRow]; exact ⟨k, n1, p, ls, A, c, k', n2, p', rs, A', c', [], rfl, he, ⟨hl.keep hk hss hq, hr.keep hk hss hq⟩, by rw [FRow]⟩) (hrow.keep hk hss hq)⟩, h.ks.keep hk hss hq, h.tape.like (fun b hb => hold b (by omega) (by omega)), ?_, by omega, fun g hg2 => ?_, (hold _ (by omega) (by omega)).trans h.res⟩⟩
 ·have e11 := e10.trans h.blk
  simp [World.setCell, Array.getElem?_modify, e11]
 ·exact ⟨ho.os.trans (hgr.os.trans h.oth.os), ho.tape.trans (hgr.tape.trans h.oth.tape), ho.output.trans (hgr.output.trans h.oth.output), by omega, fun b hb hn => (hold b (by omega) (by omega)).trans (h.oth.block b hb hn)⟩
 ·rcases List.mem_append.1 hg2 with h1 | h1
  ·exact h.gf g h1
  ·rw [List.mem_singleton] at h1; subst h1; exact hg
end
def FVar (w wr : World) (T Qb : Nat) (vF : Value) (ts : List Lfc.Raw) (g : Nat) (wx : World) : Prop := ∃ (f : Lfc.Fact) (k : Int) (n : List UInt8) (p : Int) (ls : List Lfc.Raw) (A : Option Addr) (c : Nat) (k' : Int) (n' : List UInt8) (p' : Int) (rs : List Lfc.Raw) (A' : Option Addr) (c' : Nat),
 wr.heap.size ≤ g ∧ (f.l = .node k n p ls ∧ f.r = .node k' n' p' rs) ∧ wx.heap[g]? = some (.cells #[.int .i64 k, S n, .int .i64 p, .slice A (List.length ls) c, .int .i64 f.rel, .int .i64 k', S n', .int .i64 p', .slice A' (List.length rs) c'] 70 (0, 0)) ∧
 (TreeVP (fun b => (w.heap.size < b ∧ b ≠ Qb ∧ vF.ownBlock ≠ some b) ∧ b ≠ g) wx f.l (.agg #[.int .i64 k, S n, .int .i64 p, .slice A (List.length ls) c]) ∧ TreeVP (fun b => (w.heap.size < b ∧ b ≠ Qb ∧ vF.ownBlock ≠ some b) ∧ b ≠ g) wx f.r (.agg #[.int .i64 k', S n', .int .i64 p', .slice A' (List.length rs) c'])) ∧
 ((f.rel = 1 ∨ f.rel = 2 ∨ f.rel = 3) ∧ f.l.size ≤ 40 ∧ (Lfc.good f.l ∨ f.l ∈ ts) ∧ Lfc.good f.r) ∧ Oth T wr wx ∧ TapeI T wx
theorem FVar.othT {w wr wx wy : World} {T Qb g : Nat} {vF : Value} {ts : List Lfc.Raw} (h : FVar w wr T Qb vF ts g wx) (hT : T < w.heap.size) (hw : w.heap.size ≤ wr.heap.size) (ho : Oth T wx wy) (ht : TapeI T wy) : FVar w wr T Qb vF ts g wy := by
 obtain ⟨f, k, n, p, ls, A, c, k', n', p', rs, A', c', hg, he, hq, ⟨h1, h2⟩, hgood, ho1, ht1⟩ := h
 have hk : ∀ b, ((w.heap.size < b ∧ b ≠ Qb ∧ vF.ownBlock ≠ some b) ∧ b ≠ g) → b < wx.heap.size → wy.heap[b]? = wx.heap[b]? := fun b hb hlt => ho.block b hlt (fun e => by have := Option.some.inj e; omega)
 exact ⟨f, k, n, p, ls, A, c, k', n', p', rs, A', c', hg, he, ho.heap hq (by omega), ⟨h1.keep hk ho.size (fun _ _ h => h), h2.keep hk ho.size (fun _ _ h => h)⟩, hgood, ho1.trans ho, ht⟩
theorem rel_cell {W : World} {g r : Nat} (h : W.heap[g]? = some (.cells #[.int .i64 1, .int .i64 2, .int .i64 3] 3 (0, 0))) (hr : r < 3) : W.cell? ⟨g, r, none⟩ = some (.int .i64 ((r : Int) + 1)) := by
 match r, hr with
 | 0, _ => exact Lib.cell_of_heap h 0
 | 1, _ => exact Lib.cell_of_heap h 1
 | 2, _ => exact Lib.cell_of_heap h 2
theorem tree_elem {w wr : World} {T : Nat} {q : Nat → Prop} {A : Option Addr} {ts : List Lfc.Raw} {i : Nat} (hT : T < w.heap.size) (hi : i < ts.length) (h : TreesAtP q wr A ts) (hq : ∀ b, q b → b ≠ T) :
  ∃ b o kk nn pp ls B c, A = some ⟨b, o, none⟩ ∧ (∀ W : World, Oth T wr W → W.cell? ⟨b, o + i * 4, none⟩ = some (.int .i64 kk) ∧ W.cell? ⟨b, o + i * 4 + 1, none⟩ = some (S nn) ∧ W.cell? ⟨b, o + i * 4 + 2, none⟩ = some (.int .i64 pp) ∧ W.cell? ⟨b, o + i * 4 + 3, none⟩ = some (.slice B (List.length ls) c)) ∧ Lfc.Raw.node kk nn pp ls ∈ ts ∧ TreeVP q wr (.node kk nn pp ls) (.agg #[.int .i64 kk, S nn, .int .i64 pp, .slice B (List.length ls) c]) := by
 obtain ⟨b, o, hA, hlt, hqb, hts⟩ := h (by intro h0; rw [h0] at hi; simp at hi)
 obtain ⟨v0, v1, v2, v3, h0, h1, h2, h3, hP⟩ := treesP_at ts o i hi hts
 cases ht : ts[i] with
 | node k n p us =>
  have hP' := hP
  rw [ht, TreeP] at hP
  obtain ⟨rfl, rfl, _, rfl, B, c, rfl, _⟩ := hP
  refine ⟨b, o, k, n, p, us, B, c, hA, fun W hW => ?_, ht ▸ List.getElem_mem hi, ⟨_, _, _, _, rfl, by rw [← ht]; exact hP'⟩⟩
  have hc := fun j => hW.cell (p := ⟨b, j, none⟩) hlt (hq b hqb)
  exact ⟨(hc _).trans h0, (hc _).trans h1, (hc _).trans h2, (hc _).trans h3⟩
end Go.Proofs.YtadjpadieljjlaaGreat
