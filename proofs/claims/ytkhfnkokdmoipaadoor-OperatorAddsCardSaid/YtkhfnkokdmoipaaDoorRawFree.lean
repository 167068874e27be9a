/- Contracts of Free's closures. -/
import Derived.Test.YtkhfnkokdmoipaaDoorRawFreeM
import Derived.Test.YtkhfnkokdmoipaaDoorRawWf2
import Derived.StillTailTactics
set_option linter.unusedVariables false
set_option linter.unusedSimpArgs false
namespace Go.Proofs.YtkhfnkokdmoipaaDoor
open Go.RowKit Go.Maps Go.WideMaps

/-- Two rows of names: no block is of both. -/
def Apart (v v' : Value) : Prop := v.ownBlock = none ∨ v.ownBlock ≠ v'.ownBlock
theorem Apart.symm {v v' : Value} (h : Apart v v') : Apart v' v := by
  unfold Apart at *
  rcases h with h | h
  · cases hb : v'.ownBlock
    · exact .inl rfl
    · exact .inr (by rw [h]; simp)
  · exact .inr (Ne.symm h)

theorem info_string : ∃ i, Tryd.prog.info? 9 = some i ∧ i.zero = some (S []) ∧ i.size = 1 ∧ i.bytes = 16 := by
  obtain ⟨i0, hi, hz0, hz1, hz2⟩ := info_parts (show (Tryd.prog.info? 9).map (fun i => (i.zero, i.size, i.bytes)) = some (some (S []), 1, 16) by kernel_rfl)
  exact ⟨i0, hi, hz0, hz1, hz2⟩

/-- One row grows by a name, and is stored in its box: the two rows and boxes. -/
theorem push_rows {w w2 : World} {b p q : Nat} {vp vq v' : Value} {l l' : List (List UInt8)} {x : List UInt8} (hpq : p ≠ q) (hp6 : p < b + 6) (hq6 : q < b + 6)
    (hp : w.heap[p]? = some (.cells #[vp] 44 (0, 0))) (hq : w.heap[q]? = some (.cells #[vq] 44 (0, 0))) (hown : w.ownsRow (b + 6) 9 1 vp l.length (nameCells l)) (hqown : w.ownsRow (b + 6) 9 1 vq l'.length (nameCells l')) (hap : Apart vp vq)
    (hgrow : (w.alloc (.cells #[S x] 9)).grownBy w2 vp.ownBlock) (hown' : w2.ownsRow (b + 6) 9 1 v' (l.length + 1) (nameCells l ++ [S x])) (hloc : v'.ownBlock = vp.ownBlock ∨ v'.ownBlock = some (w.heap.size + 1)) :
    w2.heap[p]? = some (.cells #[vp] 44 (0, 0)) ∧ (w2.setCell ⟨p, 0, none⟩ v').heap[p]? = some (.cells #[v'] 44 (0, 0)) ∧ (w2.setCell ⟨p, 0, none⟩ v').heap[q]? = some (.cells #[vq] 44 (0, 0)) ∧
    (w2.setCell ⟨p, 0, none⟩ v').ownsRow (b + 6) 9 1 v' (l ++ [x]).length (nameCells (l ++ [x])) ∧ (w2.setCell ⟨p, 0, none⟩ v').ownsRow (b + 6) 9 1 vq l'.length (nameCells l') ∧ Apart v' vq ∧ KeptR w (w2.setCell ⟨p, 0, none⟩ v') ∧ (b ≤ p → b ≤ w.heap.size → Below b w (w2.setCell ⟨p, 0, none⟩ v')) := by
  have hpl := lt_of_block hp
  have hql := lt_of_block hq
  have ne (k : Nat) (hk : k < b + 6) : some k ≠ vp.ownBlock := fun e => by have := (hown.lt k e.symm).1; omega
  have hp2 : w2.heap[p]? = some (.cells #[vp] 44 (0, 0)) := (hgrow.block p (by simp; omega) (ne p hp6)).trans ((Lib.alloc_old w _ p hpl).trans hp)
  have hq2 : w2.heap[q]? = some (.cells #[vq] 44 (0, 0)) := (hgrow.block q (by simp; omega) (ne q hq6)).trans ((Lib.alloc_old w _ q hql).trans hq)
  have hv'b : v'.ownBlock ≠ some p := fun e => by have := (hown'.lt p e).1; omega
  have hvqb : vq.ownBlock ≠ some p := fun e => by have := (hqown.lt p e).1; omega
  have hk1 : KeptR (w.alloc (.cells #[S x] 9)) w2 := KeptR.grown hgrow (fun g c t e hg => by
    rcases (hown.alloc (.cells #[S x] 9)).2 with ⟨rfl, _⟩ | ⟨g', cap, cur, rfl, _, hgg, _⟩
    · simp [Value.ownBlock] at e
    · simp [Value.ownBlock] at e
      subst e
      rw [hgg] at hg
      cases hg
      rfl)
  refine ⟨hp2, one_setCell hp2, (Below.heap_setCell _ _ _ _ (by simpa using hpq.symm)).trans hq2, ?_, ?_, ?_, ?_, ?_⟩
  · have : nameCells (l ++ [x]) = nameCells l ++ [S x] := by simp [nameCells]
    rw [this, List.length_append]
    exact ownsRow_setCell_other hown' hv'b _
  · exact ownsRow_setCell_other ((hqown.alloc _).kept hgrow hap.symm) hvqb _
  · rcases hloc with h | h
    · rcases hap with h' | h'
      · exact .inl (h.trans h')
      · exact .inr (by rw [h]; exact h')
    · exact .inr (by rw [h]; intro e; have := (hqown.lt _ e.symm).2; omega)
  · exact ((KeptR.alloc w _).trans hk1).trans (KeptR.setCell hp2 _)
  · intro hbp hbw
    exact (((Below.refl b w).alloc hbw _).grown hgrow (by simp; omega) (fun k hk => by have := (hown.lt k hk).1; omega)).setCell (p := ⟨p, 0, none⟩) hbp _

end Go.Proofs.YtkhfnkokdmoipaaDoor
