/- The contract of Free's closure walk. -/
import Derived.Test.YtmdhkcefbkdkbaaDoorRawFree
set_option linter.unusedVariables false
set_option linter.unusedSimpArgs false
namespace Lfc
theorem frs_app (bound : List (List UInt8)) : ∀ (a c : List Raw) (out : List (List UInt8)), Raw.frs bound (a ++ c) out = Raw.frs bound c (Raw.frs bound a out)
  | [], _, _ => by simp [Raw.frs]
  | x :: r, c, out => by simp only [List.cons_append, Raw.frs]; exact frs_app bound r c _
theorem frs_take (bound : List (List UInt8)) (ts : List Raw) (k : Nat) (h : k < ts.length) (out : List (List UInt8)) : Raw.frs bound (ts.take (k + 1)) out = Raw.fr bound ts[k] (Raw.frs bound (ts.take k) out) := by
  rw [List.take_succ_eq_append_getElem h, frs_app]; simp [Raw.frs]
end Lfc
namespace Go.Proofs.YtmdhkcefbkdkbaaDoor
open Go.RowKit Go.Maps Go.WideMaps

/-- A frame of walk: its tree lies in R. -/
structure FrS (w0 : World) (b : Nat) (w : World) (R : Nat) (box : Array Value) (out bound : List (List UInt8)) (w' : World) : Prop where
  inv : FrI w0 b out out bound w'
  box : w'.heap[R]? = some (.cells box 42 (0, 0))
  bel : Below b w w'
  kept : KeptR w w'
theorem FrI.lt {w0 w : World} {b : Nat} {sn out bound : List (List UInt8)} (h : FrI w0 b sn out bound w) : b + 6 ≤ w.heap.size := by have := lt_of_block h.wv; omega
theorem FrS.next {w0 w w1 w2 : World} {b R : Nat} {box : Array Value} {out bound out' bound' : List (List UInt8)} (h : FrS w0 b w R box out bound w1) (hi : FrI w0 b out' out' bound' w2) (hb : Below b w1 w2) (hk : KeptR w1 w2) : FrS w0 b w R box out' bound' w2 :=
  ⟨hi, hk _ _ _ h.box (by decide) (by decide), h.bel.trans hb, h.kept.trans hk⟩
/-- New blocks change nothing. -/
theorem FrI.alloc {w0 w : World} {b : Nat} {sn out bound : List (List UInt8)} (h : FrI w0 b sn out bound w) (o : Obj) : FrI w0 b sn out bound (w.alloc o) := by
  have hlt := h.lt
  obtain ⟨vo, vb, h1, h2, h3, h4, h5⟩ := h.rows
  obtain ⟨D, hm, hD⟩ := h.seen
  refine ⟨h.at_, h.bel.trans ((Below.refl _ _).alloc (by have := h.at_; omega) _), KeptR.alloc w o _ _ _ h.sv (by decide) (by decide), KeptR.alloc w o _ _ _ h.av (by decide) (by decide), KeptR.alloc w o _ _ _ h.wv (by decide) (by decide), ⟨D, hm.alloc _, hD⟩, ⟨vo, vb, ?_, ?_, h3.alloc _, h4.alloc _, h5⟩⟩
  · exact (Lib.alloc_old w o _ (lt_of_block h1)).trans h1
  · exact (Lib.alloc_old w o _ (lt_of_block h2)).trans h2
theorem FrI.drew {w0 w : World} {b : Nat} {sn out bound : List (List UInt8)} (h : FrI w0 b sn out bound w) : FrI w0 b sn out bound w.drew :=
  ⟨h.at_, h.bel.drew, h.sv, h.av, h.wv, h.seen, h.rows⟩
theorem FrS.start {w0 w : World} {b : Nat} {out bound : List (List UInt8)} (box : Array Value) (h : FrI w0 b out out bound w) : FrS w0 b w w.heap.size box out bound (w.alloc (.cells box 42)) :=
  ⟨h.alloc _, heap_alloc_new w _, (Below.refl _ _).alloc (by have := h.lt; omega) _, KeptR.alloc w _⟩
theorem FrS.alloc {w0 w w1 : World} {b R : Nat} {box : Array Value} {out bound : List (List UInt8)} (h : FrS w0 b w R box out bound w1) (o : Obj) : FrS w0 b w R box out bound (w1.alloc o) :=
  h.next (h.inv.alloc o) ((Below.refl _ _).alloc (by have := h.inv.lt; omega) _) (KeptR.alloc w1 o)
theorem FrS.drew {w0 w w1 : World} {b R : Nat} {box : Array Value} {out bound : List (List UInt8)} (h : FrS w0 b w R box out bound w1) : FrS w0 b w R box out bound w1.drew :=
  h.next h.inv.drew (Below.refl _ _).drew (KeptR.drew w1)
/-- The row of the binders, to be read. -/
theorem FrI.bound_at {w0 w : World} {b : Nat} {sn out bound : List (List UInt8)} (h : FrI w0 b sn out bound w) : ∃ A c, w.cell? ⟨b + 1, 0, none⟩ = some (.slice A bound.length c) ∧ NamesAt w A bound := by
  obtain ⟨vo, vb, h1, h2, h3, h4, h5⟩ := h.rows
  obtain ⟨A, c, rfl⟩ := own_form h4
  refine ⟨A, c, cell_of_one h2, fun hne => ?_⟩
  rcases h4.2 with ⟨_, h0⟩ | ⟨g, cap, cur, hv, hbg, hg, _, _, _, _⟩
  · omega
  · cases hv
    refine ⟨g, 0, rfl, lt_of_block hg, fun k hk => ?_⟩
    rw [Nat.zero_add, h4.cellAt k (by omega)]
    simp [nameCells, hk]
/-- A binder is pushed. -/
theorem FrI.pushed {w0 w w2 : World} {b : Nat} {sn out bound : List (List UInt8)} {x : List UInt8} {vo vb v' : Value} (h : FrI w0 b sn out bound w)
    (ho : w.heap[b]? = some (.cells #[vo] 38 (0, 0))) (hb : w.heap[b + 1]? = some (.cells #[vb] 38 (0, 0))) (hown : w.ownsRow (b + 6) 9 1 vo out.length (nameCells out)) (hbown : w.ownsRow (b + 6) 9 1 vb bound.length (nameCells bound)) (hap : Apart vo vb)
    (hgrow : (w.alloc (.cells #[S x] 9)).grownBy w2 vb.ownBlock) (hown' : w2.ownsRow (b + 6) 9 1 v' (bound.length + 1) (nameCells bound ++ [S x])) (hloc : v'.ownBlock = vb.ownBlock ∨ v'.ownBlock = some (w.heap.size + 1)) :
    w2.heap[b + 1]? = some (.cells #[vb] 38 (0, 0)) ∧ FrI w0 b sn out (bound ++ [x]) (w2.setCell ⟨b + 1, 0, none⟩ v') ∧ Below b w (w2.setCell ⟨b + 1, 0, none⟩ v') ∧ KeptR w (w2.setCell ⟨b + 1, 0, none⟩ v') := by
  have hlt := h.lt
  obtain ⟨hp2, hp3, hq3, hown3, hbown3, hap3, hk3, hb3⟩ := push_rows (by omega) (by omega) (by omega) hb ho hbown hown hap.symm hgrow hown' hloc
  have hb3 := hb3 (by omega) (by omega)
  obtain ⟨D, hmap, hD⟩ := h.seen
  have hmap3 := ((hmap.alloc (.cells #[S x] 9)).kept hgrow (fun e => by have := (hbown.lt _ e.symm).1; omega)).setCell (a := ⟨b + 1, 0, none⟩) (by show b + 2 ≠ b + 1; omega) v'
  exact ⟨hp2, ⟨h.at_, h.bel.trans (by rw [← h.at_]; exact hb3), hk3 _ _ _ h.sv (by decide) (by decide), hk3 _ _ _ h.av (by decide) (by decide), hk3 _ _ _ h.wv (by decide) (by decide), ⟨D, hmap3, hD⟩, ⟨_, _, hq3, hp3, hbown3, hown3, hap3.symm⟩⟩, hb3, hk3⟩
/-- A binder is popped. -/
theorem FrI.popped {w0 w : World} {b : Nat} {sn out bound : List (List UInt8)} {x : List UInt8} (h : FrI w0 b sn out (bound ++ [x]) w) :
    ∃ g c, w.heap[b + 1]? = some (.cells #[.slice (some ⟨g, 0, none⟩) (bound.length + 1) c] 38 (0, 0)) ∧ bound.length + 1 ≤ c ∧ c ≤ maxLen ∧ FrI w0 b sn out bound (w.setCell ⟨b + 1, 0, none⟩ (.slice (some ⟨g, 0, none⟩) bound.length c)) ∧
      Below b w (w.setCell ⟨b + 1, 0, none⟩ (.slice (some ⟨g, 0, none⟩) bound.length c)) ∧ KeptR w (w.setCell ⟨b + 1, 0, none⟩ (.slice (some ⟨g, 0, none⟩) bound.length c)) := by
  have hlt := h.lt
  obtain ⟨vo, vb, h1, h2, h3, h4, h5⟩ := h.rows
  rw [List.length_append] at h4
  rcases h4.2 with ⟨_, h0⟩ | ⟨g, cap, cur, rfl, hbg, hg, hnc, hcm, hcs, htake⟩
  · simp at h0
  · have hk := KeptR.setCell h2 (.slice (some ⟨g, 0, none⟩) bound.length cap)
    have hb : Below b w (w.setCell ⟨b + 1, 0, none⟩ (.slice (some ⟨g, 0, none⟩) bound.length cap)) := (Below.refl b w).setCell (p := ⟨b + 1, 0, none⟩) (by show b ≤ b + 1; omega) _
    obtain ⟨D, hmap, hD⟩ := h.seen
    refine ⟨g, cap, h2, hnc, hcm, ⟨h.at_, h.bel.trans (by rw [← h.at_]; exact hb), hk _ _ _ h.sv (by decide) (by decide), hk _ _ _ h.av (by decide) (by decide), hk _ _ _ h.wv (by decide) (by decide), ⟨D, hmap.setCell (a := ⟨b + 1, 0, none⟩) (by show b + 2 ≠ b + 1; omega) _, hD⟩,
      ⟨vo, _, (Below.heap_setCell _ _ _ _ (by show b ≠ b + 1; omega)).trans h1, one_setCell h2, ownsRow_setCell_other h3 (fun e => by have : b + 6 ≤ b + 1 := (h3.lt _ e).1; omega) _, ?_, ?_⟩⟩, hb, hk⟩
    · refine ⟨by simp [nameCells], .inr ⟨g, cap, cur, rfl, hbg, (Below.heap_setCell _ _ _ _ (by show g ≠ b + 1; omega)).trans hg, by simp at hnc; omega, hcm, hcs, ?_⟩⟩
      have e1 : cur.toList.take (bound.length * 1) = (cur.toList.take ((bound.length + [x].length) * 1)).take (bound.length * 1) := by
        rw [List.take_take]; congr 1; simp
      rw [e1, htake]
      simp [nameCells]
    · exact h5
end Go.Proofs.YtmdhkcefbkdkbaaDoor
