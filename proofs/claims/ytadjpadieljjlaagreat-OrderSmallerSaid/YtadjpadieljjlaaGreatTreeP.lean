/- Trees whose blocks are known, and rows of trees. -/
import Derived.Test.YtadjpadieljjlaaGreatRawMem
import Derived.Test.YtadjpadieljjlaaGreatOth
import Derived.Laws.AppendOwn
import Derived.Laws.OwnMore
set_option linter.unusedVariables false
set_option linter.unusedSimpArgs false
namespace Go.Proofs.YtadjpadieljjlaaGreat
open Go.RowKit

mutual
/-- The four cells of a tree, whose blocks are such. -/
def TreeP (q : Nat → Prop) (w : World) : Lfc.Raw → Value → Value → Value → Value → Prop
  | .node k n p ts, v0, v1, v2, v3 => v0 = .int .i64 k ∧ v1 = S n ∧ n.length ≤ 1000000 ∧ v2 = .int .i64 p ∧ ∃ A c, v3 = .slice A ts.length c ∧ ts.length ≤ c ∧ (ts ≠ [] → ∃ b o, A = some ⟨b, o, none⟩ ∧ b < w.heap.size ∧ q b ∧ TreesP q w b ts o)
def TreesP (q : Nat → Prop) (w : World) (b : Nat) : List Lfc.Raw → Nat → Prop
  | [], _ => True
  | t :: r, o => (∃ v0 v1 v2 v3, w.cell? ⟨b, o, none⟩ = some v0 ∧ w.cell? ⟨b, o + 1, none⟩ = some v1 ∧ w.cell? ⟨b, o + 2, none⟩ = some v2 ∧ w.cell? ⟨b, o + 3, none⟩ = some v3 ∧ TreeP q w t v0 v1 v2 v3) ∧ TreesP q w b r (o + 4)
end
mutual
theorem TreeP.keep {q q' : Nat → Prop} {w w' : World} (hk : ∀ b, q b → b < w.heap.size → w'.heap[b]? = w.heap[b]?) (hs : w.heap.size ≤ w'.heap.size) (hq : ∀ b, b < w.heap.size → q b → q' b) : ∀ (t : Lfc.Raw) (v0 v1 v2 v3 : Value), TreeP q w t v0 v1 v2 v3 → TreeP q' w' t v0 v1 v2 v3
  | .node k n p ts, v0, v1, v2, v3, h => by
    rw [TreeP] at h ⊢
    obtain ⟨h0, h1, hn, h2, A, c, h3, h4, h5⟩ := h
    refine ⟨h0, h1, hn, h2, A, c, h3, h4, fun hne => ?_⟩
    obtain ⟨b, o, hA, hlt, hqb, hts⟩ := h5 hne
    exact ⟨b, o, hA, Nat.lt_of_lt_of_le hlt hs, hq b hlt hqb, TreesP.keep hk hs hq ts b o hlt hqb hts⟩
theorem TreesP.keep {q q' : Nat → Prop} {w w' : World} (hk : ∀ b, q b → b < w.heap.size → w'.heap[b]? = w.heap[b]?) (hs : w.heap.size ≤ w'.heap.size) (hq : ∀ b, b < w.heap.size → q b → q' b) : ∀ (ts : List Lfc.Raw) (b o : Nat), b < w.heap.size → q b → TreesP q w b ts o → TreesP q' w' b ts o
  | [], _, _, _, _, _ => by rw [TreesP]; trivial
  | t :: r, b, o, hlt, hb, h => by
    rw [TreesP] at h ⊢
    obtain ⟨⟨v0, v1, v2, v3, c0, c1, c2, c3, ht⟩, hr⟩ := h
    have hc := fun j => World.cell?_of_block (a := ⟨b, j, none⟩) (hk b hb hlt)
    exact ⟨⟨v0, v1, v2, v3, (hc _).trans c0, (hc _).trans c1, (hc _).trans c2, (hc _).trans c3, TreeP.keep hk hs hq t v0 v1 v2 v3 ht⟩, TreesP.keep hk hs hq r b (o + 4) hlt hb hr⟩
end
mutual
theorem TreeP.toC {q : Nat → Prop} {w : World} : ∀ (t : Lfc.Raw) (v0 v1 v2 v3 : Value), TreeP q w t v0 v1 v2 v3 → TreeC w t v0 v1 v2 v3
  | .node k n p ts, v0, v1, v2, v3, h => by
    rw [TreeP] at h
    rw [TreeC]
    obtain ⟨h0, h1, hn, h2, A, c, h3, h4, h5⟩ := h
    refine ⟨h0, h1, hn, h2, A, c, h3, h4, fun hne => ?_⟩
    obtain ⟨b, o, hA, hlt, hqb, hts⟩ := h5 hne
    exact ⟨b, o, hA, hlt, TreesP.toC ts b o hts⟩
theorem TreesP.toC {q : Nat → Prop} {w : World} : ∀ (ts : List Lfc.Raw) (b o : Nat), TreesP q w b ts o → TreesO w b ts o
  | [], _, _, _ => by rw [TreesO]; trivial
  | t :: r, b, o, h => by
    rw [TreesP] at h
    rw [TreesO]
    obtain ⟨⟨v0, v1, v2, v3, c0, c1, c2, c3, ht⟩, hr⟩ := h
    exact ⟨⟨v0, v1, v2, v3, c0, c1, c2, c3, TreeP.toC t v0 v1 v2 v3 ht⟩, TreesP.toC r b (o + 4) hr⟩
end
mutual
theorem TreeC.toP {q : Nat → Prop} {w : World} (hq : ∀ b, b < w.heap.size → q b) : ∀ (t : Lfc.Raw) (v0 v1 v2 v3 : Value), TreeC w t v0 v1 v2 v3 → TreeP q w t v0 v1 v2 v3
  | .node k n p ts, v0, v1, v2, v3, h => by
    rw [TreeC] at h
    rw [TreeP]
    obtain ⟨h0, h1, hn, h2, A, c, h3, h4, h5⟩ := h
    refine ⟨h0, h1, hn, h2, A, c, h3, h4, fun hne => ?_⟩
    obtain ⟨b, o, hA, hlt, hts⟩ := h5 hne
    exact ⟨b, o, hA, hlt, hq b hlt, TreesO.toP hq ts b o hts⟩
theorem TreesO.toP {q : Nat → Prop} {w : World} (hq : ∀ b, b < w.heap.size → q b) : ∀ (ts : List Lfc.Raw) (b o : Nat), TreesO w b ts o → TreesP q w b ts o
  | [], _, _, _ => by rw [TreesP]; trivial
  | t :: r, b, o, h => by
    rw [TreesO] at h
    rw [TreesP]
    obtain ⟨⟨v0, v1, v2, v3, c0, c1, c2, c3, ht⟩, hr⟩ := h
    exact ⟨⟨v0, v1, v2, v3, c0, c1, c2, c3, TreeC.toP hq t v0 v1 v2 v3 ht⟩, TreesO.toP hq r b (o + 4) hr⟩
end

/-- The cells of trees, one behind the other. -/
def RowP (q : Nat → Prop) (w : World) : List Lfc.Raw → List Value → Prop
  | [], xs => xs = []
  | t :: r, xs => ∃ v0 v1 v2 v3 ys, xs = v0 :: v1 :: v2 :: v3 :: ys ∧ TreeP q w t v0 v1 v2 v3 ∧ RowP q w r ys
theorem RowP.len {q : Nat → Prop} {w : World} : ∀ {ts : List Lfc.Raw} {xs : List Value}, RowP q w ts xs → xs.length = 4 * ts.length
  | [], xs, h => by rw [RowP] at h; subst h; rfl
  | t :: r, xs, h => by
    rw [RowP] at h
    obtain ⟨v0, v1, v2, v3, ys, rfl, _, hr⟩ := h
    have := hr.len
    simp; omega
theorem RowP.keep {q q' : Nat → Prop} {w w' : World} (hk : ∀ b, q b → b < w.heap.size → w'.heap[b]? = w.heap[b]?) (hs : w.heap.size ≤ w'.heap.size) (hq : ∀ b, b < w.heap.size → q b → q' b) : ∀ {ts : List Lfc.Raw} {xs : List Value}, RowP q w ts xs → RowP q' w' ts xs
  | [], xs, h => by rw [RowP] at h ⊢; exact h
  | t :: r, xs, h => by
    rw [RowP] at h ⊢
    obtain ⟨v0, v1, v2, v3, ys, rfl, ht, hr⟩ := h
    exact ⟨v0, v1, v2, v3, ys, rfl, TreeP.keep hk hs hq t _ _ _ _ ht, hr.keep hk hs hq⟩
theorem RowP.append {q : Nat → Prop} {w : World} {us : List Lfc.Raw} {zs : List Value} (hz : RowP q w us zs) : ∀ {ts : List Lfc.Raw} {xs : List Value}, RowP q w ts xs → RowP q w (ts ++ us) (xs ++ zs)
  | [], xs, h => by rw [RowP] at h; subst h; exact hz
  | t :: r, xs, h => by
    rw [RowP] at h
    obtain ⟨v0, v1, v2, v3, ys, rfl, ht, hr⟩ := h
    rw [List.cons_append, RowP]
    exact ⟨v0, v1, v2, v3, ys ++ zs, by simp, ht, RowP.append hz hr⟩
theorem RowP.one {q : Nat → Prop} {w : World} {t : Lfc.Raw} {v0 v1 v2 v3 : Value} (h : TreeP q w t v0 v1 v2 v3) : RowP q w [t] [v0, v1, v2, v3] := ⟨v0, v1, v2, v3, [], rfl, h, rfl⟩
/-- The cells that lie there. -/
def CellsAt (w : World) (b o : Nat) (xs : List Value) : Prop := ∀ j u, xs[j]? = some u → w.cell? ⟨b, o + j, none⟩ = some u
theorem RowP.lie {q : Nat → Prop} {w : World} {b : Nat} : ∀ {ts : List Lfc.Raw} {xs : List Value} {o : Nat}, RowP q w ts xs → CellsAt w b o xs → TreesP q w b ts o
  | [], _, _, _, _ => by rw [TreesP]; trivial
  | t :: r, xs, o, h, hc => by
    rw [RowP] at h
    obtain ⟨v0, v1, v2, v3, ys, rfl, ht, hr⟩ := h
    rw [TreesP]
    refine ⟨⟨v0, v1, v2, v3, hc 0 _ rfl, hc 1 _ rfl, hc 2 _ rfl, hc 3 _ rfl, ht⟩, hr.lie fun j u hj => ?_⟩
    have := hc (j + 4) u (by simpa using hj)
    rw [show o + 4 + j = o + (j + 4) by omega]
    exact this
theorem TreesP.row {q : Nat → Prop} {w : World} {b : Nat} : ∀ {ts : List Lfc.Raw} {o : Nat}, TreesP q w b ts o → ∃ xs, RowP q w ts xs ∧ CellsAt w b o xs
  | [], _, _ => ⟨[], by rw [RowP], fun j u h => by simp at h⟩
  | t :: r, o, h => by
    rw [TreesP] at h
    obtain ⟨⟨v0, v1, v2, v3, c0, c1, c2, c3, ht⟩, hr⟩ := h
    obtain ⟨xs, hx, hc⟩ := hr.row
    refine ⟨v0 :: v1 :: v2 :: v3 :: xs, ?_, fun j u hj => ?_⟩
    · rw [RowP]; exact ⟨v0, v1, v2, v3, xs, rfl, ht, hx⟩
    · match j with
      | 0 => simp at hj; subst hj; exact c0
      | 1 => simp at hj; subst hj; exact c1
      | 2 => simp at hj; subst hj; exact c2
      | 3 => simp at hj; subst hj; exact c3
      | j + 4 =>
        have := hc j u (by simpa using hj)
        rw [show o + (j + 4) = o + 4 + j by omega]; exact this
theorem RowP.set {q : Nat → Prop} {w : World} {t : Lfc.Raw} {v0 v1 v2 v3 : Value} (ht : TreeP q w t v0 v1 v2 v3) : ∀ {ts : List Lfc.Raw} {xs : List Value} (i : Nat), i < ts.length → RowP q w ts xs → RowP q w (ts.set i t) ((((xs.set (i * 4) v0).set (i * 4 + 1) v1).set (i * 4 + 2) v2).set (i * 4 + 3) v3)
  | [], _, _, hi, _ => by simp at hi
  | u :: r, xs, i, hi, h => by
    rw [RowP] at h
    obtain ⟨u0, u1, u2, u3, ys, rfl, hu, hr⟩ := h
    match i with
    | 0 => simp only [List.set_cons_zero, Nat.zero_mul, Nat.zero_add, List.set_cons_succ]; rw [RowP]; exact ⟨v0, v1, v2, v3, ys, rfl, ht, hr⟩
    | i + 1 =>
      have := RowP.set ht i (by simpa using hi) hr
      rw [show (i + 1) * 4 = i * 4 + 1 + 1 + 1 + 1 by omega]
      simp only [List.set_cons_succ]
      rw [RowP]
      exact ⟨u0, u1, u2, u3, _, rfl, hu, this⟩
theorem CellsAt.set {w : World} {b o j0 : Nat} {xs : List Value} (h : CellsAt w b o xs) (v : Value) : CellsAt (w.setCell ⟨b, o + j0, none⟩ v) b o (xs.set j0 v) := by
  intro j u hj
  by_cases e : j = j0
  · subst e
    have hl : j < xs.length := by
      rcases Nat.lt_or_ge j xs.length with h1 | h1
      · exact h1
      · rw [List.set_eq_of_length_le h1, List.getElem?_eq_none h1] at hj; cases hj
    rw [List.getElem?_set_self hl] at hj
    cases hj
    refine World.cell?_setCell_same' _ _ _ ?_
    rw [h j xs[j] (List.getElem?_eq_getElem hl)]; rfl
  · rw [List.getElem?_set_ne (Ne.symm e)] at hj
    rw [World.cell?_setCell_other]
    · exact h j u hj
    · intro e'; have := congrArg Addr.off e'; simp at this; omega
theorem taddr_add (b j : Nat) : (⟨b, 0, none⟩ : Addr).add j = ⟨b, j, none⟩ := by
  unfold Addr.add; split <;> simp_all
/-- A row that is owned: its cells lie there. -/
theorem own_cells {w : World} {base : Nat} {e : TypeId} {size n g cap : Nat} {xs : List Value} (h : w.ownsRow base e size (.slice (some ⟨g, 0, none⟩) n cap) n xs) : CellsAt w g 0 xs := by
  intro j u hj
  have := h.cells (g := g) rfl j u hj
  rw [taddr_add] at this
  simpa using this
/-- A slice of trees, whose blocks are such. -/
def TreesAtP (q : Nat → Prop) (w : World) (A : Option Addr) (ts : List Lfc.Raw) : Prop := ts ≠ [] → ∃ b o, A = some ⟨b, o, none⟩ ∧ b < w.heap.size ∧ q b ∧ TreesP q w b ts o
theorem TreesAtP.keep {q q' : Nat → Prop} {w w' : World} {A : Option Addr} {ts : List Lfc.Raw} (hk : ∀ b, q b → b < w.heap.size → w'.heap[b]? = w.heap[b]?) (hs : w.heap.size ≤ w'.heap.size) (hq : ∀ b, b < w.heap.size → q b → q' b) (h : TreesAtP q w A ts) : TreesAtP q' w' A ts := fun hne => by
  obtain ⟨b, o, hA, hlt, hb, h⟩ := h hne
  exact ⟨b, o, hA, Nat.lt_of_lt_of_le hlt hs, hq b hlt hb, TreesP.keep hk hs hq ts b o hlt hb h⟩
/-- A tree by value, whose blocks are such. -/
def TreeVP (q : Nat → Prop) (w : World) (t : Lfc.Raw) (v : Value) : Prop := ∃ v0 v1 v2 v3, v = .agg #[v0, v1, v2, v3] ∧ TreeP q w t v0 v1 v2 v3
theorem TreeVP.toV {q : Nat → Prop} {w : World} {t : Lfc.Raw} {v : Value} (h : TreeVP q w t v) : TreeV w t v := by
  obtain ⟨v0, v1, v2, v3, rfl, h⟩ := h
  exact ⟨v0, v1, v2, v3, rfl, TreeP.toC t _ _ _ _ h⟩
theorem TreeV.toP {q : Nat → Prop} {w : World} {t : Lfc.Raw} {v : Value} (hq : ∀ b, b < w.heap.size → q b) (h : TreeV w t v) : TreeVP q w t v := by
  obtain ⟨v0, v1, v2, v3, rfl, h⟩ := h
  exact ⟨v0, v1, v2, v3, rfl, TreeC.toP hq t _ _ _ _ h⟩
theorem TreeVP.mk {q : Nat → Prop} {w : World} {k p : Int} {n : List UInt8} {ts : List Lfc.Raw} {A : Option Addr} {c : Nat} (hn : n.length ≤ 1000000) (hc : ts.length ≤ c) (h : TreesAtP q w A ts) : TreeVP q w (.node k n p ts) (.agg #[.int .i64 k, S n, .int .i64 p, .slice A ts.length c]) :=
  ⟨_, _, _, _, rfl, by rw [TreeP]; exact ⟨rfl, rfl, hn, rfl, A, c, rfl, hc, h⟩⟩

/-- A struct of four cells is stored. -/
theorem put4 {W : World} {R : Nat} {a0 a1 a2 a3 : Value} {t : TypeId} (h : W.heap[R]? = some (.cells #[a0, a1, a2, a3] t (0, 0))) (v0 v1 v2 v3 : Value) : ∃ s1 s2 s3 s4, W.setCell ⟨R, 0, none⟩ v0 = s1 ∧ s1.setCell ⟨R, 1, none⟩ v1 = s2 ∧ s2.setCell ⟨R, 2, none⟩ v2 = s3 ∧ s3.setCell ⟨R, 3, none⟩ v3 = s4 ∧
    (W.cell? ⟨R, 0, none⟩ = some a0 ∧ s1.cell? ⟨R, 1, none⟩ = some a1 ∧ s2.cell? ⟨R, 2, none⟩ = some a2 ∧ s3.cell? ⟨R, 3, none⟩ = some a3) ∧
    (W.frozen? ⟨R, 0, none⟩ = false ∧ s1.frozen? ⟨R, 1, none⟩ = false ∧ s2.frozen? ⟨R, 2, none⟩ = false ∧ s3.frozen? ⟨R, 3, none⟩ = false) ∧
    s4.heap[R]? = some (.cells #[v0, v1, v2, v3] t (0, 0)) ∧ Oth R W s4 := by
  obtain ⟨s1, h1⟩ : ∃ s1, W.setCell ⟨R, 0, none⟩ v0 = s1 := ⟨_, rfl⟩
  obtain ⟨s2, h2⟩ : ∃ s2, s1.setCell ⟨R, 1, none⟩ v1 = s2 := ⟨_, rfl⟩
  obtain ⟨s3, h3⟩ : ∃ s3, s2.setCell ⟨R, 2, none⟩ v2 = s3 := ⟨_, rfl⟩
  obtain ⟨s4, h4⟩ : ∃ s4, s3.setCell ⟨R, 3, none⟩ v3 = s4 := ⟨_, rfl⟩
  have q1 : s1.heap[R]? = some (.cells #[v0, a1, a2, a3] t (0, 0)) := by rw [← h1]; simp [World.setCell, Array.getElem?_modify, h]
  have q2 : s2.heap[R]? = some (.cells #[v0, v1, a2, a3] t (0, 0)) := by rw [← h2]; simp [World.setCell, Array.getElem?_modify, q1]
  have q3 : s3.heap[R]? = some (.cells #[v0, v1, v2, a3] t (0, 0)) := by rw [← h3]; simp [World.setCell, Array.getElem?_modify, q2]
  have q4 : s4.heap[R]? = some (.cells #[v0, v1, v2, v3] t (0, 0)) := by rw [← h4]; simp [World.setCell, Array.getElem?_modify, q3]
  refine ⟨s1, s2, s3, s4, h1, h2, h3, h4, ⟨Lib.cell_of_heap h 0, Lib.cell_of_heap q1 1, Lib.cell_of_heap q2 2, Lib.cell_of_heap q3 3⟩, ⟨Lib.frozen_of_heap h 0, Lib.frozen_of_heap q1 1, Lib.frozen_of_heap q2 2, Lib.frozen_of_heap q3 3⟩, q4, ?_⟩
  rw [← h4, ← h3, ← h2, ← h1]
  exact (((Oth.set W v0).trans (Oth.set _ v1)).trans (Oth.set _ v2)).trans (Oth.set _ v3)
end Go.Proofs.YtadjpadieljjlaaGreat
