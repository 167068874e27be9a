/- Parts of the proof that no input makes the law false: TreeP, OpMem, OpA, OpA2, StepApp, RawMade, RawSpoil. -/
import Derived.Laws.AppendOwn
import Derived.Laws.OwnMore
import Derived.Maps.AppendAt
import Derived.Deep.RegionLaw
import Derived.Deep.RegionHeld3
import Derived.Deep.DeepCutAuto
import Derived.Deep.CutBlock
import Derived.RegionTactic
import Derived.Test.YthajalgkjonaaaaGreatDoorPxA
import Derived.Test.YthajalgkjonaaaaGreatDoorPxB
import Derived.Test.YthajalgkjonaaaaGreatDoorPxD
set_option linter.unusedVariables false
set_option linter.unusedSimpArgs false
namespace Go.Proofs.YthajalgkjonaaaaGreatDoor
open Go.RowKit
mutual
def TreeP (q : Nat → Prop) (w : World) : Lfc.Raw → Value → Value → Value → Value → Prop
 | .node k n p ts, v0, v1, v2, v3 => v0 = .int .i64 k ∧ v1 = S n ∧ n.length ≤ 1000000 ∧ v2 = .int .i64 p ∧ ∃ A c, v3 = .slice A ts.length c ∧ ts.length ≤ c ∧ (ts ≠ [] → ∃ b o, A = some ⟨b, o, none⟩ ∧ b < w.heap.size ∧ q b ∧ TreesP q w b ts o)
def TreesP (q : Nat → Prop) (w : World) (b : Nat) : List Lfc.Raw → Nat → Prop
 | [], _ => True
 | t :: r, o => (∃ v0 v1 v2 v3, w.cell? ⟨b, o, none⟩ = some v0 ∧ w.cell? ⟨b, o + 1, none⟩ = some v1 ∧ w.cell? ⟨b, o + 2, none⟩ = some v2 ∧ w.cell? ⟨b, o + 3, none⟩ = some v3 ∧ TreeP q w t v0 v1 v2 v3) ∧ TreesP q w b r (o + 4)
end
mutual
theorem TreeP.keep {q q' : Nat → Prop} {w w' : World} (hk : ∀ b, q b → b < w.heap.size → w'.heap[b]? = w.heap[b]?) (hs : w.heap.size ≤ w'.heap.size) (hq : ∀ b, b < w.heap.size → q b → q' b) : ∀ (t : Lfc.Raw) (v0 v1 v2 v3 : Value), TreeP q w t v0 v1 v2 v3 → TreeP q' w' t v0 v1 v2 v3
 | .node k n p ts, v0, v1, v2, v3, h => by
  rw [TreeP] at h ⊢
  obtain ⟨h0, h1, hn, h2, A, c, h3, h4, h5⟩ := h
  refine ⟨h0, h1, hn, h2, A, c, h3, h4, fun hne => ?_⟩
  obtain ⟨b, o, hA, hlt, hqb, hts⟩ := h5 hne
  exact ⟨b, o, hA, Nat.lt_of_lt_of_le hlt hs, hq b hlt hqb, TreesP.keep hk hs hq ts b o hlt hqb hts⟩
theorem TreesP.keep {q q' : Nat → Prop} {w w' : World} (hk : ∀ b, q b → b < w.heap.size → w'.heap[b]? = w.heap[b]?) (hs : w.heap.size ≤ w'.heap.size) (hq : ∀ b, b < w.heap.size → q b → q' b) : ∀ (ts : List Lfc.Raw) (b o : Nat), b < w.heap.size → q b → TreesP q w b ts o → TreesP q' w' b ts o
 | [], _, _, _, _, _ => by rw [TreesP]; trivial
 | t :: r, b, o, hlt, hb, h => by
  rw [TreesP] at h ⊢
  obtain ⟨⟨v0, v1, v2, v3, c0, c1, c2, c3, ht⟩, hr⟩ := h
  have hc := fun j => World.cell?_of_block (a := ⟨b, j, none⟩) (hk b hb hlt)
  exact ⟨⟨v0, v1, v2, v3, (hc _).trans c0, (hc _).trans c1, (hc _).trans c2, (hc _).trans c3, TreeP.keep hk hs hq t v0 v1 v2 v3 ht⟩, TreesP.keep hk hs hq r b (o + 4) hlt hb hr⟩
end
mutual
theorem TreeP.toC {q : Nat → Prop} {w : World} : ∀ (t : Lfc.Raw) (v0 v1 v2 v3 : Value), TreeP q w t v0 v1 v2 v3 → TreeC w t v0 v1 v2 v3
 | .node k n p ts, v0, v1, v2, v3, h => by
  rw [TreeP] at h
  rw [TreeC]
  obtain ⟨h0, h1, hn, h2, A, c, h3, h4, h5⟩ := h
  refine ⟨h0, h1, hn, h2, A, c, h3, h4, fun hne => ?_⟩
  obtain ⟨b, o, hA, hlt, hqb, hts⟩ := h5 hne
  exact ⟨b, o, hA, hlt, TreesP.toC ts b o hts⟩
theorem TreesP.toC {q : Nat → Prop} {w : World} : ∀ (ts : List Lfc.Raw) (b o : Nat), TreesP q w b ts o → TreesO w b ts o
 | [], _, _, _ => by rw [TreesO]; trivial
 | t :: r, b, o, h => by
  rw [TreesP] at h
  rw [TreesO]
  obtain ⟨⟨v0, v1, v2, v3, c0, c1, c2, c3, ht⟩, hr⟩ := h
  exact ⟨⟨v0, v1, v2, v3, c0, c1, c2, c3, TreeP.toC t v0 v1 v2 v3 ht⟩, TreesP.toC r b (o + 4) hr⟩
end
mutual
theorem TreeC.toP {q : Nat → Prop} {w : World} (hq : ∀ b, b < w.heap.size → q b) : ∀ (t : Lfc.Raw) (v0 v1 v2 v3 : Value), TreeC w t v0 v1 v2 v3 → TreeP q w t v0 v1 v2 v3
 | .node k n p ts, v0, v1, v2, v3, h => by
  rw [TreeC] at h
  rw [TreeP]
  obtain ⟨h0, h1, hn, h2, A, c, h3, h4, h5⟩ := h
  refine ⟨h0, h1, hn, h2, A, c, h3, h4, fun hne => ?_⟩
  obtain ⟨b, o, hA, hlt, hts⟩ := h5 hne
  exact ⟨b, o, hA, hlt, hq b hlt, TreesO.toP hq ts b o hts⟩
theorem TreesO.toP {q : Nat → Prop} {w : World} (hq : ∀ b, b < w.heap.size → q b) : ∀ (ts : List Lfc.Raw) (b o : Nat), TreesO w b ts o → TreesP q w b ts o
 | [], _, _, _ => by rw [TreesP]; trivial
 | t :: r, b, o, h => by
  rw [TreesO] at h
  rw [TreesP]
  obtain ⟨⟨v0, v1, v2, v3, c0, c1, c2, c3, ht⟩, hr⟩ := h
  exact ⟨⟨v0, v1, v2, v3, c0, c1, c2, c3, TreeC.toP hq t v0 v1 v2 v3 ht⟩, TreesO.toP hq r b (o + 4) hr⟩
end
def RowP (q : Nat → Prop) (w : World) : List Lfc.Raw → List Value → Prop
 | [], xs => xs = []
 | t :: r, xs => ∃ v0 v1 v2 v3 ys, xs = v0 :: v1 :: v2 :: v3 :: ys ∧ TreeP q w t v0 v1 v2 v3 ∧ RowP q w r ys
theorem RowP.len {q : Nat → Prop} {w : World} : ∀ {ts : List Lfc.Raw} {xs : List Value}, RowP q w ts xs → xs.length = 4 * ts.length
 | [], xs, h => by rw [RowP] at h; subst h; rfl
 | t :: r, xs, h => by
  rw [RowP] at h
  obtain ⟨v0, v1, v2, v3, ys, rfl, _, hr⟩ := h
  have := hr.len
  simp; omega
theorem RowP.keep {q q' : Nat → Prop} {w w' : World} (hk : ∀ b, q b → b < w.heap.size → w'.heap[b]? = w.heap[b]?) (hs : w.heap.size ≤ w'.heap.size) (hq : ∀ b, b < w.heap.size → q b → q' b) : ∀ {ts : List Lfc.Raw} {xs : List Value}, RowP q w ts xs → RowP q' w' ts xs
 | [], xs, h => by rw [RowP] at h ⊢; exact h
 | t :: r, xs, h => by
  rw [RowP] at h ⊢
  obtain ⟨v0, v1, v2, v3, ys, rfl, ht, hr⟩ := h
  exact ⟨v0, v1, v2, v3, ys, rfl, TreeP.keep hk hs hq t _ _ _ _ ht, hr.keep hk hs hq⟩
theorem RowP.append {q : Nat → Prop} {w : World} {us : List Lfc.Raw} {zs : List Value} (hz : RowP q w us zs) : ∀ {ts : List Lfc.Raw} {xs : List Value}, RowP q w ts xs → RowP q w (ts ++ us) (xs ++ zs)
 | [], xs, h => by rw [RowP] at h; subst h; exact hz
 | t :: r, xs, h => by
  rw [RowP] at h
  obtain ⟨v0, v1, v2, v3, ys, rfl, ht, hr⟩ := h
  rw [List.cons_append, RowP]
  exact ⟨v0, v1, v2, v3, ys ++ zs, by simp, ht, RowP.append hz hr⟩
theorem RowP.one {q : Nat → Prop} {w : World} {t : Lfc.Raw} {v0 v1 v2 v3 : Value} (h : TreeP q w t v0 v1 v2 v3) : RowP q w [t] [v0, v1, v2, v3] := ⟨v0, v1, v2, v3, [], rfl, h, rfl⟩
def CellsAt (w : World) (b o : Nat) (xs : List Value) : Prop := ∀ j u, xs[j]? = some u → w.cell? ⟨b, o + j, none⟩ = some u
theorem RowP.lie {q : Nat → Prop} {w : World} {b : Nat} : ∀ {ts : List Lfc.Raw} {xs : List Value} {o : Nat}, RowP q w ts xs → CellsAt w b o xs → TreesP q w b ts o
 | [], _, _, _, _ => by rw [TreesP]; trivial
 | t :: r, xs, o, h, hc => by
  rw [RowP] at h
  obtain ⟨v0, v1, v2, v3, ys, rfl, ht, hr⟩ := h
  rw [TreesP]
  refine ⟨⟨v0, v1, v2, v3, hc 0 _ rfl, hc 1 _ rfl, hc 2 _ rfl, hc 3 _ rfl, ht⟩, hr.lie fun j u hj => ?_⟩
  have := hc (j + 4) u (by simpa using hj)
  rw [show o + 4 + j = o + (j + 4) by omega]
  exact this
theorem TreesP.row {q : Nat → Prop} {w : World} {b : Nat} : ∀ {ts : List Lfc.Raw} {o : Nat}, TreesP q w b ts o → ∃ xs, RowP q w ts xs ∧ CellsAt w b o xs
 | [], _, _ => ⟨[], by rw [RowP], fun j u h => by simp at h⟩
 | t :: r, o, h => by
  rw [TreesP] at h
  obtain ⟨⟨v0, v1, v2, v3, c0, c1, c2, c3, ht⟩, hr⟩ := h
  obtain ⟨xs, hx, hc⟩ := hr.row
  refine ⟨v0 :: v1 :: v2 :: v3 :: xs, ?_, fun j u hj => ?_⟩
  ·rw [RowP]; exact ⟨v0, v1, v2, v3, xs, rfl, ht, hx⟩
  ·match j with
   | 0 => simp at hj; subst hj; exact c0
   | 1 => simp at hj; subst hj; exact c1
   | 2 => simp at hj; subst hj; exact c2
   | 3 => simp at hj; subst hj; exact c3
   | j + 4 =>
    have := hc j u (by simpa using hj)
    rw [show o + (j + 4) = o + 4 + j by omega]; exact this
theorem RowP.set {q : Nat → Prop} {w : World} {t : Lfc.Raw} {v0 v1 v2 v3 : Value} (ht : TreeP q w t v0 v1 v2 v3) : ∀ {ts : List Lfc.Raw} {xs : List Value} (i : Nat), i < ts.length → RowP q w ts xs → RowP q w (ts.set i t) ((((xs.set (i * 4) v0).set (i * 4 + 1) v1).set (i * 4 + 2) v2).set (i * 4 + 3) v3)
 | [], _, _, hi, _ => by simp at hi
 | u :: r, xs, i, hi, h => by
  rw [RowP] at h
  obtain ⟨u0, u1, u2, u3, ys, rfl, hu, hr⟩ := h
  match i with
  | 0 => simp only [List.set_cons_zero, Nat.zero_mul, Nat.zero_add, List.set_cons_succ]; rw [RowP]; exact ⟨v0, v1, v2, v3, ys, rfl, ht, hr⟩
  | i + 1 =>
   have := RowP.set ht i (by simpa using hi) hr
   rw [show (i + 1) * 4 = i * 4 + 1 + 1 + 1 + 1 by omega]
   simp only [List.set_cons_succ]
   rw [RowP]
   exact ⟨u0, u1, u2, u3, _, rfl, hu, this⟩
theorem CellsAt.set {w : World} {b o j0 : Nat} {xs : List Value} (h : CellsAt w b o xs) (v : Value) : CellsAt (w.setCell ⟨b, o + j0, none⟩ v) b o (xs.set j0 v) := by
 intro j u hj
 by_cases e : j = j0
 ·subst e
  have hl : j < xs.length := by
   rcases Nat.lt_or_ge j xs.length with h1 | h1
   ·exact h1
   ·rw [List.set_eq_of_length_le h1, List.getElem?_eq_none h1] at hj; cases hj
  rw [List.getElem?_set_self hl] at hj
  cases hj
  refine World.cell?_setCell_same' _ _ _ ?_
  rw [h j xs[j] (List.getElem?_eq_getElem hl)]; rfl
 ·rw [List.getElem?_set_ne (Ne.symm e)] at hj
  rw [World.cell?_setCell_other]
  ·exact h j u hj
  ·intro e'; have := congrArg Addr.off e'; simp at this; omega
theorem taddr_add (b j : Nat) : (⟨b, 0, none⟩ : Addr).add j = ⟨b, j, none⟩ := by
 unfold Addr.add; split <;> simp_all
theorem own_cells {w : World} {base : Nat} {e : TypeId} {size n g cap : Nat} {xs : List Value} (h : w.ownsRow base e size (.slice (some ⟨g, 0, none⟩) n cap) n xs) : CellsAt w g 0 xs := by
 intro j u hj
 have := h.cells (g := g) rfl j u hj
 rw [taddr_add] at this
 simpa using this
def TreesAtP (q : Nat → Prop) (w : World) (A : Option Addr) (ts : List Lfc.Raw) : Prop := ts ≠ [] → ∃ b o, A = some ⟨b, o, none⟩ ∧ b < w.heap.size ∧ q b ∧ TreesP q w b ts o
theorem TreesAtP.keep {q q' : Nat → Prop} {w w' : World} {A : Option Addr} {ts : List Lfc.Raw} (hk : ∀ b, q b → b < w.heap.size → w'.heap[b]? = w.heap[b]?) (hs : w.heap.size ≤ w'.heap.size) (hq : ∀ b, b < w.heap.size → q b → q' b) (h : TreesAtP q w A ts) : TreesAtP q' w' A ts := fun hne => by
 obtain ⟨b, o, hA, hlt, hb, h⟩ := h hne
 exact ⟨b, o, hA, Nat.lt_of_lt_of_le hlt hs, hq b hlt hb, TreesP.keep hk hs hq ts b o hlt hb h⟩
def TreeVP (q : Nat → Prop) (w : World) (t : Lfc.Raw) (v : Value) : Prop := ∃ v0 v1 v2 v3, v = .agg #[v0, v1, v2, v3] ∧ TreeP q w t v0 v1 v2 v3
theorem TreeVP.toV {q : Nat → Prop} {w : World} {t : Lfc.Raw} {v : Value} (h : TreeVP q w t v) : TreeV w t v := by
 obtain ⟨v0, v1, v2, v3, rfl, h⟩ := h
 exact ⟨v0, v1, v2, v3, rfl, TreeP.toC t _ _ _ _ h⟩
theorem TreeV.toP {q : Nat → Prop} {w : World} {t : Lfc.Raw} {v : Value} (hq : ∀ b, b < w.heap.size → q b) (h : TreeV w t v) : TreeVP q w t v := by
 obtain ⟨v0, v1, v2, v3, rfl, h⟩ := h
 exact ⟨v0, v1, v2, v3, rfl, TreeC.toP hq t _ _ _ _ h⟩
theorem TreeVP.mk {q : Nat → Prop} {w : World} {k p : Int} {n : List UInt8} {ts : List Lfc.Raw} {A : Option Addr} {c : Nat} (hn : n.length ≤ 1000000) (hc : ts.length ≤ c) (h : TreesAtP q w A ts) : TreeVP q w (.node k n p ts) (.agg #[.int .i64 k, S n, .int .i64 p, .slice A ts.length c]) :=
 ⟨_, _, _, _, rfl, by rw [TreeP]; exact ⟨rfl, rfl, hn, rfl, A, c, rfl, hc, h⟩⟩
theorem put4 {W : World} {R : Nat} {a0 a1 a2 a3 : Value} {t : TypeId} (h : W.heap[R]? = some (.cells #[a0, a1, a2, a3] t (0, 0))) (v0 v1 v2 v3 : Value) : ∃ s1 s2 s3 s4, W.setCell ⟨R, 0, none⟩ v0 = s1 ∧ s1.setCell ⟨R, 1, none⟩ v1 = s2 ∧ s2.setCell ⟨R, 2, none⟩ v2 = s3 ∧ s3.setCell ⟨R, 3, none⟩ v3 = s4 ∧
  (W.cell? ⟨R, 0, none⟩ = some a0 ∧ s1.cell? ⟨R, 1, none⟩ = some a1 ∧ s2.cell? ⟨R, 2, none⟩ = some a2 ∧ s3.cell? ⟨R, 3, none⟩ = some a3) ∧
  (W.frozen? ⟨R, 0, none⟩ = false ∧ s1.frozen? ⟨R, 1, none⟩ = false ∧ s2.frozen? ⟨R, 2, none⟩ = false ∧ s3.frozen? ⟨R, 3, none⟩ = false) ∧
  s4.heap[R]? = some (.cells #[v0, v1, v2, v3] t (0, 0)) ∧ Oth R W s4 := by
 obtain ⟨s1, h1⟩ : ∃ s1, W.setCell ⟨R, 0, none⟩ v0 = s1 := ⟨_, rfl⟩
 obtain ⟨s2, h2⟩ : ∃ s2, s1.setCell ⟨R, 1, none⟩ v1 = s2 := ⟨_, rfl⟩
 obtain ⟨s3, h3⟩ : ∃ s3, s2.setCell ⟨R, 2, none⟩ v2 = s3 := ⟨_, rfl⟩
 obtain ⟨s4, h4⟩ : ∃ s4, s3.setCell ⟨R, 3, none⟩ v3 = s4 := ⟨_, rfl⟩
 have q1 : s1.heap[R]? = some (.cells #[v0, a1, a2, a3] t (0, 0)) := by rw [← h1]; simp [World.setCell, Array.getElem?_modify, h]
 have q2 : s2.heap[R]? = some (.cells #[v0, v1, a2, a3] t (0, 0)) := by rw [← h2]; simp [World.setCell, Array.getElem?_modify, q1]
 have q3 : s3.heap[R]? = some (.cells #[v0, v1, v2, a3] t (0, 0)) := by rw [← h3]; simp [World.setCell, Array.getElem?_modify, q2]
 have q4 : s4.heap[R]? = some (.cells #[v0, v1, v2, v3] t (0, 0)) := by rw [← h4]; simp [World.setCell, Array.getElem?_modify, q3]
 refine ⟨s1, s2, s3, s4, h1, h2, h3, h4, ⟨Lib.cell_of_heap h 0, Lib.cell_of_heap q1 1, Lib.cell_of_heap q2 2, Lib.cell_of_heap q3 3⟩, ⟨Lib.frozen_of_heap h 0, Lib.frozen_of_heap q1 1, Lib.frozen_of_heap q2 2, Lib.frozen_of_heap q3 3⟩, q4, ?_⟩
 rw [← h4, ← h3, ← h2, ← h1]
 exact (((Oth.set W v0).trans (Oth.set _ v1)).trans (Oth.set _ v2)).trans (Oth.set _ v3)
end Go.Proofs.YthajalgkjonaaaaGreatDoor
namespace Go.Proofs.YthajalgkjonaaaaGreatDoor
open Go.RowKit Go.Maps Go.WideMaps
def opV (o : Lfc.Op) : Value := .agg #[S o.name, .int .i64 o.fix, .int .i64 o.prec]
def OpC (w : World) (b o : Nat) (x : Lfc.Op) : Prop := w.cell? ⟨b, o, none⟩ = some (S x.name) ∧ w.cell? ⟨b, o + 1, none⟩ = some (.int .i64 x.fix) ∧ w.cell? ⟨b, o + 2, none⟩ = some (.int .i64 x.prec)
def OpsAt (w : World) (A : Option Addr) (l : List Lfc.Op) : Prop := (∀ x ∈ l, x.name.length ≤ 1000000) ∧ (l ≠ [] → ∃ b o, A = some ⟨b, o, none⟩ ∧ b < w.heap.size ∧ ∀ i (h : i < l.length), OpC w b (o + i * 3) l[i])
theorem OpsAt.below {w w' : World} {A : Option Addr} {l : List Lfc.Op} (h : OpsAt w A l) (hb : Below w.heap.size w w') : OpsAt w' A l := ⟨h.1, fun hne => by
 obtain ⟨b, o, hA, hlt, hc⟩ := h.2 hne
 refine ⟨b, o, hA, Nat.lt_of_lt_of_le hlt hb.size, fun i hi => ?_⟩
 obtain ⟨c0, c1, c2⟩ := hc i hi
 exact ⟨(hb.cell (p := ⟨b, _, none⟩) hlt).trans c0, (hb.cell (p := ⟨b, _, none⟩) hlt).trans c1, (hb.cell (p := ⟨b, _, none⟩) hlt).trans c2⟩⟩
def OpdC (w : World) (b o : Nat) (x : Lfc.Opd) : Prop := ∃ k n p ts A c, x.tree = .node k n p ts ∧ w.cell? ⟨b, o, none⟩ = some (.int .i64 k) ∧ w.cell? ⟨b, o + 1, none⟩ = some (S n) ∧ w.cell? ⟨b, o + 2, none⟩ = some (.int .i64 p) ∧ w.cell? ⟨b, o + 3, none⟩ = some (.slice A ts.length c) ∧ w.cell? ⟨b, o + 4, none⟩ = some (.bool x.closed) ∧ TreeV w (.node k n p ts) (.agg #[.int .i64 k, S n, .int .i64 p, .slice A ts.length c])
def OpdsAt (w : World) (A : Option Addr) (s : List Lfc.Opd) : Prop := s ≠ [] → ∃ b o, A = some ⟨b, o, none⟩ ∧ b < w.heap.size ∧ ∀ i (h : i < s.length), OpdC w b (o + i * 5) s[i]
theorem OpdC.below {w w' : World} {b o : Nat} {x : Lfc.Opd} (h : OpdC w b o x) (hlt : b < w.heap.size) (hb : Below w.heap.size w w') : OpdC w' b o x := by
 obtain ⟨k, n, p, ts, A, c, e, c0, c1, c2, c3, c4, hT⟩ := h
 exact ⟨k, n, p, ts, A, c, e, (hb.cell (p := ⟨b, _, none⟩) hlt).trans c0, (hb.cell (p := ⟨b, _, none⟩) hlt).trans c1, (hb.cell (p := ⟨b, _, none⟩) hlt).trans c2, (hb.cell (p := ⟨b, _, none⟩) hlt).trans c3, (hb.cell (p := ⟨b, _, none⟩) hlt).trans c4, hT.below hb⟩
theorem OpdsAt.below {w w' : World} {A : Option Addr} {s : List Lfc.Opd} (h : OpdsAt w A s) (hb : Below w.heap.size w w') : OpdsAt w' A s := fun hne => by
 obtain ⟨b, o, hA, hlt, hc⟩ := h hne
 exact ⟨b, o, hA, Nat.lt_of_lt_of_le hlt hb.size, fun i hi => (hc i hi).below hlt hb⟩
theorem OpdsAt.at_ {w : World} {A : Option Addr} {s : List Lfc.Opd} (h : OpdsAt w A s) {i : Nat} (hi : i < s.length) : ∃ b o k n p ts B c, A = some ⟨b, o, none⟩ ∧ b < w.heap.size ∧ s[i].tree = .node k n p ts ∧ w.cell? ⟨b, o + i * 5, none⟩ = some (.int .i64 k) ∧ w.cell? ⟨b, o + i * 5 + 1, none⟩ = some (S n) ∧ w.cell? ⟨b, o + i * 5 + 2, none⟩ = some (.int .i64 p) ∧ w.cell? ⟨b, o + i * 5 + 3, none⟩ = some (.slice B ts.length c) ∧ w.cell? ⟨b, o + i * 5 + 4, none⟩ = some (.bool s[i].closed) ∧ TreeV w (.node k n p ts) (.agg #[.int .i64 k, S n, .int .i64 p, .slice B ts.length c]) := by
 obtain ⟨b, o, hA, hlt, hc⟩ := h (by intro h0; rw [h0] at hi; simp at hi)
 obtain ⟨k, n, p, ts, B, c, e, c0, c1, c2, c3, c4, hT⟩ := hc i hi
 exact ⟨b, o, k, n, p, ts, B, c, hA, hlt, e, c0, c1, c2, c3, c4, hT⟩
theorem OpdsAt.part {w : World} {b o : Nat} {s : List Lfc.Opd} (h : OpdsAt w (some ⟨b, o, none⟩) s) (i j : Nat) : OpdsAt w (some ⟨b, o + i * 5, none⟩) ((s.take j).drop i) := fun hne => by
 have hl : i < (s.take j).length := by
  rcases Nat.lt_or_ge i (s.take j).length with h1 | h1
  ·exact h1
  ·exact absurd (List.drop_eq_nil_of_le h1) hne
 rw [List.length_take] at hl
 obtain ⟨b', o', hA, hlt, hc⟩ := h (by intro h0; rw [h0] at hl; simp at hl)
 cases hA
 refine ⟨b, o + i * 5, rfl, hlt, fun k hk => ?_⟩
 rw [List.length_drop, List.length_take] at hk
 have := hc (i + k) (by omega)
 rw [show o + i * 5 + k * 5 = o + (i + k) * 5 by omega]
 simpa using this
def OpdV (w : World) (x : Lfc.Opd) (v : Value) : Prop := ∃ k n p ts A c, x.tree = .node k n p ts ∧ v = .agg #[.int .i64 k, S n, .int .i64 p, .slice A ts.length c, .bool x.closed] ∧ TreeV w (.node k n p ts) (.agg #[.int .i64 k, S n, .int .i64 p, .slice A ts.length c])
theorem OpdV.below {w w' : World} {x : Lfc.Opd} {v : Value} (h : OpdV w x v) (hb : Below w.heap.size w w') : OpdV w' x v := by
 obtain ⟨k, n, p, ts, A, c, e, rfl, hT⟩ := h
 exact ⟨k, n, p, ts, A, c, e, rfl, hT.below hb⟩
end Go.Proofs.YthajalgkjonaaaaGreatDoor
namespace Go.Proofs.YthajalgkjonaaaaGreatDoor
open Go.RowKit Go.Maps Go.WideMaps
set_option maxRecDepth 100000 in
set_option maxHeartbeats 2000000 in
theorem check_any (o : Lfc.Op) (w : World) (hn : o.name.length ≤ 1000000) : Calls Tryz.prog 106 #[opV o] w fun e w' => e = .returned (.int .i64 o.bad) ∧ Below w.heap.size w w' := by
 obtain ⟨n, f, p⟩ := o
 unfold opV
 simp only at hn ⊢
 obtain ⟨z, hz⟩ : ∃ z, Lfc.Op.bad ⟨n, f, p⟩ = z := ⟨_, rfl⟩
 rw [hz]
 have HZ := Lib.hid hz
 have HN := Lib.hid (fun W => isName_any n W (by omega))
 have b1 : Below w.heap.size w (w.alloc (.cells #[S n, .int .i64 f, .int .i64 p] 34)) := (Below.refl _ _).alloc (Nat.le_refl _) _
 clear hz
 cases hq : Lfc.isName n
 ·rw [hq] at HN
  have HQ := Lib.hid hq
  clear hq
  go_enter Tryz.func106, Tryz.ntmps106
  go_wp2_with fail
  refine (HN.out _).mono ?_
  rintro e w2 ⟨rfl, rfl⟩
  go_wp2_with fail
  go_ret
  exact ⟨ret_int (by rw [← HZ.out]; first | (simp [Lfc.Op.bad, HQ.out]; done) | (simp [Lfc.Op.bad, HQ.out]; rw [if_neg (by omega), if_neg (by omega)])), b1⟩
 ·rw [hq] at HN
  have HQ := Lib.hid hq
  clear hq
  by_cases a1 : f < 1
  ·have d0 : decide (f < 1) = true := by simpa using a1
   have Ha1 := Lib.hid a1
   go_enter Tryz.func106, Tryz.ntmps106
   go_wp2_with fail
   refine (HN.out _).mono ?_
   rintro e w2 ⟨rfl, rfl⟩
   go_wp2_with fail
   go_ret
   exact ⟨ret_int (by rw [← HZ.out]; first | (simp [Lfc.Op.bad, HQ.out, Ha1.out]; done) | (simp [Lfc.Op.bad, HQ.out, Ha1.out]; rw [if_neg (by omega), if_neg (by omega)])), b1⟩
  ·have d0 : decide (f < 1) = false := by simpa using a1
   have Ha1 := Lib.hid a1
   have i0 : 1 ≤ f := by omega
   clear a1
   by_cases a2 : 5 < f
   ·have d1 : decide (5 < f) = true := by simpa using a2
    have Ha2 := Lib.hid a2
    go_enter Tryz.func106, Tryz.ntmps106
    go_wp2_with fail
    refine (HN.out _).mono ?_
    rintro e w2 ⟨rfl, rfl⟩
    go_wp2_with fail
    go_ret
    exact ⟨ret_int (by rw [← HZ.out]; first | (simp [Lfc.Op.bad, HQ.out, Ha1.out, Ha2.out]; done) | (simp [Lfc.Op.bad, HQ.out, Ha1.out, Ha2.out]; rw [if_neg (by omega), if_neg (by omega)])), b1⟩
   ·have d1 : decide (5 < f) = false := by simpa using a2
    have Ha2 := Lib.hid a2
    have i1 : f ≤ 5 := by omega
    clear a2
    by_cases a3 : p < 0
    ·have d2 : decide (p < 0) = true := by simpa using a3
     have Ha3 := Lib.hid a3
     go_enter Tryz.func106, Tryz.ntmps106
     go_wp2_with fail
     refine (HN.out _).mono ?_
     rintro e w2 ⟨rfl, rfl⟩
     go_wp2_with fail
     go_ret
     exact ⟨ret_int (by rw [← HZ.out]; first | (simp [Lfc.Op.bad, HQ.out, Ha1.out, Ha2.out, Ha3.out]; done) | (simp [Lfc.Op.bad, HQ.out, Ha1.out, Ha2.out, Ha3.out]; rw [if_neg (by omega), if_neg (by omega)])), b1⟩
    ·have d2 : decide (p < 0) = false := by simpa using a3
     have Ha3 := Lib.hid a3
     have i2 : 0 ≤ p := by omega
     clear a3
     by_cases a4 : 99 < p
     ·have d3 : decide (99 < p) = true := by simpa using a4
      have Ha4 := Lib.hid a4
      go_enter Tryz.func106, Tryz.ntmps106
      go_wp2_with fail
      refine (HN.out _).mono ?_
      rintro e w2 ⟨rfl, rfl⟩
      go_wp2_with fail
      go_ret
      exact ⟨ret_int (by rw [← HZ.out]; first | (simp [Lfc.Op.bad, HQ.out, Ha1.out, Ha2.out, Ha3.out, Ha4.out]; done) | (simp [Lfc.Op.bad, HQ.out, Ha1.out, Ha2.out, Ha3.out, Ha4.out]; rw [if_neg (by omega), if_neg (by omega)])), b1⟩
     ·have d3 : decide (99 < p) = false := by simpa using a4
      have Ha4 := Lib.hid a4
      have i3 : p ≤ 99 := by omega
      clear a4
      go_enter Tryz.func106, Tryz.ntmps106
      go_wp2_with fail
      refine (HN.out _).mono ?_
      rintro e w2 ⟨rfl, rfl⟩
      go_wp2_with fail
      go_ret
      exact ⟨ret_int (by rw [← HZ.out]; first | (simp [Lfc.Op.bad, HQ.out, Ha1.out, Ha2.out, Ha3.out, Ha4.out]; done) | (simp [Lfc.Op.bad, HQ.out, Ha1.out, Ha2.out, Ha3.out, Ha4.out]; rw [if_neg (by omega), if_neg (by omega)])), b1⟩
end Go.Proofs.YthajalgkjonaaaaGreatDoor
namespace Go.Proofs.YthajalgkjonaaaaGreatDoor
open Go.RowKit Go.Maps Go.WideMaps
set_option maxRecDepth 100000 in
set_option maxHeartbeats 2000000 in
theorem arrow_any (x : Lfc.Opd) (v : Value) (w : World) (hl : x.tree.args.length ≤ 1000000000) (hv : OpdV w x v) : Calls Tryz.prog 121 #[v] w fun e w' => e = .returned (.bool x.arrow) ∧ Below w.heap.size w w' := by
 obtain ⟨⟨k, n, p, ts⟩, cl⟩ := x
 obtain ⟨k', n', p', ts', A, c, e, rfl, hT⟩ := hv
 cases e
 simp only [Lfc.Raw.args] at hl ⊢
 obtain ⟨z, hz⟩ : ∃ z, Lfc.Opd.arrow ⟨.node k n p ts, cl⟩ = z := ⟨_, rfl⟩
 rw [hz]
 have HZ := Lib.hid hz
 clear hT hz
 obtain ⟨w1, hw1⟩ : ∃ w1, (w.alloc (.cells #[.int .i64 k, S n, .int .i64 p, .slice A ts.length c, .bool cl] 129)).alloc (.cells #[.int .i64 k, S n, .int .i64 p, .slice A ts.length c] 46) = w1 := ⟨_, rfl⟩
 have b1 : Below w.heap.size w w1 := by rw [← hw1]; exact ((Below.refl _ _).alloc (Nat.le_refl _) _).alloc (by simp) _
 have qo : w1.heap[w.heap.size]? = some (.cells #[.int .i64 k, S n, .int .i64 p, .slice A ts.length c, .bool cl] 129 (0, 0)) := by rw [← hw1]; exact heap_alloc_old _ _ _ _ (heap_alloc_new _ _)
 have qt : w1.heap[w.heap.size + 1]? = some (.cells #[.int .i64 k, S n, .int .i64 p, .slice A ts.length c] 46 (0, 0)) := by
  rw [← hw1]
  have := heap_alloc_new (w.alloc (.cells #[.int .i64 k, S n, .int .i64 p, .slice A ts.length c, .bool cl] 129)) (.cells #[.int .i64 k, S n, .int .i64 p, .slice A ts.length c] 46)
  simpa using this
 have y4 : w1.cell? ⟨w.heap.size, 4, none⟩ = some (.bool cl) := Lib.cell_of_heap qo 4
 obtain ⟨x0, x1, x2, x3⟩ : w1.cell? ⟨w.heap.size + 1, 0, none⟩ = some (.int .i64 k) ∧ w1.cell? ⟨w.heap.size + 1, 1, none⟩ = some (S n) ∧ w1.cell? ⟨w.heap.size + 1, 2, none⟩ = some (.int .i64 p) ∧ w1.cell? ⟨w.heap.size + 1, 3, none⟩ = some (.slice A ts.length c) := ⟨Lib.cell_of_heap qt 0, Lib.cell_of_heap qt 1, Lib.cell_of_heap qt 2, Lib.cell_of_heap qt 3⟩
 clear qo qt
 cases cl
 ·by_cases hk : k = 1
  ·subst hk
   by_cases ht : ts.length = 0
   ·have ht2 : ((ts.length : Int) == 0) = true := by simp [ht]
    have HT := Lib.hid ht
    clear ht
    by_cases hr : n = [45, 62]
    ·subst hr
     go_enter Tryz.func121, Tryz.ntmps121
     go_upto_region 2 with fail
     clear hw1
     go_wp2_with fail
     go_ret
     exact ⟨by rw [← HZ.out]; simp [Lfc.Opd.arrow, Lfc.Raw.kind, Lfc.Raw.args, Lfc.Raw.name, Lfc.arrR, Lfc.arrL, HT.out], b1⟩
    ·by_cases hl2 : n = [60, 45]
     ·subst hl2
      go_enter Tryz.func121, Tryz.ntmps121
      go_upto_region 2 with fail
      clear hw1
      go_wp2_with fail
      go_ret
      exact ⟨by rw [← HZ.out]; simp [Lfc.Opd.arrow, Lfc.Raw.kind, Lfc.Raw.args, Lfc.Raw.name, Lfc.arrR, Lfc.arrL, HT.out], b1⟩
     ·have hr2 : (n == [45, 62]) = false := by simpa using hr
      have hl3 : (n == [60, 45]) = false := by simpa using hl2
      have HR := Lib.hid hr
      have HL := Lib.hid hl2
      have hr3 : ¬ n.toArray = #[45, 62] := fun e => hr (by simpa using congrArg Array.toList e)
      have hl4 : ¬ n.toArray = #[60, 45] := fun e => hl2 (by simpa using congrArg Array.toList e)
      clear hr hl2
      go_enter Tryz.func121, Tryz.ntmps121
      go_upto_region 2 with fail
      clear hw1
      go_wp2_with fail
      go_ret
      exact ⟨by rw [← HZ.out]; simp [Lfc.Opd.arrow, Lfc.Raw.kind, Lfc.Raw.args, Lfc.Raw.name, Lfc.arrR, Lfc.arrL, HT.out, HR.out, HL.out], b1⟩
   ·have ht2 : ((ts.length : Int) == 0) = false := by simp; intro e; exact ht (by simp [e])
    have HT := Lib.hid ht
    clear ht
    go_enter Tryz.func121, Tryz.ntmps121
    go_upto_region 2 with fail
    clear hw1
    go_wp2_with fail
    go_ret
    exact ⟨by rw [← HZ.out]; simp [Lfc.Opd.arrow, Lfc.Raw.kind, Lfc.Raw.args, Lfc.Raw.name, Lfc.arrR, Lfc.arrL, HT.out], b1⟩
  ·have hk2 : (k == 1) = false := by simpa using hk
   have HK := Lib.hid hk
   clear hk
   go_enter Tryz.func121, Tryz.ntmps121
   go_upto_region 2 with fail
   clear hw1
   go_wp2_with fail
   go_ret
   exact ⟨by rw [← HZ.out]; simp [Lfc.Opd.arrow, Lfc.Raw.kind, Lfc.Raw.args, Lfc.Raw.name, Lfc.arrR, Lfc.arrL, HK.out], b1⟩
 ·go_enter Tryz.func121, Tryz.ntmps121
  go_upto_region 2 with fail
  clear hw1
  go_wp2_with fail
  go_ret
  exact ⟨by rw [← HZ.out]; simp [Lfc.Opd.arrow, Lfc.Raw.kind, Lfc.Raw.args, Lfc.Raw.name, Lfc.arrR, Lfc.arrL], b1⟩
end Go.Proofs.YthajalgkjonaaaaGreatDoor
namespace Go.Proofs.YthajalgkjonaaaaGreatDoor
open Go.RowKit
section
variable {P : Program} (w : World)
theorem step_append_own_at {ops : Array Oper} {o : Oper} {a : Act} {K : Act → World → Prop} {Q : Exit → Act → World → Prop} {E : Prop} (hgd : o.guard = none) (s x : Operand) (t : TypeId)
  (ho : o.op = .call { callee := .builtin .append, args := #[s, x], argTypes := #[t, t] })
  (base : Nat) (e : TypeId) (i : TypeInfo) (z : Value) (size bytes : Nat) (ht : P.underlying t = some (.slice e)) (hi : P.info? e = some i) (hz : i.zero = some z)
  (hsize : i.size = size) (hby : i.bytes = bytes) (hzs : z.cells.size = size) (hsz : 0 < size)
  (v : Value) (n : Nat) (xs : List Value) (hs : a.eval s = v) (hown : w.ownsRow base e size v n xs)
  (ad : Addr) (m c : Nat) (news : List Value) (hx : a.eval x = .slice (some ad) m c) (hl : news.length = m * size) (hnews : ∀ j u, news[j]? = some u → w.cell? (ad.add j) = some u) (h1 : ∀ u ∈ news, u.oneCell' = true)
  (h63 : n + m ≤ maxLen) (hbytes : (n + m) * bytes ≤ 140737488355328) (hbase : base ≤ w.heap.size)
  (h : ∀ v' w', w'.ownsRow base e size v' (n + m) (xs ++ news) → w.grownBy w' v.ownBlock → (v'.ownBlock = v.ownBlock ∨ v'.ownBlock = some w.heap.size) → K (a.put o.dst v') w') :
  if Region.wanted o (yielded ops a.tmps) = true then Oper.wp P o a w K Q else E := by
 have hw : Region.wanted o (yielded ops a.tmps) = true := by simp [Region.wanted, hgd]
 rw [if_pos hw]
 obtain ⟨v', w', hr, h2, h3, h4, h5⟩ := run_append_own_at (P := P) w base t o.type e i z size bytes ht hi hz hsize hby hzs hsz v n xs hown ad m c news hl hnews h1 h63 hbytes hbase
 unfold Oper.wp execOp
 simp only [ho, resolve, invoke, builtin, Sem.run_bind, Sem.run_pure, Result.andThen_ok, List.map_toArray, List.map_cons, List.map_nil, hs, hx, hr]
 exact h v' w' h2 h3 h5
end
end Go.Proofs.YthajalgkjonaaaaGreatDoor
namespace Go.Proofs.YthajalgkjonaaaaGreatDoor
open Go.RowKit Go.Maps Go.WideMaps
theorem TapeAt.oth {T R : Nat} {w w' : World} (h : TapeAt T w) (hR : T < R) (ho : Oth R w w') : TapeAt T w' := by
 have hlt := h.lt
 obtain ⟨A, n, c, i, ht, hi, hn, hc⟩ := h.t
 obtain ⟨b, o, cw, h1, h2, h3, h4⟩ := h.words
 refine ⟨⟨A, n, c, i, ho.heap ht (by omega), hi, hn, fun hp => ?_⟩, ⟨b, o, cw, (ho.cell (p := ⟨_, 0, none⟩) (by simp only; omega) (by simp only; omega)).trans h1, h2, h3, fun k hk => (ho.cell (p := ⟨b, o + k, none⟩) (by simp only; omega) (by simp only; omega)).trans (h4 k hk)⟩⟩
 obtain ⟨b, o, hA, hbT, hx⟩ := hc hp
 refine ⟨b, o, hA, hbT, fun k hk => ?_⟩
 obtain ⟨x, hx⟩ := hx k hk
 exact ⟨x, (ho.cell (p := ⟨b, o + k, none⟩) (by simp only; omega) (by simp only; omega)).trans hx⟩
theorem words_oth {w w' : World} {T wb wo c : Nat} (ho : Oth T w.drew w') (h1 : 0 < w.heap.size) (h2 : wb < w.heap.size) (h3 : 0 ≠ T) (h4 : wb ≠ T)
  (h : w.cell? ⟨0, 0, none⟩ = some (.slice (some ⟨wb, wo, none⟩) 13 c) ∧ ∀ k, k < 13 → w.cell? ⟨wb, wo + k, none⟩ = some (S (Lfc.words.getD k []))) :
  w'.cell? ⟨0, 0, none⟩ = some (.slice (some ⟨wb, wo, none⟩) 13 c) ∧ ∀ k, k < 13 → w'.cell? ⟨wb, wo + k, none⟩ = some (S (Lfc.words.getD k [])) :=
 ⟨(ho.cell (p := ⟨_, 0, none⟩) h1 h3).trans h.1, fun k hk => (ho.cell (p := ⟨wb, wo + k, none⟩) h2 h4).trans (h.2 k hk)⟩
theorem words_set {w : World} {R j wb wo c : Nat} {v : Value} (h3 : R ≠ 0) (h4 : R ≠ wb)
  (h : w.cell? ⟨0, 0, none⟩ = some (.slice (some ⟨wb, wo, none⟩) 13 c) ∧ ∀ k, k < 13 → w.cell? ⟨wb, wo + k, none⟩ = some (S (Lfc.words.getD k []))) :
  (w.setCell ⟨R, j, none⟩ v).cell? ⟨0, 0, none⟩ = some (.slice (some ⟨wb, wo, none⟩) 13 c) ∧ ∀ k, k < 13 → (w.setCell ⟨R, j, none⟩ v).cell? ⟨wb, wo + k, none⟩ = some (S (Lfc.words.getD k [])) :=
 ⟨(World.cell?_of_block (Below.heap_setCell _ _ _ _ (Ne.symm h3))).trans h.1, fun k hk => (World.cell?_of_block (Below.heap_setCell _ _ _ _ (Ne.symm h4))).trans (h.2 k hk)⟩
theorem TreeVP.open_ {q : Nat → Prop} {w : World} {k p : Int} {n : List UInt8} {ts : List Lfc.Raw} {v : Value} (h : TreeVP q w (.node k n p ts) v) : ∃ A c, v = .agg #[.int .i64 k, S n, .int .i64 p, .slice A ts.length c] ∧ TreeP q w (.node k n p ts) (.int .i64 k) (S n) (.int .i64 p) (.slice A ts.length c) := by
 obtain ⟨v0, v1, v2, v3, rfl, h⟩ := h
 have h' := h
 rw [TreeP] at h
 obtain ⟨rfl, rfl, _, rfl, A, c, rfl, _⟩ := h
 exact ⟨A, c, rfl, h'⟩
theorem cells4 {W : World} {g : Nat} {v0 v1 v2 v3 : Value} {t : TypeId} (h : W.heap[g]? = some (.cells #[v0, v1, v2, v3] t (0, 0))) : W.cell? ⟨g, 0, none⟩ = some v0 ∧ W.cell? ⟨g, 1, none⟩ = some v1 ∧ W.cell? ⟨g, 2, none⟩ = some v2 ∧ W.cell? ⟨g, 3, none⟩ = some v3 :=
 ⟨Lib.cell_of_heap h 0, Lib.cell_of_heap h 1, Lib.cell_of_heap h 2, Lib.cell_of_heap h 3⟩
theorem raw_size : (Tryz.prog.info? 46).map (·.size) = some 4 := by kernel_rfl
theorem results_raw {fn : Func} {p : Tmp} (h : fn.results = #[.cell p 46]) (tmps : Array Value) (w : World) (g : Nat) (v0 v1 v2 v3 : Value) (hp : tmps.getD p undef = .pointer (some ⟨g, 0, none⟩)) (hg : w.heap[g]? = some (.cells #[v0, v1, v2, v3] 46 (0, 0))) :
  (results fn tmps).run Tryz.prog w = .ok (.agg #[v0, v1, v2, v3]) w :=
 results_cell_row h tmps w g _ _ _ _ hp hg Tryz.underlying46 rfl raw_size
theorem row_final {q : Nat → Prop} {W : World} {r g j : Nat} {ts : List Lfc.Raw} {xs : List Value} {v : Value} (hrow : RowP q W ts xs) (hc : CellsAt W g 0 xs) (hg : g < W.heap.size) (hqg : q g) (hqr : ∀ b, q b → b ≠ r) : TreesAtP q (W.setCell ⟨r, j, none⟩ v) (some ⟨g, 0, none⟩) ts := by
 have h : TreesAtP q W (some ⟨g, 0, none⟩) ts := fun _ => ⟨g, 0, rfl, hg, hqg, hrow.lie hc⟩
 refine h.keep (fun b hb _ => Below.heap_setCell _ _ _ _ (hqr b hb)) (by simp [World.setCell]) (fun b _ hb => hb)
theorem set3 {W : World} {r : Nat} {v0 v1 v2 v3 v : Value} {t : TypeId} (h : W.heap[r]? = some (.cells #[v0, v1, v2, v3] t (0, 0))) : (W.setCell ⟨r, 3, none⟩ v).heap[r]? = some (.cells #[v0, v1, v2, v] t (0, 0)) := by
 simp [World.setCell, Array.getElem?_modify, h]
theorem set1 {W : World} {r : Nat} {v0 v1 v2 v3 v : Value} {t : TypeId} (h : W.heap[r]? = some (.cells #[v0, v1, v2, v3] t (0, 0))) : (W.setCell ⟨r, 1, none⟩ v).heap[r]? = some (.cells #[v0, v, v2, v3] t (0, 0)) := by
 simp [World.setCell, Array.getElem?_modify, h]
theorem cellsAt_new (W : World) (xs : List Value) (t : TypeId) : CellsAt (W.alloc (.cells xs.toArray t)) W.heap.size 0 xs := by
 intro j u hj
 rw [Lib.cell_of_heap (heap_alloc_new W _)]
 simpa using hj
theorem pair_final {w4 w5 w6 w7 : World} {T r lo : Nat} {t5 t7 : Lfc.Raw} {a0 a1 a2 a3 b0 b1 b2 b3 v : Value} (h4 : r < w4.heap.size) (hlo : lo < r) (hT : T < w4.heap.size) (o5 : w4.heap.size ≤ w5.heap.size) (b6 : Below w5.heap.size w5 w6) (o7 : Oth T w6.drew w7)
  (h5 : TreeP (fun b => w4.heap.size ≤ b) w5 t5 a0 a1 a2 a3) (h7 : TreeP (fun b => w6.drew.heap.size ≤ b) w7 t7 b0 b1 b2 b3) :
  TreesAtP (fun b => lo < b) ((w7.alloc (.cells #[a0, a1, a2, a3, b0, b1, b2, b3] 46)).setCell ⟨r, 3, none⟩ v) (some ⟨w7.heap.size, 0, none⟩) [t5, t7] := by
 have s6 := b6.size
 have s7 : w6.heap.size ≤ w7.heap.size := o7.size
 have k5 : TreeP (fun b => w4.heap.size ≤ b) (w7.alloc (.cells #[a0, a1, a2, a3, b0, b1, b2, b3] 46)) t5 a0 a1 a2 a3 := by
  refine TreeP.keep (fun b hb hlt => ?_) (by simp; omega) (fun b _ hb => hb) _ _ _ _ _ h5
  have hb : w4.heap.size ≤ b := hb
  rw [Lib.alloc_old _ _ _ (by omega)]
  exact (o7.block b (by show b < w6.heap.size; omega) (fun e => by have := Option.some.inj e; omega)).trans (b6.block b hlt)
 have k7 : TreeP (fun b => w4.heap.size ≤ b) (w7.alloc (.cells #[a0, a1, a2, a3, b0, b1, b2, b3] 46)) t7 b0 b1 b2 b3 := by
  refine TreeP.keep (fun b hb hlt => Lib.alloc_old _ _ _ hlt) (by simp) (fun b _ hb => ?_) _ _ _ _ _ h7
  have hb : w6.heap.size ≤ b := hb
  show w4.heap.size ≤ b
  omega
 have h := row_final (j := 3) (v := v) ((RowP.one k7).append (RowP.one k5)) (cellsAt_new w7 [a0, a1, a2, a3, b0, b1, b2, b3] 46) (by simp) (show w4.heap.size ≤ w7.heap.size by omega) (r := r) (fun b hb => by have hb : w4.heap.size ≤ b := hb; omega)
 exact h.keep (fun _ _ _ => rfl) (Nat.le_refl _) (fun b _ hb => by have hb : w4.heap.size ≤ b := hb; show lo < b; omega)
theorem grown_tape {T base : Nat} {w w' : World} {row : Option Nat} (h : TapeAt T w) (hg : w.grownBy w' row) (hrow : ∀ g, row = some g → base ≤ g) (hT : T < base) : TapeAt T w' := by
 cases row with
 | none => exact h.below ⟨hg.os, hg.tape, hg.output, hg.size, fun k hk => hg.block k hk (by simp)⟩
 | some g => exact h.oth (by have := hrow g rfl; omega) hg
theorem binder_final {base T r : Nat} {wx w9 w10 wa : World} {v v' k n p a0 a1 a2 a3 : Value} {ts : List Lfc.Raw} {xs : List Value} {t : Lfc.Raw} (hr : r < base) (hT : T < r) (hb : base ≤ wx.heap.size) (hwa : wa.heap.size ≤ r)
  (hR : wx.heap[r]? = some (.cells #[k, n, p, v] 46 (0, 0))) (hown : wx.ownsRow base 46 4 v ts.length xs) (hrow : RowP (fun b => base ≤ b ∧ some b ≠ v.ownBlock) wx ts xs)
  (hTx : Oth T wa wx) (o9 : Oth T wx.drew w9) (T9 : TapeAt T w9) (ht : TreeP (fun b => wx.drew.heap.size ≤ b) w9 t a0 a1 a2 a3)
  (hown' : w10.ownsRow base 46 4 v' (ts.length + 1) (xs ++ [a0, a1, a2, a3]))
  (hg : (w9.alloc (.cells #[a0, a1, a2, a3] 46)).grownBy w10 v.ownBlock) (hloc : v'.ownBlock = v.ownBlock ∨ v'.ownBlock = some (w9.heap.size + 1)) :
  w10.heap[r]? = some (.cells #[k, n, p, v] 46 (0, 0)) ∧ (w10.setCell ⟨r, 3, none⟩ v').heap[r]? = some (.cells #[k, n, p, v'] 46 (0, 0)) ∧ (w10.setCell ⟨r, 3, none⟩ v').ownsRow base 46 4 v' (ts ++ [t]).length (xs ++ [a0, a1, a2, a3]) ∧
  RowP (fun b => base ≤ b ∧ some b ≠ v'.ownBlock) (w10.setCell ⟨r, 3, none⟩ v') (ts ++ [t]) (xs ++ [a0, a1, a2, a3]) ∧ TapeAt T (w10.setCell ⟨r, 3, none⟩ v') ∧ Oth T wa (w10.setCell ⟨r, 3, none⟩ v') ∧ base ≤ (w10.setCell ⟨r, 3, none⟩ v').heap.size := by
 have s9 : wx.heap.size ≤ w9.heap.size := o9.size
 have s10 : w9.heap.size + 1 ≤ w10.heap.size := by have := hg.size; simpa using this
 have hrx := lt_of_block hR
 have hown_lt : ∀ g, v.ownBlock = some g → base ≤ g ∧ g < wx.heap.size := fun g e => hown.lt g e
 have hne : some r ≠ v.ownBlock := fun e => by have := (hown_lt r e.symm).1; omega
 have hr9 : w9.heap[r]? = some (.cells #[k, n, p, v] 46 (0, 0)) := o9.heap hR (by omega)
 have hr10 : w10.heap[r]? = some (.cells #[k, n, p, v] 46 (0, 0)) := (hg.block r (by simp; omega) hne).trans (heap_alloc_old _ _ _ _ hr9)
 have hne' : v'.ownBlock ≠ some r := fun e => by have := (hown'.lt r e).1; omega
 have hsz : (w10.setCell ⟨r, 3, none⟩ v').heap.size = w10.heap.size := by simp [World.setCell]
 have key : ∀ b, base ≤ b → some b ≠ v.ownBlock → b < w9.heap.size → (w10.setCell ⟨r, 3, none⟩ v').heap[b]? = w9.heap[b]? := fun b h1 h2 h3 => by
  rw [Below.heap_setCell _ _ _ _ (by show b ≠ r; omega), hg.block b (by simp; omega) h2, Lib.alloc_old _ _ _ h3]
 have hq' : ∀ b, base ≤ b → some b ≠ v.ownBlock → b < w9.heap.size → some b ≠ v'.ownBlock := fun b _ h2 h3 e => by
  rcases hloc with h | h
  ·exact h2 (e.trans h)
  ·have := Option.some.inj (e.trans h); omega
 refine ⟨hr10, set3 hr10, ?_, ?_, ?_, ?_, by omega⟩
 ·rw [List.length_append]; exact ownsRow_setCell_other hown' hne' _
 ·refine RowP.append (RowP.one ?_) ?_
  ·refine TreeP.keep (fun b hb1 hlt => ?_) (by omega) (fun b hlt hb1 => ?_) _ _ _ _ _ ht
   ·have hb1 : wx.heap.size ≤ b := hb1
    exact key b (by omega) (fun e => by have := (hown_lt b e.symm).2; omega) hlt
   ·have hb1 : wx.heap.size ≤ b := hb1
    exact ⟨by omega, hq' b (by omega) (fun e => by have := (hown_lt b e.symm).2; omega) hlt⟩
  ·refine RowP.keep (fun b hb1 hlt => ?_) (by omega) (fun b hlt hb1 => ⟨hb1.1, hq' b hb1.1 hb1.2 (by omega)⟩) hrow
   rw [key b hb1.1 hb1.2 (by omega)]
   exact o9.block b hlt (fun e => by have := Option.some.inj e; have := hb1.1; omega)
 ·exact (grown_tape (T9.below ((Below.refl _ _).alloc (Nat.le_refl _) _)) hg (fun g e => (hown_lt g e).1) (by omega)).oth hT (Oth.set _ _)
 ·refine Oth.of_new (hTx.trans ((Oth.refl _ _).drew.trans o9)) ⟨?_, ?_, ?_, by omega, fun b hb1 => ?_⟩
  ·exact hg.os
  ·exact hg.tape
  ·exact hg.output
  ·rw [Below.heap_setCell _ _ _ _ (by show b ≠ r; omega), hg.block b (by simp; omega) (fun e => by have := (hown_lt b e.symm).1; omega), Lib.alloc_old _ _ _ (by omega)]
theorem binder_trees {base lo : Nat} {W : World} {A : Option Addr} {c : Nat} {ts : List Lfc.Raw} {xs : List Value} (hlo : lo < base) (hown : W.ownsRow base 46 4 (.slice A ts.length c) ts.length xs) (hrow : RowP (fun b => base ≤ b ∧ some b ≠ (Value.slice A ts.length c).ownBlock) W ts xs) :
  TreesAtP (fun b => lo < b) W A ts ∧ ts.length ≤ c := by
 rcases hown.2 with ⟨h1, h2⟩ | ⟨g, cap, cur, hv, hbg, hg, hnc, _, _, _⟩
 ·exact ⟨fun hne => absurd (List.length_eq_zero_iff.1 h2) hne, by rw [h2]; exact Nat.zero_le _⟩
 ·injection hv with e1 _ e3
  subst e1 e3
  refine ⟨fun _ => ⟨g, 0, rfl, lt_of_block hg, by show lo < g; omega, ?_⟩, hnc⟩
  exact (RowP.keep (fun _ _ _ => rfl) (Nat.le_refl _) (fun b _ hb => by have := hb.1; show lo < b; omega) hrow).lie (own_cells hown)
theorem raw_info : ∃ i, Tryz.prog.info? 46 = some i ∧ i.zero = some (.agg #[.int .i64 0, S [], .int .i64 0, .slice none 0 0]) ∧ i.size = 4 ∧ i.bytes = 56 := by
 obtain ⟨i0, hi, hz0, hz1, hz2⟩ := info_parts (show (Tryz.prog.info? 46).map (fun i => (i.zero, i.size, i.bytes)) = some (some (.agg #[.int .i64 0, S [], .int .i64 0, .slice none 0 0]), 4, 56) by kernel_rfl)
 exact ⟨i0, hi, hz0, hz1, hz2⟩
theorem binder_formed {k : Int} {n : List UInt8} {l : Nat} (hk : k = 7 ∨ k = 8) (hn : (Lfc.isName n || decide (n = [95])) = true) (hl : l = 1 ∨ l = 2) : Lfc.formed k n l = true := by
 unfold Lfc.formed
 rw [if_neg (by omega), if_neg (by omega), if_neg (by omega), if_pos hk, hn]
 rcases hl with rfl | rfl <;> rfl
theorem alloc_le {w : World} {o : Obj} {b : Nat} (h : b ≤ w.heap.size) : b ≤ (w.alloc o).heap.size := by simp; omega
theorem alloc_loc {w : World} {o : Obj} {v v' : Value} (h : v'.ownBlock = v.ownBlock ∨ v'.ownBlock = some (w.alloc o).heap.size) : v'.ownBlock = v.ownBlock ∨ v'.ownBlock = some (w.heap.size + 1) := by simpa using h
theorem eq2 {a b : Nat} (h : a = b) : a ≤ b ∧ b ≤ a := ⟨Nat.le_of_eq h, Nat.le_of_eq h.symm⟩
theorem names4 {w : World} {g : Nat} (r : Nat) (hr : r < 4) (h : w.heap[g]? = some (.cells #[S [97], S [78], S [120], S [95]] 9 (0, 0))) : ∃ nm : List UInt8, (Lfc.isName nm || decide (nm = [95])) = true ∧ nm.length ≤ 10 ∧ w.cell? ⟨g, r, none⟩ = some (S nm) := by
 match r, hr with
 | 0, _ => exact ⟨[97], by decide, by decide, Lib.cell_of_heap h 0⟩
 | 1, _ => exact ⟨[78], by decide, by decide, Lib.cell_of_heap h 1⟩
 | 2, _ => exact ⟨[120], by decide, by decide, Lib.cell_of_heap h 2⟩
 | 3, _ => exact ⟨[95], by decide, by decide, Lib.cell_of_heap h 3⟩
theorem oneCell4 {k p : Int} {n : List UInt8} {A : Option Addr} {l c : Nat} : ∀ u ∈ [Value.int .i64 k, S n, .int .i64 p, .slice A l c], u.oneCell' = true := by
 intro u hu
 simp at hu
 rcases hu with rfl | rfl | rfl | rfl <;> rfl
end Go.Proofs.YthajalgkjonaaaaGreatDoor
namespace Go.Proofs.YthajalgkjonaaaaGreatDoor
open Go.RowKit Go.Maps Go.WideMaps
def WordsAt (w : World) : Prop := ∃ b o c, w.cell? ⟨0, 0, none⟩ = some (.slice (some ⟨b, o, none⟩) 13 c) ∧ b < w.heap.size ∧ 0 < w.heap.size ∧ ∀ k, k < 13 → w.cell? ⟨b, o + k, none⟩ = some (S (Lfc.words.getD k []))
theorem WordsAt.below {w w' : World} (h : WordsAt w) (hb : Below w.heap.size w w') : WordsAt w' := by
 obtain ⟨b, o, c, h1, h2, h3, h4⟩ := h
 exact ⟨b, o, c, (hb.cell (p := ⟨_, 0, none⟩) h3).trans h1, Nat.lt_of_lt_of_le h2 hb.size, Nat.lt_of_lt_of_le h3 hb.size, fun k hk => (hb.cell (p := ⟨b, o + k, none⟩) h2).trans (h4 k hk)⟩
theorem TreeP.one {q : Nat → Prop} {w : World} : ∀ {t : Lfc.Raw} {v0 v1 v2 v3 : Value}, TreeP q w t v0 v1 v2 v3 → v0.oneCell' = true ∧ v1.oneCell' = true ∧ v2.oneCell' = true ∧ v3.oneCell' = true
 | .node k n p ts, v0, v1, v2, v3, h => by
  rw [TreeP] at h
  obtain ⟨rfl, rfl, _, rfl, A, c, rfl, _⟩ := h
  exact ⟨rfl, rfl, rfl, rfl⟩
theorem RowP.ones {q : Nat → Prop} {w : World} : ∀ {ts : List Lfc.Raw} {xs : List Value}, RowP q w ts xs → ∀ u ∈ xs, u.oneCell' = true
 | [], xs, h => by rw [RowP] at h; subst h; intro u hu; cases hu
 | t :: r, xs, h => by
  rw [RowP] at h
  obtain ⟨v0, v1, v2, v3, ys, rfl, ht, hr⟩ := h
  have h1 := ht.one
  intro u hu
  simp only [List.mem_cons] at hu
  rcases hu with rfl | rfl | rfl | rfl | hu
  ·exact h1.1
  ·exact h1.2.1
  ·exact h1.2.2.1
  ·exact h1.2.2.2
  ·exact hr.ones u hu
theorem cellsAdd {w : World} {b o : Nat} {xs : List Value} (h : CellsAt w b o xs) : ∀ j u, xs[j]? = some u → w.cell? ((⟨b, o, none⟩ : Addr).add j) = some u := fun j u hj => by
 rw [Go.WideShapes.add_plain]; exact h j u hj
theorem RowP.get {q : Nat → Prop} {w : World} : ∀ {ts : List Lfc.Raw} {xs : List Value} (i : Nat) (h : i < ts.length), RowP q w ts xs → ∃ v0 v1 v2 v3, xs[i * 4]? = some v0 ∧ xs[i * 4 + 1]? = some v1 ∧ xs[i * 4 + 2]? = some v2 ∧ xs[i * 4 + 3]? = some v3 ∧ TreeP q w ts[i] v0 v1 v2 v3
 | [], _, _, h, _ => by simp at h
 | t :: r, xs, i, h, hr => by
  rw [RowP] at hr
  obtain ⟨v0, v1, v2, v3, ys, rfl, ht, hr⟩ := hr
  match i with
  | 0 => exact ⟨v0, v1, v2, v3, rfl, rfl, rfl, rfl, ht⟩
  | i + 1 =>
   obtain ⟨u0, u1, u2, u3, h0, h1, h2, h3, hu⟩ := RowP.get i (by simpa using h) hr
   refine ⟨u0, u1, u2, u3, ?_, ?_, ?_, ?_, hu⟩
   ·rw [show (i + 1) * 4 = i * 4 + 1 + 1 + 1 + 1 by omega]; simpa using h0
   ·rw [show (i + 1) * 4 + 1 = i * 4 + 1 + 1 + 1 + 1 + 1 by omega]; simpa using h1
   ·rw [show (i + 1) * 4 + 2 = i * 4 + 2 + 1 + 1 + 1 + 1 by omega]; simpa using h2
   ·rw [show (i + 1) * 4 + 3 = i * 4 + 3 + 1 + 1 + 1 + 1 by omega]; simpa using h3
theorem put4row {W : World} {g i : Nat} {xs : List Value} {cur : Array Value} {t : TypeId} (h : W.heap[g]? = some (.cells cur t (0, 0))) (hc : CellsAt W g 0 xs) (hi : i * 4 + 3 < xs.length) (v0 v1 v2 v3 : Value) : ∃ s1 s2 s3 s4 a0 a1 a2 a3, W.setCell ⟨g, i * 4, none⟩ v0 = s1 ∧ s1.setCell ⟨g, i * 4 + 1, none⟩ v1 = s2 ∧ s2.setCell ⟨g, i * 4 + 2, none⟩ v2 = s3 ∧ s3.setCell ⟨g, i * 4 + 3, none⟩ v3 = s4 ∧
  (W.cell? ⟨g, i * 4, none⟩ = some a0 ∧ s1.cell? ⟨g, i * 4 + 1, none⟩ = some a1 ∧ s2.cell? ⟨g, i * 4 + 2, none⟩ = some a2 ∧ s3.cell? ⟨g, i * 4 + 3, none⟩ = some a3) ∧
  (W.frozen? ⟨g, i * 4, none⟩ = false ∧ s1.frozen? ⟨g, i * 4 + 1, none⟩ = false ∧ s2.frozen? ⟨g, i * 4 + 2, none⟩ = false ∧ s3.frozen? ⟨g, i * 4 + 3, none⟩ = false) ∧
  CellsAt s4 g 0 ((((xs.set (i * 4) v0).set (i * 4 + 1) v1).set (i * 4 + 2) v2).set (i * 4 + 3) v3) ∧ Oth g W s4 := by
 have fz : ∀ (j k : Nat) (V : World) (v : Value) (c : Array Value), V.heap[g]? = some (.cells c t (0, 0)) → (V.setCell ⟨g, j, none⟩ v).heap[g]? = some (.cells (c.set! j v) t (0, 0)) := fun j k V v c hV => by simp [World.setCell, Array.getElem?_modify, hV]
 have c1 := hc.set (j0 := i * 4) v0
 have c2 := c1.set (j0 := i * 4 + 1) v1
 have c3 := c2.set (j0 := i * 4 + 2) v2
 have c4 := c3.set (j0 := i * 4 + 3) v3
 simp only [Nat.zero_add] at c1 c2 c3 c4
 have h1 := fz (i * 4) 0 W v0 _ h
 have h2 := fz (i * 4 + 1) 0 _ v1 _ h1
 have h3 := fz (i * 4 + 2) 0 _ v2 _ h2
 have e0 := hc (i * 4) _ (List.getElem?_eq_getElem (by omega))
 have e1 := c1 (i * 4 + 1) _ (List.getElem?_eq_getElem (by simp; omega))
 have e2 := c2 (i * 4 + 2) _ (List.getElem?_eq_getElem (by simp; omega))
 have e3 := c3 (i * 4 + 3) _ (List.getElem?_eq_getElem (by simp; omega))
 rw [Nat.zero_add] at e0 e1 e2 e3
 exact ⟨_, _, _, _, _, _, _, _, rfl, rfl, rfl, rfl, ⟨e0, e1, e2, e3⟩, ⟨Lib.frozen_of_heap h _, Lib.frozen_of_heap h1 _, Lib.frozen_of_heap h2 _, Lib.frozen_of_heap h3 _⟩, c4, (((Oth.set W v0).trans (Oth.set _ v1)).trans (Oth.set _ v2)).trans (Oth.set _ v3)⟩
theorem TreeP.name_le {q : Nat → Prop} {w : World} {k p : Int} {n : List UInt8} {ts : List Lfc.Raw} {v0 v1 v2 v3 : Value} (h : TreeP q w (.node k n p ts) v0 v1 v2 v3) : n.length ≤ 1000000 := by rw [TreeP] at h; exact h.2.2.1
theorem own_le {w : World} {base e size n c : Nat} {A : Option Addr} {xs : List Value} (h : w.ownsRow base e size (.slice A n c) n xs) : n ≤ c := by
 rcases h.2 with ⟨_, h2⟩ | ⟨g, cap, cur, hv, _, _, hnc, _⟩
 ·omega
 ·injection hv with _ _ e3
  omega
theorem TreesAtP.drew {q : Nat → Prop} {w : World} {A : Option Addr} {ts : List Lfc.Raw} (h : TreesAtP q w A ts) : TreesAtP q w.drew A ts :=
 TreesAtP.keep (w := w) (w' := w.drew) (fun _ _ _ => rfl) (Nat.le_refl w.heap.size) (fun _ _ h => h) h
end Go.Proofs.YthajalgkjonaaaaGreatDoor
