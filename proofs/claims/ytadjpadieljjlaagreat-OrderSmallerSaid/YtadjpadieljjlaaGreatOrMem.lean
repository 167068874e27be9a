/- Orders in memory. -/
import Derived.Test.YtadjpadieljjlaaGreatOrP
import Derived.Test.YtadjpadieljjlaaGreatLeaf
set_option linter.unusedVariables false
set_option linter.unusedSimpArgs false
namespace Go.Proofs.YtadjpadieljjlaaGreat
open Go.RowKit

mutual
/-- The three cells of an order. -/
def OrdC (w : World) : Lfc.Ord → Value → Value → Value → Prop
  | .node k a ts, v0, v1, v2 => v0 = .int .i64 k ∧ v1 = .int .i64 a ∧ ∃ A c, v2 = .slice A ts.length c ∧ ts.length ≤ c ∧ (ts ≠ [] → ∃ b o, A = some ⟨b, o, none⟩ ∧ b < w.heap.size ∧ OrdsO w b ts o)
/-- Orders one behind the other in a block. -/
def OrdsO (w : World) (b : Nat) : List Lfc.Ord → Nat → Prop
  | [], _ => True
  | t :: r, o => (∃ v0 v1 v2, w.cell? ⟨b, o, none⟩ = some v0 ∧ w.cell? ⟨b, o + 1, none⟩ = some v1 ∧ w.cell? ⟨b, o + 2, none⟩ = some v2 ∧ OrdC w t v0 v1 v2) ∧ OrdsO w b r (o + 3)
end

mutual
theorem OrdC.below {w w' : World} (hb : Below w.heap.size w w') : ∀ (t : Lfc.Ord) (v0 v1 v2 : Value), OrdC w t v0 v1 v2 → OrdC w' t v0 v1 v2
  | .node k a ts, v0, v1, v2, h => by
    rw [OrdC] at h ⊢
    obtain ⟨h0, h1, A, c, h3, h4, h5⟩ := h
    refine ⟨h0, h1, A, c, h3, h4, fun hne => ?_⟩
    obtain ⟨b, o, hA, hlt, hts⟩ := h5 hne
    exact ⟨b, o, hA, Nat.lt_of_lt_of_le hlt hb.size, OrdsO.below hb ts b o hlt hts⟩
theorem OrdsO.below {w w' : World} (hb : Below w.heap.size w w') : ∀ (ts : List Lfc.Ord) (b o : Nat), b < w.heap.size → OrdsO w b ts o → OrdsO w' b ts o
  | [], _, _, _, _ => by rw [OrdsO]; trivial
  | t :: r, b, o, hlt, h => by
    rw [OrdsO] at h ⊢
    obtain ⟨⟨v0, v1, v2, c0, c1, c2, ht⟩, hr⟩ := h
    exact ⟨⟨v0, v1, v2, (hb.cell (p := ⟨b, _, none⟩) hlt).trans c0, (hb.cell (p := ⟨b, _, none⟩) hlt).trans c1, (hb.cell (p := ⟨b, _, none⟩) hlt).trans c2, OrdC.below hb t v0 v1 v2 ht⟩, OrdsO.below hb r b (o + 3) hlt hr⟩
end

theorem OrdsO.at_ {w : World} {b : Nat} : ∀ (ts : List Lfc.Ord) (o i : Nat) (t : Lfc.Ord), OrdsO w b ts o → ts[i]? = some t →
    ∃ v0 v1 v2, w.cell? ⟨b, o + i * 3, none⟩ = some v0 ∧ w.cell? ⟨b, o + i * 3 + 1, none⟩ = some v1 ∧ w.cell? ⟨b, o + i * 3 + 2, none⟩ = some v2 ∧ OrdC w t v0 v1 v2 := by
  intro ts
  induction ts with
  | nil => intro o i t _ h; simp at h
  | cons a r ih =>
    intro o i t h hi
    rw [OrdsO] at h
    cases i with
    | zero => simp at hi; subst hi; simpa using h.1
    | succ i =>
      have := ih (o + 3) i t h.2 (by simpa using hi)
      rw [show o + (i + 1) * 3 = o + 3 + i * 3 by omega]
      exact this

/-- An order by value. -/
def OrdV (w : World) (t : Lfc.Ord) (v : Value) : Prop := ∃ v0 v1 v2, v = .agg #[v0, v1, v2] ∧ OrdC w t v0 v1 v2
theorem OrdV.below {w w' : World} {t : Lfc.Ord} {v : Value} (h : OrdV w t v) (hb : Below w.heap.size w w') : OrdV w' t v := by
  obtain ⟨v0, v1, v2, rfl, h⟩ := h
  exact ⟨v0, v1, v2, rfl, OrdC.below hb t _ _ _ h⟩
/-- A slice of orders. -/
def OrdsAt (w : World) (A : Option Addr) (ts : List Lfc.Ord) : Prop := ts ≠ [] → ∃ b o, A = some ⟨b, o, none⟩ ∧ b < w.heap.size ∧ OrdsO w b ts o
theorem OrdsAt.below {w w' : World} {A : Option Addr} {ts : List Lfc.Ord} (h : OrdsAt w A ts) (hb : Below w.heap.size w w') : OrdsAt w' A ts := fun hne => by
  obtain ⟨b, o, hA, hlt, h⟩ := h hne
  exact ⟨b, o, hA, Nat.lt_of_lt_of_le hlt hb.size, OrdsO.below hb ts b o hlt h⟩
theorem OrdV.open_ {w : World} {k a : Int} {ts : List Lfc.Ord} {v : Value} (h : OrdV w (.node k a ts) v) : ∃ A c, v = .agg #[.int .i64 k, .int .i64 a, .slice A ts.length c] ∧ ts.length ≤ c ∧ OrdsAt w A ts := by
  obtain ⟨v0, v1, v2, rfl, h⟩ := h
  rw [OrdC] at h
  obtain ⟨rfl, rfl, A, c, rfl, hc, h⟩ := h
  exact ⟨A, c, rfl, hc, h⟩
theorem OrdV.mk {w : World} {k a : Int} {ts : List Lfc.Ord} {A : Option Addr} {c : Nat} (hc : ts.length ≤ c) (h : OrdsAt w A ts) : OrdV w (.node k a ts) (.agg #[.int .i64 k, .int .i64 a, .slice A ts.length c]) :=
  ⟨_, _, _, rfl, by rw [OrdC]; exact ⟨rfl, rfl, A, c, rfl, hc, h⟩⟩
/-- An element of a slice of orders: its cells. -/
theorem OrdsAt.at_ {w : World} {A : Option Addr} {ts : List Lfc.Ord} (h : OrdsAt w A ts) {i : Nat} (hi : i < ts.length) :
    ∃ b o k a us B c, A = some ⟨b, o, none⟩ ∧ b < w.heap.size ∧ ts[i] = .node k a us ∧ w.cell? ⟨b, o + i * 3, none⟩ = some (.int .i64 k) ∧ w.cell? ⟨b, o + i * 3 + 1, none⟩ = some (.int .i64 a) ∧ w.cell? ⟨b, o + i * 3 + 2, none⟩ = some (.slice B us.length c) ∧
      us.length ≤ c ∧ OrdsAt w B us ∧ OrdV w ts[i] (.agg #[.int .i64 k, .int .i64 a, .slice B us.length c]) := by
  obtain ⟨b, o, hA, hlt, hts⟩ := h (by intro h0; rw [h0] at hi; simp at hi)
  obtain ⟨v0, v1, v2, c0, c1, c2, ht⟩ := OrdsO.at_ ts o i ts[i] hts (List.getElem?_eq_getElem hi)
  cases ht' : ts[i] with
  | node k a us =>
    rw [ht'] at ht
    have htv : OrdV w (.node k a us) (.agg #[v0, v1, v2]) := ⟨v0, v1, v2, rfl, ht⟩
    rw [OrdC] at ht
    obtain ⟨rfl, rfl, B, c, rfl, hc, hB⟩ := ht
    exact ⟨b, o, k, a, us, B, c, hA, hlt, rfl, c0, c1, c2, hc, hB, htv⟩
theorem cells3o {W : World} {g : Nat} {v0 v1 v2 : Value} {t : TypeId} (h : W.heap[g]? = some (.cells #[v0, v1, v2] t (0, 0))) : W.cell? ⟨g, 0, none⟩ = some v0 ∧ W.cell? ⟨g, 1, none⟩ = some v1 ∧ W.cell? ⟨g, 2, none⟩ = some v2 :=
  ⟨Lib.cell_of_heap h 0, Lib.cell_of_heap h 1, Lib.cell_of_heap h 2⟩
end Go.Proofs.YtadjpadieljjlaaGreat
