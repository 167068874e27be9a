/- Trees in memory. -/
import Derived.Test.YtadjpadieljjlaaGreatRawPlain
import Derived.Test.YtadjpadieljjlaaGreatLeaf
set_option linter.unusedVariables false
set_option linter.unusedSimpArgs false
namespace Go.Proofs.YtadjpadieljjlaaGreat
open Go.RowKit

mutual
/-- The four cells of a tree. -/
def TreeC (w : World) : Lfc.Raw → Value → Value → Value → Value → Prop
  | .node k n p ts, v0, v1, v2, v3 => v0 = .int .i64 k ∧ v1 = S n ∧ n.length ≤ 1000000 ∧ v2 = .int .i64 p ∧ ∃ A c, v3 = .slice A ts.length c ∧ ts.length ≤ c ∧ (ts ≠ [] → ∃ b o, A = some ⟨b, o, none⟩ ∧ b < w.heap.size ∧ TreesO w b ts o)
/-- Trees one behind the other in a block. -/
def TreesO (w : World) (b : Nat) : List Lfc.Raw → Nat → Prop
  | [], _ => True
  | t :: r, o => (∃ v0 v1 v2 v3, w.cell? ⟨b, o, none⟩ = some v0 ∧ w.cell? ⟨b, o + 1, none⟩ = some v1 ∧ w.cell? ⟨b, o + 2, none⟩ = some v2 ∧ w.cell? ⟨b, o + 3, none⟩ = some v3 ∧ TreeC w t v0 v1 v2 v3) ∧ TreesO w b r (o + 4)
end

mutual
theorem TreeC.below {w w' : World} (hb : Below w.heap.size w w') : ∀ (t : Lfc.Raw) (v0 v1 v2 v3 : Value), TreeC w t v0 v1 v2 v3 → TreeC w' t v0 v1 v2 v3
  | .node k n p ts, v0, v1, v2, v3, h => by
    rw [TreeC] at h ⊢
    obtain ⟨h0, h1, hn, h2, A, c, h3, h4, h5⟩ := h
    refine ⟨h0, h1, hn, h2, A, c, h3, h4, fun hne => ?_⟩
    obtain ⟨b, o, hA, hlt, hts⟩ := h5 hne
    exact ⟨b, o, hA, Nat.lt_of_lt_of_le hlt hb.size, TreesO.below hb ts b o hlt hts⟩
theorem TreesO.below {w w' : World} (hb : Below w.heap.size w w') : ∀ (ts : List Lfc.Raw) (b o : Nat), b < w.heap.size → TreesO w b ts o → TreesO w' b ts o
  | [], _, _, _, _ => by rw [TreesO]; trivial
  | t :: r, b, o, hlt, h => by
    rw [TreesO] at h ⊢
    obtain ⟨⟨v0, v1, v2, v3, c0, c1, c2, c3, ht⟩, hr⟩ := h
    exact ⟨⟨v0, v1, v2, v3, (hb.cell (p := ⟨b, _, none⟩) hlt).trans c0, (hb.cell (p := ⟨b, _, none⟩) hlt).trans c1, (hb.cell (p := ⟨b, _, none⟩) hlt).trans c2, (hb.cell (p := ⟨b, _, none⟩) hlt).trans c3, TreeC.below hb t v0 v1 v2 v3 ht⟩, TreesO.below hb r b (o + 4) hlt hr⟩
end

theorem TreesO.at_ {w : World} {b : Nat} : ∀ (ts : List Lfc.Raw) (o i : Nat) (t : Lfc.Raw), TreesO w b ts o → ts[i]? = some t →
    ∃ v0 v1 v2 v3, w.cell? ⟨b, o + i * 4, none⟩ = some v0 ∧ w.cell? ⟨b, o + i * 4 + 1, none⟩ = some v1 ∧ w.cell? ⟨b, o + i * 4 + 2, none⟩ = some v2 ∧ w.cell? ⟨b, o + i * 4 + 3, none⟩ = some v3 ∧ TreeC w t v0 v1 v2 v3 := by
  intro ts
  induction ts with
  | nil => intro o i t _ h; simp at h
  | cons a r ih =>
    intro o i t h hi
    rw [TreesO] at h
    cases i with
    | zero => simp at hi; subst hi; simpa using h.1
    | succ i =>
      have := ih (o + 4) i t h.2 (by simpa using hi)
      rw [show o + (i + 1) * 4 = o + 4 + i * 4 by omega]
      exact this

/-- A tree by value. -/
def TreeV (w : World) (t : Lfc.Raw) (v : Value) : Prop := ∃ v0 v1 v2 v3, v = .agg #[v0, v1, v2, v3] ∧ TreeC w t v0 v1 v2 v3
theorem TreeV.below {w w' : World} {t : Lfc.Raw} {v : Value} (h : TreeV w t v) (hb : Below w.heap.size w w') : TreeV w' t v := by
  obtain ⟨v0, v1, v2, v3, rfl, h⟩ := h
  exact ⟨v0, v1, v2, v3, rfl, TreeC.below hb t _ _ _ _ h⟩
/-- A slice of trees. -/
def TreesAt (w : World) (A : Option Addr) (ts : List Lfc.Raw) : Prop := ts ≠ [] → ∃ b o, A = some ⟨b, o, none⟩ ∧ b < w.heap.size ∧ TreesO w b ts o
theorem TreesAt.below {w w' : World} {A : Option Addr} {ts : List Lfc.Raw} (h : TreesAt w A ts) (hb : Below w.heap.size w w') : TreesAt w' A ts := fun hne => by
  obtain ⟨b, o, hA, hlt, h⟩ := h hne
  exact ⟨b, o, hA, Nat.lt_of_lt_of_le hlt hb.size, TreesO.below hb ts b o hlt h⟩
theorem TreeV.open_ {w : World} {k p : Int} {n : List UInt8} {ts : List Lfc.Raw} {v : Value} (h : TreeV w (.node k n p ts) v) : ∃ A c, v = .agg #[.int .i64 k, S n, .int .i64 p, .slice A ts.length c] ∧ ts.length ≤ c ∧ TreesAt w A ts := by
  obtain ⟨v0, v1, v2, v3, rfl, h⟩ := h
  rw [TreeC] at h
  obtain ⟨rfl, rfl, _, rfl, A, c, rfl, hc, h⟩ := h
  exact ⟨A, c, rfl, hc, h⟩
theorem TreeV.name_le {w : World} {k p : Int} {n : List UInt8} {ts : List Lfc.Raw} {v : Value} (h : TreeV w (.node k n p ts) v) : n.length ≤ 1000000 := by
  obtain ⟨v0, v1, v2, v3, rfl, h⟩ := h
  rw [TreeC] at h
  exact h.2.2.1
theorem TreeV.mk {w : World} {k p : Int} {n : List UInt8} {ts : List Lfc.Raw} {A : Option Addr} {c : Nat} (hn : n.length ≤ 1000000) (hc : ts.length ≤ c) (h : TreesAt w A ts) : TreeV w (.node k n p ts) (.agg #[.int .i64 k, S n, .int .i64 p, .slice A ts.length c]) :=
  ⟨_, _, _, _, rfl, by rw [TreeC]; exact ⟨rfl, rfl, hn, rfl, A, c, rfl, hc, h⟩⟩
/-- An element of a slice of trees: its cells. -/
theorem TreesAt.at_ {w : World} {A : Option Addr} {ts : List Lfc.Raw} (h : TreesAt w A ts) {i : Nat} (hi : i < ts.length) :
    ∃ b o k n p us B c, A = some ⟨b, o, none⟩ ∧ b < w.heap.size ∧ ts[i] = .node k n p us ∧ w.cell? ⟨b, o + i * 4, none⟩ = some (.int .i64 k) ∧ w.cell? ⟨b, o + i * 4 + 1, none⟩ = some (S n) ∧ w.cell? ⟨b, o + i * 4 + 2, none⟩ = some (.int .i64 p) ∧ w.cell? ⟨b, o + i * 4 + 3, none⟩ = some (.slice B us.length c) ∧
      us.length ≤ c ∧ TreesAt w B us ∧ TreeV w ts[i] (.agg #[.int .i64 k, S n, .int .i64 p, .slice B us.length c]) := by
  obtain ⟨b, o, hA, hlt, hts⟩ := h (by intro h0; rw [h0] at hi; simp at hi)
  obtain ⟨v0, v1, v2, v3, c0, c1, c2, c3, ht⟩ := TreesO.at_ ts o i ts[i] hts (List.getElem?_eq_getElem hi)
  cases ht' : ts[i] with
  | node k n p us =>
    rw [ht'] at ht
    have htv : TreeV w (.node k n p us) (.agg #[v0, v1, v2, v3]) := ⟨v0, v1, v2, v3, rfl, ht⟩
    rw [TreeC] at ht
    obtain ⟨rfl, rfl, _, rfl, B, c, rfl, hc, hB⟩ := ht
    exact ⟨b, o, k, n, p, us, B, c, hA, hlt, rfl, c0, c1, c2, c3, hc, hB, htv⟩
end Go.Proofs.YtadjpadieljjlaaGreat
