/- Operators and operands in memory. -/
import Derived.Test.YtkhfnkokdmoipaaDoorOpP
import Derived.Test.YtkhfnkokdmoipaaDoorRawP
set_option linter.unusedVariables false
set_option linter.unusedSimpArgs false
namespace Go.Proofs.YtkhfnkokdmoipaaDoor
open Go.RowKit Go.Maps Go.WideMaps

def opV (o : Lfc.Op) : Value := .agg #[S o.name, .int .i64 o.fix, .int .i64 o.prec]
def OpC (w : World) (b o : Nat) (x : Lfc.Op) : Prop := w.cell? ⟨b, o, none⟩ = some (S x.name) ∧ w.cell? ⟨b, o + 1, none⟩ = some (.int .i64 x.fix) ∧ w.cell? ⟨b, o + 2, none⟩ = some (.int .i64 x.prec)
/-- A slice of operators. -/
def OpsAt (w : World) (A : Option Addr) (l : List Lfc.Op) : Prop := (∀ x ∈ l, x.name.length ≤ 1000000) ∧ (l ≠ [] → ∃ b o, A = some ⟨b, o, none⟩ ∧ b < w.heap.size ∧ ∀ i (h : i < l.length), OpC w b (o + i * 3) l[i])
theorem OpsAt.below {w w' : World} {A : Option Addr} {l : List Lfc.Op} (h : OpsAt w A l) (hb : Below w.heap.size w w') : OpsAt w' A l := ⟨h.1, fun hne => by
  obtain ⟨b, o, hA, hlt, hc⟩ := h.2 hne
  refine ⟨b, o, hA, Nat.lt_of_lt_of_le hlt hb.size, fun i hi => ?_⟩
  obtain ⟨c0, c1, c2⟩ := hc i hi
  exact ⟨(hb.cell (p := ⟨b, _, none⟩) hlt).trans c0, (hb.cell (p := ⟨b, _, none⟩) hlt).trans c1, (hb.cell (p := ⟨b, _, none⟩) hlt).trans c2⟩⟩
/-- The five cells of an operand. -/
def OpdC (w : World) (b o : Nat) (x : Lfc.Opd) : Prop := ∃ k n p ts A c, x.tree = .node k n p ts ∧ w.cell? ⟨b, o, none⟩ = some (.int .i64 k) ∧ w.cell? ⟨b, o + 1, none⟩ = some (S n) ∧ w.cell? ⟨b, o + 2, none⟩ = some (.int .i64 p) ∧ w.cell? ⟨b, o + 3, none⟩ = some (.slice A ts.length c) ∧ w.cell? ⟨b, o + 4, none⟩ = some (.bool x.closed) ∧ TreeV w (.node k n p ts) (.agg #[.int .i64 k, S n, .int .i64 p, .slice A ts.length c])
/-- A slice of operands. -/
def OpdsAt (w : World) (A : Option Addr) (s : List Lfc.Opd) : Prop := s ≠ [] → ∃ b o, A = some ⟨b, o, none⟩ ∧ b < w.heap.size ∧ ∀ i (h : i < s.length), OpdC w b (o + i * 5) s[i]
theorem OpdC.below {w w' : World} {b o : Nat} {x : Lfc.Opd} (h : OpdC w b o x) (hlt : b < w.heap.size) (hb : Below w.heap.size w w') : OpdC w' b o x := by
  obtain ⟨k, n, p, ts, A, c, e, c0, c1, c2, c3, c4, hT⟩ := h
  exact ⟨k, n, p, ts, A, c, e, (hb.cell (p := ⟨b, _, none⟩) hlt).trans c0, (hb.cell (p := ⟨b, _, none⟩) hlt).trans c1, (hb.cell (p := ⟨b, _, none⟩) hlt).trans c2, (hb.cell (p := ⟨b, _, none⟩) hlt).trans c3, (hb.cell (p := ⟨b, _, none⟩) hlt).trans c4, hT.below hb⟩
theorem OpdsAt.below {w w' : World} {A : Option Addr} {s : List Lfc.Opd} (h : OpdsAt w A s) (hb : Below w.heap.size w w') : OpdsAt w' A s := fun hne => by
  obtain ⟨b, o, hA, hlt, hc⟩ := h hne
  exact ⟨b, o, hA, Nat.lt_of_lt_of_le hlt hb.size, fun i hi => (hc i hi).below hlt hb⟩
theorem OpdsAt.at_ {w : World} {A : Option Addr} {s : List Lfc.Opd} (h : OpdsAt w A s) {i : Nat} (hi : i < s.length) : ∃ b o k n p ts B c, A = some ⟨b, o, none⟩ ∧ b < w.heap.size ∧ s[i].tree = .node k n p ts ∧ w.cell? ⟨b, o + i * 5, none⟩ = some (.int .i64 k) ∧ w.cell? ⟨b, o + i * 5 + 1, none⟩ = some (S n) ∧ w.cell? ⟨b, o + i * 5 + 2, none⟩ = some (.int .i64 p) ∧ w.cell? ⟨b, o + i * 5 + 3, none⟩ = some (.slice B ts.length c) ∧ w.cell? ⟨b, o + i * 5 + 4, none⟩ = some (.bool s[i].closed) ∧ TreeV w (.node k n p ts) (.agg #[.int .i64 k, S n, .int .i64 p, .slice B ts.length c]) := by
  obtain ⟨b, o, hA, hlt, hc⟩ := h (by intro h0; rw [h0] at hi; simp at hi)
  obtain ⟨k, n, p, ts, B, c, e, c0, c1, c2, c3, c4, hT⟩ := hc i hi
  exact ⟨b, o, k, n, p, ts, B, c, hA, hlt, e, c0, c1, c2, c3, c4, hT⟩
/-- A part of a slice of operands. -/
theorem OpdsAt.part {w : World} {b o : Nat} {s : List Lfc.Opd} (h : OpdsAt w (some ⟨b, o, none⟩) s) (i j : Nat) : OpdsAt w (some ⟨b, o + i * 5, none⟩) ((s.take j).drop i) := fun hne => by
  have hl : i < (s.take j).length := by
    rcases Nat.lt_or_ge i (s.take j).length with h1 | h1
    · exact h1
    · exact absurd (List.drop_eq_nil_of_le h1) hne
  rw [List.length_take] at hl
  obtain ⟨b', o', hA, hlt, hc⟩ := h (by intro h0; rw [h0] at hl; simp at hl)
  cases hA
  refine ⟨b, o + i * 5, rfl, hlt, fun k hk => ?_⟩
  rw [List.length_drop, List.length_take] at hk
  have := hc (i + k) (by omega)
  rw [show o + i * 5 + k * 5 = o + (i + k) * 5 by omega]
  simpa using this
/-- An operand by value. -/
def OpdV (w : World) (x : Lfc.Opd) (v : Value) : Prop := ∃ k n p ts A c, x.tree = .node k n p ts ∧ v = .agg #[.int .i64 k, S n, .int .i64 p, .slice A ts.length c, .bool x.closed] ∧ TreeV w (.node k n p ts) (.agg #[.int .i64 k, S n, .int .i64 p, .slice A ts.length c])
theorem OpdV.below {w w' : World} {x : Lfc.Opd} {v : Value} (h : OpdV w x v) (hb : Below w.heap.size w w') : OpdV w' x v := by
  obtain ⟨k, n, p, ts, A, c, e, rfl, hT⟩ := h
  exact ⟨k, n, p, ts, A, c, e, rfl, hT.below hb⟩
end Go.Proofs.YtkhfnkokdmoipaaDoor
