/- The contract of the reference's SameTokens, for lists that are the same. -/
import Derived.Test.YtkhfnkokdmoipaaDoorLex
import Derived.Deep.QuietTactic
import Derived.BigQuiet
namespace Go.Proofs.YtkhfnkokdmoipaaDoor
open Go.RowKit

/-- A slice of tokens that is there. -/
def TokAt (w : World) (v : Value) (l : List Lfc.Tok) : Prop :=
  ∃ A c, v = .slice A l.length c ∧ l.length ≤ c ∧ (0 < l.length → ∃ b o, A = some ⟨b, o, none⟩ ∧ b < w.heap.size ∧ ∀ k t, l[k]? = some t → w.cell? ⟨b, o + k * 3, none⟩ = some (.int .i64 t.kind) ∧ w.cell? ⟨b, o + k * 3 + 1, none⟩ = some (S t.text) ∧ w.cell? ⟨b, o + k * 3 + 2, none⟩ = some (.int .i64 (t.pos : Int)))
theorem TokAt.below {w w' : World} {v : Value} {l : List Lfc.Tok} (h : TokAt w v l) (hb : Below w.heap.size w w') : TokAt w' v l := by
  obtain ⟨A, c, rfl, h1, h2⟩ := h
  refine ⟨A, c, rfl, h1, fun hp => ?_⟩
  obtain ⟨b, o, hA, hlt, hc⟩ := h2 hp
  refine ⟨b, o, hA, Nat.lt_of_lt_of_le hlt hb.size, fun k t ht => ?_⟩
  obtain ⟨c0, c1, c2⟩ := hc k t ht
  exact ⟨(hb.cell (p := ⟨b, _, none⟩) hlt).trans c0, (hb.cell (p := ⟨b, _, none⟩) hlt).trans c1, (hb.cell (p := ⟨b, _, none⟩) hlt).trans c2⟩
theorem tokCells_at (l : List Lfc.Tok) : ∀ (k : Nat) (t : Lfc.Tok), l[k]? = some t → (tokCells l)[k * 3]? = some (.int .i64 t.kind) ∧ (tokCells l)[k * 3 + 1]? = some (S t.text) ∧ (tokCells l)[k * 3 + 2]? = some (.int .i64 (t.pos : Int)) := by
  induction l with
  | nil => intro k t h; simp at h
  | cons a r ih =>
    intro k t h
    cases k with
    | zero => simp at h; subst h; simp [tokCells]
    | succ k =>
      have := ih k t (by simpa using h)
      have e : ∀ j, (tokCells (a :: r))[(k + 1) * 3 + j]? = (tokCells r)[k * 3 + j]? := by
        intro j
        rw [show (k + 1) * 3 + j = (k * 3 + j) + 1 + 1 + 1 by omega]
        simp [tokCells]
      exact ⟨(e 0).trans this.1, (e 1).trans this.2.1, (e 2).trans this.2.2⟩
theorem below_drewN {B : Nat} {a w : World} (h : Below B a w) (n : Nat) : Below B a (w.drewN n) := ⟨h.os, h.tape, h.output, h.size, h.block⟩

/-- Two tokens are the same, offsets aside or not. -/
def SameT (at_ : Bool) (a b : List Lfc.Tok) : Prop := a.length = b.length ∧ ∀ (k : Nat) (s t : Lfc.Tok), a[k]? = some s → b[k]? = some t → s.kind = t.kind ∧ s.text = t.text ∧ (at_ = true → s.pos = t.pos)

end Go.Proofs.YtkhfnkokdmoipaaDoor
