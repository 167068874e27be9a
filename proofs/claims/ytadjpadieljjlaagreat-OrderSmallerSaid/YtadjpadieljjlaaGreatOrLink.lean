/- Links and edges: the plain model, memory. -/
import Derived.Test.YtadjpadieljjlaaGreatOrPath2
import Derived.Test.YtadjpadieljjlaaGreatOwnTerm
set_option linter.unusedVariables false
set_option linter.unusedSimpArgs false
namespace Lfc
structure Link where
  kind : Int
  term : Raw
  path : List Int
  fact : Int
/-- The edge from t to u: its strength, its links. -/
def upOf (u : Raw) : Option (List Int) → Int × List Link
  | none => (0, [])
  | some [] => (1, [])
  | some (i :: q) => (2, [⟨1, u, i :: q, 0⟩])
def Raw.up (ks : List Int) (t u : Raw) : Int × List Link := upOf u (Raw.path ks t u)
theorem upOf_some {u : Raw} {q : List Int} (h : q.length ≠ 0) : upOf u (some q) = (2, [⟨1, u, q, 0⟩]) := by
  cases q with
  | nil => exact absurd rfl h
  | cons i r => rfl
end Lfc
namespace Go.Proofs.YtadjpadieljjlaaGreat
open Go.RowKit
/-- Numbers in such blocks. -/
def IntsP (q : Nat → Prop) (w : World) (A : Option Addr) (zs : List Int) : Prop := zs ≠ [] → ∃ b o, A = some ⟨b, o, none⟩ ∧ b < w.heap.size ∧ q b ∧ ∀ k, k < zs.length → w.cell? ⟨b, o + k, none⟩ = some (.int .i64 (zs.getD k 0))
theorem IntsP.toO {q : Nat → Prop} {w : World} {A : Option Addr} {zs : List Int} (h : IntsP q w A zs) : IntsO w A zs := fun hne => by
  obtain ⟨b, o, hA, hlt, _, hc⟩ := h hne
  exact ⟨b, o, hA, hlt, hc⟩
theorem cell_kept {w w' : World} {b o : Nat} (h : w'.heap[b]? = w.heap[b]?) : w'.cell? ⟨b, o, none⟩ = w.cell? ⟨b, o, none⟩ := by
  unfold World.cell?; rw [h]
theorem IntsP.keep {q q' : Nat → Prop} {w w' : World} {A : Option Addr} {zs : List Int} (hk : ∀ b, q b → b < w.heap.size → w'.heap[b]? = w.heap[b]?) (hs : w.heap.size ≤ w'.heap.size) (hq : ∀ b, b < w.heap.size → q b → q' b) (h : IntsP q w A zs) : IntsP q' w' A zs := fun hne => by
  obtain ⟨b, o, hA, hlt, hb, hc⟩ := h hne
  exact ⟨b, o, hA, Nat.lt_of_lt_of_le hlt hs, hq b hlt hb, fun k hk2 => (cell_kept (hk b hb hlt)).trans (hc k hk2)⟩
theorem TreeVP.keep {q q' : Nat → Prop} {w w' : World} {t : Lfc.Raw} {v : Value} (hk : ∀ b, q b → b < w.heap.size → w'.heap[b]? = w.heap[b]?) (hs : w.heap.size ≤ w'.heap.size) (hq : ∀ b, b < w.heap.size → q b → q' b) (h : TreeVP q w t v) : TreeVP q' w' t v := by
  obtain ⟨v0, v1, v2, v3, e, h⟩ := h
  exact ⟨v0, v1, v2, v3, e, TreeP.keep hk hs hq t _ _ _ _ h⟩
/-- A link lies there. -/
def LinkP (q : Nat → Prop) (w : World) (b o : Nat) (x : Lfc.Link) : Prop := ∃ k n p ts At ct A c, x.term = .node k n p ts ∧ w.cell? ⟨b, o, none⟩ = some (.int .i64 x.kind) ∧ w.cell? ⟨b, o + 1, none⟩ = some (.int .i64 k) ∧ w.cell? ⟨b, o + 2, none⟩ = some (S n) ∧ w.cell? ⟨b, o + 3, none⟩ = some (.int .i64 p) ∧ w.cell? ⟨b, o + 4, none⟩ = some (.slice At (List.length ts) ct) ∧ w.cell? ⟨b, o + 5, none⟩ = some (.slice A x.path.length c) ∧ w.cell? ⟨b, o + 6, none⟩ = some (.int .i64 x.fact) ∧ x.path.length ≤ c ∧ IntsP q w A x.path ∧ TreeVP q w x.term (.agg #[.int .i64 k, S n, .int .i64 p, .slice At (List.length ts) ct])
theorem LinkP.keep {q q' : Nat → Prop} {w w' : World} {b o : Nat} {x : Lfc.Link} (hk : ∀ b, q b → b < w.heap.size → w'.heap[b]? = w.heap[b]?) (hs : w.heap.size ≤ w'.heap.size) (hq : ∀ b, b < w.heap.size → q b → q' b) (hb : q b) (hlt : b < w.heap.size) (h : LinkP q w b o x) : LinkP q' w' b o x := by
  obtain ⟨k, n, p, ts, At, ct, A, c, e, h0, h1, h2, h3, h4, h5, h6, hc, hi, ht⟩ := h
  have hc' := fun o => cell_kept (o := o) (hk b hb hlt)
  exact ⟨k, n, p, ts, At, ct, A, c, e, (hc' _).trans h0, (hc' _).trans h1, (hc' _).trans h2, (hc' _).trans h3, (hc' _).trans h4, (hc' _).trans h5, (hc' _).trans h6, hc, hi.keep hk hs hq, ht.keep hk hs hq⟩
/-- A slice of links. -/
def LinksP (q : Nat → Prop) (w : World) (A : Option Addr) (l : List Lfc.Link) : Prop := l ≠ [] → ∃ b o, A = some ⟨b, o, none⟩ ∧ b < w.heap.size ∧ q b ∧ ∀ i (h : i < l.length), LinkP q w b (o + i * 7) l[i]
theorem LinksP.keep {q q' : Nat → Prop} {w w' : World} {A : Option Addr} {l : List Lfc.Link} (hk : ∀ b, q b → b < w.heap.size → w'.heap[b]? = w.heap[b]?) (hs : w.heap.size ≤ w'.heap.size) (hq : ∀ b, b < w.heap.size → q b → q' b) (h : LinksP q w A l) : LinksP q' w' A l := fun hne => by
  obtain ⟨b, o, hA, hlt, hb, h⟩ := h hne
  exact ⟨b, o, hA, Nat.lt_of_lt_of_le hlt hs, hq b hlt hb, fun i hi => (h i hi).keep hk hs hq hb hlt⟩
theorem LinksP.below {q : Nat → Prop} {w w' : World} {A : Option Addr} {l : List Lfc.Link} (h : LinksP q w A l) (hb : Below w.heap.size w w') : LinksP q w' A l := h.keep (fun b _ hlt => hb.block b hlt) hb.size (fun _ _ h => h)
theorem LinksP.nil {q : Nat → Prop} {w : World} {A : Option Addr} : LinksP q w A [] := fun h => absurd rfl h
/-- An edge is answered. -/
def EdgeAns (w : World) (g : Int × List Lfc.Link) (e : Ending) (w' : World) : Prop := (∃ A c, e = .returned (.agg #[.int .i64 g.1, .slice A g.2.length c]) ∧ g.2.length ≤ c ∧ LinksP (fun b => w.heap.size ≤ b) w' A g.2) ∧ Below w.heap.size w w'
theorem put2 {W : World} {R : Nat} {a0 a1 : Value} {t : TypeId} (h : W.heap[R]? = some (.cells #[a0, a1] t (0, 0))) (v0 v1 : Value) : ∃ s1 s2, W.setCell ⟨R, 0, none⟩ v0 = s1 ∧ s1.setCell ⟨R, 1, none⟩ v1 = s2 ∧
    (W.cell? ⟨R, 0, none⟩ = some a0 ∧ s1.cell? ⟨R, 1, none⟩ = some a1) ∧
    (W.frozen? ⟨R, 0, none⟩ = false ∧ s1.frozen? ⟨R, 1, none⟩ = false) ∧
    s2.heap[R]? = some (.cells #[v0, v1] t (0, 0)) ∧ Oth R W s2 := by
  obtain ⟨s1, h1⟩ : ∃ s1, W.setCell ⟨R, 0, none⟩ v0 = s1 := ⟨_, rfl⟩
  obtain ⟨s2, h2⟩ : ∃ s2, s1.setCell ⟨R, 1, none⟩ v1 = s2 := ⟨_, rfl⟩
  have q1 : s1.heap[R]? = some (.cells #[v0, a1] t (0, 0)) := by rw [← h1]; simp [World.setCell, Array.getElem?_modify, h]
  have q2 : s2.heap[R]? = some (.cells #[v0, v1] t (0, 0)) := by rw [← h2]; simp [World.setCell, Array.getElem?_modify, q1]
  refine ⟨s1, s2, h1, h2, ⟨Lib.cell_of_heap h 0, Lib.cell_of_heap q1 1⟩, ⟨Lib.frozen_of_heap h 0, Lib.frozen_of_heap q1 1⟩, q2, ?_⟩
  rw [← h2, ← h1]
  exact (Oth.set W v0).trans (Oth.set _ v1)
theorem cells2e {W : World} {g : Nat} {v0 v1 : Value} {t : TypeId} (h : W.heap[g]? = some (.cells #[v0, v1] t (0, 0))) : W.cell? ⟨g, 0, none⟩ = some v0 ∧ W.cell? ⟨g, 1, none⟩ = some v1 := ⟨Lib.cell_of_heap h 0, Lib.cell_of_heap h 1⟩
theorem edge_size : (Tryz.prog.info? 183).map (·.size) = some 2 := by kernel_rfl
theorem results_edge {fn : Func} {p : Tmp} (h : fn.results = #[.cell p 183]) (tmps : Array Value) (w : World) (g : Nat) (v0 v1 : Value) (hp : tmps.getD p undef = .pointer (some ⟨g, 0, none⟩)) (hg : w.heap[g]? = some (.cells #[v0, v1] 183 (0, 0))) :
    (results fn tmps).run Tryz.prog w = .ok (.agg #[v0, v1]) w :=
  results_cell_row h tmps w g _ _ _ _ hp hg Tryz.underlying183 rfl edge_size
/-- Numbers that are owned lie there. -/
theorem intsP_own {w : World} {base : Nat} {A : Option Addr} {c : Nat} {zs : List Int} (h : w.ownsRow base 3 1 (.slice A zs.length c) zs.length (ints zs)) : IntsP (fun b => base ≤ b) w A zs := fun hne => by
  have hl : zs.length ≠ 0 := fun e => hne (List.length_eq_zero_iff.1 e)
  rcases h.2 with ⟨h0, _⟩ | ⟨g, cap, cur, hv, _, hcur, _⟩
  · injection h0 with _ e _; exact absurd e hl
  · injection hv with hA _ _
    subst hA
    have hlt := h.lt g rfl
    refine ⟨g, 0, rfl, hlt.2, hlt.1, fun k hk => ?_⟩
    have hce := own_cells h k (.int .i64 (zs.getD k 0)) (by simp [ints, List.getD_eq_getElem?_getD, List.getElem?_eq_getElem hk])
    exact hce
theorem PathAns.no {w : World} {e : Ending} {w' : World} (h : PathAns w none e w') : e = .returned (.tuple #[.slice none 0 0, .bool false]) ∧ Below w.heap.size w w' := by
  obtain ⟨⟨_, he⟩ | ⟨q, A, c, h1, _⟩, hb⟩ := h
  · exact ⟨he, hb⟩
  · cases h1
theorem PathAns.yes {w : World} {q : List Int} {e : Ending} {w' : World} (h : PathAns w (some q) e w') : (∃ A c, e = .returned (.tuple #[.slice A q.length c, .bool true]) ∧ q.length ≤ c ∧ IntsP (fun b => w.heap.size ≤ b) w' A q) ∧ Below w.heap.size w w' := by
  obtain ⟨⟨h1, _⟩ | ⟨q', A, c, h1, he, hc, ho⟩, hb⟩ := h
  · cases h1
  · cases h1
    exact ⟨⟨A, c, he, hc, intsP_own ho⟩, hb⟩
theorem link_one {q : Nat → Prop} {w : World} {b : Nat} {k p : Int} {n : List UInt8} {ts : List Lfc.Raw} {At A : Option Addr} {ct c : Nat} {x : Lfc.Link} (h : w.heap[b]? = some (.cells #[.int .i64 x.kind, .int .i64 k, S n, .int .i64 p, .slice At (List.length ts) ct, .slice A x.path.length c, .int .i64 x.fact] 93 (0, 0))) (hb : q b) (he : x.term = .node k n p ts) (hc : x.path.length ≤ c) (hi : IntsP q w A x.path) (ht : TreeVP q w x.term (.agg #[.int .i64 k, S n, .int .i64 p, .slice At (List.length ts) ct])) : LinksP q w (some ⟨b, 0, none⟩) [x] := fun _ => by
  refine ⟨b, 0, rfl, lt_of_block h, hb, fun i hi1 => ?_⟩
  have hi1' : i < 1 := hi1
  obtain rfl : i = 0 := by omega
  exact ⟨k, n, p, ts, At, ct, A, c, he, Lib.cell_of_heap h 0, Lib.cell_of_heap h 1, Lib.cell_of_heap h 2, Lib.cell_of_heap h 3, Lib.cell_of_heap h 4, Lib.cell_of_heap h 5, Lib.cell_of_heap h 6, hc, hi, ht⟩
theorem edge_ans {w w3 w5 s : World} {R : Nat} {g : Int × List Lfc.Link} {A : Option Addr} {c : Nat} (hg : g.2.length ≤ c) (hl : LinksP (fun b => w.heap.size ≤ b) s A g.2) (b3 : Below w.heap.size w w3) (b5 : Below w3.heap.size w3 w5) (ho : Oth R w5 s) (hR : w.heap.size ≤ R) (hs : w.heap.size ≤ w3.heap.size) : EdgeAns w g (.returned (.agg #[.int .i64 g.1, .slice A g.2.length c])) s :=
  ⟨⟨A, c, rfl, hg, hl⟩, Oth.below (b3.trans (b5.mono hs)) ho hR (Nat.le_trans hs b5.size)⟩
end Go.Proofs.YtadjpadieljjlaaGreat
