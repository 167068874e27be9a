/- Orders whose blocks are known, rows of orders, and an order put behind the parts of another one. -/
import Derived.Test.YtadjpadieljjlaaGreatOrMem
import Derived.Test.YtadjpadieljjlaaGreatOth
import Derived.Test.YtadjpadieljjlaaGreatStepApp
import Derived.Maps.AppendAt
set_option linter.unusedVariables false
set_option linter.unusedSimpArgs false
namespace Go.Proofs.YtadjpadieljjlaaGreat
open Go.RowKit

mutual
/-- The three cells of an order, whose blocks are such. -/
def OrdP (q : Nat → Prop) (w : World) : Lfc.Ord → Value → Value → Value → Prop
  | .node k a ts, v0, v1, v2 => v0 = .int .i64 k ∧ v1 = .int .i64 a ∧ ∃ A c, v2 = .slice A ts.length c ∧ ts.length ≤ c ∧ (ts ≠ [] → ∃ b o, A = some ⟨b, o, none⟩ ∧ b < w.heap.size ∧ q b ∧ OrdsP q w b ts o)
def OrdsP (q : Nat → Prop) (w : World) (b : Nat) : List Lfc.Ord → Nat → Prop
  | [], _ => True
  | t :: r, o => (∃ v0 v1 v2, w.cell? ⟨b, o, none⟩ = some v0 ∧ w.cell? ⟨b, o + 1, none⟩ = some v1 ∧ w.cell? ⟨b, o + 2, none⟩ = some v2 ∧ OrdP q w t v0 v1 v2) ∧ OrdsP q w b r (o + 3)
end
mutual
theorem OrdP.keep {q q' : Nat → Prop} {w w' : World} (hk : ∀ b, q b → b < w.heap.size → w'.heap[b]? = w.heap[b]?) (hs : w.heap.size ≤ w'.heap.size) (hq : ∀ b, b < w.heap.size → q b → q' b) : ∀ (t : Lfc.Ord) (v0 v1 v2 : Value), OrdP q w t v0 v1 v2 → OrdP q' w' t v0 v1 v2
  | .node k a ts, v0, v1, v2, h => by
    rw [OrdP] at h ⊢
    obtain ⟨h0, h1, A, c, h3, h4, h5⟩ := h
    refine ⟨h0, h1, A, c, h3, h4, fun hne => ?_⟩
    obtain ⟨b, o, hA, hlt, hqb, hts⟩ := h5 hne
    exact ⟨b, o, hA, Nat.lt_of_lt_of_le hlt hs, hq b hlt hqb, OrdsP.keep hk hs hq ts b o hlt hqb hts⟩
theorem OrdsP.keep {q q' : Nat → Prop} {w w' : World} (hk : ∀ b, q b → b < w.heap.size → w'.heap[b]? = w.heap[b]?) (hs : w.heap.size ≤ w'.heap.size) (hq : ∀ b, b < w.heap.size → q b → q' b) : ∀ (ts : List Lfc.Ord) (b o : Nat), b < w.heap.size → q b → OrdsP q w b ts o → OrdsP q' w' b ts o
  | [], _, _, _, _, _ => by rw [OrdsP]; trivial
  | t :: r, b, o, hlt, hb, h => by
    rw [OrdsP] at h ⊢
    obtain ⟨⟨v0, v1, v2, c0, c1, c2, ht⟩, hr⟩ := h
    have hc := fun j => World.cell?_of_block (a := ⟨b, j, none⟩) (hk b hb hlt)
    exact ⟨⟨v0, v1, v2, (hc _).trans c0, (hc _).trans c1, (hc _).trans c2, OrdP.keep hk hs hq t v0 v1 v2 ht⟩, OrdsP.keep hk hs hq r b (o + 3) hlt hb hr⟩
end
mutual
theorem OrdP.toC {q : Nat → Prop} {w : World} : ∀ (t : Lfc.Ord) (v0 v1 v2 : Value), OrdP q w t v0 v1 v2 → OrdC w t v0 v1 v2
  | .node k a ts, v0, v1, v2, h => by
    rw [OrdP] at h
    rw [OrdC]
    obtain ⟨h0, h1, A, c, h3, h4, h5⟩ := h
    refine ⟨h0, h1, A, c, h3, h4, fun hne => ?_⟩
    obtain ⟨b, o, hA, hlt, hqb, hts⟩ := h5 hne
    exact ⟨b, o, hA, hlt, OrdsP.toC ts b o hts⟩
theorem OrdsP.toC {q : Nat → Prop} {w : World} : ∀ (ts : List Lfc.Ord) (b o : Nat), OrdsP q w b ts o → OrdsO w b ts o
  | [], _, _, _ => by rw [OrdsO]; trivial
  | t :: r, b, o, h => by
    rw [OrdsP] at h
    rw [OrdsO]
    obtain ⟨⟨v0, v1, v2, c0, c1, c2, ht⟩, hr⟩ := h
    exact ⟨⟨v0, v1, v2, c0, c1, c2, OrdP.toC t v0 v1 v2 ht⟩, OrdsP.toC r b (o + 3) hr⟩
end
/-- The cells of orders, one behind the other. -/
def ORow (q : Nat → Prop) (w : World) : List Lfc.Ord → List Value → Prop
  | [], xs => xs = []
  | t :: r, xs => ∃ v0 v1 v2 ys, xs = v0 :: v1 :: v2 :: ys ∧ OrdP q w t v0 v1 v2 ∧ ORow q w r ys
theorem ORow.keep {q q' : Nat → Prop} {w w' : World} (hk : ∀ b, q b → b < w.heap.size → w'.heap[b]? = w.heap[b]?) (hs : w.heap.size ≤ w'.heap.size) (hq : ∀ b, b < w.heap.size → q b → q' b) : ∀ {ts : List Lfc.Ord} {xs : List Value}, ORow q w ts xs → ORow q' w' ts xs
  | [], xs, h => by rw [ORow] at h ⊢; exact h
  | t :: r, xs, h => by
    rw [ORow] at h ⊢
    obtain ⟨v0, v1, v2, ys, rfl, ht, hr⟩ := h
    exact ⟨v0, v1, v2, ys, rfl, OrdP.keep hk hs hq t _ _ _ ht, hr.keep hk hs hq⟩
theorem ORow.append {q : Nat → Prop} {w : World} {us : List Lfc.Ord} {zs : List Value} (hz : ORow q w us zs) : ∀ {ts : List Lfc.Ord} {xs : List Value}, ORow q w ts xs → ORow q w (ts ++ us) (xs ++ zs)
  | [], xs, h => by rw [ORow] at h; subst h; exact hz
  | t :: r, xs, h => by
    rw [ORow] at h
    obtain ⟨v0, v1, v2, ys, rfl, ht, hr⟩ := h
    rw [List.cons_append, ORow]
    exact ⟨v0, v1, v2, ys ++ zs, by simp, ht, ORow.append hz hr⟩
theorem ORow.one {q : Nat → Prop} {w : World} {t : Lfc.Ord} {v0 v1 v2 : Value} (h : OrdP q w t v0 v1 v2) : ORow q w [t] [v0, v1, v2] := ⟨v0, v1, v2, [], rfl, h, rfl⟩
/-- The cells that lie there. -/
def OCellsAt (w : World) (b o : Nat) (xs : List Value) : Prop := ∀ j u, xs[j]? = some u → w.cell? ⟨b, o + j, none⟩ = some u
theorem ORow.lie {q : Nat → Prop} {w : World} {b : Nat} : ∀ {ts : List Lfc.Ord} {xs : List Value} {o : Nat}, ORow q w ts xs → OCellsAt w b o xs → OrdsP q w b ts o
  | [], _, _, _, _ => by rw [OrdsP]; trivial
  | t :: r, xs, o, h, hc => by
    rw [ORow] at h
    obtain ⟨v0, v1, v2, ys, rfl, ht, hr⟩ := h
    rw [OrdsP]
    refine ⟨⟨v0, v1, v2, hc 0 _ rfl, hc 1 _ rfl, hc 2 _ rfl, ht⟩, hr.lie fun j u hj => ?_⟩
    have := hc (j + 3) u (by simpa using hj)
    rw [show o + 3 + j = o + (j + 3) by omega]
    exact this
theorem ocell_add (b j : Nat) : (⟨b, 0, none⟩ : Addr).add j = ⟨b, j, none⟩ := by
  unfold Addr.add; split <;> simp_all
theorem own_cellsO {w : World} {base : Nat} {e : TypeId} {size n g cap : Nat} {xs : List Value} (h : w.ownsRow base e size (.slice (some ⟨g, 0, none⟩) n cap) n xs) : OCellsAt w g 0 xs := by
  intro j u hj
  have := h.cells (g := g) rfl j u hj
  rw [ocell_add] at this
  simpa using this
/-- A slice of orders, whose blocks are such. -/
def OrdsAtP (q : Nat → Prop) (w : World) (A : Option Addr) (ts : List Lfc.Ord) : Prop := ts ≠ [] → ∃ b o, A = some ⟨b, o, none⟩ ∧ b < w.heap.size ∧ q b ∧ OrdsP q w b ts o
theorem OrdsAtP.keep {q q' : Nat → Prop} {w w' : World} {A : Option Addr} {ts : List Lfc.Ord} (hk : ∀ b, q b → b < w.heap.size → w'.heap[b]? = w.heap[b]?) (hs : w.heap.size ≤ w'.heap.size) (hq : ∀ b, b < w.heap.size → q b → q' b) (h : OrdsAtP q w A ts) : OrdsAtP q' w' A ts := fun hne => by
  obtain ⟨b, o, hA, hlt, hb, h⟩ := h hne
  exact ⟨b, o, hA, Nat.lt_of_lt_of_le hlt hs, hq b hlt hb, OrdsP.keep hk hs hq ts b o hlt hb h⟩
/-- An order by value, whose blocks are such. -/
def OrdVP (q : Nat → Prop) (w : World) (t : Lfc.Ord) (v : Value) : Prop := ∃ v0 v1 v2, v = .agg #[v0, v1, v2] ∧ OrdP q w t v0 v1 v2
theorem OrdVP.toV {q : Nat → Prop} {w : World} {t : Lfc.Ord} {v : Value} (h : OrdVP q w t v) : OrdV w t v := by
  obtain ⟨v0, v1, v2, rfl, h⟩ := h
  exact ⟨v0, v1, v2, rfl, OrdP.toC _ _ _ _ h⟩
theorem OrdVP.keep {q q' : Nat → Prop} {w w' : World} (hk : ∀ b, q b → b < w.heap.size → w'.heap[b]? = w.heap[b]?) (hs : w.heap.size ≤ w'.heap.size) (hq : ∀ b, b < w.heap.size → q b → q' b) {t : Lfc.Ord} {v : Value} (h : OrdVP q w t v) : OrdVP q' w' t v := by
  obtain ⟨v0, v1, v2, rfl, h⟩ := h
  exact ⟨v0, v1, v2, rfl, OrdP.keep hk hs hq _ _ _ _ h⟩
theorem OrdVP.mk {q : Nat → Prop} {w : World} {k a : Int} {ts : List Lfc.Ord} {A : Option Addr} {c : Nat} (hc : ts.length ≤ c) (h : OrdsAtP q w A ts) : OrdVP q w (.node k a ts) (.agg #[.int .i64 k, .int .i64 a, .slice A ts.length c]) :=
  ⟨_, _, _, rfl, by rw [OrdP]; exact ⟨rfl, rfl, A, c, rfl, hc, h⟩⟩
theorem OrdVP.open_ {q : Nat → Prop} {w : World} {k a : Int} {ts : List Lfc.Ord} {v : Value} (h : OrdVP q w (.node k a ts) v) : ∃ A c, v = .agg #[.int .i64 k, .int .i64 a, .slice A ts.length c] ∧ OrdP q w (.node k a ts) (.int .i64 k) (.int .i64 a) (.slice A ts.length c) := by
  obtain ⟨v0, v1, v2, rfl, h⟩ := h
  have h' := h
  rw [OrdP] at h
  obtain ⟨rfl, rfl, A, c, rfl, _⟩ := h
  exact ⟨A, c, rfl, h'⟩
theorem ord_size : (Tryz.prog.info? 26).map (·.size) = some 3 := by kernel_rfl
theorem ord_info : ∃ i, Tryz.prog.info? 26 = some i ∧ i.zero = some (.agg #[.int .i64 0, .int .i64 0, .slice none 0 0]) ∧ i.size = 3 ∧ i.bytes = 40 := by
  obtain ⟨i0, hi, hz0, hz1, hz2⟩ := info_parts (show (Tryz.prog.info? 26).map (fun i => (i.zero, i.size, i.bytes)) = some (some (.agg #[.int .i64 0, .int .i64 0, .slice none 0 0]), 3, 40) by kernel_rfl)
  exact ⟨i0, hi, hz0, hz1, hz2⟩
theorem results_ord {fn : Func} {p : Tmp} (h : fn.results = #[.cell p 26]) (tmps : Array Value) (w : World) (g : Nat) (v0 v1 v2 : Value) (hp : tmps.getD p undef = .pointer (some ⟨g, 0, none⟩)) (hg : w.heap[g]? = some (.cells #[v0, v1, v2] 26 (0, 0))) :
    (results fn tmps).run Tryz.prog w = .ok (.agg #[v0, v1, v2]) w :=
  results_cell_row h tmps w g _ _ _ _ hp hg Tryz.underlying26 rfl ord_size
theorem results_ord2 {fn : Func} {p u : Tmp} (h : fn.results = #[.cell p 26, .tmp u]) (tmps : Array Value) (w : World) (g : Nat) (v0 v1 v2 : Value) (hp : tmps.getD p undef = .pointer (some ⟨g, 0, none⟩)) (hg : w.heap[g]? = some (.cells #[v0, v1, v2] 26 (0, 0))) :
    (results fn tmps).run Tryz.prog w = .ok (.tuple #[.agg #[v0, v1, v2], tmps.getD u undef]) w := by
  rw [results_cell_tmp h, hp]
  simp [asAddr, run_loadVar_row w g _ _ _ _ _ hg Tryz.underlying26 rfl ord_size, Result.andThen]
theorem oset2 {W : World} {r : Nat} {v0 v1 v2 v : Value} {t : TypeId} (h : W.heap[r]? = some (.cells #[v0, v1, v2] t (0, 0))) : (W.setCell ⟨r, 2, none⟩ v).heap[r]? = some (.cells #[v0, v1, v] t (0, 0)) := by
  simp [World.setCell, Array.getElem?_modify, h]
theorem oset1 {W : World} {r : Nat} {v0 v1 v2 v : Value} {t : TypeId} (h : W.heap[r]? = some (.cells #[v0, v1, v2] t (0, 0))) : (W.setCell ⟨r, 1, none⟩ v).heap[r]? = some (.cells #[v0, v, v2] t (0, 0)) := by
  simp [World.setCell, Array.getElem?_modify, h]
/-- An order is put behind the parts of the order in block r: what holds then; block T alone was written besides. -/
theorem ord_final {base T r : Nat} {wx w9 w10 wa : World} {v v' k a a0 a1 a2 : Value} {ts : List Lfc.Ord} {xs : List Value} {t : Lfc.Ord} (hr : r < base) (hT : T < r) (hb : base ≤ wx.heap.size) (hwa : wa.heap.size ≤ r)
    (hR : wx.heap[r]? = some (.cells #[k, a, v] 26 (0, 0))) (hown : wx.ownsRow base 26 3 v ts.length xs) (hrow : ORow (fun b => base ≤ b ∧ some b ≠ v.ownBlock) wx ts xs)
    (hTx : Oth T wa wx) (o9 : Oth T wx.drew w9) (ht : OrdP (fun b => wx.drew.heap.size ≤ b) w9 t a0 a1 a2)
    (hown' : w10.ownsRow base 26 3 v' (ts.length + 1) (xs ++ [a0, a1, a2]))
    (hg : (w9.alloc (.cells #[a0, a1, a2] 26)).grownBy w10 v.ownBlock) (hloc : v'.ownBlock = v.ownBlock ∨ v'.ownBlock = some (w9.heap.size + 1)) :
    w10.heap[r]? = some (.cells #[k, a, v] 26 (0, 0)) ∧ (w10.setCell ⟨r, 2, none⟩ v').heap[r]? = some (.cells #[k, a, v'] 26 (0, 0)) ∧ (w10.setCell ⟨r, 2, none⟩ v').ownsRow base 26 3 v' (ts ++ [t]).length (xs ++ [a0, a1, a2]) ∧
    ORow (fun b => base ≤ b ∧ some b ≠ v'.ownBlock) (w10.setCell ⟨r, 2, none⟩ v') (ts ++ [t]) (xs ++ [a0, a1, a2]) ∧ Oth T wa (w10.setCell ⟨r, 2, none⟩ v') ∧ base ≤ (w10.setCell ⟨r, 2, none⟩ v').heap.size ∧
    (∀ b, b < base → b ≠ r → b ≠ T → (w10.setCell ⟨r, 2, none⟩ v').heap[b]? = wx.heap[b]?) ∧ (w10.setCell ⟨r, 2, none⟩ v').heap[T]? = w9.heap[T]? := by
  have s9 : wx.heap.size ≤ w9.heap.size := o9.size
  have s10 : w9.heap.size + 1 ≤ w10.heap.size := by have := hg.size; simpa using this
  have hrx := lt_of_block hR
  have hown_lt : ∀ g, v.ownBlock = some g → base ≤ g ∧ g < wx.heap.size := fun g e => hown.lt g e
  have hne : some r ≠ v.ownBlock := fun e => by have := (hown_lt r e.symm).1; omega
  have hr9 : w9.heap[r]? = some (.cells #[k, a, v] 26 (0, 0)) := o9.heap hR (by omega)
  have hr10 : w10.heap[r]? = some (.cells #[k, a, v] 26 (0, 0)) := (hg.block r (by simp; omega) hne).trans ((Lib.alloc_old _ _ _ (lt_of_block hr9)).trans hr9)
  have hne' : v'.ownBlock ≠ some r := fun e => by have := (hown'.lt r e).1; omega
  have hsz : (w10.setCell ⟨r, 2, none⟩ v').heap.size = w10.heap.size := by simp [World.setCell]
  have key : ∀ b, b ≠ r → some b ≠ v.ownBlock → b < w9.heap.size → (w10.setCell ⟨r, 2, none⟩ v').heap[b]? = w9.heap[b]? := fun b h1 h2 h3 => by
    rw [Below.heap_setCell _ _ _ _ (by show b ≠ r; omega), hg.block b (by simp; omega) h2, Lib.alloc_old _ _ _ h3]
  have hq' : ∀ b, base ≤ b → some b ≠ v.ownBlock → b < w9.heap.size → some b ≠ v'.ownBlock := fun b _ h2 h3 e => by
    rcases hloc with h | h
    · exact h2 (e.trans h)
    · have := Option.some.inj (e.trans h); omega
  refine ⟨hr10, oset2 hr10, ?_, ?_, ?_, by omega, ?_, ?_⟩
  · rw [List.length_append]; exact ownsRow_setCell_other hown' hne' _
  · refine ORow.append (ORow.one ?_) ?_
    · refine OrdP.keep (fun b hb1 hlt => ?_) (by omega) (fun b hlt hb1 => ?_) _ _ _ _ ht
      · have hb1 : wx.heap.size ≤ b := hb1
        exact key b (by omega) (fun e => by have := (hown_lt b e.symm).2; omega) hlt
      · have hb1 : wx.heap.size ≤ b := hb1
        exact ⟨by omega, hq' b (by omega) (fun e => by have := (hown_lt b e.symm).2; omega) hlt⟩
    · refine ORow.keep (fun b hb1 hlt => ?_) (by omega) (fun b hlt hb1 => ⟨hb1.1, hq' b hb1.1 hb1.2 (by omega)⟩) hrow
      rw [key b (by have := hb1.1; omega) hb1.2 (by omega)]
      exact o9.block b hlt (fun e => by have := Option.some.inj e; have := hb1.1; omega)
  · refine Oth.of_new (hTx.trans ((Oth.refl _ _).drew.trans o9)) ⟨?_, ?_, ?_, by omega, fun b hb1 => ?_⟩
    · exact hg.os
    · exact hg.tape
    · exact hg.output
    · rw [Below.heap_setCell _ _ _ _ (by show b ≠ r; omega), hg.block b (by simp; omega) (fun e => by have := (hown_lt b e.symm).1; omega), Lib.alloc_old _ _ _ (by omega)]
  · intro b h1 h2 h3
    rw [key b h2 (fun e => by have := (hown_lt b e.symm).1; omega) (by omega)]
    exact o9.block b (by show b < wx.heap.size; omega) (fun e => h3 (Option.some.inj e))
  · exact key T (by omega) (fun e => by have := (hown_lt T e.symm).1; omega) (by omega)
theorem ord_parts {base lo : Nat} {W : World} {A : Option Addr} {c : Nat} {ts : List Lfc.Ord} {xs : List Value} (hlo : lo ≤ base) (hown : W.ownsRow base 26 3 (.slice A ts.length c) ts.length xs) (hrow : ORow (fun b => base ≤ b ∧ some b ≠ (Value.slice A ts.length c).ownBlock) W ts xs) :
    OrdsAtP (fun b => lo ≤ b) W A ts ∧ ts.length ≤ c := by
  rcases hown.2 with ⟨h1, h2⟩ | ⟨g, cap, cur, hv, hbg, hg, hnc, _, _, _⟩
  · exact ⟨fun hne => absurd (List.length_eq_zero_iff.1 h2) hne, by rw [h2]; exact Nat.zero_le _⟩
  · injection hv with e1 _ e3
    subst e1 e3
    refine ⟨fun _ => ⟨g, 0, rfl, lt_of_block hg, by show lo ≤ g; omega, ?_⟩, hnc⟩
    exact (ORow.keep (fun _ _ _ => rfl) (Nat.le_refl _) (fun b _ hb => by have := hb.1; show lo ≤ b; omega) hrow).lie (own_cellsO hown)
end Go.Proofs.YtadjpadieljjlaaGreat
