/- Parts of the proof that no input makes the law false: OrRow, OrMv, OrPar. -/
import Derived.Maps.AppendAt
import Derived.Deep.DrawnRows
import Derived.Deep.RegionLaw
import Derived.Deep.DeepCutAuto
import Derived.Deep.CutBlock
import Derived.RegionTactic
import Derived.Test.YtadjpadieljjlaaGreatTvAB
import Derived.Test.YtadjpadieljjlaaGreatTvAC
set_option linter.unusedVariables false
set_option linter.unusedSimpArgs false
namespace Go.Proofs.YtadjpadieljjlaaGreat
open Go.RowKit
mutual
def OrdP (q : Nat → Prop) (w : World) : Lfc.Ord → Value → Value → Value → Prop
 | .node k a ts, v0, v1, v2 => v0 = .int .i64 k ∧ v1 = .int .i64 a ∧ ∃ A c, v2 = .slice A ts.length c ∧ ts.length ≤ c ∧ (ts ≠ [] → ∃ b o, A = some ⟨b, o, none⟩ ∧ b < w.heap.size ∧ q b ∧ OrdsP q w b ts o)
def OrdsP (q : Nat → Prop) (w : World) (b : Nat) : List Lfc.Ord → Nat → Prop
 | [], _ => True
 | t :: r, o => (∃ v0 v1 v2, w.cell? ⟨b, o, none⟩ = some v0 ∧ w.cell? ⟨b, o + 1, none⟩ = some v1 ∧ w.cell? ⟨b, o + 2, none⟩ = some v2 ∧ OrdP q w t v0 v1 v2) ∧ OrdsP q w b r (o + 3)
end
mutual
theorem OrdP.keep {q q' : Nat → Prop} {w w' : World} (hk : ∀ b, q b → b < w.heap.size → w'.heap[b]? = w.heap[b]?) (hs : w.heap.size ≤ w'.heap.size) (hq : ∀ b, b < w.heap.size → q b → q' b) : ∀ (t : Lfc.Ord) (v0 v1 v2 : Value), OrdP q w t v0 v1 v2 → OrdP q' w' t v0 v1 v2
 | .node k a ts, v0, v1, v2, h => by
  rw [OrdP] at h ⊢
  obtain ⟨h0, h1, A, c, h3, h4, h5⟩ := h
  refine ⟨h0, h1, A, c, h3, h4, fun hne => ?_⟩
  obtain ⟨b, o, hA, hlt, hqb, hts⟩ := h5 hne
  exact ⟨b, o, hA, Nat.lt_of_lt_of_le hlt hs, hq b hlt hqb, OrdsP.keep hk hs hq ts b o hlt hqb hts⟩
theorem OrdsP.keep {q q' : Nat → Prop} {w w' : World} (hk : ∀ b, q b → b < w.heap.size → w'.heap[b]? = w.heap[b]?) (hs : w.heap.size ≤ w'.heap.size) (hq : ∀ b, b < w.heap.size → q b → q' b) : ∀ (ts : List Lfc.Ord) (b o : Nat), b < w.heap.size → q b → OrdsP q w b ts o → OrdsP q' w' b ts o
 | [], _, _, _, _, _ => by rw [OrdsP]; trivial
 | t :: r, b, o, hlt, hb, h => by
  rw [OrdsP] at h ⊢
  obtain ⟨⟨v0, v1, v2, c0, c1, c2, ht⟩, hr⟩ := h
  have hc := fun j => World.cell?_of_block (a := ⟨b, j, none⟩) (hk b hb hlt)
  exact ⟨⟨v0, v1, v2, (hc _).trans c0, (hc _).trans c1, (hc _).trans c2, OrdP.keep hk hs hq t v0 v1 v2 ht⟩, OrdsP.keep hk hs hq r b (o + 3) hlt hb hr⟩
end
mutual
theorem OrdP.toC {q : Nat → Prop} {w : World} : ∀ (t : Lfc.Ord) (v0 v1 v2 : Value), OrdP q w t v0 v1 v2 → OrdC w t v0 v1 v2
 | .node k a ts, v0, v1, v2, h => by
  rw [OrdP] at h
  rw [OrdC]
  obtain ⟨h0, h1, A, c, h3, h4, h5⟩ := h
  refine ⟨h0, h1, A, c, h3, h4, fun hne => ?_⟩
  obtain ⟨b, o, hA, hlt, hqb, hts⟩ := h5 hne
  exact ⟨b, o, hA, hlt, OrdsP.toC ts b o hts⟩
theorem OrdsP.toC {q : Nat → Prop} {w : World} : ∀ (ts : List Lfc.Ord) (b o : Nat), OrdsP q w b ts o → OrdsO w b ts o
 | [], _, _, _ => by rw [OrdsO]; trivial
 | t :: r, b, o, h => by
  rw [OrdsP] at h
  rw [OrdsO]
  obtain ⟨⟨v0, v1, v2, c0, c1, c2, ht⟩, hr⟩ := h
  exact ⟨⟨v0, v1, v2, c0, c1, c2, OrdP.toC t v0 v1 v2 ht⟩, OrdsP.toC r b (o + 3) hr⟩
end
def ORow (q : Nat → Prop) (w : World) : List Lfc.Ord → List Value → Prop
 | [], xs => xs = []
 | t :: r, xs => ∃ v0 v1 v2 ys, xs = v0 :: v1 :: v2 :: ys ∧ OrdP q w t v0 v1 v2 ∧ ORow q w r ys
theorem ORow.keep {q q' : Nat → Prop} {w w' : World} (hk : ∀ b, q b → b < w.heap.size → w'.heap[b]? = w.heap[b]?) (hs : w.heap.size ≤ w'.heap.size) (hq : ∀ b, b < w.heap.size → q b → q' b) : ∀ {ts : List Lfc.Ord} {xs : List Value}, ORow q w ts xs → ORow q' w' ts xs
 | [], xs, h => by rw [ORow] at h ⊢; exact h
 | t :: r, xs, h => by
  rw [ORow] at h ⊢
  obtain ⟨v0, v1, v2, ys, rfl, ht, hr⟩ := h
  exact ⟨v0, v1, v2, ys, rfl, OrdP.keep hk hs hq t _ _ _ ht, hr.keep hk hs hq⟩
theorem ORow.append {q : Nat → Prop} {w : World} {us : List Lfc.Ord} {zs : List Value} (hz : ORow q w us zs) : ∀ {ts : List Lfc.Ord} {xs : List Value}, ORow q w ts xs → ORow q w (ts ++ us) (xs ++ zs)
 | [], xs, h => by rw [ORow] at h; subst h; exact hz
 | t :: r, xs, h => by
  rw [ORow] at h
  obtain ⟨v0, v1, v2, ys, rfl, ht, hr⟩ := h
  rw [List.cons_append, ORow]
  exact ⟨v0, v1, v2, ys ++ zs, by simp, ht, ORow.append hz hr⟩
theorem ORow.one {q : Nat → Prop} {w : World} {t : Lfc.Ord} {v0 v1 v2 : Value} (h : OrdP q w t v0 v1 v2) : ORow q w [t] [v0, v1, v2] := ⟨v0, v1, v2, [], rfl, h, rfl⟩
def OCellsAt (w : World) (b o : Nat) (xs : List Value) : Prop := ∀ j u, xs[j]? = some u → w.cell? ⟨b, o + j, none⟩ = some u
theorem ORow.lie {q : Nat → Prop} {w : World} {b : Nat} : ∀ {ts : List Lfc.Ord} {xs : List Value} {o : Nat}, ORow q w ts xs → OCellsAt w b o xs → OrdsP q w b ts o
 | [], _, _, _, _ => by rw [OrdsP]; trivial
 | t :: r, xs, o, h, hc => by
  rw [ORow] at h
  obtain ⟨v0, v1, v2, ys, rfl, ht, hr⟩ := h
  rw [OrdsP]
  refine ⟨⟨v0, v1, v2, hc 0 _ rfl, hc 1 _ rfl, hc 2 _ rfl, ht⟩, hr.lie fun j u hj => ?_⟩
  have := hc (j + 3) u (by simpa using hj)
  rw [show o + 3 + j = o + (j + 3) by omega]
  exact this
theorem ocell_add (b j : Nat) : (⟨b, 0, none⟩ : Addr).add j = ⟨b, j, none⟩ := by
 unfold Addr.add; split <;> simp_all
theorem own_cellsO {w : World} {base : Nat} {e : TypeId} {size n g cap : Nat} {xs : List Value} (h : w.ownsRow base e size (.slice (some ⟨g, 0, none⟩) n cap) n xs) : OCellsAt w g 0 xs := by
 intro j u hj
 have := h.cells (g := g) rfl j u hj
 rw [ocell_add] at this
 simpa using this
def OrdsAtP (q : Nat → Prop) (w : World) (A : Option Addr) (ts : List Lfc.Ord) : Prop := ts ≠ [] → ∃ b o, A = some ⟨b, o, none⟩ ∧ b < w.heap.size ∧ q b ∧ OrdsP q w b ts o
theorem OrdsAtP.keep {q q' : Nat → Prop} {w w' : World} {A : Option Addr} {ts : List Lfc.Ord} (hk : ∀ b, q b → b < w.heap.size → w'.heap[b]? = w.heap[b]?) (hs : w.heap.size ≤ w'.heap.size) (hq : ∀ b, b < w.heap.size → q b → q' b) (h : OrdsAtP q w A ts) : OrdsAtP q' w' A ts := fun hne => by
 obtain ⟨b, o, hA, hlt, hb, h⟩ := h hne
 exact ⟨b, o, hA, Nat.lt_of_lt_of_le hlt hs, hq b hlt hb, OrdsP.keep hk hs hq ts b o hlt hb h⟩
def OrdVP (q : Nat → Prop) (w : World) (t : Lfc.Ord) (v : Value) : Prop := ∃ v0 v1 v2, v = .agg #[v0, v1, v2] ∧ OrdP q w t v0 v1 v2
theorem OrdVP.toV {q : Nat → Prop} {w : World} {t : Lfc.Ord} {v : Value} (h : OrdVP q w t v) : OrdV w t v := by
 obtain ⟨v0, v1, v2, rfl, h⟩ := h
 exact ⟨v0, v1, v2, rfl, OrdP.toC _ _ _ _ h⟩
theorem OrdVP.keep {q q' : Nat → Prop} {w w' : World} (hk : ∀ b, q b → b < w.heap.size → w'.heap[b]? = w.heap[b]?) (hs : w.heap.size ≤ w'.heap.size) (hq : ∀ b, b < w.heap.size → q b → q' b) {t : Lfc.Ord} {v : Value} (h : OrdVP q w t v) : OrdVP q' w' t v := by
 obtain ⟨v0, v1, v2, rfl, h⟩ := h
 exact ⟨v0, v1, v2, rfl, OrdP.keep hk hs hq _ _ _ _ h⟩
theorem OrdVP.mk {q : Nat → Prop} {w : World} {k a : Int} {ts : List Lfc.Ord} {A : Option Addr} {c : Nat} (hc : ts.length ≤ c) (h : OrdsAtP q w A ts) : OrdVP q w (.node k a ts) (.agg #[.int .i64 k, .int .i64 a, .slice A ts.length c]) :=
 ⟨_, _, _, rfl, by rw [OrdP]; exact ⟨rfl, rfl, A, c, rfl, hc, h⟩⟩
theorem OrdVP.open_ {q : Nat → Prop} {w : World} {k a : Int} {ts : List Lfc.Ord} {v : Value} (h : OrdVP q w (.node k a ts) v) : ∃ A c, v = .agg #[.int .i64 k, .int .i64 a, .slice A ts.length c] ∧ OrdP q w (.node k a ts) (.int .i64 k) (.int .i64 a) (.slice A ts.length c) := by
 obtain ⟨v0, v1, v2, rfl, h⟩ := h
 have h' := h
 rw [OrdP] at h
 obtain ⟨rfl, rfl, A, c, rfl, _⟩ := h
 exact ⟨A, c, rfl, h'⟩
theorem ord_size : (Tryz.prog.info? 26).map (·.size) = some 3 := by kernel_rfl
theorem ord_info : ∃ i, Tryz.prog.info? 26 = some i ∧ i.zero = some (.agg #[.int .i64 0, .int .i64 0, .slice none 0 0]) ∧ i.size = 3 ∧ i.bytes = 40 := by
 obtain ⟨i0, hi, hz0, hz1, hz2⟩ := info_parts (show (Tryz.prog.info? 26).map (fun i => (i.zero, i.size, i.bytes)) = some (some (.agg #[.int .i64 0, .int .i64 0, .slice none 0 0]), 3, 40) by kernel_rfl)
 exact ⟨i0, hi, hz0, hz1, hz2⟩
theorem results_ord {fn : Func} {p : Tmp} (h : fn.results = #[.cell p 26]) (tmps : Array Value) (w : World) (g : Nat) (v0 v1 v2 : Value) (hp : tmps.getD p undef = .pointer (some ⟨g, 0, none⟩)) (hg : w.heap[g]? = some (.cells #[v0, v1, v2] 26 (0, 0))) :
  (results fn tmps).run Tryz.prog w = .ok (.agg #[v0, v1, v2]) w :=
 results_cell_row h tmps w g _ _ _ _ hp hg Tryz.underlying26 rfl ord_size
theorem results_ord2 {fn : Func} {p u : Tmp} (h : fn.results = #[.cell p 26, .tmp u]) (tmps : Array Value) (w : World) (g : Nat) (v0 v1 v2 : Value) (hp : tmps.getD p undef = .pointer (some ⟨g, 0, none⟩)) (hg : w.heap[g]? = some (.cells #[v0, v1, v2] 26 (0, 0))) :
  (results fn tmps).run Tryz.prog w = .ok (.tuple #[.agg #[v0, v1, v2], tmps.getD u undef]) w := by
 rw [results_cell_tmp h, hp]
 simp [asAddr, run_loadVar_row w g _ _ _ _ _ hg Tryz.underlying26 rfl ord_size, Result.andThen]
theorem oset2 {W : World} {r : Nat} {v0 v1 v2 v : Value} {t : TypeId} (h : W.heap[r]? = some (.cells #[v0, v1, v2] t (0, 0))) : (W.setCell ⟨r, 2, none⟩ v).heap[r]? = some (.cells #[v0, v1, v] t (0, 0)) := by
 simp [World.setCell, Array.getElem?_modify, h]
theorem ord_final {base T r : Nat} {wx w9 w10 wa : World} {v v' k a a0 a1 a2 : Value} {ts : List Lfc.Ord} {xs : List Value} {t : Lfc.Ord} (hr : r < base) (hT : T < r) (hb : base ≤ wx.heap.size) (hwa : wa.heap.size ≤ r)
  (hR : wx.heap[r]? = some (.cells #[k, a, v] 26 (0, 0))) (hown : wx.ownsRow base 26 3 v ts.length xs) (hrow : ORow (fun b => base ≤ b ∧ some b ≠ v.ownBlock) wx ts xs)
  (hTx : Oth T wa wx) (o9 : Oth T wx.drew w9) (ht : OrdP (fun b => wx.drew.heap.size ≤ b) w9 t a0 a1 a2)
  (hown' : w10.ownsRow base 26 3 v' (ts.length + 1) (xs ++ [a0, a1, a2]))
  (hg : (w9.alloc (.cells #[a0, a1, a2] 26)).grownBy w10 v.ownBlock) (hloc : v'.ownBlock = v.ownBlock ∨ v'.ownBlock = some (w9.heap.size + 1)) :
  w10.heap[r]? = some (.cells #[k, a, v] 26 (0, 0)) ∧ (w10.setCell ⟨r, 2, none⟩ v').heap[r]? = some (.cells #[k, a, v'] 26 (0, 0)) ∧ (w10.setCell ⟨r, 2, none⟩ v').ownsRow base 26 3 v' (ts ++ [t]).length (xs ++ [a0, a1, a2]) ∧
  ORow (fun b => base ≤ b ∧ some b ≠ v'.ownBlock) (w10.setCell ⟨r, 2, none⟩ v') (ts ++ [t]) (xs ++ [a0, a1, a2]) ∧ Oth T wa (w10.setCell ⟨r, 2, none⟩ v') ∧ base ≤ (w10.setCell ⟨r, 2, none⟩ v').heap.size ∧
  (∀ b, b < base → b ≠ r → b ≠ T → (w10.setCell ⟨r, 2, none⟩ v').heap[b]? = wx.heap[b]?) ∧ (w10.setCell ⟨r, 2, none⟩ v').heap[T]? = w9.heap[T]? := by
 have s9 : wx.heap.size ≤ w9.heap.size := o9.size
 have s10 : w9.heap.size + 1 ≤ w10.heap.size := by have := hg.size; simpa using this
 have hrx := lt_of_block hR
 have hown_lt : ∀ g, v.ownBlock = some g → base ≤ g ∧ g < wx.heap.size := fun g e => hown.lt g e
 have hne : some r ≠ v.ownBlock := fun e => by have := (hown_lt r e.symm).1; omega
 have hr9 : w9.heap[r]? = some (.cells #[k, a, v] 26 (0, 0)) := o9.heap hR (by omega)
 have hr10 : w10.heap[r]? = some (.cells #[k, a, v] 26 (0, 0)) := (hg.block r (by simp; omega) hne).trans ((Lib.alloc_old _ _ _ (lt_of_block hr9)).trans hr9)
 have hne' : v'.ownBlock ≠ some r := fun e => by have := (hown'.lt r e).1; omega
 have hsz : (w10.setCell ⟨r, 2, none⟩ v').heap.size = w10.heap.size := by simp [World.setCell]
 have key : ∀ b, b ≠ r → some b ≠ v.ownBlock → b < w9.heap.size → (w10.setCell ⟨r, 2, none⟩ v').heap[b]? = w9.heap[b]? := fun b h1 h2 h3 => by
  rw [Below.heap_setCell _ _ _ _ (by show b ≠ r; omega), hg.block b (by simp; omega) h2, Lib.alloc_old _ _ _ h3]
 have hq' : ∀ b, base ≤ b → some b ≠ v.ownBlock → b < w9.heap.size → some b ≠ v'.ownBlock := fun b _ h2 h3 e => by
  rcases hloc with h | h
  ·exact h2 (e.trans h)
  ·have := Option.some.inj (e.trans h); omega
 refine ⟨hr10, oset2 hr10, ?_, ?_, ?_, by omega, ?_, ?_⟩
 ·rw [List.length_append]; exact ownsRow_setCell_other hown' hne' _
 ·refine ORow.append (ORow.one ?_) ?_
  ·refine OrdP.keep (fun b hb1 hlt => ?_) (by omega) (fun b hlt hb1 => ?_) _ _ _ _ ht
   ·have hb1 : wx.heap.size ≤ b := hb1
    exact key b (by omega) (fun e => by have := (hown_lt b e.symm).2; omega) hlt
   ·have hb1 : wx.heap.size ≤ b := hb1
    exact ⟨by omega, hq' b (by omega) (fun e => by have := (hown_lt b e.symm).2; omega) hlt⟩
  ·refine ORow.keep (fun b hb1 hlt => ?_) (by omega) (fun b hlt hb1 => ⟨hb1.1, hq' b hb1.1 hb1.2 (by omega)⟩) hrow
   rw [key b (by have := hb1.1; omega) hb1.2 (by omega)]
   exact o9.block b hlt (fun e => by have := Option.some.inj e; have := hb1.1; omega)
 ·refine Oth.of_new (hTx.trans ((Oth.refl _ _).drew.trans o9)) ⟨?_, ?_, ?_, by omega, fun b hb1 => ?_⟩
  ·exact hg.os
  ·exact hg.tape
  ·exact hg.output
  ·rw [Below.heap_setCell _ _ _ _ (by show b ≠ r; omega), hg.block b (by simp; omega) (fun e => by have := (hown_lt b e.symm).1; omega), Lib.alloc_old _ _ _ (by omega)]
 ·intro b h1 h2 h3
  rw [key b h2 (fun e => by have := (hown_lt b e.symm).1; omega) (by omega)]
  exact o9.block b (by show b < wx.heap.size; omega) (fun e => h3 (Option.some.inj e))
 ·exact key T (by omega) (fun e => by have := (hown_lt T e.symm).1; omega) (by omega)
theorem ord_parts {base lo : Nat} {W : World} {A : Option Addr} {c : Nat} {ts : List Lfc.Ord} {xs : List Value} (hlo : lo ≤ base) (hown : W.ownsRow base 26 3 (.slice A ts.length c) ts.length xs) (hrow : ORow (fun b => base ≤ b ∧ some b ≠ (Value.slice A ts.length c).ownBlock) W ts xs) :
  OrdsAtP (fun b => lo ≤ b) W A ts ∧ ts.length ≤ c := by
 rcases hown.2 with ⟨h1, h2⟩ | ⟨g, cap, cur, hv, hbg, hg, hnc, _, _, _⟩
 ·exact ⟨fun hne => absurd (List.length_eq_zero_iff.1 h2) hne, by rw [h2]; exact Nat.zero_le _⟩
 ·injection hv with e1 _ e3
  subst e1 e3
  refine ⟨fun _ => ⟨g, 0, rfl, lt_of_block hg, by show lo ≤ g; omega, ?_⟩, hnc⟩
  exact (ORow.keep (fun _ _ _ => rfl) (Nat.le_refl _) (fun b _ hb => by have := hb.1; show lo ≤ b; omega) hrow).lie (own_cellsO hown)
end Go.Proofs.YtadjpadieljjlaaGreat
namespace Go.Proofs.YtadjpadieljjlaaGreat
open Go.RowKit Go.Maps
attribute [local go_sem ↓] Go.wp_at_zero Go.wp_at_succ
theorem below_of_oth {T : Nat} {A B : World} (h : Oth T A B) (hT : B.heap[T]? = A.heap[T]?) : Below A.heap.size A B :=
 ⟨h.os, h.tape, h.output, h.size, fun b hb => by
  by_cases e : b = T
  ·rw [e]; exact hT
  ·exact h.block b hb (fun e' => e (Option.some.inj e'))⟩
theorem oput3 {W : World} {R : Nat} {a0 a1 a2 : Value} {t : TypeId} (h : W.heap[R]? = some (.cells #[a0, a1, a2] t (0, 0))) (v0 v1 v2 : Value) : ∃ s1 s2 s3, W.setCell ⟨R, 0, none⟩ v0 = s1 ∧ s1.setCell ⟨R, 1, none⟩ v1 = s2 ∧ s2.setCell ⟨R, 2, none⟩ v2 = s3 ∧
  (W.cell? ⟨R, 0, none⟩ = some a0 ∧ s1.cell? ⟨R, 1, none⟩ = some a1 ∧ s2.cell? ⟨R, 2, none⟩ = some a2) ∧
  (W.frozen? ⟨R, 0, none⟩ = false ∧ s1.frozen? ⟨R, 1, none⟩ = false ∧ s2.frozen? ⟨R, 2, none⟩ = false) ∧
  s3.heap[R]? = some (.cells #[v0, v1, v2] t (0, 0)) ∧ Oth R W s3 := by
 obtain ⟨s1, h1⟩ : ∃ s1, W.setCell ⟨R, 0, none⟩ v0 = s1 := ⟨_, rfl⟩
 obtain ⟨s2, h2⟩ : ∃ s2, s1.setCell ⟨R, 1, none⟩ v1 = s2 := ⟨_, rfl⟩
 obtain ⟨s3, h3⟩ : ∃ s3, s2.setCell ⟨R, 2, none⟩ v2 = s3 := ⟨_, rfl⟩
 have q1 : s1.heap[R]? = some (.cells #[v0, a1, a2] t (0, 0)) := by rw [← h1]; simp [World.setCell, Array.getElem?_modify, h]
 have q2 : s2.heap[R]? = some (.cells #[v0, v1, a2] t (0, 0)) := by rw [← h2]; simp [World.setCell, Array.getElem?_modify, q1]
 have q3 : s3.heap[R]? = some (.cells #[v0, v1, v2] t (0, 0)) := by rw [← h3]; simp [World.setCell, Array.getElem?_modify, q2]
 refine ⟨s1, s2, s3, h1, h2, h3, ⟨Lib.cell_of_heap h 0, Lib.cell_of_heap q1 1, Lib.cell_of_heap q2 2⟩, ⟨Lib.frozen_of_heap h 0, Lib.frozen_of_heap q1 1, Lib.frozen_of_heap q2 2⟩, q3, ?_⟩
 rw [← h3, ← h2, ← h1]
 exact ((Oth.set W v0).trans (Oth.set _ v1)).trans (Oth.set _ v2)
theorem ord_node (o : Lfc.Ord) : ∃ k a ts, o = .node k a ts := by
 cases o with
 | node k a ts => exact ⟨k, a, ts, rfl⟩
theorem oalloc_loc {w : World} {o : Obj} {v v' : Value} (h : v'.ownBlock = v.ownBlock ∨ v'.ownBlock = some (w.alloc o).heap.size) : v'.ownBlock = v.ownBlock ∨ v'.ownBlock = some (w.heap.size + 1) := by simpa using h
theorem oalloc_le {w : World} {o : Obj} {b : Nat} (h : b ≤ w.heap.size) : b ≤ (w.alloc o).heap.size := by simp; omega
theorem ocells_new (W : World) (n : Nat) (hn : n = W.heap.size) (xs : List Value) (e : TypeId) (j : Nat) (u : Value) (h : xs[j]? = some u) : (W.alloc (.cells xs.toArray e)).cell? ((⟨n, 0, none⟩ : Addr).add j) = some u := by
 subst hn
 rw [ocell_add, Lib.cell_of_heap (heap_alloc_new W _)]
 simpa using h
theorem oform {w : World} {base : Nat} {e : TypeId} {size n : Nat} {v : Value} {xs : List Value} (h : w.ownsRow base e size v n xs) : ∃ A c, v = .slice A n c := by
 rcases h.2 with ⟨rfl, rfl⟩ | ⟨g, cap, cur, rfl, _⟩
 ·exact ⟨_, _, rfl⟩
 ·exact ⟨_, _, rfl⟩
theorem oneCell3 {k a : Int} {A : Option Addr} {l c : Nat} : ∀ u ∈ [Value.int .i64 k, .int .i64 a, .slice A l c], u.oneCell' = true := by
 intro u hu
 simp at hu
 rcases hu with rfl | rfl | rfl <;> rfl
structure MvI (wa : World) (T R base : Nat) (k a : Int) (os : List Lfc.Ord) (A : Option Addr) (c : Nat) (xs : List Value) (wr : World) : Prop where
 r : wr.heap[R]? = some (.cells #[.int .i64 k, .int .i64 a, .slice A os.length c] 26 (0, 0))
 own : wr.ownsRow base 26 3 (.slice A os.length c) os.length xs
 row : ORow (fun b => base ≤ b ∧ some b ≠ (Value.slice A os.length c).ownBlock) wr os xs
 bel : Below wa.heap.size wa wr
 size : base ≤ wr.heap.size
set_option maxRecDepth 100000 in
set_option maxHeartbeats 8000000 in
theorem oMoved_upto (n : Int) (hn0 : -1000 ≤ n) (hn1 : n ≤ 1000) (m : Nat) (hmm : m ≤ 1000000) : ∀ (o : Lfc.Ord) (v : Value) (w : World), o.size ≤ m → o.mod 1000 = true → OrdV w o v →
  Calls Tryz.prog 57 #[v, .int .i64 n] w fun e w' => (∃ v', e = .returned v' ∧ OrdVP (fun b => w.heap.size ≤ b) w' (o.mv n) v') ∧ Below w.heap.size w w' := by
 induction m with
 | zero => intro o v w h _ _; have := o.size_pos; omega
 | succ m ih0 =>
  intro o v w hm hmod hv
  have ih := ih0 (by omega)
  clear ih0
  obtain ⟨kd, ar, ts⟩ := o
  obtain ⟨A0, c0, rfl, hc, hA⟩ := hv.open_
  simp only [Lfc.Ord.size] at hm
  rw [Lfc.Ord.mod, Bool.and_eq_true, Bool.and_eq_true, decide_eq_true_eq, decide_eq_true_eq] at hmod
  obtain ⟨⟨ha0, ha1⟩, hms⟩ := hmod
  have hlen := Lfc.Ord.sizes_len ts
  have IH := Lib.hid ih
  have HMS := Lib.hid (Lfc.mods_at 1000 ts hms)
  obtain ⟨i0, hi, hz0, hz1, hz2⟩ := ord_info
  obtain ⟨wb, hwb⟩ : ∃ wb, w.alloc (.cells #[.int .i64 kd, .int .i64 ar, .slice A0 ts.length c0] 26) = wb := ⟨_, rfl⟩
  obtain ⟨wa, hwa⟩ : ∃ wa, wb.alloc (.cells #[.int .i64 0, .int .i64 0, .slice none 0 0] 26) = wa := ⟨_, rfl⟩
  have bwb : Below w.heap.size w wb := by rw [← hwb]; exact (Below.refl _ _).alloc (Nat.le_refl _) _
  have bba : Below wb.heap.size wb wa := by rw [← hwa]; exact (Below.refl _ _).alloc (Nat.le_refl _) _
  have qb : wb.heap[w.heap.size]? = some (.cells #[.int .i64 kd, .int .i64 ar, .slice A0 ts.length c0] 26 (0, 0)) := by rw [← hwb]; exact heap_alloc_new _ _
  have qa : wa.heap[wb.heap.size]? = some (.cells #[.int .i64 0, .int .i64 0, .slice none 0 0] 26 (0, 0)) := by rw [← hwa]; exact heap_alloc_new _ _
  have lb := lt_of_block qb
  have la := lt_of_block qa
  have qba := (bba.block _ lb).trans qb
  have bwa : Below w.heap.size w wa := bwb.trans (bba.mono (by omega))
  have HWA := Lib.hid bwa
  have QB := Lib.hid qba
  have QA := Lib.hid qa
  have HA := Lib.hid (hA.below bwa)
  clear ih hv hA bwb bba qa qb qba bwa hms
  by_cases hk1 : kd = 1
  ·subst hk1
   obtain ⟨wr1, hwr1⟩ : ∃ wr1, wa.alloc (.cells #[.int .i64 1, .int .i64 0, .slice none 0 0] 26) = wr1 := ⟨_, rfl⟩
   have b1 : Below wa.heap.size wa wr1 := by rw [← hwr1]; exact (Below.refl _ _).alloc (Nat.le_refl _) _
   have q1 : wr1.heap[wa.heap.size]? = some (.cells #[.int .i64 1, .int .i64 0, .slice none 0 0] 26 (0, 0)) := by rw [← hwr1]; exact heap_alloc_new _ _
   have s1 : wa.heap.size + 1 ≤ wr1.heap.size := by rw [← hwr1]; simp
   have HW1 := Lib.hid hwr1
   obtain ⟨wr0, hwr0⟩ : ∃ wr0, wr1.setCell ⟨wa.heap.size, 1, none⟩ (.int .i64 (ar + n)) = wr0 := ⟨_, rfl⟩
   have o0 : Oth wa.heap.size wr1 wr0 := by rw [← hwr0]; exact Oth.set _ _
   have b0 : Below wa.heap.size wa wr0 := Oth.below b1 o0 (by omega) (by omega)
   have q0 : wr0.heap[wa.heap.size]? = some (.cells #[.int .i64 1, .int .i64 (ar + n), .slice none 0 0] 26 (0, 0)) := by rw [← hwr0]; simp [World.setCell, Array.getElem?_modify, q1]
   have s0 : wa.heap.size + 1 ≤ wr0.heap.size := Nat.le_trans s1 o0.size
   have HW0 := Lib.hid hwr0
   have I0 : Hid (MvI wa w.heap.size wa.heap.size (wa.heap.size + 1) 1 (ar + n) (Lfc.Ord.mvs n (ts.take 0)) none 0 [] wr0) := Lib.hid ⟨q0, ⟨by simp [Lfc.Ord.mvs], .inl ⟨rfl, rfl⟩⟩, by rw [List.take_zero, Lfc.Ord.mvs, ORow], b0, s0⟩
   have Y1 := Lib.hid (show wr1.heap[w.heap.size]? = some (.cells #[.int .i64 1, .int .i64 ar, .slice A0 ts.length c0] 26 (0, 0)) from (b1.block _ (by omega)).trans QB.out)
   have Q1 := Lib.hid q1
   obtain ⟨y0, y1, y2⟩ := cells3o QB.out
   clear b0 q0 s0 hwr0 b1 q1 s1 hwr1 o0
   have hwn : IntKind.i64.wrap (ar + n) = ar + n := IntWalk.i64_in _ (by omega)
   go_enter Tryz.func57, Tryz.ntmps57
   go_upto_region 2 with fail
   rw [HW1.out]
   clear HW1 y0 y1 y2 hwa hwb
   obtain ⟨y0, y1, y2⟩ := cells3o Y1.out
   have z1 := Lib.cell_of_heap Q1.out 1
   have f1 := Lib.frozen_of_heap Q1.out 1
   go_upto_region 4 with fail
   rw [HW0.out]
   clear HW0 y0 y1 y2 z1 f1 Y1 Q1
   obtain ⟨y0, y1, y2⟩ := cells3o ((I0.out.bel.block _ (by omega)).trans QB.out)
   go_wp2_with fail
   go_loopw [22] (fun i wr => ∃ (k : Nat) (A : Option Addr) (c : Nat) (xs : List Value), k ≤ ts.length ∧ i = .int .i64 k ∧ Hid (MvI wa w.heap.size wa.heap.size (wa.heap.size + 1) 1 (ar + n) (Lfc.Ord.mvs n (ts.take k)) A c xs wr)) (fun i _ => ts.length - (intOf i).toNat)
   case atStart => exact ⟨0, none, 0, [], Nat.zero_le _, rfl, I0⟩
   case round =>
    clear y0 y1 y2 I0
    obtain ⟨k, A, c, xs, hk, rfl, HI⟩ := hrel
    have hol : (Lfc.Ord.mvs n (ts.take k)).length = k := by rw [Lfc.mvs_length, List.length_take]; omega
    have hsw := HI.out.bel.size
    have hsb := HI.out.size
    obtain ⟨y0, y1, y2⟩ := cells3o ((HI.out.bel.block _ (by omega)).trans QB.out)
    by_cases hlt : k < ts.length
    ·obtain ⟨b, o, k1, a1, us, B, c1, rfl, hb, ht, d0, d1, d2, hcu, hB, hT⟩ := (HA.out.below HI.out.bel).at_ hlt
     have hmem := Lfc.Ord.sizes_mem ts ts[k] (List.getElem_mem _)
     have HMK := Lib.hid (HMS.out k hlt)
     have HTK := Lib.hid (Lfc.mvs_take n ts k hlt)
     have hi0 : (0 : Int) ≤ (k : Int) := Int.natCast_nonneg _
     have hi1 : (k : Int) < (ts.length : Int) := by omega
     clear hB ht
     obtain ⟨wx, hwx⟩ : ∃ wx, wr.alloc (.cells #[.int .i64 k1, .int .i64 a1, .slice B us.length c1] 26) = wx := ⟨_, rfl⟩
     have bx : Below wr.heap.size wr wx := by rw [← hwx]; exact (Below.refl _ _).alloc (Nat.le_refl _) _
     have qx : wx.heap[wr.heap.size]? = some (.cells #[.int .i64 k1, .int .i64 a1, .slice B us.length c1] 26 (0, 0)) := by rw [← hwx]; exact heap_alloc_new _ _
     have hsx := bx.size
     have HWX := Lib.hid hwx
     have IX := Lib.hid (show MvI wa w.heap.size wa.heap.size (wa.heap.size + 1) 1 (ar + n) (Lfc.Ord.mvs n (ts.take k)) A c xs wx from ⟨(bx.block _ (lt_of_block HI.out.r)).trans HI.out.r, by rw [← hwx]; exact HI.out.own.alloc _, HI.out.row.keep (fun b _ hlt => bx.block b hlt) bx.size (fun _ _ h => h), HI.out.bel.trans (bx.mono hsw), Nat.le_trans hsb bx.size⟩)
     have hT2 := Lib.hid (hT.below (bx.trans ((Below.refl _ _).drew.mono bx.size)))
     obtain ⟨x0, x1, x2⟩ := cells3o qx
     clear hwx qx hT bx
     obtain ⟨os, hos⟩ : ∃ os, Lfc.Ord.mvs n (ts.take k) = os := ⟨_, rfl⟩
     rw [hos] at IX HTK hol
     have HR := Lib.hid IX.out.r
     have HOWN := Lib.hid IX.out.own
     have HROW := Lib.hid IX.out.row
     have HOX : Hid (Oth w.heap.size wa wx) := Lib.hid (Oth.of_below IX.out.bel)
     have HBX := Lib.hid IX.out.bel
     have hbx := IX.out.size
     rw [hol] at HR HOWN HROW
     have yx : wx.cell? ⟨wa.heap.size, 2, none⟩ = some (.slice A k c) := Lib.cell_of_heap HR.out 2
     have hlm : k + 1 ≤ maxLen := by unfold maxLen; omega
     have hl40 : (k + 1) * 40 ≤ 140737488355328 := by omega
     have hrb : wa.heap.size < wa.heap.size + 1 := Nat.lt_succ_self _
     have hTr : w.heap.size < wa.heap.size := by omega
     have hTow : (Value.slice A k c).ownBlock = some w.heap.size → False := fun e => by have := (HOWN.out.lt _ e).1; omega
     have hlx := lt_of_block HR.out
     go_upto_region 7 with fail
     rw [HWX.out]
     clear hos HI IX
     go_region_law (first
   | (go_simp; go_at_call 57; refine (IH.out ts[k] _ wx.drew (by omega) HMK.out hT2.out).mono ?_; rintro e w9 ⟨⟨v9, rfl, hv9⟩, b9⟩; obtain ⟨k9, a9, ts9, ht9⟩ := ord_node (ts[k].mv n); rw [ht9] at hv9; obtain ⟨A9, c9, rfl, hp9⟩ := hv9.open_; have o9 : Oth w.heap.size wx.drew w9 := Oth.of_below b9; have q9 := (b9.block _ hlx).trans HR.out; have y9 : w9.cell? ⟨wa.heap.size, 2, none⟩ = some (.slice A k c) := Lib.cell_of_heap q9 2; have y9a : ∀ o, (w9.alloc o).cell? ⟨wa.heap.size, 2, none⟩ = some (.slice A k c) := fun o => Lib.cell_of_heap ((Lib.alloc_old _ _ _ (lt_of_block q9)).trans q9) 2; have hown9 := HOWN.out.drew.kept o9 (Or.inr hTow); have hs9' : wa.heap.size + 1 ≤ w9.heap.size := Nat.le_trans hbx b9.size)
   | (refine step_append_own_at _ (by rfl) _ _ 24 (by rfl) (wa.heap.size + 1) 26 i0 (.agg #[.int .i64 0, .int .i64 0, .slice none 0 0]) 3 40 Tryz.underlying24 hi hz0 hz1 hz2 rfl (by decide) _ _ _ (by rfl) (hown9.alloc _) ⟨w9.heap.size, 0, none⟩ 1 1 [.int .i64 k9, .int .i64 a9, .slice A9 ts9.length c9] (by rfl) (by rfl) (fun j u h => ocells_new w9 _ rfl [.int .i64 k9, .int .i64 a9, .slice A9 ts9.length c9] _ j u h) oneCell3 hlm hl40 (oalloc_le hs9') ?_; intro v' w10 hown10 hg10 hloc10; obtain ⟨A10, c10, rfl⟩ := oform hown10; obtain ⟨hr10, hfin⟩ := ord_final (ts := os) hrb hTr hbx (Nat.le_refl _) HR.out (by rw [hol]; exact HOWN.out) HROW.out HOX.out o9 hp9 (by rw [hol]; exact hown10) hg10 (oalloc_loc hloc10); have y10 := (Lib.cell_of_heap hr10 2 : w10.cell? ⟨wa.heap.size, 2, none⟩ = some (.slice A k c)); have f10 := Lib.frozen_of_heap hr10 2))
     all_goals
      obtain ⟨f1, f2, f3, f4, f5, f6, f7⟩ := hfin
      have HNX : Hid (MvI wa w.heap.size wa.heap.size (wa.heap.size + 1) 1 (ar + n) (Lfc.Ord.mvs n (ts.take (k + 1))) A10 c10 (xs ++ [.int .i64 k9, .int .i64 a9, .slice A9 ts9.length c9]) (w10.setCell ⟨wa.heap.size, 2, none⟩ (.slice A10 (k + 1) c10))) := Lib.hid (by
       rw [HTK.out, ht9]
       have el : (os ++ [Lfc.Ord.node k9 a9 ts9]).length = k + 1 := by rw [List.length_append, hol]; rfl
       refine ⟨by rw [el]; exact f1, by rw [el]; rw [el] at f2; exact f2, by rw [el]; exact f3, below_of_oth f4 ?_, f5⟩
       rw [f7, b9.block _ (by show w.heap.size < wx.heap.size; omega)]
       exact HBX.out.block _ (by omega))
      clear f1 f2 f3 f4 f5 f6 f7 hp9 b9 o9 hown9 hown10 hg10 ht9
      go_wp2_with fail
      go_roundw
      case rel => exact ⟨k + 1, A10, c10, _, by omega, by go_num, HNX⟩
      case measure => simp [intOf]; omega
    ·obtain rfl : k = ts.length := by omega
     rw [List.take_length] at HI hol
     have hpt := ord_parts (lo := w.heap.size) (by omega) HI.out.own HI.out.row
     rw [hol] at hpt
     have HR := Lib.hid HI.out.r
     rw [hol] at HR
     obtain ⟨u0, u1, u2⟩ := cells3o HR.out
     have hq4 := (HI.out.bel.block _ la).trans QA.out
     obtain ⟨s1, s2, s3, g1, g2, g3, ⟨p0, p1, p2⟩, ⟨f0, f1, f2⟩, hq, hot⟩ := oput3 hq4 (.int .i64 1) (.int .i64 (ar + n)) (.slice A ts.length c)
     have HQ := Lib.hid hq
     have HBF : Hid (Below w.heap.size w s3) := Lib.hid (Oth.below (HWA.out.trans (HI.out.bel.mono HWA.out.size)) hot (by omega) (by omega))
     have HPT : Hid (OrdsAtP (fun b => w.heap.size ≤ b) s3 A (Lfc.Ord.mvs n ts)) := Lib.hid (by
      have hpt2 := ord_parts (lo := wa.heap.size) (by omega) HI.out.own HI.out.row
      refine hpt2.1.keep (fun b hb hlt => ?_) hot.size (fun b _ hb => by have hb : wa.heap.size ≤ b := hb; show w.heap.size ≤ b; omega)
      have hb : wa.heap.size ≤ b := hb
      exact hot.block b hlt (fun e => by have := Option.some.inj e; omega))
     have HCC := Lib.hid hpt.2
     have HLL : Hid ((Lfc.Ord.mvs n ts).length = ts.length) := Lib.hid (Lfc.mvs_length n ts)
     clear hq hot hpt HI hq4
     go_wp2_with fail
     refine bodyPost_ret (results_ord rfl _ _ _ _ _ _ rfl HQ.out) rfl ?_
     refine ⟨⟨_, rfl, ?_⟩, HBF.out⟩
     have e : (Lfc.Ord.node 1 ar ts).mv n = .node 1 (ar + n) (Lfc.Ord.mvs n ts) := by rw [Lfc.Ord.mv, if_pos rfl]
     rw [e]
     have h := OrdVP.mk (k := 1) (a := (ar + n)) (A := A) (c := c) (by rw [HLL.out]; exact HCC.out) HPT.out
     rw [HLL.out] at h
     exact h
  ·have hk1f : (kd == 1) = false := by simpa using hk1
   obtain ⟨wr1, hwr1⟩ : ∃ wr1, wa.alloc (.cells #[.int .i64 kd, .int .i64 0, .slice none 0 0] 26) = wr1 := ⟨_, rfl⟩
   have b1 : Below wa.heap.size wa wr1 := by rw [← hwr1]; exact (Below.refl _ _).alloc (Nat.le_refl _) _
   have q1 : wr1.heap[wa.heap.size]? = some (.cells #[.int .i64 kd, .int .i64 0, .slice none 0 0] 26 (0, 0)) := by rw [← hwr1]; exact heap_alloc_new _ _
   have s1 : wa.heap.size + 1 ≤ wr1.heap.size := by rw [← hwr1]; simp
   have HW1 := Lib.hid hwr1
   obtain ⟨wr0, hwr0⟩ : ∃ wr0, wr1 = wr0 := ⟨_, rfl⟩
   have b0 : Below wa.heap.size wa wr0 := hwr0 ▸ b1
   have q0 : wr0.heap[wa.heap.size]? = some (.cells #[.int .i64 kd, .int .i64 0, .slice none 0 0] 26 (0, 0)) := hwr0 ▸ q1
   have s0 : wa.heap.size + 1 ≤ wr0.heap.size := hwr0 ▸ s1
   have I0 : Hid (MvI wa w.heap.size wa.heap.size (wa.heap.size + 1) kd 0 (Lfc.Ord.mvs n (ts.take 0)) none 0 [] wr0) := Lib.hid ⟨q0, ⟨by simp [Lfc.Ord.mvs], .inl ⟨rfl, rfl⟩⟩, by rw [List.take_zero, Lfc.Ord.mvs, ORow], b0, s0⟩
   have Y1 := Lib.hid (show wr1.heap[w.heap.size]? = some (.cells #[.int .i64 kd, .int .i64 ar, .slice A0 ts.length c0] 26 (0, 0)) from (b1.block _ (by omega)).trans QB.out)
   have Q1 := Lib.hid q1
   obtain ⟨y0, y1, y2⟩ := cells3o QB.out
   have HE := Lib.hid hwr0
   clear b0 q0 s0 hwr0 b1 q1 s1 hwr1
   go_enter Tryz.func57, Tryz.ntmps57
   go_upto_region 2 with fail
   rw [HW1.out]
   clear HW1 y0 y1 y2 hwa hwb
   obtain ⟨y0, y1, y2⟩ := cells3o Y1.out
   go_upto_region 4 with fail
   clear Y1 Q1
   rw [HE.out] at y0 y1 y2 ⊢
   clear HE
   go_wp2_with fail
   go_loopw [22] (fun i wr => ∃ (k : Nat) (A : Option Addr) (c : Nat) (xs : List Value), k ≤ ts.length ∧ i = .int .i64 k ∧ Hid (MvI wa w.heap.size wa.heap.size (wa.heap.size + 1) kd 0 (Lfc.Ord.mvs n (ts.take k)) A c xs wr)) (fun i _ => ts.length - (intOf i).toNat)
   case atStart => exact ⟨0, none, 0, [], Nat.zero_le _, rfl, I0⟩
   case round =>
    clear y0 y1 y2 I0
    obtain ⟨k, A, c, xs, hk, rfl, HI⟩ := hrel
    have hol : (Lfc.Ord.mvs n (ts.take k)).length = k := by rw [Lfc.mvs_length, List.length_take]; omega
    have hsw := HI.out.bel.size
    have hsb := HI.out.size
    obtain ⟨y0, y1, y2⟩ := cells3o ((HI.out.bel.block _ (by omega)).trans QB.out)
    by_cases hlt : k < ts.length
    ·obtain ⟨b, o, k1, a1, us, B, c1, rfl, hb, ht, d0, d1, d2, hcu, hB, hT⟩ := (HA.out.below HI.out.bel).at_ hlt
     have hmem := Lfc.Ord.sizes_mem ts ts[k] (List.getElem_mem _)
     have HMK := Lib.hid (HMS.out k hlt)
     have HTK := Lib.hid (Lfc.mvs_take n ts k hlt)
     have hi0 : (0 : Int) ≤ (k : Int) := Int.natCast_nonneg _
     have hi1 : (k : Int) < (ts.length : Int) := by omega
     clear hB ht
     obtain ⟨wx, hwx⟩ : ∃ wx, wr.alloc (.cells #[.int .i64 k1, .int .i64 a1, .slice B us.length c1] 26) = wx := ⟨_, rfl⟩
     have bx : Below wr.heap.size wr wx := by rw [← hwx]; exact (Below.refl _ _).alloc (Nat.le_refl _) _
     have qx : wx.heap[wr.heap.size]? = some (.cells #[.int .i64 k1, .int .i64 a1, .slice B us.length c1] 26 (0, 0)) := by rw [← hwx]; exact heap_alloc_new _ _
     have hsx := bx.size
     have HWX := Lib.hid hwx
     have IX := Lib.hid (show MvI wa w.heap.size wa.heap.size (wa.heap.size + 1) kd 0 (Lfc.Ord.mvs n (ts.take k)) A c xs wx from ⟨(bx.block _ (lt_of_block HI.out.r)).trans HI.out.r, by rw [← hwx]; exact HI.out.own.alloc _, HI.out.row.keep (fun b _ hlt => bx.block b hlt) bx.size (fun _ _ h => h), HI.out.bel.trans (bx.mono hsw), Nat.le_trans hsb bx.size⟩)
     have hT2 := Lib.hid (hT.below (bx.trans ((Below.refl _ _).drew.mono bx.size)))
     obtain ⟨x0, x1, x2⟩ := cells3o qx
     clear hwx qx hT bx
     obtain ⟨os, hos⟩ : ∃ os, Lfc.Ord.mvs n (ts.take k) = os := ⟨_, rfl⟩
     rw [hos] at IX HTK hol
     have HR := Lib.hid IX.out.r
     have HOWN := Lib.hid IX.out.own
     have HROW := Lib.hid IX.out.row
     have HOX : Hid (Oth w.heap.size wa wx) := Lib.hid (Oth.of_below IX.out.bel)
     have HBX := Lib.hid IX.out.bel
     have hbx := IX.out.size
     rw [hol] at HR HOWN HROW
     have yx : wx.cell? ⟨wa.heap.size, 2, none⟩ = some (.slice A k c) := Lib.cell_of_heap HR.out 2
     have hlm : k + 1 ≤ maxLen := by unfold maxLen; omega
     have hl40 : (k + 1) * 40 ≤ 140737488355328 := by omega
     have hrb : wa.heap.size < wa.heap.size + 1 := Nat.lt_succ_self _
     have hTr : w.heap.size < wa.heap.size := by omega
     have hTow : (Value.slice A k c).ownBlock = some w.heap.size → False := fun e => by have := (HOWN.out.lt _ e).1; omega
     have hlx := lt_of_block HR.out
     go_upto_region 7 with fail
     rw [HWX.out]
     clear hos HI IX
     go_region_law (first
   | (go_simp; go_at_call 57; refine (IH.out ts[k] _ wx.drew (by omega) HMK.out hT2.out).mono ?_; rintro e w9 ⟨⟨v9, rfl, hv9⟩, b9⟩; obtain ⟨k9, a9, ts9, ht9⟩ := ord_node (ts[k].mv n); rw [ht9] at hv9; obtain ⟨A9, c9, rfl, hp9⟩ := hv9.open_; have o9 : Oth w.heap.size wx.drew w9 := Oth.of_below b9; have q9 := (b9.block _ hlx).trans HR.out; have y9 : w9.cell? ⟨wa.heap.size, 2, none⟩ = some (.slice A k c) := Lib.cell_of_heap q9 2; have y9a : ∀ o, (w9.alloc o).cell? ⟨wa.heap.size, 2, none⟩ = some (.slice A k c) := fun o => Lib.cell_of_heap ((Lib.alloc_old _ _ _ (lt_of_block q9)).trans q9) 2; have hown9 := HOWN.out.drew.kept o9 (Or.inr hTow); have hs9' : wa.heap.size + 1 ≤ w9.heap.size := Nat.le_trans hbx b9.size)
   | (refine step_append_own_at _ (by rfl) _ _ 24 (by rfl) (wa.heap.size + 1) 26 i0 (.agg #[.int .i64 0, .int .i64 0, .slice none 0 0]) 3 40 Tryz.underlying24 hi hz0 hz1 hz2 rfl (by decide) _ _ _ (by rfl) (hown9.alloc _) ⟨w9.heap.size, 0, none⟩ 1 1 [.int .i64 k9, .int .i64 a9, .slice A9 ts9.length c9] (by rfl) (by rfl) (fun j u h => ocells_new w9 _ rfl [.int .i64 k9, .int .i64 a9, .slice A9 ts9.length c9] _ j u h) oneCell3 hlm hl40 (oalloc_le hs9') ?_; intro v' w10 hown10 hg10 hloc10; obtain ⟨A10, c10, rfl⟩ := oform hown10; obtain ⟨hr10, hfin⟩ := ord_final (ts := os) hrb hTr hbx (Nat.le_refl _) HR.out (by rw [hol]; exact HOWN.out) HROW.out HOX.out o9 hp9 (by rw [hol]; exact hown10) hg10 (oalloc_loc hloc10); have y10 := (Lib.cell_of_heap hr10 2 : w10.cell? ⟨wa.heap.size, 2, none⟩ = some (.slice A k c)); have f10 := Lib.frozen_of_heap hr10 2))
     all_goals
      obtain ⟨f1, f2, f3, f4, f5, f6, f7⟩ := hfin
      have HNX : Hid (MvI wa w.heap.size wa.heap.size (wa.heap.size + 1) kd 0 (Lfc.Ord.mvs n (ts.take (k + 1))) A10 c10 (xs ++ [.int .i64 k9, .int .i64 a9, .slice A9 ts9.length c9]) (w10.setCell ⟨wa.heap.size, 2, none⟩ (.slice A10 (k + 1) c10))) := Lib.hid (by
       rw [HTK.out, ht9]
       have el : (os ++ [Lfc.Ord.node k9 a9 ts9]).length = k + 1 := by rw [List.length_append, hol]; rfl
       refine ⟨by rw [el]; exact f1, by rw [el]; rw [el] at f2; exact f2, by rw [el]; exact f3, below_of_oth f4 ?_, f5⟩
       rw [f7, b9.block _ (by show w.heap.size < wx.heap.size; omega)]
       exact HBX.out.block _ (by omega))
      clear f1 f2 f3 f4 f5 f6 f7 hp9 b9 o9 hown9 hown10 hg10 ht9
      go_wp2_with fail
      go_roundw
      case rel => exact ⟨k + 1, A10, c10, _, by omega, by go_num, HNX⟩
      case measure => simp [intOf]; omega
    ·obtain rfl : k = ts.length := by omega
     rw [List.take_length] at HI hol
     have hpt := ord_parts (lo := w.heap.size) (by omega) HI.out.own HI.out.row
     rw [hol] at hpt
     have HR := Lib.hid HI.out.r
     rw [hol] at HR
     obtain ⟨u0, u1, u2⟩ := cells3o HR.out
     have hq4 := (HI.out.bel.block _ la).trans QA.out
     obtain ⟨s1, s2, s3, g1, g2, g3, ⟨p0, p1, p2⟩, ⟨f0, f1, f2⟩, hq, hot⟩ := oput3 hq4 (.int .i64 kd) (.int .i64 0) (.slice A ts.length c)
     have HQ := Lib.hid hq
     have HBF : Hid (Below w.heap.size w s3) := Lib.hid (Oth.below (HWA.out.trans (HI.out.bel.mono HWA.out.size)) hot (by omega) (by omega))
     have HPT : Hid (OrdsAtP (fun b => w.heap.size ≤ b) s3 A (Lfc.Ord.mvs n ts)) := Lib.hid (by
      have hpt2 := ord_parts (lo := wa.heap.size) (by omega) HI.out.own HI.out.row
      refine hpt2.1.keep (fun b hb hlt => ?_) hot.size (fun b _ hb => by have hb : wa.heap.size ≤ b := hb; show w.heap.size ≤ b; omega)
      have hb : wa.heap.size ≤ b := hb
      exact hot.block b hlt (fun e => by have := Option.some.inj e; omega))
     have HCC := Lib.hid hpt.2
     have HLL : Hid ((Lfc.Ord.mvs n ts).length = ts.length) := Lib.hid (Lfc.mvs_length n ts)
     clear hq hot hpt HI hq4
     go_wp2_with fail
     refine bodyPost_ret (results_ord rfl _ _ _ _ _ _ rfl HQ.out) rfl ?_
     refine ⟨⟨_, rfl, ?_⟩, HBF.out⟩
     have e : (Lfc.Ord.node kd ar ts).mv n = .node kd 0 (Lfc.Ord.mvs n ts) := by rw [Lfc.Ord.mv, if_neg hk1]
     rw [e]
     have h := OrdVP.mk (k := kd) (a := 0) (A := A) (c := c) (by rw [HLL.out]; exact HCC.out) HPT.out
     rw [HLL.out] at h
     exact h
end Go.Proofs.YtadjpadieljjlaaGreat
namespace Lfc
def piCh : Nat → Raw
 | 0 => .node 1 [] 0 []
 | k + 1 => .node 2 [] 0 [.node 4 [113] 0 [], piCh k]
end Lfc
namespace Go.Proofs.YtadjpadieljjlaaGreat
open Go.RowKit Go.Maps
attribute [local go_sem ↓] Go.wp_at_zero Go.wp_at_succ
theorem cells4t {W : World} {g : Nat} {v0 v1 v2 v3 : Value} {t : TypeId} (h : W.heap[g]? = some (.cells #[v0, v1, v2, v3] t (0, 0))) : W.cell? ⟨g, 0, none⟩ = some v0 ∧ W.cell? ⟨g, 1, none⟩ = some v1 ∧ W.cell? ⟨g, 2, none⟩ = some v2 ∧ W.cell? ⟨g, 3, none⟩ = some v3 :=
 ⟨Lib.cell_of_heap h 0, Lib.cell_of_heap h 1, Lib.cell_of_heap h 2, Lib.cell_of_heap h 3⟩
theorem tput4 {W : World} {R : Nat} {a0 a1 a2 a3 : Value} {t : TypeId} (h : W.heap[R]? = some (.cells #[a0, a1, a2, a3] t (0, 0))) (v0 v1 v2 v3 : Value) : ∃ s1 s2 s3 s4, W.setCell ⟨R, 0, none⟩ v0 = s1 ∧ s1.setCell ⟨R, 1, none⟩ v1 = s2 ∧ s2.setCell ⟨R, 2, none⟩ v2 = s3 ∧ s3.setCell ⟨R, 3, none⟩ v3 = s4 ∧
  (W.cell? ⟨R, 0, none⟩ = some a0 ∧ s1.cell? ⟨R, 1, none⟩ = some a1 ∧ s2.cell? ⟨R, 2, none⟩ = some a2 ∧ s3.cell? ⟨R, 3, none⟩ = some a3) ∧
  (W.frozen? ⟨R, 0, none⟩ = false ∧ s1.frozen? ⟨R, 1, none⟩ = false ∧ s2.frozen? ⟨R, 2, none⟩ = false ∧ s3.frozen? ⟨R, 3, none⟩ = false) ∧
  s4.heap[R]? = some (.cells #[v0, v1, v2, v3] t (0, 0)) ∧ Oth R W s4 := by
 obtain ⟨s1, h1⟩ : ∃ s1, W.setCell ⟨R, 0, none⟩ v0 = s1 := ⟨_, rfl⟩
 obtain ⟨s2, h2⟩ : ∃ s2, s1.setCell ⟨R, 1, none⟩ v1 = s2 := ⟨_, rfl⟩
 obtain ⟨s3, h3⟩ : ∃ s3, s2.setCell ⟨R, 2, none⟩ v2 = s3 := ⟨_, rfl⟩
 obtain ⟨s4, h4⟩ : ∃ s4, s3.setCell ⟨R, 3, none⟩ v3 = s4 := ⟨_, rfl⟩
 have q1 : s1.heap[R]? = some (.cells #[v0, a1, a2, a3] t (0, 0)) := by rw [← h1]; simp [World.setCell, Array.getElem?_modify, h]
 have q2 : s2.heap[R]? = some (.cells #[v0, v1, a2, a3] t (0, 0)) := by rw [← h2]; simp [World.setCell, Array.getElem?_modify, q1]
 have q3 : s3.heap[R]? = some (.cells #[v0, v1, v2, a3] t (0, 0)) := by rw [← h3]; simp [World.setCell, Array.getElem?_modify, q2]
 have q4 : s4.heap[R]? = some (.cells #[v0, v1, v2, v3] t (0, 0)) := by rw [← h4]; simp [World.setCell, Array.getElem?_modify, q3]
 refine ⟨s1, s2, s3, s4, h1, h2, h3, h4, ⟨Lib.cell_of_heap h 0, Lib.cell_of_heap q1 1, Lib.cell_of_heap q2 2, Lib.cell_of_heap q3 3⟩, ⟨Lib.frozen_of_heap h 0, Lib.frozen_of_heap q1 1, Lib.frozen_of_heap q2 2, Lib.frozen_of_heap q3 3⟩, q4, ?_⟩
 rw [← h4, ← h3, ← h2, ← h1]
 exact (((Oth.set W v0).trans (Oth.set _ v1)).trans (Oth.set _ v2)).trans (Oth.set _ v3)
theorem TreeV.parts {w : World} {k p : Int} {n : List UInt8} {ts : List Lfc.Raw} {A : Option Addr} {c : Nat} (h : TreeV w (.node k n p ts) (.agg #[.int .i64 k, S n, .int .i64 p, .slice A ts.length c])) : TreesAt w A ts ∧ ts.length ≤ c := by
 obtain ⟨v0, v1, v2, v3, e, h⟩ := h
 simp only [Value.agg.injEq, Array.mk.injEq, List.cons.injEq, and_true] at e
 obtain ⟨rfl, rfl, rfl, rfl⟩ := e
 rw [TreeC] at h
 obtain ⟨_, _, _, _, A', c', e, hc, h⟩ := h
 simp only [Value.slice.injEq, true_and] at e
 obtain ⟨rfl, rfl⟩ := e
 exact ⟨h, hc⟩
theorem term_size : (Tryz.prog.info? 51).map (·.size) = some 4 := by kernel_rfl
theorem results_term2 {fn : Func} {p u : Tmp} (h : fn.results = #[.cell p 51, .tmp u]) (tmps : Array Value) (w : World) (g : Nat) (v0 v1 v2 v3 : Value) (hp : tmps.getD p undef = .pointer (some ⟨g, 0, none⟩)) (hg : w.heap[g]? = some (.cells #[v0, v1, v2, v3] 51 (0, 0))) :
  (results fn tmps).run Tryz.prog w = .ok (.tuple #[.agg #[v0, v1, v2, v3], tmps.getD u undef]) w := by
 rw [results_cell_tmp h, hp]
 simp [asAddr, run_loadVar_row w g _ _ _ _ _ hg Tryz.underlying51 rfl term_size, Result.andThen]
set_option maxRecDepth 100000 in
set_option maxHeartbeats 4000000 in
theorem oRest_any (k : Nat) (hk : k ≤ 1000) (v : Value) (w : World) (hv : TreeV w (Lfc.piCh k) v) :
  Calls Tryz.prog 86 #[v] w fun e w' => (∃ A c, e = .returned (.tuple #[.agg #[.int .i64 1, S [], .int .i64 0, .slice A 0 c], .int .i64 (k : Int)])) ∧ Below w.heap.size w w' := by
 obtain ⟨kd, n, p, ts, hT⟩ : ∃ kd n p ts, Lfc.piCh k = .node kd n p ts := by
  cases Lfc.piCh k with
  | node kd n p ts => exact ⟨kd, n, p, ts, rfl⟩
 have hv' := hv
 rw [hT] at hv
 obtain ⟨A, c, rfl, hc, hA⟩ := hv.open_
 obtain ⟨w1, hw1⟩ : ∃ w1, w.alloc (.cells #[.int .i64 kd, S n, .int .i64 p, .slice A ts.length c] 51) = w1 := ⟨_, rfl⟩
 obtain ⟨w2, hw2⟩ : ∃ w2, w1.alloc (.cells #[.int .i64 0, S [], .int .i64 0, .slice none 0 0] 51) = w2 := ⟨_, rfl⟩
 have b1 : Below w.heap.size w w1 := by rw [← hw1]; exact (Below.refl _ _).alloc (Nat.le_refl _) _
 have b2 : Below w1.heap.size w1 w2 := by rw [← hw2]; exact (Below.refl _ _).alloc (Nat.le_refl _) _
 have q1 : w1.heap[w.heap.size]? = some (.cells #[.int .i64 kd, S n, .int .i64 p, .slice A ts.length c] 51 (0, 0)) := by rw [← hw1]; exact heap_alloc_new _ _
 have q2 : w2.heap[w1.heap.size]? = some (.cells #[.int .i64 0, S [], .int .i64 0, .slice none 0 0] 51 (0, 0)) := by rw [← hw2]; exact heap_alloc_new _ _
 have l1 := lt_of_block q1
 have q12 := (b2.block _ l1).trans q1
 have s1 := b1.size
 have b02 := b1.trans (b2.mono s1)
 have HI0 : Hid (Lfc.piCh k = .node kd n p ts ∧ w2.heap[w.heap.size]? = some (.cells #[.int .i64 kd, S n, .int .i64 p, .slice A ts.length c] 51 (0, 0)) ∧ w2.heap[w1.heap.size]? = some (.cells #[.int .i64 0, S [], .int .i64 0, .slice none 0 0] 51 (0, 0)) ∧ TreeV w (Lfc.piCh k) (.agg #[.int .i64 kd, S n, .int .i64 p, .slice A ts.length c]) ∧ Below w.heap.size w w2) := Lib.hid ⟨hT, q12, q2, hv', b02⟩
 clear hT hA hv hv' q1 q2 q12 b1 b2 b02
 go_enter Tryz.func86, Tryz.ntmps86
 go_wp2_with fail
 go_loopw [4] (fun i wr => ∃ (j m : Nat) (kd : Int) (n : List UInt8) (p : Int) (ts : List Lfc.Raw) (A : Option Addr) (c : Nat), m + j = k ∧ i = .int .i64 m ∧ Hid (Lfc.piCh j = .node kd n p ts ∧ wr.heap[w.heap.size]? = some (.cells #[.int .i64 kd, S n, .int .i64 p, .slice A ts.length c] 51 (0, 0)) ∧ wr.heap[w1.heap.size]? = some (.cells #[.int .i64 0, S [], .int .i64 0, .slice none 0 0] 51 (0, 0)) ∧ TreeV w (Lfc.piCh j) (.agg #[.int .i64 kd, S n, .int .i64 p, .slice A ts.length c]) ∧ Below w.heap.size w wr)) (fun i _ => k - (intOf i).toNat)
 case atStart => exact ⟨k, 0, kd, n, p, ts, A, c, by omega, rfl, HI0⟩
 case round =>
  clear HI0 hc hw1 hw2
  obtain ⟨j, m, kd', n', p', ts', A2, c2, hm, rfl, HI⟩ := hrel
  obtain ⟨hT, hq, hr, hv, hb⟩ := HI.out
  obtain ⟨y0, y1, y2, y3⟩ := cells4t hq
  cases j with
  | zero =>
   obtain rfl : m = k := by omega
   rw [Lfc.piCh] at hT
   obtain ⟨rfl, rfl, rfl, rfl⟩ := Lfc.Raw.node.inj hT
   obtain ⟨s1, s2, s3, s4, g1, g2, g3, g4, ⟨z0, z1, z2, z3⟩, ⟨f0, f1, f2, f3⟩, hq2, ho⟩ := tput4 hr (.int .i64 1) (S []) (.int .i64 0) (.slice A2 0 c2)
   have HQ := Lib.hid hq2
   have HB : Hid (Below w.heap.size w s4) := Lib.hid (Oth.below hb ho (by omega) (by have := hb.size; omega))
   clear HI hT hq hr hv hb hq2 ho
   go_wp2_with fail
   refine bodyPost_ret (results_term2 rfl _ _ _ _ _ _ _ rfl HQ.out) rfl ?_
   exact ⟨⟨_, _, rfl⟩, HB.out⟩
  | succ j =>
   have hcj : TreesAt w A2 ts' ∧ ts'.length ≤ c2 := by
    have hv2 := hv
    rw [hT] at hv2
    exact hv2.parts
   rw [Lfc.piCh] at hT
   obtain ⟨rfl, rfl, rfl, rfl⟩ := Lfc.Raw.node.inj hT
   obtain ⟨b, o, k1, n1, p1, us, B, c1, rfl, hbl, ht, d0, d1, d2, d3, hcu, hB, hT2⟩ := hcj.1.at_ (i := 1) (by simp)
   have hbc : ∀ o, wr.cell? ⟨b, o, none⟩ = w.cell? ⟨b, o, none⟩ := fun o => hb.cell (p := ⟨b, o, none⟩) hbl
   have x0 : wr.cell? ⟨b, o + 4, none⟩ = some (.int .i64 k1) := by rw [hbc]; simpa using d0
   have x1 : wr.cell? ⟨b, o + 4 + 1, none⟩ = some (S n1) := by rw [hbc]; simpa using d1
   have x2 : wr.cell? ⟨b, o + 4 + 2, none⟩ = some (.int .i64 p1) := by rw [hbc]; simpa using d2
   have x3 : wr.cell? ⟨b, o + 4 + 3, none⟩ = some (.slice B us.length c1) := by rw [hbc]; simpa using d3
   obtain ⟨s1, s2, s3, s4, g1, g2, g3, g4, ⟨z0, z1, z2, z3⟩, ⟨f0, f1, f2, f3⟩, hq2, ho⟩ := tput4 hq (.int .i64 k1) (S n1) (.int .i64 p1) (.slice B us.length c1)
   have HN : Hid (Lfc.piCh j = .node k1 n1 p1 us ∧ s4.heap[w.heap.size]? = some (.cells #[.int .i64 k1, S n1, .int .i64 p1, .slice B us.length c1] 51 (0, 0)) ∧ s4.heap[w1.heap.size]? = some (.cells #[.int .i64 0, S [], .int .i64 0, .slice none 0 0] 51 (0, 0)) ∧ TreeV w (Lfc.piCh j) (.agg #[.int .i64 k1, S n1, .int .i64 p1, .slice B us.length c1]) ∧ Below w.heap.size w s4) :=
    Lib.hid ⟨by simpa using ht, hq2, (ho.block _ (lt_of_block hr) (fun e => by have := Option.some.inj e; omega)).trans hr, by simpa using hT2, Oth.below hb ho (by omega) (by have := hb.size; omega)⟩
   clear HI hT hq hr hv hb hq2 ho hcj d0 d1 d2 d3 ht hB hT2 hbc
   have hw3 : IntKind.i64.wrap ((m : Int) + 1) = (m : Int) + 1 := IntWalk.i64_in _ (by omega)
   go_wp2_with fail
   go_roundw
   case rel => exact ⟨j, m + 1, k1, n1, p1, us, B, c1, by omega, by go_num, HN⟩
   case measure => simp [intOf]; omega
set_option maxRecDepth 100000 in
set_option maxHeartbeats 4000000 in
theorem oParams_any (k : Nat) (hk : k ≤ 1000) (v : Value) (w : World) (hv : TreeV w (Lfc.piCh k) v) :
  Calls Tryz.prog 55 #[v] w fun e w' => e = .returned (.int .i64 (k : Int)) ∧ Below w.heap.size w w' := by
 obtain ⟨kd, n, p, ts, hT⟩ : ∃ kd n p ts, Lfc.piCh k = .node kd n p ts := by
  cases Lfc.piCh k with
  | node kd n p ts => exact ⟨kd, n, p, ts, rfl⟩
 have hv' := hv
 rw [hT] at hv
 obtain ⟨A, c, rfl, hc, hA⟩ := hv.open_
 obtain ⟨w1, hw1⟩ : ∃ w1, w.alloc (.cells #[.int .i64 kd, S n, .int .i64 p, .slice A ts.length c] 51) = w1 := ⟨_, rfl⟩
 have b1 : Below w.heap.size w w1 := by rw [← hw1]; exact (Below.refl _ _).alloc (Nat.le_refl _) _
 have q1 : w1.heap[w.heap.size]? = some (.cells #[.int .i64 kd, S n, .int .i64 p, .slice A ts.length c] 51 (0, 0)) := by rw [← hw1]; exact heap_alloc_new _ _
 have s1 := b1.size
 obtain ⟨y0, y1, y2, y3⟩ := cells4t q1
 have C := Lib.hid (oRest_any k hk _ w1 (hv'.below b1))
 have HB := Lib.hid b1
 clear hT hA hv hv' q1 b1 hc
 go_enter Tryz.func55, Tryz.ntmps55
 go_wp2_with fail
 refine C.out.mono ?_
 rintro e w2 ⟨⟨A9, c9, rfl⟩, hb2⟩
 go_wp2_with fail
 go_ret
 exact ⟨rfl, (HB.out.trans (hb2.mono s1)).alloc (Nat.le_trans s1 hb2.size) _⟩
end Go.Proofs.YtadjpadieljjlaaGreat
