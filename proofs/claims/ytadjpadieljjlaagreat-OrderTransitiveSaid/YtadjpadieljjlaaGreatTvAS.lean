/- Parts of the proof that no input makes the law false: SmRow, SmUnder, SmRenP, SmRen. -/
import Derived.Deep.DeepCutAuto
import Derived.Deep.CutBlock
import Derived.Deep.DrawnRows
import Derived.Deep.RegionHeld3
import Derived.Maps.AppendAt
import Derived.Test.YtadjpadieljjlaaGreatTvAA
import Derived.Test.YtadjpadieljjlaaGreatTvAB
import Derived.Test.YtadjpadieljjlaaGreatTvAC
import Derived.Test.YtadjpadieljjlaaGreatTvAD
import Derived.Test.YtadjpadieljjlaaGreatTvAG
import Derived.Test.YtadjpadieljjlaaGreatTvAM
set_option linter.unusedVariables false
set_option linter.unusedSimpArgs false
namespace Lfc
def headB (k p : Int) (n : List UInt8) (l : Nat) : Bool := (decide (k = 3) && tbound n p l 1) || (decide (k = 4) && isName n && decide (p = 0)) || (decide (k = 5) && decide (n = []))
mutual
def Raw.posB (b : Int) : Raw → Bool
 | .node k n p ts => decide (0 ≤ p) && decide (p ≤ b) && headB k p n ts.length && Raw.posBs b ts
def Raw.posBs (b : Int) : List Raw → Bool
 | [] => true
 | a :: r => Raw.posB b a && Raw.posBs b r
end
theorem posBs_app (b : Int) (x y : List Raw) : Raw.posBs b (x ++ y) = (Raw.posBs b x && Raw.posBs b y) := by
 induction x with
 | nil => simp [Raw.posBs]
 | cons a r ih => simp only [List.cons_append, Raw.posBs, ih, Bool.and_assoc]
theorem posBs_at (b : Int) : ∀ (ts : List Raw), Raw.posBs b ts = true → ∀ k (h : k < ts.length), ts[k].posB b = true
 | [], _, k, h => by simp at h
 | a :: r, hs, k, h => by
  rw [Raw.posBs, Bool.and_eq_true] at hs
  cases k with
  | zero => exact hs.1
  | succ k => exact posBs_at b r hs.2 k (by simpa using h)
theorem Raw.ex (t : Raw) : ∃ k n p ts, t = .node k n p ts := by obtain ⟨k, n, p, ts⟩ := t; exact ⟨_, _, _, _, rfl⟩
end Lfc
namespace Go.Proofs.YtadjpadieljjlaaGreat
open Go.RowKit Go.Maps
theorem tset3 {W : World} {r : Nat} {v0 v1 v2 v3 v : Value} {t : TypeId} (h : W.heap[r]? = some (.cells #[v0, v1, v2, v3] t (0, 0))) : (W.setCell ⟨r, 3, none⟩ v).heap[r]? = some (.cells #[v0, v1, v2, v] t (0, 0)) := by
 simp [World.setCell, Array.getElem?_modify, h]
theorem oneCellT {k p : Int} {n : List UInt8} {A : Option Addr} {l c : Nat} : ∀ u ∈ [Value.int .i64 k, S n, .int .i64 p, .slice A l c], u.oneCell' = true := by
 intro u hu
 simp at hu
 rcases hu with rfl | rfl | rfl | rfl <;> rfl
theorem term_infoM : ∃ i, Tryz.prog.info? 51 = some i ∧ i.zero = some (.agg #[.int .i64 0, S [], .int .i64 0, .slice none 0 0]) ∧ i.size = 4 ∧ i.bytes = 56 := by
 obtain ⟨i0, hi, hz0, hz1, hz2⟩ := info_parts termInfo
 exact ⟨i0, hi, hz0, hz1, hz2⟩
theorem trm_final {base T r : Nat} {wx w9 w10 wa : World} {v v' k n p a0 a1 a2 a3 : Value} {ts : List Lfc.Raw} {xs : List Value} {t : Lfc.Raw} (hr : r < base) (hT : T < r) (hb : base ≤ wx.heap.size) (hwa : wa.heap.size ≤ r)
  (hR : wx.heap[r]? = some (.cells #[k, n, p, v] 51 (0, 0))) (hown : wx.ownsRow base 51 4 v ts.length xs) (hrow : RowP (fun b => base ≤ b ∧ some b ≠ v.ownBlock) wx ts xs)
  (hTx : Oth T wa wx) (o9 : Oth T wx.drew w9) (ht : TreeP (fun b => wx.drew.heap.size ≤ b) w9 t a0 a1 a2 a3)
  (hown' : w10.ownsRow base 51 4 v' (ts.length + 1) (xs ++ [a0, a1, a2, a3]))
  (hg : (w9.alloc (.cells #[a0, a1, a2, a3] 51)).grownBy w10 v.ownBlock) (hloc : v'.ownBlock = v.ownBlock ∨ v'.ownBlock = some (w9.heap.size + 1)) :
  w10.heap[r]? = some (.cells #[k, n, p, v] 51 (0, 0)) ∧ (w10.setCell ⟨r, 3, none⟩ v').heap[r]? = some (.cells #[k, n, p, v'] 51 (0, 0)) ∧ (w10.setCell ⟨r, 3, none⟩ v').ownsRow base 51 4 v' (ts ++ [t]).length (xs ++ [a0, a1, a2, a3]) ∧
  RowP (fun b => base ≤ b ∧ some b ≠ v'.ownBlock) (w10.setCell ⟨r, 3, none⟩ v') (ts ++ [t]) (xs ++ [a0, a1, a2, a3]) ∧ Oth T wa (w10.setCell ⟨r, 3, none⟩ v') ∧ base ≤ (w10.setCell ⟨r, 3, none⟩ v').heap.size ∧
  (∀ b, b < base → b ≠ r → b ≠ T → (w10.setCell ⟨r, 3, none⟩ v').heap[b]? = wx.heap[b]?) ∧ (w10.setCell ⟨r, 3, none⟩ v').heap[T]? = w9.heap[T]? := by
 have s9 : wx.heap.size ≤ w9.heap.size := o9.size
 have s10 : w9.heap.size + 1 ≤ w10.heap.size := by have := hg.size; simpa using this
 have hrx := lt_of_block hR
 have hown_lt : ∀ g, v.ownBlock = some g → base ≤ g ∧ g < wx.heap.size := fun g e => hown.lt g e
 have hne : some r ≠ v.ownBlock := fun e => by have := (hown_lt r e.symm).1; omega
 have hr9 : w9.heap[r]? = some (.cells #[k, n, p, v] 51 (0, 0)) := o9.heap hR (by omega)
 have hr10 : w10.heap[r]? = some (.cells #[k, n, p, v] 51 (0, 0)) := (hg.block r (by simp; omega) hne).trans ((Lib.alloc_old _ _ _ (lt_of_block hr9)).trans hr9)
 have hne' : v'.ownBlock ≠ some r := fun e => by have := (hown'.lt r e).1; omega
 have hsz : (w10.setCell ⟨r, 3, none⟩ v').heap.size = w10.heap.size := by simp [World.setCell]
 have key : ∀ b, b ≠ r → some b ≠ v.ownBlock → b < w9.heap.size → (w10.setCell ⟨r, 3, none⟩ v').heap[b]? = w9.heap[b]? := fun b h1 h2 h3 => by
  rw [Below.heap_setCell _ _ _ _ (by show b ≠ r; omega), hg.block b (by simp; omega) h2, Lib.alloc_old _ _ _ h3]
 have hq' : ∀ b, base ≤ b → some b ≠ v.ownBlock → b < w9.heap.size → some b ≠ v'.ownBlock := fun b _ h2 h3 e => by
  rcases hloc with h | h
  ·exact h2 (e.trans h)
  ·have := Option.some.inj (e.trans h); omega
 refine ⟨hr10, tset3 hr10, ?_, ?_, ?_, by omega, ?_, ?_⟩
 ·rw [List.length_append]; exact ownsRow_setCell_other hown' hne' _
 ·refine RowP.append (RowP.one ?_) ?_
  ·refine TreeP.keep (fun b hb1 hlt => ?_) (by omega) (fun b hlt hb1 => ?_) _ _ _ _ _ ht
   ·have hb1 : wx.heap.size ≤ b := hb1
    exact key b (by omega) (fun e => by have := (hown_lt b e.symm).2; omega) hlt
   ·have hb1 : wx.heap.size ≤ b := hb1
    exact ⟨by omega, hq' b (by omega) (fun e => by have := (hown_lt b e.symm).2; omega) hlt⟩
  ·refine RowP.keep (fun b hb1 hlt => ?_) (by omega) (fun b hlt hb1 => ⟨hb1.1, hq' b hb1.1 hb1.2 (by omega)⟩) hrow
   rw [key b (by have := hb1.1; omega) hb1.2 (by omega)]
   exact o9.block b hlt (fun e => by have := Option.some.inj e; have := hb1.1; omega)
 ·refine Oth.of_new (hTx.trans ((Oth.refl _ _).drew.trans o9)) ⟨?_, ?_, ?_, by omega, fun b hb1 => ?_⟩
  ·exact hg.os
  ·exact hg.tape
  ·exact hg.output
  ·rw [Below.heap_setCell _ _ _ _ (by show b ≠ r; omega), hg.block b (by simp; omega) (fun e => by have := (hown_lt b e.symm).1; omega), Lib.alloc_old _ _ _ (by omega)]
 ·intro b h1 h2 h3
  rw [key b h2 (fun e => by have := (hown_lt b e.symm).1; omega) (by omega)]
  exact o9.block b (by show b < wx.heap.size; omega) (fun e => h3 (Option.some.inj e))
 ·exact key T (by omega) (fun e => by have := (hown_lt T e.symm).1; omega) (by omega)
theorem trm_parts {base lo : Nat} {W : World} {A : Option Addr} {c : Nat} {ts : List Lfc.Raw} {xs : List Value} (hlo : lo ≤ base) (hown : W.ownsRow base 51 4 (.slice A ts.length c) ts.length xs) (hrow : RowP (fun b => base ≤ b ∧ some b ≠ (Value.slice A ts.length c).ownBlock) W ts xs) :
  TreesAtP (fun b => lo ≤ b) W A ts ∧ ts.length ≤ c := by
 rcases hown.2 with ⟨h1, h2⟩ | ⟨g, cap, cur, hv, hbg, hg, hnc, _, _, _⟩
 ·exact ⟨fun hne => absurd (List.length_eq_zero_iff.1 h2) hne, by rw [h2]; exact Nat.zero_le _⟩
 ·injection hv with e1 _ e3
  subst e1 e3
  refine ⟨fun _ => ⟨g, 0, rfl, lt_of_block hg, by show lo ≤ g; omega, ?_⟩, hnc⟩
  exact (RowP.keep (fun _ _ _ => rfl) (Nat.le_refl _) (fun b _ hb => by have := hb.1; show lo ≤ b; omega) hrow).lie (own_cells hown)
structure MkT (wa : World) (T R base P : Nat) (k : Int) (nm : List UInt8) (p : Int) (ts : List Lfc.Raw) (A : Option Addr) (c : Nat) (xs : List Value) (wr : World) : Prop where
 r : wr.heap[R]? = some (.cells #[.int .i64 k, S nm, .int .i64 p, .slice A ts.length c] 51 (0, 0))
 own : wr.ownsRow base 51 4 (.slice A ts.length c) ts.length xs
 row : RowP (fun b => base ≤ b ∧ some b ≠ (Value.slice A ts.length c).ownBlock) wr ts xs
 oth : Oth T wa wr
 tape : TapeI T wr
 size : base ≤ wr.heap.size
 few : Lfc.Raw.sizes ts + ts.length ≤ ts.length * P
 posB : Lfc.Raw.posBs 100 ts = true
theorem TapeI.like {T : Nat} {w w' : World} (h : TapeI T w) (hk : ∀ b, b ≤ T → w'.heap[b]? = w.heap[b]?) : TapeI T w' := by
 obtain ⟨A, n, c, i, ht, hi, hn, hc⟩ := h.t
 refine ⟨⟨A, n, c, i, (hk T (Nat.le_refl _)).trans ht, hi, hn, fun hp => ?_⟩⟩
 obtain ⟨b, o, hA, hbT, hx⟩ := hc hp
 refine ⟨b, o, hA, hbT, fun k hk2 => ?_⟩
 obtain ⟨x, hx⟩ := hx k hk2
 exact ⟨x, (World.cell?_of_block (hk b (by omega))).trans hx⟩
def MadeT (w : World) (T P : Nat) (e : Ending) (w' : World) : Prop :=
 (∃ t v, e = .returned v ∧ TreeVP (fun b => w.heap.size ≤ b) w' t v ∧ t.size + 1 ≤ P ∧ t.posB 100 = true) ∧ TapeI T w' ∧ Oth T w w'
theorem MkT.step {wa wr w9 w10 : World} {T R base P : Nat} {k p k9 p9 : Int} {nm n9 : List UInt8} {ts ts9 : List Lfc.Raw} {A A9 : Option Addr} {c c9 : Nat} {xs : List Value} {v' : Value} {t9 : Lfc.Raw} (h : MkT wa T R base P k nm p ts A c xs wr) (hTR : T < R) (hRb : R < base) (hwa : wa.heap.size ≤ R)
  (o9 : Oth T wr.drew w9) (T9 : TapeI T w9) (hp9 : TreeP (fun b => wr.drew.heap.size ≤ b) w9 t9 (.int .i64 k9) (S n9) (.int .i64 p9) (.slice A9 ts9.length c9)) (hz9 : t9.size + 1 ≤ P) (hm9 : t9.posB 100 = true)
  (hown' : w10.ownsRow base 51 4 v' (ts.length + 1) (xs ++ [.int .i64 k9, S n9, .int .i64 p9, .slice A9 ts9.length c9]))
  (hg : (w9.alloc (.cells #[.int .i64 k9, S n9, .int .i64 p9, .slice A9 ts9.length c9] 51)).grownBy w10 (Value.slice A ts.length c).ownBlock) (hloc : v'.ownBlock = (Value.slice A ts.length c).ownBlock ∨ v'.ownBlock = some (w9.heap.size + 1)) :
  w10.heap[R]? = some (.cells #[.int .i64 k, S nm, .int .i64 p, .slice A ts.length c] 51 (0, 0)) ∧
  (∀ A10 c10, v' = .slice A10 (ts.length + 1) c10 → MkT wa T R base P k nm p (ts ++ [t9]) A10 c10 (xs ++ [.int .i64 k9, S n9, .int .i64 p9, .slice A9 ts9.length c9]) (w10.setCell ⟨R, 3, none⟩ v')) := by
 obtain ⟨f0, f1, f2, f3, f4, f5, f6, f7⟩ := trm_final hRb hTR h.size hwa h.r h.own h.row h.oth o9 hp9 hown' hg hloc
 refine ⟨f0, ?_⟩
 rintro A10 c10 rfl
 have el : (ts ++ [t9]).length = ts.length + 1 := by rw [List.length_append]; rfl
 refine ⟨by rw [el]; exact f1, by rw [el]; rw [el] at f2; exact f2, by rw [el]; exact f3, f4, T9.like (fun b hb => ?_), f5, ?_, ?_⟩
 ·by_cases hbT : b = T
  ·rw [hbT]; exact f7
  ·rw [f6 b (by omega) (by omega) hbT]
   exact (o9.block b (by have := h.size; show b < wr.heap.size; omega) (fun e => hbT (Option.some.inj e))).symm
 ·rw [el, Lfc.Raw.sizes_app]
  have h1 := h.few
  simp only [Lfc.Raw.sizes]
  have h2 : (ts.length + 1) * P = ts.length * P + P := Nat.succ_mul _ _
  omega
 ·rw [Lfc.posBs_app, h.posB]
  simp only [Lfc.Raw.posBs, hm9, Bool.and_true]
theorem MkT.done {w wa wr : World} {T R base PP P : Nat} {k p : Int} {nm : List UInt8} {ts : List Lfc.Raw} {A : Option Addr} {c : Nat} {xs : List Value} (h : MkT wa T R base PP k nm p ts A c xs wr) (hT : T < w.heap.size) (hwa : Oth T w wa) (hq : wa.heap[w.heap.size]? = some (.cells #[.int .i64 0, S [], .int .i64 0, .slice none 0 0] 51 (0, 0))) (hR : w.heap.size < R) (hb : R < base) (hp : 0 ≤ p ∧ p ≤ 100) (hn : nm.length ≤ 1000000) (hl : ts.length ≤ 2) (hP : P = 2 * PP) (hPP : 1 ≤ PP) (hh : Lfc.headB k p nm ts.length = true) :
  ∃ s1 s2 s3 s4, wr.setCell ⟨w.heap.size, 0, none⟩ (.int .i64 k) = s1 ∧ s1.setCell ⟨w.heap.size, 1, none⟩ (S nm) = s2 ∧ s2.setCell ⟨w.heap.size, 2, none⟩ (.int .i64 p) = s3 ∧ s3.setCell ⟨w.heap.size, 3, none⟩ (.slice A ts.length c) = s4 ∧
   (wr.cell? ⟨w.heap.size, 0, none⟩ = some (.int .i64 0) ∧ s1.cell? ⟨w.heap.size, 1, none⟩ = some (S []) ∧ s2.cell? ⟨w.heap.size, 2, none⟩ = some (.int .i64 0) ∧ s3.cell? ⟨w.heap.size, 3, none⟩ = some (.slice none 0 0)) ∧
   (wr.frozen? ⟨w.heap.size, 0, none⟩ = false ∧ s1.frozen? ⟨w.heap.size, 1, none⟩ = false ∧ s2.frozen? ⟨w.heap.size, 2, none⟩ = false ∧ s3.frozen? ⟨w.heap.size, 3, none⟩ = false) ∧
   s4.heap[w.heap.size]? = some (.cells #[.int .i64 k, S nm, .int .i64 p, .slice A ts.length c] 51 (0, 0)) ∧ Hid (MadeT w T P (.returned (.agg #[.int .i64 k, S nm, .int .i64 p, .slice A ts.length c])) s4) := by
 have hsb := h.size
 have hpt := trm_parts (lo := R) (by omega) h.own h.row
 obtain ⟨s1, s2, s3, s4, g1, g2, g3, g4, hy, hf, hq4, hot⟩ := tput4 (h.oth.heap hq (show w.heap.size ≠ T by omega)) (.int .i64 k) (S nm) (.int .i64 p) (.slice A ts.length c)
 refine ⟨s1, s2, s3, s4, g1, g2, g3, g4, hy, hf, hq4, Lib.hid ⟨⟨.node k nm p ts, _, rfl, TreeVP.mk hn hpt.2 ?_, ?_, ?_⟩, h.tape.oth (by omega) hot, ?_⟩⟩
 ·refine hpt.1.keep (fun b hb hlt => ?_) hot.size (fun b _ hb => by have hb : R ≤ b := hb; show w.heap.size ≤ b; omega)
  have hb : R ≤ b := hb
  exact hot.block b hlt (fun e => by have := Option.some.inj e; omega)
 ·have h1 := h.few
  have hls := Lfc.Raw.sizes_len ts
  simp only [Lfc.Raw.size]
  rcases (show ts.length = 0 ∨ ts.length = 1 ∨ ts.length = 2 by omega) with hl | hl | hl
  ·rw [hl] at h1; omega
  ·rw [hl] at h1; omega
  ·rw [hl] at h1; omega
 ·simp only [Lfc.Raw.posB, h.posB, hh, Bool.and_true, Bool.and_eq_true, decide_eq_true_eq]
  omega
 ·refine Oth.of_new (hwa.trans h.oth) ⟨hot.os, hot.tape, hot.output, hot.size, fun b hb => hot.block b (by omega) (fun e => by have := Option.some.inj e; omega)⟩
theorem MkT.start {wa wx wr : World} {T base P : Nat} {k p : Int} {nm : List UInt8} (hTx : Oth T wa wx) (hx : wx.heap.size + 1 = base) (o : Oth T wx wr) (hq : wr.heap[wx.heap.size]? = some (.cells #[.int .i64 k, S nm, .int .i64 p, .slice none 0 0] 51 (0, 0))) (ht : TapeI T wr) : MkT wa T wx.heap.size base P k nm p [] none 0 [] wr :=
 ⟨hq, ⟨by simp, .inl ⟨rfl, rfl⟩⟩, by rw [RowP], hTx.trans o, ht, by have := lt_of_block hq; omega, by simp [Lfc.Raw.sizes], by simp [Lfc.Raw.posBs]⟩
theorem tone {q : Nat → Prop} {W : World} {g : Nat} {t : Lfc.Raw} {v0 v1 v2 v3 : Value} {ty : TypeId} (ht : TreeP q W t v0 v1 v2 v3) (hq : q g) (hg : W.heap[g]? = some (.cells #[v0, v1, v2, v3] ty (0, 0))) : TreesAtP q W (some ⟨g, 0, none⟩) [t] := fun _ =>
 ⟨g, 0, rfl, lt_of_block hg, hq, (RowP.one ht).lie (fun j u hj => by
  rw [Nat.zero_add]
  match j with
  | 0 => simp at hj; subst hj; exact Lib.cell_of_heap hg 0
  | 1 => simp at hj; subst hj; exact Lib.cell_of_heap hg 1
  | 2 => simp at hj; subst hj; exact Lib.cell_of_heap hg 2
  | 3 => simp at hj; subst hj; exact Lib.cell_of_heap hg 3
  | j + 4 => simp at hj)⟩
theorem made_leaf {w wr : World} {T P : Nat} {k p : Int} {nm : List UInt8} (hT : T < w.heap.size) (ho : Oth T w wr) (ht : TapeI T wr) (hq : wr.heap[w.heap.size]? = some (.cells #[.int .i64 0, S [], .int .i64 0, .slice none 0 0] 51 (0, 0))) (hp : 0 ≤ p ∧ p ≤ 100) (hn : nm.length ≤ 1000000) (hP : 2 ≤ P) (hh : Lfc.headB k p nm 0 = true) :
  ∃ s1 s2 s3 s4, wr.setCell ⟨w.heap.size, 0, none⟩ (.int .i64 k) = s1 ∧ s1.setCell ⟨w.heap.size, 1, none⟩ (S nm) = s2 ∧ s2.setCell ⟨w.heap.size, 2, none⟩ (.int .i64 p) = s3 ∧ s3.setCell ⟨w.heap.size, 3, none⟩ (.slice none 0 0) = s4 ∧
   (wr.cell? ⟨w.heap.size, 0, none⟩ = some (.int .i64 0) ∧ s1.cell? ⟨w.heap.size, 1, none⟩ = some (S []) ∧ s2.cell? ⟨w.heap.size, 2, none⟩ = some (.int .i64 0) ∧ s3.cell? ⟨w.heap.size, 3, none⟩ = some (.slice none 0 0)) ∧
   (wr.frozen? ⟨w.heap.size, 0, none⟩ = false ∧ s1.frozen? ⟨w.heap.size, 1, none⟩ = false ∧ s2.frozen? ⟨w.heap.size, 2, none⟩ = false ∧ s3.frozen? ⟨w.heap.size, 3, none⟩ = false) ∧
   s4.heap[w.heap.size]? = some (.cells #[.int .i64 k, S nm, .int .i64 p, .slice none 0 0] 51 (0, 0)) ∧ Hid (MadeT w T P (.returned (.agg #[.int .i64 k, S nm, .int .i64 p, .slice none 0 0])) s4) := by
 obtain ⟨s1, s2, s3, s4, g1, g2, g3, g4, hy, hf, hq4, hot⟩ := tput4 hq (.int .i64 k) (S nm) (.int .i64 p) (.slice none 0 0)
 refine ⟨s1, s2, s3, s4, g1, g2, g3, g4, hy, hf, hq4, Lib.hid ⟨⟨.node k nm p [], _, rfl, TreeVP.mk (ts := []) hn (Nat.zero_le _) (fun h => absurd rfl h), ?_, ?_⟩, ht.oth (by omega) hot, ?_⟩⟩
 ·simp only [Lfc.Raw.size, Lfc.Raw.sizes]; omega
 ·simp only [Lfc.Raw.posB, Lfc.Raw.posBs, List.length_nil, hh, Bool.and_true, Bool.and_eq_true, decide_eq_true_eq]; omega
 ·exact Oth.of_new ho ⟨hot.os, hot.tape, hot.output, hot.size, fun b hb => hot.block b (Nat.lt_of_lt_of_le hb ho.size) (fun e => by have := Option.some.inj e; omega)⟩
theorem made_lam {w wx w2 w3 : World} {T P PP : Nat} {k2 p2 : Int} {n2 : List UInt8} {ts2 : List Lfc.Raw} {A2 : Option Addr} {c2 : Nat} {t2 : Lfc.Raw} (hT : T < w.heap.size) (ho : Oth T w wx) (hlt : w.heap.size < wx.heap.size) (o2 : Oth T wx w2) (b3 : Below w2.heap.size w2 w3) (q3 : w3.heap[w2.heap.size]? = some (.cells #[.int .i64 k2, S n2, .int .i64 p2, .slice A2 ts2.length c2] 51 (0, 0)))
  (ht : TreeP (fun b => wx.heap.size ≤ b) w2 t2 (.int .i64 k2) (S n2) (.int .i64 p2) (.slice A2 ts2.length c2)) (T2 : TapeI T w2) (hz : t2.size + 1 ≤ PP) (hm : t2.posB 100 = true) (hq : wx.heap[w.heap.size]? = some (.cells #[.int .i64 0, S [], .int .i64 0, .slice none 0 0] 51 (0, 0))) (hP : P = 2 * PP) :
  ∃ s1 s2 s3 s4, w3.setCell ⟨w.heap.size, 0, none⟩ (.int .i64 3) = s1 ∧ s1.setCell ⟨w.heap.size, 1, none⟩ (S []) = s2 ∧ s2.setCell ⟨w.heap.size, 2, none⟩ (.int .i64 0) = s3 ∧ s3.setCell ⟨w.heap.size, 3, none⟩ (.slice (some ⟨w2.heap.size, 0, none⟩) 1 1) = s4 ∧
   (w3.cell? ⟨w.heap.size, 0, none⟩ = some (.int .i64 0) ∧ s1.cell? ⟨w.heap.size, 1, none⟩ = some (S []) ∧ s2.cell? ⟨w.heap.size, 2, none⟩ = some (.int .i64 0) ∧ s3.cell? ⟨w.heap.size, 3, none⟩ = some (.slice none 0 0)) ∧
   (w3.frozen? ⟨w.heap.size, 0, none⟩ = false ∧ s1.frozen? ⟨w.heap.size, 1, none⟩ = false ∧ s2.frozen? ⟨w.heap.size, 2, none⟩ = false ∧ s3.frozen? ⟨w.heap.size, 3, none⟩ = false) ∧
   s4.heap[w.heap.size]? = some (.cells #[.int .i64 3, S [], .int .i64 0, .slice (some ⟨w2.heap.size, 0, none⟩) 1 1] 51 (0, 0)) ∧ Hid (MadeT w T P (.returned (.agg #[.int .i64 3, S [], .int .i64 0, .slice (some ⟨w2.heap.size, 0, none⟩) 1 1])) s4) := by
 have hs2 := o2.size
 have hs3 := b3.size
 obtain ⟨s1, s2, s3, s4, g1, g2, g3, g4, hy, hf, hq4, hot⟩ := tput4 ((b3.block _ (by omega)).trans (o2.heap hq (show w.heap.size ≠ T by omega))) (.int .i64 3) (S []) (.int .i64 0) (.slice (some ⟨w2.heap.size, 0, none⟩) 1 1)
 have hlt3 := lt_of_block q3
 refine ⟨s1, s2, s3, s4, g1, g2, g3, g4, hy, hf, hq4, Lib.hid ⟨⟨.node 3 [] 0 [t2], _, rfl, TreeVP.mk (ts := [t2]) (by simp) (Nat.le_refl _) ?_, ?_, ?_⟩, (T2.below b3).oth (by omega) hot, ?_⟩⟩
 ·refine tone (TreeP.keep (fun b hb hl => ?_) (Nat.le_trans hs3 hot.size) (fun b _ hb => by have hb : wx.heap.size ≤ b := hb; show w.heap.size ≤ b; omega) _ _ _ _ _ ht) (by show w.heap.size ≤ w2.heap.size; omega) (hot.heap q3 (by omega))
  have hb : wx.heap.size ≤ b := hb
  exact (hot.block b (by omega) (fun e => by have := Option.some.inj e; omega)).trans (b3.block b hl)
 ·simp only [Lfc.Raw.size, Lfc.Raw.sizes]; omega
 ·simp only [Lfc.Raw.posB, Lfc.Raw.posBs, hm, List.length_cons, List.length_nil]; decide
 ·refine Oth.of_new ((ho.trans o2).of_new (b3.mono (by have := ho.size; omega))) ⟨hot.os, hot.tape, hot.output, hot.size, fun b hb => hot.block b (by omega) (fun e => by have := Option.some.inj e; omega)⟩
end Go.Proofs.YtadjpadieljjlaaGreat
namespace Go.Proofs.YtadjpadieljjlaaGreat
open Go.RowKit
set_option maxRecDepth 100000 in
set_option maxHeartbeats 2000000 in
theorem sUnder_any (kd ps i : Int) (nm : List UInt8) (A : Option Addr) (l c : Nat) (w : World) :
  Calls Tryz.prog 76 #[.agg #[.int .i64 kd, S nm, .int .i64 ps, .slice A l c], .int .i64 i] w fun e w' => (∃ r : Nat, r ≤ 1 ∧ e = .returned (.int .i64 (r : Int))) ∧ Below w.heap.size w w' := by
 have HB : Hid (Below w.heap.size w (w.alloc (.cells #[.int .i64 kd, S nm, .int .i64 ps, .slice A l c] 51))) := Lib.hid ((Below.refl _ _).alloc (Nat.le_refl _) _)
 by_cases h3 : kd = 3
 ·subst h3
  go_enter Tryz.func76, Tryz.ntmps76
  go_wp2_with fail
  go_ret
  exact ⟨⟨1, by omega, rfl⟩, HB.out⟩
 ·have g3 : (kd == 3) = false := by simpa using h3
  by_cases h2 : kd = 2 ∧ i = 1
  ·obtain ⟨rfl, rfl⟩ := h2
   clear h3
   go_enter Tryz.func76, Tryz.ntmps76
   go_wp2_with fail
   go_ret
   exact ⟨⟨1, by omega, rfl⟩, HB.out⟩
  ·have h4 : (kd == 2) = false ∨ ((kd == 2) = true ∧ (i == 1) = false) := by
    by_cases e : kd = 2
    ·exact .inr ⟨by simp [e], by simpa using fun h => h2 ⟨e, h⟩⟩
    ·exact .inl (by simpa using e)
   clear h2 h3
   rcases h4 with g2 | ⟨g2, g1⟩
   all_goals
    go_enter Tryz.func76, Tryz.ntmps76
    go_wp2_with fail
    go_ret
    exact ⟨⟨0, by omega, rfl⟩, HB.out⟩
end Go.Proofs.YtadjpadieljjlaaGreat
namespace Lfc
theorem headB_var {p p' : Int} {n : List UInt8} {l : Nat} (h : headB 5 p n l = true) : headB 5 p' n l = true := by
 simp [headB] at h ⊢
 exact h
end Lfc
namespace Go.Proofs.YtadjpadieljjlaaGreat
open Go.RowKit Go.Maps
def RenAns (w : World) (n : Nat) (e : Ending) (w' : World) : Prop :=
 (∃ k nm p ts A c b, e = .returned (.tuple #[.agg #[.int .i64 k, S nm, .int .i64 p, .slice A (List.length ts) c], .bool b]) ∧ TreeVP (fun b => w.heap.size ≤ b) w' (.node k nm p ts) (.agg #[.int .i64 k, S nm, .int .i64 p, .slice A (List.length ts) c]) ∧ (Lfc.Raw.node k nm p ts).size ≤ n ∧ ((b = true → Lfc.Raw.posB 1048576 (.node k nm p ts) = true))) ∧ Below w.heap.size w w'
structure RnI (wa : World) (R base : Nat) (k : Int) (nm : List UInt8) (p : Int) (n : Nat) (ts : List Lfc.Raw) (A : Option Addr) (c : Nat) (xs : List Value) (wr : World) : Prop where
 r : wr.heap[R]? = some (.cells #[.int .i64 k, S nm, .int .i64 p, .slice A ts.length c] 51 (0, 0))
 own : wr.ownsRow base 51 4 (.slice A ts.length c) ts.length xs
 row : RowP (fun b => base ≤ b ∧ some b ≠ (Value.slice A ts.length c).ownBlock) wr ts xs
 below : Below R wa wr
 size : base ≤ wr.heap.size
 few : Lfc.Raw.sizes ts ≤ n
 pos : Lfc.Raw.posBs 1048576 ts = true
theorem RnI.step {wa wr w9 w10 : World} {R base n n' : Nat} {k p k9 p9 : Int} {nm n9 : List UInt8} {ts ts9 : List Lfc.Raw} {A A9 : Option Addr} {c c9 : Nat} {xs : List Value} {v' : Value} (h : RnI wa R base k nm p n ts A c xs wr) (hR : 0 < R) (hRb : R < base) (hwa : wa.heap.size ≤ R)
  (b9 : Below wr.heap.size wr w9) (hp9 : TreeP (fun b => wr.heap.size ≤ b) w9 (.node k9 n9 p9 ts9) (.int .i64 k9) (S n9) (.int .i64 p9) (.slice A9 ts9.length c9)) (hn : n + (Lfc.Raw.node k9 n9 p9 ts9).size ≤ n') (hpo : Lfc.Raw.posB 1048576 (.node k9 n9 p9 ts9) = true)
  (hown' : w10.ownsRow base 51 4 v' (ts.length + 1) (xs ++ [.int .i64 k9, S n9, .int .i64 p9, .slice A9 ts9.length c9]))
  (hg : (w9.alloc (.cells #[.int .i64 k9, S n9, .int .i64 p9, .slice A9 ts9.length c9] 51)).grownBy w10 (Value.slice A ts.length c).ownBlock) (hloc : v'.ownBlock = (Value.slice A ts.length c).ownBlock ∨ v'.ownBlock = some (w9.heap.size + 1)) :
  w10.heap[R]? = some (.cells #[.int .i64 k, S nm, .int .i64 p, .slice A ts.length c] 51 (0, 0)) ∧
  (∀ A10 c10, v' = .slice A10 (ts.length + 1) c10 → RnI wa R base k nm p n' (ts ++ [.node k9 n9 p9 ts9]) A10 c10 (xs ++ [.int .i64 k9, S n9, .int .i64 p9, .slice A9 ts9.length c9]) (w10.setCell ⟨R, 3, none⟩ v')) := by
 have o9 : Oth 0 wr.drew w9 := ⟨b9.os, b9.tape, b9.output, b9.size, fun j hj _ => b9.block j hj⟩
 have hsz := h.size
 obtain ⟨f0, f1, f2, f3, f4, f5, f6, f7⟩ := trm_final hRb hR h.size hwa h.r h.own h.row (Oth.of_below (h.below.mono hwa)) o9 hp9 hown' hg hloc
 refine ⟨f0, ?_⟩
 rintro A10 c10 rfl
 have el : (ts ++ [Lfc.Raw.node k9 n9 p9 ts9]).length = ts.length + 1 := by rw [List.length_append]; rfl
 refine ⟨by rw [el]; exact f1, by rw [el]; rw [el] at f2; exact f2, by rw [el]; exact f3, ⟨f4.os, f4.tape, f4.output, f4.size, fun b hb => ?_⟩, f5, ?_, ?_⟩
 ·refine Eq.trans ?_ (h.below.block b hb)
  by_cases hb0 : b = 0
  ·rw [hb0, f7]
   exact b9.block 0 (by omega)
  ·exact f6 b (by omega) (by omega) hb0
 ·rw [Lfc.Raw.sizes_app]
  have h1 := h.few
  simp only [Lfc.Raw.sizes]
  omega
 ·rw [Lfc.posBs_app, h.pos]
  simp only [Lfc.Raw.posBs, hpo, Bool.and_true]
theorem RnI.start {wa wr : World} {R : Nat} {k p : Int} {nm : List UInt8} (hq : wr.heap[R]? = some (.cells #[.int .i64 k, S nm, .int .i64 p, .slice none 0 0] 51 (0, 0))) (hb : Below R wa wr) : RnI wa R (R + 1) k nm p 0 [] none 0 [] wr :=
 ⟨hq, ⟨by simp, .inl ⟨rfl, rfl⟩⟩, by rw [RowP], hb, lt_of_block hq, by simp [Lfc.Raw.sizes], rfl⟩
theorem ren_ret {w w2 wr : World} {G n : Nat} {k p : Int} {nm : List UInt8} {ts : List Lfc.Raw} {A : Option Addr} {c : Nat} {z0 z1 z2 z3 : Value} (b : Bool) (hG : w.heap.size ≤ G) (hb : Below w.heap.size w wr) (hq : wr.heap[G]? = some (.cells #[z0, z1, z2, z3] 51 (0, 0))) (hn : nm.length ≤ 1000000) (hA : TreesAtP (fun b => G < b) wr A ts ∧ ts.length ≤ c) (hsz : Lfc.Raw.sizes ts + 1 ≤ n) (hpo : b = true → Lfc.Raw.posB 1048576 (.node k nm p ts) = true) :
  ∃ s1 s2 s3 s4, wr.setCell ⟨G, 0, none⟩ (.int .i64 k) = s1 ∧ s1.setCell ⟨G, 1, none⟩ (S nm) = s2 ∧ s2.setCell ⟨G, 2, none⟩ (.int .i64 p) = s3 ∧ s3.setCell ⟨G, 3, none⟩ (.slice A ts.length c) = s4 ∧
   (wr.cell? ⟨G, 0, none⟩ = some z0 ∧ s1.cell? ⟨G, 1, none⟩ = some z1 ∧ s2.cell? ⟨G, 2, none⟩ = some z2 ∧ s3.cell? ⟨G, 3, none⟩ = some z3) ∧
   (wr.frozen? ⟨G, 0, none⟩ = false ∧ s1.frozen? ⟨G, 1, none⟩ = false ∧ s2.frozen? ⟨G, 2, none⟩ = false ∧ s3.frozen? ⟨G, 3, none⟩ = false) ∧
   s4.heap[G]? = some (.cells #[.int .i64 k, S nm, .int .i64 p, .slice A ts.length c] 51 (0, 0)) ∧ Hid (RenAns w n (.returned (.tuple #[.agg #[.int .i64 k, S nm, .int .i64 p, .slice A ts.length c], .bool b])) s4) := by
 obtain ⟨s1, s2, s3, s4, g1, g2, g3, g4, hy, hf, hq4, hot⟩ := tput4 hq (.int .i64 k) (S nm) (.int .i64 p) (.slice A ts.length c)
 refine ⟨s1, s2, s3, s4, g1, g2, g3, g4, hy, hf, hq4, Lib.hid ⟨⟨k, nm, p, ts, A, c, b, rfl, TreeVP.mk hn hA.2 ?_, by rw [Lfc.Raw.size]; exact hsz, hpo⟩, Oth.below hb hot hG hb.size⟩⟩
 refine hA.1.keep (fun j hj hlt => hot.block j hlt (fun e => by have e := Option.some.inj e; have hj : G < j := hj; omega)) hot.size (fun j _ hj => by have hj : G < j := hj; show w.heap.size ≤ j; omega)
theorem ren_zero {w w2 wr : World} {G n : Nat} (hG : w.heap.size ≤ G) (hb : Below w.heap.size w wr) (hq : wr.heap[G]? = some (.cells #[.int .i64 0, S [], .int .i64 0, .slice none 0 0] 51 (0, 0))) (hn : 1 ≤ n) :
  ∃ s1 s2 s3 s4, wr.setCell ⟨G, 0, none⟩ (.int .i64 0) = s1 ∧ s1.setCell ⟨G, 1, none⟩ (S []) = s2 ∧ s2.setCell ⟨G, 2, none⟩ (.int .i64 0) = s3 ∧ s3.setCell ⟨G, 3, none⟩ (.slice none 0 0) = s4 ∧
   (wr.cell? ⟨G, 0, none⟩ = some (.int .i64 0) ∧ s1.cell? ⟨G, 1, none⟩ = some (S []) ∧ s2.cell? ⟨G, 2, none⟩ = some (.int .i64 0) ∧ s3.cell? ⟨G, 3, none⟩ = some (.slice none 0 0)) ∧
   (wr.frozen? ⟨G, 0, none⟩ = false ∧ s1.frozen? ⟨G, 1, none⟩ = false ∧ s2.frozen? ⟨G, 2, none⟩ = false ∧ s3.frozen? ⟨G, 3, none⟩ = false) ∧
   s4.heap[G]? = some (.cells #[.int .i64 0, S [], .int .i64 0, .slice none 0 0] 51 (0, 0)) ∧ Hid (RenAns w n (.returned (.tuple #[.agg #[.int .i64 0, S [], .int .i64 0, .slice none 0 0], .bool false])) s4) :=
 ren_ret (w2 := w2) (ts := []) false hG hb hq (by simp) ⟨fun h => absurd rfl h, Nat.le_refl _⟩ (by simp [Lfc.Raw.sizes]; exact hn) (fun h => by cases h)
def RnX (wr : World) (n : Nat) (s11 s12 : Value) (wx : World) : Prop := ∃ g k nm p ts A c b, s11 = .pointer (some ⟨g, 0, none⟩) ∧ s12 = .bool b ∧ wr.heap.size ≤ g ∧ wx.heap[g]? = some (.cells #[.int .i64 k, S nm, .int .i64 p, .slice A (List.length ts) c] 51 (0, 0)) ∧
 TreeVP (fun b => wr.heap.size ≤ b) wx (.node k nm p ts) (.agg #[.int .i64 k, S nm, .int .i64 p, .slice A (List.length ts) c]) ∧ (Lfc.Raw.node k nm p ts).size ≤ n ∧ (b = true → Lfc.Raw.posB 1048576 (.node k nm p ts) = true) ∧ Below wr.heap.size wr wx
end Go.Proofs.YtadjpadieljjlaaGreat
namespace Go.Proofs.YtadjpadieljjlaaGreat
open Go.RowKit Go.Maps
attribute [local go_sem ↓] Go.wp_at_zero Go.wp_at_succ
set_option maxRecDepth 100000 in
set_option maxHeartbeats 16000000 in
theorem sRen_upto (m : Nat) (hmm : m ≤ 1000000) : ∀ (t : Lfc.Raw) (v : Value) (d : Nat) (zs : List Int) (At : Option Addr) (ct : Nat) (w : World), t.size ≤ m → t.posB 1048576 = true → d + t.size ≤ 1000000 → zs.length ≤ 1000000 → IntsO w At zs → TreeV w t v →
  Calls Tryz.prog 83 #[v, .slice At zs.length ct, .int .i64 (d : Int)] w (RenAns w t.size) := by
 induction m with
 | zero => intro t v d zs At ct w h; have := t.size_pos; omega
 | succ m ih0 =>
  intro t v d zs At ct w hm hpo hdt hzl hzs hv
  have HZS := Lib.hid hzs
  obtain ⟨kd, nm, ps, ts⟩ := t
  have hnl := hv.name_le
  obtain ⟨A, c, rfl, hc, hA⟩ := hv.open_
  have hszE : (Lfc.Raw.node kd nm ps ts).size = Lfc.Raw.sizes ts + 1 := by rw [Lfc.Raw.size]
  rw [hszE] at hm hdt ⊢
  have hlen := Lfc.Raw.sizes_len ts
  have IH := Lib.hid (ih0 (by omega))
  have hpo2 : (0 ≤ ps ∧ ps ≤ 1048576) ∧ Lfc.headB kd ps nm ts.length = true ∧ Lfc.Raw.posBs 1048576 ts = true := by
   rw [Lfc.Raw.posB] at hpo
   simp only [Bool.and_eq_true, decide_eq_true_eq] at hpo
   exact ⟨hpo.1.1, hpo.1.2, hpo.2⟩
  obtain ⟨⟨hp0, hp1⟩, hhd, hpos⟩ := hpo2
  have HHD := Lib.hid hhd
  have HPOS := Lib.hid (Lfc.posBs_at 1048576 ts hpos)
  obtain ⟨i0, hi, hz0, hz1, hz2⟩ := term_infoM
  obtain ⟨w1, hw1⟩ : ∃ w1, w.alloc (.cells #[.int .i64 kd, S nm, .int .i64 ps, .slice A ts.length c] 51) = w1 := ⟨_, rfl⟩
  obtain ⟨w2, hw2⟩ : ∃ w2, w1.alloc (.cells #[.int .i64 0, S [], .int .i64 0, .slice none 0 0] 51) = w2 := ⟨_, rfl⟩
  obtain ⟨w3, hw3⟩ : ∃ w3, w2.alloc (.cells #[.int .i64 kd, S nm, .int .i64 ps, .slice none 0 0] 51) = w3 := ⟨_, rfl⟩
  have b1 : Below w.heap.size w w1 := by rw [← hw1]; exact (Below.refl _ _).alloc (Nat.le_refl _) _
  have b2 : Below w1.heap.size w1 w2 := by rw [← hw2]; exact (Below.refl _ _).alloc (Nat.le_refl _) _
  have b3 : Below w2.heap.size w2 w3 := by rw [← hw3]; exact (Below.refl _ _).alloc (Nat.le_refl _) _
  have q1 : w1.heap[w.heap.size]? = some (.cells #[.int .i64 kd, S nm, .int .i64 ps, .slice A ts.length c] 51 (0, 0)) := by rw [← hw1]; exact heap_alloc_new _ _
  have q2 : w2.heap[w1.heap.size]? = some (.cells #[.int .i64 0, S [], .int .i64 0, .slice none 0 0] 51 (0, 0)) := by rw [← hw2]; exact heap_alloc_new _ _
  have q3 : w3.heap[w2.heap.size]? = some (.cells #[.int .i64 kd, S nm, .int .i64 ps, .slice none 0 0] 51 (0, 0)) := by rw [← hw3]; exact heap_alloc_new _ _
  have l1 := lt_of_block q1
  have l2 := lt_of_block q2
  have l3 := lt_of_block q3
  have b12 : Below w.heap.size w w2 := b1.trans (b2.mono (by omega))
  have B12 := Lib.hid b12
  have Q1 := Lib.hid ((b2.block _ l1).trans q1)
  have Q2 := Lib.hid q2
  have Q3 := Lib.hid q3
  have B3 := Lib.hid b3
  have HA := Lib.hid (hA.below b12)
  have HZ2 := Lib.hid (HZS.out.below b12)
  obtain ⟨x0, x1, x2, x3⟩ := cells4t ((b3.block _ (by omega)).trans Q1.out)
  have H3 := Lib.hid hw3
  have hl02 : w.heap.size < w2.heap.size := by omega
  clear hA hv hpo ih0 b1 b2 b3 q1 q2 q3 hzs hw3 hszE hpos b12 hhd
  go_enter Tryz.func83, Tryz.ntmps83
  go_upto_region 1 with fail
  clear hw1 hw2
  obtain ⟨y0, y1, y2, y3⟩ := cells4t Q1.out
  go_upto_region 2 with fail
  rw [H3.out]
  clear y0 y1 y2 y3 H3
  have hv6 : ((kd == 5) = false ∧ ¬ (kd = 5 ∧ (d : Int) ≤ ps)) ∨ ((kd == 5) = true ∧ decide (ps ≥ (d : Int)) = false ∧ ¬ (kd = 5 ∧ (d : Int) ≤ ps)) ∨ ((kd == 5) = true ∧ decide (ps ≥ (d : Int)) = true ∧ (kd = 5 ∧ (d : Int) ≤ ps)) := by
   by_cases e : kd = 5
   ·by_cases e2 : (d : Int) ≤ ps
    ·exact .inr (.inr ⟨by simp [e], by rw [decide_eq_true_eq]; exact e2, e, e2⟩)
    ·exact .inr (.inl ⟨by simp [e], by rw [decide_eq_false_iff_not]; exact e2, fun h => e2 h.2⟩)
   ·exact .inl ⟨by simpa using e, fun h => e h.1⟩
  have HV6 := Lib.hid hv6
  clear hv6
  go_cut [28] (fun s28 wx => s28 = .bool (decide (kd = 5 ∧ (d : Int) ≤ ps)) ∧ wx = w3)
  case first =>
   rcases HV6.out with ⟨g5, h⟩ | ⟨g5, g6, h⟩ | ⟨g5, g6, h⟩
   all_goals
    have HH := Lib.hid h
    clear h HV6
    go_wp2_with fail
    go_meet
    exact ⟨by first | exact (congrArg Value.bool (decide_eq_false HH.out)).symm | exact (congrArg Value.bool (decide_eq_true HH.out)).symm, rfl⟩
  case rest =>
  obtain ⟨rfl, hwc⟩ := hcut
  obtain rfl := hwc.symm
  clear HV6 hwc
  obtain ⟨bv, hbv⟩ : ∃ bv, decide (kd = 5 ∧ (d : Int) ≤ ps) = bv := ⟨_, rfl⟩
  have HBV := Lib.hid hbv
  rw [hbv]
  clear hbv
  go_upto_if 28 with fail
  go_cut [9] (fun s9 wx => ∃ p' : Int, 0 ≤ p' ∧ p' ≤ 1048576 ∧ Hid (Lfc.headB kd p' nm ts.length = true) ∧ Hid (wx.heap[w2.heap.size]? = some (.cells #[.int .i64 kd, S nm, .int .i64 p', .slice none 0 0] 51 (0, 0))) ∧ Hid (Below w2.heap.size w2 wx))
  case first =>
   cases bv
   case true =>
    obtain ⟨rfl, hdp⟩ := of_decide_eq_true HBV.out
    obtain ⟨i, rfl⟩ : ∃ i : Nat, ps = (d : Int) + (i : Int) := ⟨(ps - d).toNat, by omega⟩
    have hge : decide ((d : Int) + (i : Int) ≥ (d : Int)) = true := by rw [decide_eq_true_eq]; omega
    have hwi : IntKind.i64.wrap ((d : Int) + (i : Int) - (d : Int)) = (i : Int) := by rw [IntWalk.i64_in _ (by omega)]; omega
    have hwm : IntKind.i64.wrap (1048576 - (d : Int)) = 1048576 - (d : Int) := IntWalk.i64_in _ (by omega)
    have BAD : Hid (∃ s1 s2 s3 s4, w3.setCell ⟨w1.heap.size, 0, none⟩ (.int .i64 0) = s1 ∧ s1.setCell ⟨w1.heap.size, 1, none⟩ (S []) = s2 ∧ s2.setCell ⟨w1.heap.size, 2, none⟩ (.int .i64 0) = s3 ∧ s3.setCell ⟨w1.heap.size, 3, none⟩ (.slice none 0 0) = s4 ∧
     (w3.cell? ⟨w1.heap.size, 0, none⟩ = some (.int .i64 0) ∧ s1.cell? ⟨w1.heap.size, 1, none⟩ = some (S []) ∧ s2.cell? ⟨w1.heap.size, 2, none⟩ = some (.int .i64 0) ∧ s3.cell? ⟨w1.heap.size, 3, none⟩ = some (.slice none 0 0)) ∧
     (w3.frozen? ⟨w1.heap.size, 0, none⟩ = false ∧ s1.frozen? ⟨w1.heap.size, 1, none⟩ = false ∧ s2.frozen? ⟨w1.heap.size, 2, none⟩ = false ∧ s3.frozen? ⟨w1.heap.size, 3, none⟩ = false) ∧
     s4.heap[w1.heap.size]? = some (.cells #[.int .i64 0, S [], .int .i64 0, .slice none 0 0] 51 (0, 0)) ∧ Hid (RenAns w (Lfc.Raw.sizes ts + 1) (.returned (.tuple #[.agg #[.int .i64 0, S [], .int .i64 0, .slice none 0 0], .bool false])) s4)) := Lib.hid (by
      exact ren_ret (w2 := w2) (ts := []) false (by omega) (B12.out.trans (B3.out.mono (by omega))) ((B3.out.block _ l2).trans Q2.out) (by simp) ⟨fun h => absurd rfl h, Nat.le_refl _⟩ (by simp [Lfc.Raw.sizes]) (fun h => by cases h))
    have HGO : Hid (∀ s, Oth w2.heap.size w3 s → Below w2.heap.size w2 s) := Lib.hid (fun s ho => Oth.below B3.out ho (Nat.le_refl _) (by omega))
    by_cases hi1 : zs.length ≤ i
    ·have hgi : decide ((i : Int) ≥ (zs.length : Int)) = true := by rw [decide_eq_true_eq]; omega
     obtain ⟨s1, s2, s3, s4, g1, g2, g3, g4, ⟨p0, p1, p2, p3⟩, ⟨f0, f1, f2, f3⟩, hq, HZ⟩ := BAD.out
     have HQ := Lib.hid hq
     clear hq BAD
     go_wp2_with fail
     refine bodyPost_ret (results_term2 rfl _ _ _ _ _ _ _ rfl HQ.out) rfl ?_
     exact HZ.out
    ·have hgi : decide ((i : Int) ≥ (zs.length : Int)) = false := by rw [decide_eq_false_iff_not]; omega
     obtain ⟨bz, oz, rfl, hbz, hxz⟩ := HZ2.out (by intro h; rw [h] at hi1; exact hi1 (Nat.zero_le _))
     have xz := (B3.out.cell (p := ⟨bz, oz + i, none⟩) hbz).trans (hxz i (by omega))
     have hi2 : (0 : Int) ≤ (i : Int) := by omega
     have hi3 : (i : Int) < (zs.length : Int) := by omega
     generalize zs.getD i 0 = zi at *
     clear hi1 hxz
     by_cases hzi : zi < 0
     ·have hgz : decide (zi < 0) = true := by rw [decide_eq_true_eq]; omega
      obtain ⟨s1, s2, s3, s4, g1, g2, g3, g4, ⟨p0, p1, p2, p3⟩, ⟨f0, f1, f2, f3⟩, hq, HZ⟩ := BAD.out
      have HQ := Lib.hid hq
      clear hq hzi BAD
      go_wp2_with fail
      refine bodyPost_ret (results_term2 rfl _ _ _ _ _ _ _ rfl HQ.out) rfl ?_
      exact HZ.out
     ·have hgz : decide (zi < 0) = false := by rw [decide_eq_false_iff_not]; omega
      by_cases hzm : 1048576 - (d : Int) < zi
      ·have hgm : decide (zi > 1048576 - (d : Int)) = true := by rw [decide_eq_true_eq]; omega
       obtain ⟨s1, s2, s3, s4, g1, g2, g3, g4, ⟨p0, p1, p2, p3⟩, ⟨f0, f1, f2, f3⟩, hq, HZ⟩ := BAD.out
       have HQ := Lib.hid hq
       clear hq hzi hzm BAD
       go_wp2_with fail
       refine bodyPost_ret (results_term2 rfl _ _ _ _ _ _ _ rfl HQ.out) rfl ?_
       exact HZ.out
      ·have hgm : decide (zi > 1048576 - (d : Int)) = false := by rw [decide_eq_false_iff_not]; omega
       have hwz : IntKind.i64.wrap (zi + (d : Int)) = zi + (d : Int) := IntWalk.i64_in _ (by omega)
       obtain ⟨s1, hs1⟩ : ∃ s1, w3.setCell ⟨w2.heap.size, 2, none⟩ (.int .i64 (zi + (d : Int))) = s1 := ⟨_, rfl⟩
       have y2 := Lib.cell_of_heap Q3.out 2
       have f2 := Lib.frozen_of_heap Q3.out 2
       have QS : Hid (s1.heap[w2.heap.size]? = some (.cells #[.int .i64 5, S nm, .int .i64 (zi + (d : Int)), .slice none 0 0] 51 (0, 0))) := Lib.hid (by rw [← hs1]; simp [World.setCell, Array.getElem?_modify, Q3.out])
       have OS : Hid (Oth w2.heap.size w3 s1) := Lib.hid (by rw [← hs1]; exact Oth.set _ _)
       have hr1 : 0 ≤ zi + (d : Int) := by omega
       have hr2 : zi + (d : Int) ≤ 1048576 := by omega
       clear hzi hzm BAD
       go_wp2_with fail
       go_meet
       exact ⟨_, hr1, hr2, Lib.hid (Lfc.headB_var HHD.out), QS, Lib.hid (HGO.out _ OS.out)⟩
   case false =>
    clear HBV
    go_wp2_with fail
    go_meet
    exact ⟨ps, hp0, hp1, HHD, Q3, B3⟩
  case rest =>
  obtain ⟨p', hp2, hp3, HHP, QO, BO⟩ := hcut
  have I0 : Hid (RnI w2 w2.heap.size (w2.heap.size + 1) kd nm p' (Lfc.Raw.sizes (ts.take 0)) [] none 0 [] wc) := Lib.hid (by rw [List.take_zero, Lfc.Raw.sizes]; exact RnI.start QO.out BO.out)
  clear x0 x1 x2 x3 Q3 B3 QO BO HBV
  go_wp2_with fail
  go_loopw [10] (fun i wr => ∃ (k : Nat) (os : List Lfc.Raw) (A' : Option Addr) (c' : Nat) (xs : List Value), k ≤ ts.length ∧ i = .int .i64 (k : Int) ∧ os.length = k ∧ Hid (RnI w2 w2.heap.size (w2.heap.size + 1) kd nm p' (Lfc.Raw.sizes (ts.take k)) os A' c' xs wr)) (fun i _ => ts.length - (intOf i).toNat)
  case atStart => exact ⟨0, [], none, 0, [], by omega, rfl, rfl, I0⟩
  case round =>
   obtain ⟨k, os, A', c', xs, hk, rfl, hol, HI⟩ := hrel
   clear I0
   have hb2r := HI.out.below
   obtain ⟨x0, x1, x2, x3⟩ := cells4t ((hb2r.block _ hl02).trans Q1.out)
   have hle := Lfc.Raw.sizes_len ts
   have hsr := hb2r.size
   have HBR := Lib.hid hb2r
   clear hb2r
   by_cases hlt : k < ts.length
   ·obtain ⟨b, o, k1, n1, p1, us, B1, c1, rfl, hb, ht, d0, d1, d2, d3, hcu, hB1, hT⟩ := (HA.out.below HBR.out).at_ hlt
    have hk0 : (0 : Int) ≤ (k : Int) := Int.natCast_nonneg _
    have hk1 : (k : Int) < (ts.length : Int) := by omega
    have hmem := Lfc.Raw.sizes_mem ts ts[k] (List.getElem_mem _)
    have hstk : Lfc.Raw.sizes (ts.take (k + 1)) = Lfc.Raw.sizes (ts.take k) + ts[k].size := by rw [List.take_succ_eq_append_getElem hlt, Lfc.Raw.sizes_app]; simp [Lfc.Raw.sizes]
    have HSTK := Lib.hid hstk
    have hlw : w.heap.size < wr.heap.size := by omega
    have SC : Hid (∀ W, Below wr.heap.size wr W → (W.cell? ⟨w.heap.size, 0, none⟩ = some (.int .i64 kd) ∧ W.cell? ⟨w.heap.size, 1, none⟩ = some (S nm) ∧ W.cell? ⟨w.heap.size, 2, none⟩ = some (.int .i64 ps) ∧ W.cell? ⟨w.heap.size, 3, none⟩ = some (.slice (some ⟨b, o, none⟩) ts.length c)) ∧ (W.cell? ⟨b, o + k * 4, none⟩ = some (.int .i64 k1) ∧ W.cell? ⟨b, o + k * 4 + 1, none⟩ = some (S n1) ∧ W.cell? ⟨b, o + k * 4 + 2, none⟩ = some (.int .i64 p1) ∧ W.cell? ⟨b, o + k * 4 + 3, none⟩ = some (.slice B1 us.length c1))) := Lib.hid (fun W hw => ⟨cells4t ((hw.block _ hlw).trans ((HBR.out.block _ hl02).trans Q1.out)), (hw.cell (p := ⟨b, o + k * 4, none⟩) hb).trans d0, (hw.cell (p := ⟨b, o + k * 4 + 1, none⟩) hb).trans d1, (hw.cell (p := ⟨b, o + k * 4 + 2, none⟩) hb).trans d2, (hw.cell (p := ⟨b, o + k * 4 + 3, none⟩) hb).trans d3⟩)
    have HT := Lib.hid hT
    have CU := Lib.hid (fun W => sUnder_any kd ps (k : Int) nm (some ⟨b, o, none⟩) ts.length c W)
    have HPK := Lib.hid (HPOS.out k hlt)
    have CR := Lib.hid (fun W (hw : Below wr.heap.size wr W) (dd : Nat) (hd : dd ≤ d + 1) => IH.out ts[k] _ dd zs At ct W (by omega) HPK.out (by omega) hzl ((HZ2.out.below HBR.out).below hw) (HT.out.below hw))
    have G0 : Below wr.heap.size wr wr.drew := (Below.refl _ _).drew
    have HOL := Lib.hid hol
    clear hB1 ht hT d0 d1 d2 d3 hstk hmem hol hle
    go_upto_region 10 with fail
    clear x0 x1 x2 x3
    go_cut [11, 12] (fun s11 s12 wx => Hid (RnX wr ts[k].size s11 s12 wx))
    case first =>
     refine wp_region_held_drew (S := fun W => (W.cell? ⟨w.heap.size, 0, none⟩ = some (.int .i64 kd) ∧ W.cell? ⟨w.heap.size, 1, none⟩ = some (S nm) ∧ W.cell? ⟨w.heap.size, 2, none⟩ = some (.int .i64 ps) ∧ W.cell? ⟨w.heap.size, 3, none⟩ = some (.slice (some ⟨b, o, none⟩) ts.length c)) ∧ (W.cell? ⟨b, o + k * 4, none⟩ = some (.int .i64 k1) ∧ W.cell? ⟨b, o + k * 4 + 1, none⟩ = some (S n1) ∧ W.cell? ⟨b, o + k * 4 + 2, none⟩ = some (.int .i64 p1) ∧ W.cell? ⟨b, o + k * 4 + 3, none⟩ = some (.slice B1 us.length c1))) (by kernel_rfl) ?_ (fun hHeld => ?_)
     ·exact SC.out _ G0
     refine tk 0 ?_
     refine tk 1 ?_
     refine tk 2 ?_
     refine tk 3 ?_
     refine tk 4 ?_
     refine tk 5 ?_
     refine tk 6 ?_
     refine tk 7 ?_
     refine tk 8 ?_
     refine wpAnyH_ready (rs := [9, 15]) (by kernel_rfl) (by simp) ?_
     refine AllReadyH.cons rfl (fun K hK => ?_) ?_
     ·go_simp
      go_at_call 76
      refine (CU.out _).mono ?_
      rintro e w5 ⟨⟨r, hr, rfl⟩, b5'⟩
      have b5 := (G0).trans (b5'.mono (G0).size)
      have hdr : IntKind.i64.wrap ((d : Int) + (r : Int)) = ((d + r : Nat) : Int) := by rw [IntWalk.i64_in _ (by omega)]; omega
      refine hK.out _ _ (SC.out _ b5) (fun hHeld => ?_)
      clear hK K
      refine nrm ?_
      refine tk 10 ?_
      refine wpAnyH_ready (rs := [11, 15]) (by kernel_rfl) (by simp) ?_
      refine AllReadyH.cons rfl (fun K hK => ?_) ?_
      ·go_simp
       go_at_call 83
       refine (CR.out _ (b5) (d + r) (by omega)).mono ?_
       rintro e w6 ⟨⟨k9, n9, p9, ts9, A9, c9, b9, rfl, hv9, hz9, hq9⟩, b6'⟩
       have b6 := (b5).trans (b6'.mono (b5).size)
       refine hK.out _ _ (SC.out _ b6) (fun hHeld => ?_)
       clear hK K
       refine nrm ?_
       refine tk 12 ?_
       refine tk 13 ?_
       refine tk 14 ?_
       have bA : Below wr.heap.size wr (w6.alloc (.cells #[.int .i64 0, S [], .int .i64 0, .slice none 0 0] 51)) := b6.alloc b6.size _
       have bN : Below wr.heap.size wr (w6.alloc (.cells #[.int .i64 k9, S n9, .int .i64 p9, .slice A9 ts9.length c9] 51)) := b6.alloc b6.size _
       refine wpAnyH_ready (rs := [15]) (by kernel_rfl) (by simp) ?_
       refine AllReadyH.cons rfl (fun K hK => ?_) ?_
       ·go_simp
        refine hK.out _ _ (SC.out _ bA) (fun hHeld => ?_)
        clear hK K
        refine nrm ?_
        have HR : Hid (RnX wr ts[k].size (.pointer (some ⟨w6.heap.size, 0, none⟩)) (.bool b9) (w6.alloc (.cells #[.int .i64 k9, S n9, .int .i64 p9, .slice A9 ts9.length c9] 51))) := Lib.hid ⟨w6.heap.size, k9, n9, p9, ts9, A9, c9, b9, rfl, rfl, b6.size, heap_alloc_new _ _, hv9.keep (fun j _ hlt => Lib.alloc_old _ _ _ hlt) (by simp) (fun j _ hj => Nat.le_trans b5.size hj), hz9, hq9, bN⟩
        clear hv9
        refine wpAnyH_ready (rs := [16]) (by kernel_rfl) (by simp) ?_
        refine AllReadyH.cons rfl (fun K hK => ?_) ?_
        ·go_simp
         refine hK.out _ _ (SC.out _ bN) (fun hHeld => ?_)
         clear hK K
         refine nrm ?_
         refine tk 17 ?_
         refine wpAnyH_done (by kernel_rfl) ?_ _
         go_wp2_with fail
         go_meet
         exact HR
        exact AllReadyH.nil
       exact AllReadyH.nil
      refine AllReadyH.cons rfl (fun K hK => ?_) ?_
      ·have bA : Below wr.heap.size wr (w5.alloc (.cells #[.int .i64 0, S [], .int .i64 0, .slice none 0 0] 51)) := b5.alloc b5.size _
       have hsA : (w5.alloc (.cells #[.int .i64 0, S [], .int .i64 0, .slice none 0 0] 51)).heap.size = w5.heap.size + 1 := by simp
       have hgs : wr.heap.size ≤ w5.heap.size := b5.size
       go_simp
       refine hK.out _ _ (SC.out _ bA) (fun hHeld => ?_)
       clear hK K
       refine nrm ?_
       refine wpAnyH_ready (rs := [11]) (by kernel_rfl) (by simp) ?_
       refine AllReadyH.cons rfl (fun K hK => ?_) ?_
       ·go_simp
        go_at_call 83
        refine (CR.out _ (bA) (d + r) (by omega)).mono ?_
        rintro e w6 ⟨⟨k9, n9, p9, ts9, A9, c9, b9, rfl, hv9, hz9, hq9⟩, b6'⟩
        have b6 := (bA).trans (b6'.mono (bA).size)
        refine hK.out _ _ (SC.out _ b6) (fun hHeld => ?_)
        clear hK K
        refine nrm ?_
        have hjs : ∀ j, (w5.alloc (.cells #[.int .i64 0, S [], .int .i64 0, .slice none 0 0] 51)).heap.size ≤ j → w5.heap.size < j ∧ wr.heap.size ≤ j := fun j hj => by rw [hsA] at hj; omega
        refine tk 12 ?_
        refine tk 13 ?_
        refine tk 14 ?_
        obtain ⟨s1, s2, s3, s4, g1, g2, g3, g4, ⟨y0, y1, y2, y3⟩, ⟨f0, f1, f2, f3⟩, hq, hot⟩ := tput4 ((b6'.block _ (by rw [hsA]; omega)).trans (heap_alloc_new w5 _)) (.int .i64 k9) (S n9) (.int .i64 p9) (.slice A9 ts9.length c9)
        have BS := Lib.hid (Oth.below b6 hot hgs b6.size)
        have HR : Hid (RnX wr ts[k].size (.pointer (some ⟨w5.heap.size, 0, none⟩)) (.bool b9) s4) := Lib.hid ⟨w5.heap.size, k9, n9, p9, ts9, A9, c9, b9, rfl, rfl, hgs, hq, hv9.keep (fun j hj hlt => hot.block j hlt (fun e => by have e := Option.some.inj e; have hj := hjs j hj; omega)) hot.size (fun j _ hj => by have hj := hjs j hj; omega), hz9, hq9, BS.out⟩
        clear hq hot hv9
        refine wpAnyH_ready (rs := [16]) (by kernel_rfl) (by simp) ?_
        refine AllReadyH.cons rfl (fun K hK => ?_) ?_
        ·go_simp
         refine hK.out _ _ (SC.out _ BS.out) (fun hHeld => ?_)
         clear hK K
         refine nrm ?_
         refine tk 17 ?_
         refine wpAnyH_done (by kernel_rfl) ?_ _
         go_wp2_with fail
         go_meet
         exact HR
        exact AllReadyH.nil
       exact AllReadyH.nil
      exact AllReadyH.nil
     refine AllReadyH.cons rfl (fun K hK => ?_) ?_
     ·have bA : Below wr.heap.size wr (wr.drew.alloc (.cells #[.int .i64 0, S [], .int .i64 0, .slice none 0 0] 51)) := G0.alloc G0.size _
      have hsA : (wr.drew.alloc (.cells #[.int .i64 0, S [], .int .i64 0, .slice none 0 0] 51)).heap.size = wr.heap.size + 1 := by simp
      have hgs : wr.heap.size ≤ wr.heap.size := Nat.le_refl _
      go_simp
      refine hK.out _ _ (SC.out _ bA) (fun hHeld => ?_)
      clear hK K
      refine nrm ?_
      refine wpAnyH_ready (rs := [9]) (by kernel_rfl) (by simp) ?_
      refine AllReadyH.cons rfl (fun K hK => ?_) ?_
      ·go_simp
       go_at_call 76
       refine (CU.out _).mono ?_
       rintro e w5 ⟨⟨r, hr, rfl⟩, b5'⟩
       have b5 := (bA).trans (b5'.mono (bA).size)
       have hdr : IntKind.i64.wrap ((d : Int) + (r : Int)) = ((d + r : Nat) : Int) := by rw [IntWalk.i64_in _ (by omega)]; omega
       refine hK.out _ _ (SC.out _ b5) (fun hHeld => ?_)
       clear hK K
       refine nrm ?_
       refine tk 10 ?_
       refine wpAnyH_ready (rs := [11]) (by kernel_rfl) (by simp) ?_
       refine AllReadyH.cons rfl (fun K hK => ?_) ?_
       ·go_simp
        go_at_call 83
        refine (CR.out _ (b5) (d + r) (by omega)).mono ?_
        rintro e w6 ⟨⟨k9, n9, p9, ts9, A9, c9, b9, rfl, hv9, hz9, hq9⟩, b6'⟩
        have b6 := (b5).trans (b6'.mono (b5).size)
        refine hK.out _ _ (SC.out _ b6) (fun hHeld => ?_)
        clear hK K
        refine nrm ?_
        have hs5 := b5'.size
        simp at hs5
        have hjs : ∀ j, w5.heap.size ≤ j → wr.heap.size < j ∧ wr.heap.size ≤ j := fun j hj => by omega
        refine tk 12 ?_
        refine tk 13 ?_
        refine tk 14 ?_
        obtain ⟨s1, s2, s3, s4, g1, g2, g3, g4, ⟨y0, y1, y2, y3⟩, ⟨f0, f1, f2, f3⟩, hq, hot⟩ := tput4 ((b6'.block _ (by omega)).trans ((b5'.block wr.heap.size (by simp)).trans (heap_alloc_new wr _))) (.int .i64 k9) (S n9) (.int .i64 p9) (.slice A9 ts9.length c9)
        have BS := Lib.hid (Oth.below b6 hot hgs b6.size)
        have HR : Hid (RnX wr ts[k].size (.pointer (some ⟨wr.heap.size, 0, none⟩)) (.bool b9) s4) := Lib.hid ⟨wr.heap.size, k9, n9, p9, ts9, A9, c9, b9, rfl, rfl, hgs, hq, hv9.keep (fun j hj hlt => hot.block j hlt (fun e => by have e := Option.some.inj e; have hj := hjs j hj; omega)) hot.size (fun j _ hj => by have hj := hjs j hj; omega), hz9, hq9, BS.out⟩
        clear hq hot hv9
        refine wpAnyH_ready (rs := [16]) (by kernel_rfl) (by simp) ?_
        refine AllReadyH.cons rfl (fun K hK => ?_) ?_
        ·go_simp
         refine hK.out _ _ (SC.out _ BS.out) (fun hHeld => ?_)
         clear hK K
         refine nrm ?_
         refine tk 17 ?_
         refine wpAnyH_done (by kernel_rfl) ?_ _
         go_wp2_with fail
         go_meet
         exact HR
        exact AllReadyH.nil
       exact AllReadyH.nil
      exact AllReadyH.nil
     exact AllReadyH.nil
    case rest =>
     obtain ⟨g, k9, n9, p9, ts9, A9, c9, b9, rfl, rfl, hgr, hqg, hv9, hz9, hq9, bx⟩ := hcut.out
     clear hcut CU CR G0
     have hlw2 : w.heap.size < wc.heap.size := Nat.lt_of_lt_of_le hlw bx.size
     have hxr := bx.size
     obtain ⟨u0, u1, u2, u3⟩ := cells4t hqg
     cases b9
     case false =>
      have hb2 : Below w.heap.size w wc := B12.out.trans ((HBR.out.mono (by omega)).trans (bx.mono (by omega)))
      obtain ⟨s1, s2, s3, s4, g1, g2, g3, g4, ⟨y0, y1, y2, y3⟩, ⟨f0, f1, f2, f3⟩, hq, HZ⟩ := ren_zero (w := w) (w2 := w2) (n := Lfc.Raw.sizes ts + 1) (show w.heap.size ≤ w1.heap.size by omega) hb2 ((bx.block _ (by omega)).trans ((HBR.out.block _ (by omega)).trans Q2.out)) (by omega)
      have HQ := Lib.hid hq
      clear hq hb2 hqg hv9 bx u0 u1 u2 u3 HI
      go_wp2_with fail
      refine bodyPost_ret (results_term2 rfl _ _ _ _ _ _ _ rfl HQ.out) rfl ?_
      exact HZ.out
     case true =>
      obtain ⟨lo, hlo⟩ : ∃ lo, os.length = lo := ⟨_, rfl⟩
      have HLK : Hid (lo = k) := Lib.hid (by rw [← hlo]; exact HOL.out)
      have HR := Lib.hid ((bx.block _ (by have := HI.out.size; omega)).trans HI.out.r)
      have HOWN := Lib.hid HI.out.own
      have hlob : lo ≤ 1000000 := by have := HLK.out; omega
      have hlm : lo + 1 ≤ maxLen := by unfold maxLen; omega
      have hl56 : (lo + 1) * 56 ≤ 140737488355328 := by omega
      have HOW2 : Hid (wc.ownsRow (w2.heap.size + 1) 51 4 (.slice A' lo c') lo xs) := Lib.hid (by rw [← hlo]; exact HI.out.own.kept (Oth.of_below bx : Oth 0 wr wc) (Or.inr (fun e => by have := (HI.out.own.lt _ e).1; omega)))
      have HV9 := Lib.hid hv9
      have HX := Lib.hid (And.intro hz9 (hq9 rfl))
      have BX := Lib.hid bx
      have hrs := HI.out.size
      have yx : wc.cell? ⟨w2.heap.size, 3, none⟩ = some (.slice A' lo c') := by rw [← hlo]; exact Lib.cell_of_heap HR.out 3
      have HLO := Lib.hid hlo
      have hbz : w2.heap.size + 1 ≤ wc.heap.size := by omega
      have h0R : 0 < w2.heap.size := by omega
      clear hqg hv9 hz9 hq9 bx SC HT HPK hlo
      go_wp2_with (at_builtin; refine wpList_append_own_at _ rfl _ _ 27 rfl (w2.heap.size + 1) 51 i0 (.agg #[.int .i64 0, S [], .int .i64 0, .slice none 0 0]) 4 56 Tryz.underlying27 hi hz0 hz1 hz2 rfl (by decide) _ _ _ rfl (HOW2.out.alloc _) ⟨wc.heap.size, 0, none⟩ 1 1 [.int .i64 k9, S n9, .int .i64 p9, .slice A9 ts9.length c9] rfl rfl (fun jj v hj => ocells_new wc _ rfl [.int .i64 k9, S n9, .int .i64 p9, .slice A9 ts9.length c9] 51 jj v hj) oneCellT hlm hl56 (oalloc_le hbz) ?_)
      intro v' w10 hown10 hg10 _ hloc10
      obtain ⟨A10, c10, rfl⟩ := oform hown10
      obtain ⟨_, _, _, _, e9, hP9⟩ := HV9.out
      cases e9
      obtain ⟨hr10, hfin⟩ := HI.out.step (n' := Lfc.Raw.sizes (ts.take (k + 1))) h0R (Nat.lt_succ_self _) (Nat.le_refl _) BX.out hP9 (by have h1 := HSTK.out; have h2 := HX.out.1; omega) HX.out.2 (by rw [HLO.out]; exact hown10) (by rw [HLO.out]; exact hg10) (by rw [HLO.out]; exact hloc10)
      rw [HLO.out] at hr10 hfin
      have HN := Lib.hid (hfin A10 c10 rfl)
      have HL : Hid ((os ++ [Lfc.Raw.node k9 n9 p9 ts9]).length = k + 1) := Lib.hid (by rw [List.length_append, HLO.out, HLK.out]; rfl)
      have y10 := (Lib.cell_of_heap hr10 3 : w10.cell? ⟨w2.heap.size, 3, none⟩ = some (.slice A' lo c'))
      have f10 := Lib.frozen_of_heap hr10 3
      clear hr10 hfin hown10 hg10 hloc10 hP9 HV9
      go_wp2_with fail
      go_roundw
      case rel => exact ⟨k + 1, os ++ [Lfc.Raw.node k9 n9 p9 ts9], A10, c10, _, by omega, by go_num, HL.out, HN⟩
      case measure => simp [intOf]; omega
   ·obtain rfl : k = ts.length := by omega
    obtain ⟨u0, u1, u2, u3⟩ := cells4t HI.out.r
    have hpt := trm_parts (lo := w1.heap.size + 1) (by omega) HI.out.own HI.out.row
    have hfe := HI.out.few
    rw [List.take_length] at hfe
    obtain ⟨s1, s2, s3, s4, g1, g2, g3, g4, ⟨y0, y1, y2, y3⟩, ⟨f0, f1, f2, f3⟩, hq, HZ⟩ := ren_ret (w := w) (w2 := w2) (k := kd) (p := p') (nm := nm) (n := Lfc.Raw.sizes ts + 1) true (show w.heap.size ≤ w1.heap.size by omega) (B12.out.trans (HBR.out.mono (by omega))) ((HBR.out.block _ (by omega)).trans Q2.out) hnl hpt (by omega) (fun _ => by rw [Lfc.Raw.posB, HI.out.pos, hol, HHP.out]; simp; omega)
    have HQ := Lib.hid hq
    clear hq hpt hfe HI hol
    go_wp2_with fail
    refine bodyPost_ret (results_term2 rfl _ _ _ _ _ _ _ rfl HQ.out) rfl ?_
    exact HZ.out
end Go.Proofs.YtadjpadieljjlaaGreat
