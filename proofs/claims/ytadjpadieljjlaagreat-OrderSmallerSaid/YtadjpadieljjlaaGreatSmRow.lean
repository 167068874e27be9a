/- Terms made by a tape: what appending to a term's arguments leaves. -/
import Derived.Test.YtadjpadieljjlaaGreatOrMv
import Derived.Test.YtadjpadieljjlaaGreatOrTape
import Derived.Test.YtadjpadieljjlaaGreatOwnTerm
set_option linter.unusedVariables false
set_option linter.unusedSimpArgs false
namespace Lfc
mutual
/-- All positions are between 0 and b. -/
def Raw.posB (b : Int) : Raw → Bool
  | .node _ _ p ts => decide (0 ≤ p) && decide (p ≤ b) && Raw.posBs b ts
def Raw.posBs (b : Int) : List Raw → Bool
  | [] => true
  | a :: r => Raw.posB b a && Raw.posBs b r
end
theorem posBs_app (b : Int) (x y : List Raw) : Raw.posBs b (x ++ y) = (Raw.posBs b x && Raw.posBs b y) := by
  induction x with
  | nil => simp [Raw.posBs]
  | cons a r ih => simp only [List.cons_append, Raw.posBs, ih, Bool.and_assoc]
theorem posBs_at (b : Int) : ∀ (ts : List Raw), Raw.posBs b ts = true → ∀ k (h : k < ts.length), ts[k].posB b = true
  | [], _, k, h => by simp at h
  | a :: r, hs, k, h => by
    rw [Raw.posBs, Bool.and_eq_true] at hs
    cases k with
    | zero => exact hs.1
    | succ k => exact posBs_at b r hs.2 k (by simpa using h)
theorem Raw.ex (t : Raw) : ∃ k n p ts, t = .node k n p ts := by obtain ⟨k, n, p, ts⟩ := t; exact ⟨_, _, _, _, rfl⟩
end Lfc
namespace Go.Proofs.YtadjpadieljjlaaGreat
open Go.RowKit Go.Maps
theorem tset3 {W : World} {r : Nat} {v0 v1 v2 v3 v : Value} {t : TypeId} (h : W.heap[r]? = some (.cells #[v0, v1, v2, v3] t (0, 0))) : (W.setCell ⟨r, 3, none⟩ v).heap[r]? = some (.cells #[v0, v1, v2, v] t (0, 0)) := by
  simp [World.setCell, Array.getElem?_modify, h]
theorem oneCellT {k p : Int} {n : List UInt8} {A : Option Addr} {l c : Nat} : ∀ u ∈ [Value.int .i64 k, S n, .int .i64 p, .slice A l c], u.oneCell' = true := by
  intro u hu
  simp at hu
  rcases hu with rfl | rfl | rfl | rfl <;> rfl
theorem term_infoM : ∃ i, Tryz.prog.info? 51 = some i ∧ i.zero = some (.agg #[.int .i64 0, S [], .int .i64 0, .slice none 0 0]) ∧ i.size = 4 ∧ i.bytes = 56 := by
  obtain ⟨i0, hi, hz0, hz1, hz2⟩ := info_parts termInfo
  exact ⟨i0, hi, hz0, hz1, hz2⟩
/-- A term is put behind the arguments of the term in block r: what holds then; block T alone was written besides. -/
theorem trm_final {base T r : Nat} {wx w9 w10 wa : World} {v v' k n p a0 a1 a2 a3 : Value} {ts : List Lfc.Raw} {xs : List Value} {t : Lfc.Raw} (hr : r < base) (hT : T < r) (hb : base ≤ wx.heap.size) (hwa : wa.heap.size ≤ r)
    (hR : wx.heap[r]? = some (.cells #[k, n, p, v] 51 (0, 0))) (hown : wx.ownsRow base 51 4 v ts.length xs) (hrow : RowP (fun b => base ≤ b ∧ some b ≠ v.ownBlock) wx ts xs)
    (hTx : Oth T wa wx) (o9 : Oth T wx.drew w9) (ht : TreeP (fun b => wx.drew.heap.size ≤ b) w9 t a0 a1 a2 a3)
    (hown' : w10.ownsRow base 51 4 v' (ts.length + 1) (xs ++ [a0, a1, a2, a3]))
    (hg : (w9.alloc (.cells #[a0, a1, a2, a3] 51)).grownBy w10 v.ownBlock) (hloc : v'.ownBlock = v.ownBlock ∨ v'.ownBlock = some (w9.heap.size + 1)) :
    w10.heap[r]? = some (.cells #[k, n, p, v] 51 (0, 0)) ∧ (w10.setCell ⟨r, 3, none⟩ v').heap[r]? = some (.cells #[k, n, p, v'] 51 (0, 0)) ∧ (w10.setCell ⟨r, 3, none⟩ v').ownsRow base 51 4 v' (ts ++ [t]).length (xs ++ [a0, a1, a2, a3]) ∧
    RowP (fun b => base ≤ b ∧ some b ≠ v'.ownBlock) (w10.setCell ⟨r, 3, none⟩ v') (ts ++ [t]) (xs ++ [a0, a1, a2, a3]) ∧ Oth T wa (w10.setCell ⟨r, 3, none⟩ v') ∧ base ≤ (w10.setCell ⟨r, 3, none⟩ v').heap.size ∧
    (∀ b, b < base → b ≠ r → b ≠ T → (w10.setCell ⟨r, 3, none⟩ v').heap[b]? = wx.heap[b]?) ∧ (w10.setCell ⟨r, 3, none⟩ v').heap[T]? = w9.heap[T]? := by
  have s9 : wx.heap.size ≤ w9.heap.size := o9.size
  have s10 : w9.heap.size + 1 ≤ w10.heap.size := by have := hg.size; simpa using this
  have hrx := lt_of_block hR
  have hown_lt : ∀ g, v.ownBlock = some g → base ≤ g ∧ g < wx.heap.size := fun g e => hown.lt g e
  have hne : some r ≠ v.ownBlock := fun e => by have := (hown_lt r e.symm).1; omega
  have hr9 : w9.heap[r]? = some (.cells #[k, n, p, v] 51 (0, 0)) := o9.heap hR (by omega)
  have hr10 : w10.heap[r]? = some (.cells #[k, n, p, v] 51 (0, 0)) := (hg.block r (by simp; omega) hne).trans ((Lib.alloc_old _ _ _ (lt_of_block hr9)).trans hr9)
  have hne' : v'.ownBlock ≠ some r := fun e => by have := (hown'.lt r e).1; omega
  have hsz : (w10.setCell ⟨r, 3, none⟩ v').heap.size = w10.heap.size := by simp [World.setCell]
  have key : ∀ b, b ≠ r → some b ≠ v.ownBlock → b < w9.heap.size → (w10.setCell ⟨r, 3, none⟩ v').heap[b]? = w9.heap[b]? := fun b h1 h2 h3 => by
    rw [Below.heap_setCell _ _ _ _ (by show b ≠ r; omega), hg.block b (by simp; omega) h2, Lib.alloc_old _ _ _ h3]
  have hq' : ∀ b, base ≤ b → some b ≠ v.ownBlock → b < w9.heap.size → some b ≠ v'.ownBlock := fun b _ h2 h3 e => by
    rcases hloc with h | h
    · exact h2 (e.trans h)
    · have := Option.some.inj (e.trans h); omega
  refine ⟨hr10, tset3 hr10, ?_, ?_, ?_, by omega, ?_, ?_⟩
  · rw [List.length_append]; exact ownsRow_setCell_other hown' hne' _
  · refine RowP.append (RowP.one ?_) ?_
    · refine TreeP.keep (fun b hb1 hlt => ?_) (by omega) (fun b hlt hb1 => ?_) _ _ _ _ _ ht
      · have hb1 : wx.heap.size ≤ b := hb1
        exact key b (by omega) (fun e => by have := (hown_lt b e.symm).2; omega) hlt
      · have hb1 : wx.heap.size ≤ b := hb1
        exact ⟨by omega, hq' b (by omega) (fun e => by have := (hown_lt b e.symm).2; omega) hlt⟩
    · refine RowP.keep (fun b hb1 hlt => ?_) (by omega) (fun b hlt hb1 => ⟨hb1.1, hq' b hb1.1 hb1.2 (by omega)⟩) hrow
      rw [key b (by have := hb1.1; omega) hb1.2 (by omega)]
      exact o9.block b hlt (fun e => by have := Option.some.inj e; have := hb1.1; omega)
  · refine Oth.of_new (hTx.trans ((Oth.refl _ _).drew.trans o9)) ⟨?_, ?_, ?_, by omega, fun b hb1 => ?_⟩
    · exact hg.os
    · exact hg.tape
    · exact hg.output
    · rw [Below.heap_setCell _ _ _ _ (by show b ≠ r; omega), hg.block b (by simp; omega) (fun e => by have := (hown_lt b e.symm).1; omega), Lib.alloc_old _ _ _ (by omega)]
  · intro b h1 h2 h3
    rw [key b h2 (fun e => by have := (hown_lt b e.symm).1; omega) (by omega)]
    exact o9.block b (by show b < wx.heap.size; omega) (fun e => h3 (Option.some.inj e))
  · exact key T (by omega) (fun e => by have := (hown_lt T e.symm).1; omega) (by omega)
theorem trm_parts {base lo : Nat} {W : World} {A : Option Addr} {c : Nat} {ts : List Lfc.Raw} {xs : List Value} (hlo : lo ≤ base) (hown : W.ownsRow base 51 4 (.slice A ts.length c) ts.length xs) (hrow : RowP (fun b => base ≤ b ∧ some b ≠ (Value.slice A ts.length c).ownBlock) W ts xs) :
    TreesAtP (fun b => lo ≤ b) W A ts ∧ ts.length ≤ c := by
  rcases hown.2 with ⟨h1, h2⟩ | ⟨g, cap, cur, hv, hbg, hg, hnc, _, _, _⟩
  · exact ⟨fun hne => absurd (List.length_eq_zero_iff.1 h2) hne, by rw [h2]; exact Nat.zero_le _⟩
  · injection hv with e1 _ e3
    subst e1 e3
    refine ⟨fun _ => ⟨g, 0, rfl, lt_of_block hg, by show lo ≤ g; omega, ?_⟩, hnc⟩
    exact (RowP.keep (fun _ _ _ => rfl) (Nat.le_refl _) (fun b _ hb => by have := hb.1; show lo ≤ b; omega) hrow).lie (own_cells hown)
/-- The state of a loop that appends: the term in block R, its arguments, the tape in block T. -/
structure MkT (wa : World) (T R base P : Nat) (k : Int) (nm : List UInt8) (p : Int) (ts : List Lfc.Raw) (A : Option Addr) (c : Nat) (xs : List Value) (wr : World) : Prop where
  r : wr.heap[R]? = some (.cells #[.int .i64 k, S nm, .int .i64 p, .slice A ts.length c] 51 (0, 0))
  own : wr.ownsRow base 51 4 (.slice A ts.length c) ts.length xs
  row : RowP (fun b => base ≤ b ∧ some b ≠ (Value.slice A ts.length c).ownBlock) wr ts xs
  oth : Oth T wa wr
  tape : TapeI T wr
  size : base ≤ wr.heap.size
  few : Lfc.Raw.sizes ts + ts.length ≤ ts.length * P
  posB : Lfc.Raw.posBs 100 ts = true
theorem TapeI.like {T : Nat} {w w' : World} (h : TapeI T w) (hk : ∀ b, b ≤ T → w'.heap[b]? = w.heap[b]?) : TapeI T w' := by
  obtain ⟨A, n, c, i, ht, hi, hn, hc⟩ := h.t
  refine ⟨⟨A, n, c, i, (hk T (Nat.le_refl _)).trans ht, hi, hn, fun hp => ?_⟩⟩
  obtain ⟨b, o, hA, hbT, hx⟩ := hc hp
  refine ⟨b, o, hA, hbT, fun k hk2 => ?_⟩
  obtain ⟨x, hx⟩ := hx k hk2
  exact ⟨x, (World.cell?_of_block (hk b (by omega))).trans hx⟩
/-- What a maker of terms answers. -/
def MadeT (w : World) (T P : Nat) (e : Ending) (w' : World) : Prop :=
  (∃ t v, e = .returned v ∧ TreeVP (fun b => w.heap.size ≤ b) w' t v ∧ t.size + 1 ≤ P ∧ t.posB 100 = true) ∧ TapeI T w' ∧ Oth T w w'
theorem MkT.step {wa wr w9 w10 : World} {T R base P : Nat} {k p k9 p9 : Int} {nm n9 : List UInt8} {ts ts9 : List Lfc.Raw} {A A9 : Option Addr} {c c9 : Nat} {xs : List Value} {v' : Value} {t9 : Lfc.Raw} (h : MkT wa T R base P k nm p ts A c xs wr) (hTR : T < R) (hRb : R < base) (hwa : wa.heap.size ≤ R)
    (o9 : Oth T wr.drew w9) (T9 : TapeI T w9) (hp9 : TreeP (fun b => wr.drew.heap.size ≤ b) w9 t9 (.int .i64 k9) (S n9) (.int .i64 p9) (.slice A9 ts9.length c9)) (hz9 : t9.size + 1 ≤ P) (hm9 : t9.posB 100 = true)
    (hown' : w10.ownsRow base 51 4 v' (ts.length + 1) (xs ++ [.int .i64 k9, S n9, .int .i64 p9, .slice A9 ts9.length c9]))
    (hg : (w9.alloc (.cells #[.int .i64 k9, S n9, .int .i64 p9, .slice A9 ts9.length c9] 51)).grownBy w10 (Value.slice A ts.length c).ownBlock) (hloc : v'.ownBlock = (Value.slice A ts.length c).ownBlock ∨ v'.ownBlock = some (w9.heap.size + 1)) :
    w10.heap[R]? = some (.cells #[.int .i64 k, S nm, .int .i64 p, .slice A ts.length c] 51 (0, 0)) ∧
    (∀ A10 c10, v' = .slice A10 (ts.length + 1) c10 → MkT wa T R base P k nm p (ts ++ [t9]) A10 c10 (xs ++ [.int .i64 k9, S n9, .int .i64 p9, .slice A9 ts9.length c9]) (w10.setCell ⟨R, 3, none⟩ v')) := by
  obtain ⟨f0, f1, f2, f3, f4, f5, f6, f7⟩ := trm_final hRb hTR h.size hwa h.r h.own h.row h.oth o9 hp9 hown' hg hloc
  refine ⟨f0, ?_⟩
  rintro A10 c10 rfl
  have el : (ts ++ [t9]).length = ts.length + 1 := by rw [List.length_append]; rfl
  refine ⟨by rw [el]; exact f1, by rw [el]; rw [el] at f2; exact f2, by rw [el]; exact f3, f4, T9.like (fun b hb => ?_), f5, ?_, ?_⟩
  · by_cases hbT : b = T
    · rw [hbT]; exact f7
    · rw [f6 b (by omega) (by omega) hbT]
      exact (o9.block b (by have := h.size; show b < wr.heap.size; omega) (fun e => hbT (Option.some.inj e))).symm
  · rw [el, Lfc.Raw.sizes_app]
    have h1 := h.few
    simp only [Lfc.Raw.sizes]
    have h2 : (ts.length + 1) * P = ts.length * P + P := Nat.succ_mul _ _
    omega
  · rw [Lfc.posBs_app, h.posB]
    simp only [Lfc.Raw.posBs, hm9, Bool.and_true]
theorem MkT.done {w wa wr : World} {T R base PP P : Nat} {k p : Int} {nm : List UInt8} {ts : List Lfc.Raw} {A : Option Addr} {c : Nat} {xs : List Value} (h : MkT wa T R base PP k nm p ts A c xs wr) (hT : T < w.heap.size) (hwa : Oth T w wa) (hq : wa.heap[w.heap.size]? = some (.cells #[.int .i64 0, S [], .int .i64 0, .slice none 0 0] 51 (0, 0))) (hR : w.heap.size < R) (hb : R < base) (hp : 0 ≤ p ∧ p ≤ 100) (hn : nm.length ≤ 1000000) (hl : ts.length ≤ 2) (hP : P = 2 * PP) (hPP : 1 ≤ PP) :
    ∃ s1 s2 s3 s4, wr.setCell ⟨w.heap.size, 0, none⟩ (.int .i64 k) = s1 ∧ s1.setCell ⟨w.heap.size, 1, none⟩ (S nm) = s2 ∧ s2.setCell ⟨w.heap.size, 2, none⟩ (.int .i64 p) = s3 ∧ s3.setCell ⟨w.heap.size, 3, none⟩ (.slice A ts.length c) = s4 ∧
      (wr.cell? ⟨w.heap.size, 0, none⟩ = some (.int .i64 0) ∧ s1.cell? ⟨w.heap.size, 1, none⟩ = some (S []) ∧ s2.cell? ⟨w.heap.size, 2, none⟩ = some (.int .i64 0) ∧ s3.cell? ⟨w.heap.size, 3, none⟩ = some (.slice none 0 0)) ∧
      (wr.frozen? ⟨w.heap.size, 0, none⟩ = false ∧ s1.frozen? ⟨w.heap.size, 1, none⟩ = false ∧ s2.frozen? ⟨w.heap.size, 2, none⟩ = false ∧ s3.frozen? ⟨w.heap.size, 3, none⟩ = false) ∧
      s4.heap[w.heap.size]? = some (.cells #[.int .i64 k, S nm, .int .i64 p, .slice A ts.length c] 51 (0, 0)) ∧ Hid (MadeT w T P (.returned (.agg #[.int .i64 k, S nm, .int .i64 p, .slice A ts.length c])) s4) := by
  have hsb := h.size
  have hpt := trm_parts (lo := R) (by omega) h.own h.row
  obtain ⟨s1, s2, s3, s4, g1, g2, g3, g4, hy, hf, hq4, hot⟩ := tput4 (h.oth.heap hq (show w.heap.size ≠ T by omega)) (.int .i64 k) (S nm) (.int .i64 p) (.slice A ts.length c)
  refine ⟨s1, s2, s3, s4, g1, g2, g3, g4, hy, hf, hq4, Lib.hid ⟨⟨.node k nm p ts, _, rfl, TreeVP.mk hn hpt.2 ?_, ?_, ?_⟩, h.tape.oth (by omega) hot, ?_⟩⟩
  · refine hpt.1.keep (fun b hb hlt => ?_) hot.size (fun b _ hb => by have hb : R ≤ b := hb; show w.heap.size ≤ b; omega)
    have hb : R ≤ b := hb
    exact hot.block b hlt (fun e => by have := Option.some.inj e; omega)
  · have h1 := h.few
    have hls := Lfc.Raw.sizes_len ts
    simp only [Lfc.Raw.size]
    rcases (show ts.length = 0 ∨ ts.length = 1 ∨ ts.length = 2 by omega) with hl | hl | hl
    · rw [hl] at h1; omega
    · rw [hl] at h1; omega
    · rw [hl] at h1; omega
  · simp only [Lfc.Raw.posB, h.posB, Bool.and_true, Bool.and_eq_true, decide_eq_true_eq]
    omega
  · refine Oth.of_new (hwa.trans h.oth) ⟨hot.os, hot.tape, hot.output, hot.size, fun b hb => hot.block b (by omega) (fun e => by have := Option.some.inj e; omega)⟩
theorem MkT.start {wa wx wr : World} {T base P : Nat} {k p : Int} {nm : List UInt8} (hTx : Oth T wa wx) (hx : wx.heap.size + 1 = base) (o : Oth T wx wr) (hq : wr.heap[wx.heap.size]? = some (.cells #[.int .i64 k, S nm, .int .i64 p, .slice none 0 0] 51 (0, 0))) (ht : TapeI T wr) : MkT wa T wx.heap.size base P k nm p [] none 0 [] wr :=
  ⟨hq, ⟨by simp, .inl ⟨rfl, rfl⟩⟩, by rw [RowP], hTx.trans o, ht, by have := lt_of_block hq; omega, by simp [Lfc.Raw.sizes], by simp [Lfc.Raw.posBs]⟩
theorem tone {q : Nat → Prop} {W : World} {g : Nat} {t : Lfc.Raw} {v0 v1 v2 v3 : Value} {ty : TypeId} (ht : TreeP q W t v0 v1 v2 v3) (hq : q g) (hg : W.heap[g]? = some (.cells #[v0, v1, v2, v3] ty (0, 0))) : TreesAtP q W (some ⟨g, 0, none⟩) [t] := fun _ =>
  ⟨g, 0, rfl, lt_of_block hg, hq, (RowP.one ht).lie (fun j u hj => by
    rw [Nat.zero_add]
    match j with
    | 0 => simp at hj; subst hj; exact Lib.cell_of_heap hg 0
    | 1 => simp at hj; subst hj; exact Lib.cell_of_heap hg 1
    | 2 => simp at hj; subst hj; exact Lib.cell_of_heap hg 2
    | 3 => simp at hj; subst hj; exact Lib.cell_of_heap hg 3
    | j + 4 => simp at hj)⟩
/-- A leaf is answered: the four cells of the result. -/
theorem made_leaf {w wr : World} {T P : Nat} {k p : Int} {nm : List UInt8} (hT : T < w.heap.size) (ho : Oth T w wr) (ht : TapeI T wr) (hq : wr.heap[w.heap.size]? = some (.cells #[.int .i64 0, S [], .int .i64 0, .slice none 0 0] 51 (0, 0))) (hp : 0 ≤ p ∧ p ≤ 100) (hn : nm.length ≤ 1000000) (hP : 2 ≤ P) :
    ∃ s1 s2 s3 s4, wr.setCell ⟨w.heap.size, 0, none⟩ (.int .i64 k) = s1 ∧ s1.setCell ⟨w.heap.size, 1, none⟩ (S nm) = s2 ∧ s2.setCell ⟨w.heap.size, 2, none⟩ (.int .i64 p) = s3 ∧ s3.setCell ⟨w.heap.size, 3, none⟩ (.slice none 0 0) = s4 ∧
      (wr.cell? ⟨w.heap.size, 0, none⟩ = some (.int .i64 0) ∧ s1.cell? ⟨w.heap.size, 1, none⟩ = some (S []) ∧ s2.cell? ⟨w.heap.size, 2, none⟩ = some (.int .i64 0) ∧ s3.cell? ⟨w.heap.size, 3, none⟩ = some (.slice none 0 0)) ∧
      (wr.frozen? ⟨w.heap.size, 0, none⟩ = false ∧ s1.frozen? ⟨w.heap.size, 1, none⟩ = false ∧ s2.frozen? ⟨w.heap.size, 2, none⟩ = false ∧ s3.frozen? ⟨w.heap.size, 3, none⟩ = false) ∧
      s4.heap[w.heap.size]? = some (.cells #[.int .i64 k, S nm, .int .i64 p, .slice none 0 0] 51 (0, 0)) ∧ Hid (MadeT w T P (.returned (.agg #[.int .i64 k, S nm, .int .i64 p, .slice none 0 0])) s4) := by
  obtain ⟨s1, s2, s3, s4, g1, g2, g3, g4, hy, hf, hq4, hot⟩ := tput4 hq (.int .i64 k) (S nm) (.int .i64 p) (.slice none 0 0)
  refine ⟨s1, s2, s3, s4, g1, g2, g3, g4, hy, hf, hq4, Lib.hid ⟨⟨.node k nm p [], _, rfl, TreeVP.mk (ts := []) hn (Nat.zero_le _) (fun h => absurd rfl h), ?_, ?_⟩, ht.oth (by omega) hot, ?_⟩⟩
  · simp only [Lfc.Raw.size, Lfc.Raw.sizes]; omega
  · simp only [Lfc.Raw.posB, Lfc.Raw.posBs, Bool.and_true, Bool.and_eq_true, decide_eq_true_eq]; omega
  · exact Oth.of_new ho ⟨hot.os, hot.tape, hot.output, hot.size, fun b hb => hot.block b (Nat.lt_of_lt_of_le hb ho.size) (fun e => by have := Option.some.inj e; omega)⟩
/-- A binder over a term is answered. -/
theorem made_lam {w wx w2 w3 : World} {T P PP : Nat} {k2 p2 : Int} {n2 : List UInt8} {ts2 : List Lfc.Raw} {A2 : Option Addr} {c2 : Nat} {t2 : Lfc.Raw} (hT : T < w.heap.size) (ho : Oth T w wx) (hlt : w.heap.size < wx.heap.size) (o2 : Oth T wx w2) (b3 : Below w2.heap.size w2 w3) (q3 : w3.heap[w2.heap.size]? = some (.cells #[.int .i64 k2, S n2, .int .i64 p2, .slice A2 ts2.length c2] 51 (0, 0)))
    (ht : TreeP (fun b => wx.heap.size ≤ b) w2 t2 (.int .i64 k2) (S n2) (.int .i64 p2) (.slice A2 ts2.length c2)) (T2 : TapeI T w2) (hz : t2.size + 1 ≤ PP) (hm : t2.posB 100 = true) (hq : wx.heap[w.heap.size]? = some (.cells #[.int .i64 0, S [], .int .i64 0, .slice none 0 0] 51 (0, 0))) (hP : P = 2 * PP) :
    ∃ s1 s2 s3 s4, w3.setCell ⟨w.heap.size, 0, none⟩ (.int .i64 3) = s1 ∧ s1.setCell ⟨w.heap.size, 1, none⟩ (S []) = s2 ∧ s2.setCell ⟨w.heap.size, 2, none⟩ (.int .i64 0) = s3 ∧ s3.setCell ⟨w.heap.size, 3, none⟩ (.slice (some ⟨w2.heap.size, 0, none⟩) 1 1) = s4 ∧
      (w3.cell? ⟨w.heap.size, 0, none⟩ = some (.int .i64 0) ∧ s1.cell? ⟨w.heap.size, 1, none⟩ = some (S []) ∧ s2.cell? ⟨w.heap.size, 2, none⟩ = some (.int .i64 0) ∧ s3.cell? ⟨w.heap.size, 3, none⟩ = some (.slice none 0 0)) ∧
      (w3.frozen? ⟨w.heap.size, 0, none⟩ = false ∧ s1.frozen? ⟨w.heap.size, 1, none⟩ = false ∧ s2.frozen? ⟨w.heap.size, 2, none⟩ = false ∧ s3.frozen? ⟨w.heap.size, 3, none⟩ = false) ∧
      s4.heap[w.heap.size]? = some (.cells #[.int .i64 3, S [], .int .i64 0, .slice (some ⟨w2.heap.size, 0, none⟩) 1 1] 51 (0, 0)) ∧ Hid (MadeT w T P (.returned (.agg #[.int .i64 3, S [], .int .i64 0, .slice (some ⟨w2.heap.size, 0, none⟩) 1 1])) s4) := by
  have hs2 := o2.size
  have hs3 := b3.size
  obtain ⟨s1, s2, s3, s4, g1, g2, g3, g4, hy, hf, hq4, hot⟩ := tput4 ((b3.block _ (by omega)).trans (o2.heap hq (show w.heap.size ≠ T by omega))) (.int .i64 3) (S []) (.int .i64 0) (.slice (some ⟨w2.heap.size, 0, none⟩) 1 1)
  have hlt3 := lt_of_block q3
  refine ⟨s1, s2, s3, s4, g1, g2, g3, g4, hy, hf, hq4, Lib.hid ⟨⟨.node 3 [] 0 [t2], _, rfl, TreeVP.mk (ts := [t2]) (by simp) (Nat.le_refl _) ?_, ?_, ?_⟩, (T2.below b3).oth (by omega) hot, ?_⟩⟩
  · refine tone (TreeP.keep (fun b hb hl => ?_) (Nat.le_trans hs3 hot.size) (fun b _ hb => by have hb : wx.heap.size ≤ b := hb; show w.heap.size ≤ b; omega) _ _ _ _ _ ht) (by show w.heap.size ≤ w2.heap.size; omega) (hot.heap q3 (by omega))
    have hb : wx.heap.size ≤ b := hb
    exact (hot.block b (by omega) (fun e => by have := Option.some.inj e; omega)).trans (b3.block b hl)
  · simp only [Lfc.Raw.size, Lfc.Raw.sizes]; omega
  · simp only [Lfc.Raw.posB, Lfc.Raw.posBs, hm]; decide
  · refine Oth.of_new ((ho.trans o2).of_new (b3.mono (by have := ho.size; omega))) ⟨hot.os, hot.tape, hot.output, hot.size, fun b hb => hot.block b (by omega) (fun e => by have := Option.some.inj e; omega)⟩
end Go.Proofs.YtadjpadieljjlaaGreat
