/- Parts of the proof: OrWalkP, OrAwk2, OrWalk, RowOrderValid. -/
import Derived.Test.YtadjpadieljjlaaOvB
import Derived.Test.YtadjpadieljjlaaOrMade
import Derived.Deep.DeepCutAuto
import Derived.Test.YtadjpadieljjlaaFrameO
import Derived.WalkKit
/- What the walk of the law OrderValid needs. -/
set_option linter.unusedVariables false
set_option linter.unusedSimpArgs false
namespace Lfc
theorem Ord.exp_same (o : Ord) (im k : Int) (hf : o.expE im k = 0) : Ord.eqo (o.mv (im - 1)) (o.mvr (im - 1)) = true := by
  refine mv_same _ o.size o (Nat.le_refl _) ?_
  rw [Ord.expE] at hf
  by_cases h : 64 < o.size ∨ o.form = false
  · rw [if_pos h] at hf; cases hf
  · cases hh : o.form
    · exact absurd (Or.inr hh) h
    · rfl
theorem Ord.exp_eq (o : Ord) (im k : Int) : Ord.eqo (if o.expE im k = 0 then o.mv (im - 1) else .node 0 0 []) (if o.expE im k = 0 then o.mvr (im - 1) else .node 0 0 []) = true := by
  by_cases h : o.expE im k = 0
  · rw [if_pos h, if_pos h]; exact Ord.exp_same o im k h
  · rw [if_neg h, if_neg h]; rfl
theorem Ord.mv_size (n : Int) (m : Nat) : ∀ o : Ord, o.size ≤ m → (o.mv n).size = o.size ∧ (o.mvr n).size = o.size := by
  induction m with
  | zero => intro o h; have := o.size_pos; omega
  | succ m ih =>
    rintro ⟨k, a, ps⟩ h
    rw [Ord.size] at h
    have : ∀ l : List Ord, Ord.sizes l ≤ m → Ord.sizes (Ord.mvs n l) = Ord.sizes l ∧ Ord.sizes (Ord.mvrs n l) = Ord.sizes l := by
      intro l
      induction l with
      | nil => intro _; rw [Ord.mvs, Ord.mvrs]; exact ⟨rfl, rfl⟩
      | cons x r ihr =>
        intro hl
        rw [Ord.sizes] at hl
        have hx := ih x (by omega)
        have hr := ihr (by omega)
        rw [Ord.mvs, Ord.mvrs, Ord.sizes, Ord.sizes, Ord.sizes, hx.1, hx.2, hr.1, hr.2]
        exact ⟨rfl, rfl⟩
    have := this ps (by omega)
    rw [Ord.mv, Ord.mvr, Ord.size, Ord.size, Ord.size, this.1, this.2]
    exact ⟨rfl, rfl⟩
theorem Ord.exp_size (o : Ord) (im k : Int) : (if o.expE im k = 0 then o.mv (im - 1) else .node 0 0 []).size ≤ o.size ∧ (if o.expE im k = 0 then o.mvr (im - 1) else .node 0 0 []).size ≤ o.size := by
  have h := Ord.mv_size (im - 1) o.size o (Nat.le_refl _)
  have h1 := o.size_pos
  have h0 : (Ord.node 0 0 []).size = 1 := by rw [Ord.size, Ord.sizes]
  by_cases hh : o.expE im k = 0
  · rw [if_pos hh, if_pos hh]; omega
  · rw [if_neg hh, if_neg hh]; omega
end Lfc
namespace Go.Proofs.Ytadjpadieljjlaa
open Go.RowKit Go.Maps
theorem tapeI_new {w : World} {A : Option Addr} {c : Nat} {zs : List Int} (h : IntsAt w (.slice A zs.length c) zs) : TapeI w.heap.size (w.alloc (.cells #[.slice A zs.length c, .int .i64 0] 25)) := by
  obtain ⟨A', c', e, h1, h2⟩ := h
  cases e
  refine ⟨⟨A, zs.length, c, 0, heap_alloc_new _ _, Nat.zero_le _, h1, fun hp => ?_⟩⟩
  obtain ⟨b, o, hA, hlt, hc⟩ := h2 hp
  exact ⟨b, o, hA, hlt, fun k hk => ⟨_, (((Below.refl w.heap.size w).alloc (Nat.le_refl _) _).cell (p := ⟨b, o + k, none⟩) hlt).trans (hc k hk)⟩⟩
theorem oput2 {W : World} {R : Nat} {a0 a1 a2 : Value} {t : TypeId} (h : W.heap[R]? = some (.cells #[a0, a1, a2] t (0, 0))) (v0 v1 : Value) : ∃ s1 s2, W.setCell ⟨R, 0, none⟩ v0 = s1 ∧ s1.setCell ⟨R, 1, none⟩ v1 = s2 ∧
    (W.cell? ⟨R, 0, none⟩ = some a0 ∧ s1.cell? ⟨R, 1, none⟩ = some a1) ∧ (W.frozen? ⟨R, 0, none⟩ = false ∧ s1.frozen? ⟨R, 1, none⟩ = false) ∧
    s2.heap[R]? = some (.cells #[v0, v1, a2] t (0, 0)) ∧ Oth R W s2 := by
  obtain ⟨s1, h1⟩ : ∃ s1, W.setCell ⟨R, 0, none⟩ v0 = s1 := ⟨_, rfl⟩
  obtain ⟨s2, h2⟩ : ∃ s2, s1.setCell ⟨R, 1, none⟩ v1 = s2 := ⟨_, rfl⟩
  have q1 : s1.heap[R]? = some (.cells #[v0, a1, a2] t (0, 0)) := by rw [← h1]; simp [World.setCell, Array.getElem?_modify, h]
  have q2 : s2.heap[R]? = some (.cells #[v0, v1, a2] t (0, 0)) := by rw [← h2]; simp [World.setCell, Array.getElem?_modify, q1]
  refine ⟨s1, s2, h1, h2, ⟨Lib.cell_of_heap h 0, Lib.cell_of_heap q1 1⟩, ⟨Lib.frozen_of_heap h 0, Lib.frozen_of_heap q1 1⟩, q2, ?_⟩
  rw [← h2, ← h1]
  exact (Oth.set W v0).trans (Oth.set _ v1)
theorem dput4 {W : World} {R : Nat} {x a0 a1 a2 a3 y : Value} {t : TypeId} (h : W.heap[R]? = some (.cells #[x, a0, a1, a2, a3, y] t (0, 0))) (v0 v1 v2 v3 : Value) : ∃ s1 s2 s3 s4, W.setCell ⟨R, 1, none⟩ v0 = s1 ∧ s1.setCell ⟨R, 2, none⟩ v1 = s2 ∧ s2.setCell ⟨R, 3, none⟩ v2 = s3 ∧ s3.setCell ⟨R, 4, none⟩ v3 = s4 ∧
    (W.cell? ⟨R, 1, none⟩ = some a0 ∧ s1.cell? ⟨R, 2, none⟩ = some a1 ∧ s2.cell? ⟨R, 3, none⟩ = some a2 ∧ s3.cell? ⟨R, 4, none⟩ = some a3) ∧
    (W.frozen? ⟨R, 1, none⟩ = false ∧ s1.frozen? ⟨R, 2, none⟩ = false ∧ s2.frozen? ⟨R, 3, none⟩ = false ∧ s3.frozen? ⟨R, 4, none⟩ = false) ∧
    s4.heap[R]? = some (.cells #[x, v0, v1, v2, v3, y] t (0, 0)) ∧ Oth R W s4 := by
  obtain ⟨s1, h1⟩ : ∃ s1, W.setCell ⟨R, 1, none⟩ v0 = s1 := ⟨_, rfl⟩
  obtain ⟨s2, h2⟩ : ∃ s2, s1.setCell ⟨R, 2, none⟩ v1 = s2 := ⟨_, rfl⟩
  obtain ⟨s3, h3⟩ : ∃ s3, s2.setCell ⟨R, 3, none⟩ v2 = s3 := ⟨_, rfl⟩
  obtain ⟨s4, h4⟩ : ∃ s4, s3.setCell ⟨R, 4, none⟩ v3 = s4 := ⟨_, rfl⟩
  have q1 : s1.heap[R]? = some (.cells #[x, v0, a1, a2, a3, y] t (0, 0)) := by rw [← h1]; simp [World.setCell, Array.getElem?_modify, h]
  have q2 : s2.heap[R]? = some (.cells #[x, v0, v1, a2, a3, y] t (0, 0)) := by rw [← h2]; simp [World.setCell, Array.getElem?_modify, q1]
  have q3 : s3.heap[R]? = some (.cells #[x, v0, v1, v2, a3, y] t (0, 0)) := by rw [← h3]; simp [World.setCell, Array.getElem?_modify, q2]
  have q4 : s4.heap[R]? = some (.cells #[x, v0, v1, v2, v3, y] t (0, 0)) := by rw [← h4]; simp [World.setCell, Array.getElem?_modify, q3]
  refine ⟨s1, s2, s3, s4, h1, h2, h3, h4, ⟨Lib.cell_of_heap h 1, Lib.cell_of_heap q1 2, Lib.cell_of_heap q2 3, Lib.cell_of_heap q3 4⟩, ⟨Lib.frozen_of_heap h 1, Lib.frozen_of_heap q1 2, Lib.frozen_of_heap q2 3, Lib.frozen_of_heap q3 4⟩, q4, ?_⟩
  rw [← h4, ← h3, ← h2, ← h1]
  exact (((Oth.set W v0).trans (Oth.set _ v1)).trans (Oth.set _ v2)).trans (Oth.set _ v3)
/-- The state behind the orders: the first in block O, the second in the next one, the tape in block T. -/
structure VldS (w : World) (T O : Nat) (o p : Lfc.Ord) (wx : World) : Prop where
  ho : ∃ k a ts A c, o = .node k a ts ∧ wx.heap[O]? = some (.cells #[.int .i64 k, .int .i64 a, .slice A (List.length ts) c] 28 (0, 0)) ∧ OrdVP (fun b => T < b ∧ b ≠ O) wx o (.agg #[.int .i64 k, .int .i64 a, .slice A (List.length ts) c])
  hp : ∃ k a ts A c, p = .node k a ts ∧ wx.heap[O + 1]? = some (.cells #[.int .i64 k, .int .i64 a, .slice A (List.length ts) c] 28 (0, 0)) ∧ OrdVP (fun b => T < b ∧ b ≠ O) wx p (.agg #[.int .i64 k, .int .i64 a, .slice A (List.length ts) c])
  so : o.size ≤ 16
  sp : p.size ≤ 16
  mo : o.mod 1000 = true
  tape : TapeI T wx
  below : Below w.heap.size w wx
  hT : w.heap.size ≤ T
  hO : T < O
theorem VldS.oth {w wx wy : World} {T O : Nat} {o p : Lfc.Ord} (h : VldS w T O o p wx) (ho : Oth T wx wy) (ht : TapeI T wy) : VldS w T O o p wy := by
  obtain ⟨k, a, ts, A, c, rfl, q, hv⟩ := h.ho
  obtain ⟨k', a', ts', A', c', rfl, q', hv'⟩ := h.hp
  have hO := h.hO
  have hT := h.hT
  have hs := h.below.size
  exact ⟨⟨k, a, ts, A, c, rfl, ho.heap q (by omega), hv.keep (fun b hb hlt => ho.block b hlt (fun e => by have e := Option.some.inj e; omega)) ho.size (fun b _ hb => hb)⟩,
    ⟨k', a', ts', A', c', rfl, ho.heap q' (by omega), hv'.keep (fun b hb hlt => ho.block b hlt (fun e => by have e := Option.some.inj e; omega)) ho.size (fun b _ hb => hb)⟩,
    h.so, h.sp, h.mo, ht, Oth.below h.below ho hT hs, hT, hO⟩
/-- The first order's numbers have been changed. -/
theorem VldS.put {w wx wy : World} {T O : Nat} {p : Lfc.Ord} {k a k' a' : Int} {ts : List Lfc.Ord} {A : Option Addr} {c : Nat} (h : VldS w T O (.node k a ts) p wx) (ho : Oth O wx wy) (hc : wx.heap[O]? = some (.cells #[.int .i64 k, .int .i64 a, .slice A ts.length c] 28 (0, 0))) (hy : wy.heap[O]? = some (.cells #[.int .i64 k', .int .i64 a', .slice A ts.length c] 28 (0, 0))) (ha : -1000 ≤ a' ∧ a' ≤ 1000) : VldS w T O (.node k' a' ts) p wy := by
  obtain ⟨k0, a0, ts0, A0, c0, e, q, hv⟩ := h.ho
  cases e
  rw [hc] at q
  cases q
  obtain ⟨k2, a2, ts2, A2, c2, rfl, q', hv'⟩ := h.hp
  have hO := h.hO
  have hT := h.hT
  have hs := h.below.size
  have hv := hv.keep (fun b hb hlt => ho.block b hlt (fun e => by have e := Option.some.inj e; exact hb.2 e)) ho.size (fun b _ hb => hb)
  refine ⟨⟨k', a', ts, A, c, rfl, hy, ?_⟩,
    ⟨k2, a2, ts2, A2, c2, rfl, ho.heap q' (by omega), hv'.keep (fun b hb hlt => ho.block b hlt (fun e => by have e := Option.some.inj e; exact hb.2 e)) ho.size (fun b _ hb => hb)⟩,
    ?_, h.sp, ?_, h.tape.oth hO ho, Oth.below h.below ho (by omega) hs, hT, hO⟩
  · obtain ⟨v0, v1, v2, e, hP⟩ := hv
    cases e
    rw [OrdP] at hP
    obtain ⟨_, _, A3, c3, e3, hcc, hA⟩ := hP
    cases e3
    exact OrdVP.mk hcc hA
  · have := h.so
    rwa [Lfc.Ord.size] at this ⊢
  · have := h.mo
    rw [Lfc.Ord.mod] at this ⊢
    simp only [Bool.and_eq_true, decide_eq_true_eq] at this ⊢
    exact ⟨ha, this.2⟩
theorem VldS.below_ {w wx wy : World} {T O : Nat} {o p : Lfc.Ord} (h : VldS w T O o p wx) (hb : Below wx.heap.size wx wy) : VldS w T O o p wy :=
  h.oth (Oth.of_below hb) (h.tape.below hb)
/-- What the orders' variables hold, in a world and behind it. -/
theorem VldS.later {w wx : World} {T O : Nat} {k a k' a' : Int} {ts ts' : List Lfc.Ord} (h : VldS w T O (.node k a ts) (.node k' a' ts') wx) : ∃ A c A' c', ∀ W, Below wx.heap.size wx W →
    (W.cell? ⟨O, 0, none⟩ = some (.int .i64 k) ∧ W.cell? ⟨O, 1, none⟩ = some (.int .i64 a) ∧ W.cell? ⟨O, 2, none⟩ = some (.slice A ts.length c)) ∧
    (W.cell? ⟨O + 1, 0, none⟩ = some (.int .i64 k') ∧ W.cell? ⟨O + 1, 1, none⟩ = some (.int .i64 a') ∧ W.cell? ⟨O + 1, 2, none⟩ = some (.slice A' ts'.length c')) ∧
    OrdV W (.node k a ts) (.agg #[.int .i64 k, .int .i64 a, .slice A ts.length c]) ∧ OrdV W (.node k' a' ts') (.agg #[.int .i64 k', .int .i64 a', .slice A' ts'.length c']) := by
  obtain ⟨k0, a0, ts0, A, c, e, q, hv⟩ := h.ho
  cases e
  obtain ⟨k2, a2, ts2, A2, c2, e, q', hv'⟩ := h.hp
  cases e
  exact ⟨A, c, A2, c2, fun W hb => ⟨cells3o ((hb.block _ (lt_of_block q)).trans q), cells3o ((hb.block _ (lt_of_block q')).trans q'), hv.toV.below hb, hv'.toV.below hb⟩⟩
theorem ttwo {q : Nat → Prop} {W : World} {g : Nat} {t t' : Lfc.Raw} {v0 v1 v2 v3 u0 u1 u2 u3 : Value} {ty : TypeId} (ht : TreeP q W t v0 v1 v2 v3) (ht' : TreeP q W t' u0 u1 u2 u3) (hq : q g) (hg : W.heap[g]? = some (.cells #[v0, v1, v2, v3, u0, u1, u2, u3] ty (0, 0))) : TreesAtP q W (some ⟨g, 0, none⟩) [t, t'] := fun _ =>
  ⟨g, 0, rfl, lt_of_block hg, hq, ((RowP.one ht').append (RowP.one ht)).lie (fun j u hj => by
    rw [Nat.zero_add]
    match j with
    | 0 => simp at hj; subst hj; exact Lib.cell_of_heap hg 0
    | 1 => simp at hj; subst hj; exact Lib.cell_of_heap hg 1
    | 2 => simp at hj; subst hj; exact Lib.cell_of_heap hg 2
    | 3 => simp at hj; subst hj; exact Lib.cell_of_heap hg 3
    | 4 => simp at hj; subst hj; exact Lib.cell_of_heap hg 4
    | 5 => simp at hj; subst hj; exact Lib.cell_of_heap hg 5
    | 6 => simp at hj; subst hj; exact Lib.cell_of_heap hg 6
    | 7 => simp at hj; subst hj; exact Lib.cell_of_heap hg 7
    | j + 8 => simp at hj)⟩
/-- The state of the loop: the declaration in block D. -/
def DclI (w0 : World) (D : Nat) (im : Int) (j : Nat) (wr : World) : Prop :=
  ∃ k n p ts A c, Lfc.piCh j = .node k n p ts ∧ wr.heap[D]? = some (.cells #[S [102], .int .i64 k, S n, .int .i64 p, .slice A (List.length ts) c, .int .i64 im] 36 (0, 0)) ∧ TreeVP (fun b => b ≠ D) wr (.node k n p ts) (.agg #[.int .i64 k, S n, .int .i64 p, .slice A (List.length ts) c]) ∧ Oth D w0 wr
theorem DclI.start {w0 : World} {D : Nat} {im : Int} (h : w0.heap[D]? = some (.cells #[S [102], .int .i64 1, S [], .int .i64 0, .slice none 0 0, .int .i64 im] 36 (0, 0))) : DclI w0 D im 0 w0 :=
  ⟨1, [], 0, [], none, 0, rfl, h, TreeVP.mk (ts := []) (by simp) (Nat.le_refl _) (fun h => absurd rfl h), Oth.refl _ _⟩
theorem DclI.step {w0 wr w1 w2 : World} {D j : Nat} {im k p : Int} {n : List UInt8} {ts : List Lfc.Raw} {A : Option Addr} {c : Nat} (he : Lfc.piCh j = .node k n p ts) (hv : TreeVP (fun b => b ≠ D) wr (.node k n p ts) (.agg #[.int .i64 k, S n, .int .i64 p, .slice A ts.length c])) (ho : Oth D w0 wr) (hD : D < wr.heap.size)
    (b1 : Below wr.heap.size wr w1) (q1 : w1.heap[wr.heap.size]? = some (.cells #[.int .i64 4, S [113], .int .i64 0, .slice none 0 0, .int .i64 k, S n, .int .i64 p, .slice A ts.length c] 34 (0, 0)))
    (q2 : w2.heap[D]? = some (.cells #[S [102], .int .i64 2, S [], .int .i64 0, .slice (some ⟨wr.heap.size, 0, none⟩) 2 2, .int .i64 im] 36 (0, 0))) (o2 : Oth D w1 w2) : DclI w0 D im (j + 1) w2 := by
  have hq : TreeVP (fun b => b ≠ D) w2 (.node 4 [113] 0 []) (.agg #[.int .i64 4, S [113], .int .i64 0, .slice none 0 0]) := TreeVP.mk (ts := []) (by simp) (Nat.le_refl _) (fun h => absurd rfl h)
  have hw : TreeVP (fun b => b ≠ D) w2 (.node k n p ts) (.agg #[.int .i64 k, S n, .int .i64 p, .slice A ts.length c]) := hv.keep (fun b hb hlt => (o2.block b (Nat.lt_of_lt_of_le hlt b1.size) (fun e => hb (Option.some.inj e))).trans (b1.block b hlt)) (Nat.le_trans b1.size o2.size) (fun b _ hb => hb)
  obtain ⟨x0, x1, x2, x3, e, hP⟩ := hq
  cases e
  obtain ⟨y0, y1, y2, y3, e, hP'⟩ := hw
  cases e
  refine ⟨2, [], 0, [.node 4 [113] 0 [], .node k n p ts], some ⟨wr.heap.size, 0, none⟩, 2, by rw [Lfc.piCh, he], q2, TreeVP.mk (ts := [.node 4 [113] 0 [], .node k n p ts]) (by simp) (Nat.le_refl _) (ttwo hP hP' (by omega) (o2.heap q1 (by omega))), (ho.trans (Oth.of_below b1)).trans o2⟩
end Go.Proofs.Ytadjpadieljjlaa

/- The contract of awake of the law. -/
set_option linter.unusedVariables false
set_option linter.unusedSimpArgs false
namespace Go.Proofs.Ytadjpadieljjlaa
open Go.RowKit Go.Maps
theorem aw_exp (g : Nat) (w : World) (h : w.heap[g]? = some (.cells #[.int .i64 4, S [113], .int .i64 0, .slice none 0 0, .int .i64 1, S [], .int .i64 0, .slice none 0 0] 34 (0, 0))) :
    Calls Try.prog 7 #[.agg #[S [112], .int .i64 2, S [], .int .i64 0, .slice (some ⟨g, 0, none⟩) 2 2, .int .i64 0], .agg #[.int .i64 1, .int .i64 1, .slice none 0 0]] w fun e w' => (∃ A c, e = .returned (.tuple #[.agg #[.int .i64 1, .int .i64 0, .slice A 0 c], .int .i64 0]) ∧ OrdV w' (.node 1 0 []) (.agg #[.int .i64 1, .int .i64 0, .slice A 0 c])) ∧ Below w.heap.size w w' := by
  have hq : TreeV w (Lfc.piCh 0) (.agg #[.int .i64 1, S [], .int .i64 0, .slice none 0 0]) := TreeV.mk (ts := []) (by simp) (Nat.le_refl _) (fun h => absurd rfl h)
  have hc : TreeV w (.node 4 [113] 0 []) (.agg #[.int .i64 4, S [113], .int .i64 0, .slice none 0 0]) := TreeV.mk (ts := []) (by simp) (Nat.le_refl _) (fun h => absurd rfl h)
  have ht : TreeV w (Lfc.piCh 1) (.agg #[.int .i64 2, S [], .int .i64 0, .slice (some ⟨g, 0, none⟩) 2 2]) := TreeV.mk (ts := [.node 4 [113] 0 [], Lfc.piCh 0]) (by simp) (Nat.le_refl _) (fun _ => by
    obtain ⟨a0, a1, a2, a3, ea, ha⟩ := hc
    obtain ⟨b0, b1, b2, b3, eb, hb⟩ := hq
    cases ea
    cases eb
    refine ⟨g, 0, rfl, lt_of_block h, ?_⟩
    rw [TreesO, TreesO, TreesO]
    exact ⟨⟨_, _, _, _, Lib.cell_of_heap h 0, Lib.cell_of_heap h 1, Lib.cell_of_heap h 2, Lib.cell_of_heap h 3, ha⟩, ⟨_, _, _, _, Lib.cell_of_heap h 4, Lib.cell_of_heap h 5, Lib.cell_of_heap h 6, Lib.cell_of_heap h 7, hb⟩, trivial⟩)
  have hE : (Lfc.Ord.node 1 1 []).expE 0 1 = 0 := by decide
  have hM : (Lfc.Ord.node 1 1 []).mv (0 - 1) = .node 1 0 [] := by rw [Lfc.Ord.mv]; rfl
  have := oExplicit_any (.node 1 1 []) _ 1 0 [112] 2 0 [] (some ⟨g, 0, none⟩) 2 2 w (by rw [Lfc.Ord.size, Lfc.Ord.sizes]; omega) (by decide) (by omega) (by omega) (by omega) (ord_arg w 1) ht
  refine this.mono ?_
  rintro e w' ⟨⟨v', rfl, hv⟩, hb⟩
  simp only [Int.natCast_one] at hv ⊢
  rw [if_pos hE, hM] at hv
  obtain ⟨A, c, rfl, hp⟩ := hv.open_
  refine ⟨⟨A, c, by rw [hE]; rfl, ?_⟩, hb⟩
  exact OrdVP.toV ⟨_, _, _, rfl, hp⟩

set_option maxRecDepth 100000 in
set_option maxHeartbeats 16000000 in
theorem oAwake_any (w : World) : Calls Try.prog 14 #[] w fun e w' => e = .returned (.bool true) ∧ Below w.heap.size w w' := by
  obtain ⟨w1, hw1⟩ : ∃ w1, w.alloc (.cells #[.int .i64 5, S [], .int .i64 0, .slice none 0 0] 34) = w1 := ⟨_, rfl⟩
  obtain ⟨w2, hw2⟩ : ∃ w2, w1.alloc (.cells #[.int .i64 5, S [], .int .i64 0, .slice none 0 0] 34) = w2 := ⟨_, rfl⟩
  obtain ⟨w3, hw3⟩ : ∃ w3, w2.alloc (.cells #[.int .i64 4, S [115], .int .i64 0, .slice (some ⟨w1.heap.size, 0, none⟩) 1 1] 34) = w3 := ⟨_, rfl⟩
  obtain ⟨w4, hw4⟩ : ∃ w4, w3.alloc (.cells #[.int .i64 1] 3) = w4 := ⟨_, rfl⟩
  obtain ⟨w5, hw5⟩ : ∃ w5, w4.alloc (.cells #[.int .i64 1, .int .i64 0, .slice none 0 0] 28) = w5 := ⟨_, rfl⟩
  have al : ∀ (W W' : World) (o : Obj), W.alloc o = W' → Below W.heap.size W W' ∧ W'.heap[W.heap.size]? = some o ∧ W'.heap.size = W.heap.size + 1 := fun W W' o h => by
    subst h
    exact ⟨(Below.refl _ _).alloc (Nat.le_refl _) _, heap_alloc_new _ _, by simp⟩
  have AL := Lib.hid al
  obtain ⟨b1, q1, n1⟩ := al _ _ _ hw1
  obtain ⟨b2, q2, n2⟩ := al _ _ _ hw2
  obtain ⟨b3, q3, n3⟩ := al _ _ _ hw3
  obtain ⟨b4, q4, n4⟩ := al _ _ _ hw4
  obtain ⟨b5, q5, n5⟩ := al _ _ _ hw5
  have b35 : Below w3.heap.size w3 w5 := b4.trans (b5.mono (by omega))
  have b25 : Below w2.heap.size w2 w5 := b3.trans (b35.mono (by omega))
  have b15 : Below w1.heap.size w1 w5 := b2.trans (b25.mono (by omega))
  have b05 : Below w.heap.size w w5 := b1.trans (b15.mono (by omega))
  have Q1 := Lib.hid ((b15.block _ (by omega)).trans q1)
  have Q2 := Lib.hid ((b25.block _ (by omega)).trans q2)
  have Q3 := Lib.hid ((b35.block _ (by omega)).trans q3)
  have Q4 := Lib.hid ((b5.block _ (by omega)).trans q4)
  have Q5 := Lib.hid q5
  have B05 := Lib.hid b05
  have l1 : w.heap.size < w5.heap.size := by omega
  have l2 : w1.heap.size < w5.heap.size := by omega
  have l3 : w2.heap.size < w5.heap.size := by omega
  have l4 : w3.heap.size < w5.heap.size := by omega
  have l5 : w4.heap.size < w5.heap.size := by omega
  have NB : Hid (Below w.heap.size w w5 ∧ w.heap.size ≤ w5.heap.size) := Lib.hid ⟨b05, by omega⟩
  have H1 := Lib.hid hw1
  have H3 := Lib.hid hw3
  have H5 := Lib.hid hw5
  have Y1 := cells4t q1
  have FO : Hid (∀ W, Below w5.heap.size w5 W → W.cell? ⟨w4.heap.size, 0, none⟩ = some (.int .i64 1) ∧ W.cell? ⟨w4.heap.size, 1, none⟩ = some (.int .i64 0) ∧ W.cell? ⟨w4.heap.size, 2, none⟩ = some (.slice none 0 0)) := Lib.hid (fun W h => cells3o ((h.block _ l5).trans Q5.out))
  have FX : Hid (∀ W, Below w5.heap.size w5 W → W.cell? ⟨w.heap.size, 0, none⟩ = some (.int .i64 5) ∧ W.cell? ⟨w.heap.size, 1, none⟩ = some (S []) ∧ W.cell? ⟨w.heap.size, 2, none⟩ = some (.int .i64 0) ∧ W.cell? ⟨w.heap.size, 3, none⟩ = some (.slice none 0 0)) := Lib.hid (fun W h => cells4t ((h.block _ l1).trans Q1.out))
  have FS : Hid (∀ W, Below w5.heap.size w5 W → W.cell? ⟨w2.heap.size, 0, none⟩ = some (.int .i64 4) ∧ W.cell? ⟨w2.heap.size, 1, none⟩ = some (S [115]) ∧ W.cell? ⟨w2.heap.size, 2, none⟩ = some (.int .i64 0) ∧ W.cell? ⟨w2.heap.size, 3, none⟩ = some (.slice (some ⟨w1.heap.size, 0, none⟩) 1 1)) := Lib.hid (fun W h => cells4t ((h.block _ l3).trans Q3.out))
  have VS : Hid (∀ W, Below w5.heap.size w5 W → TreeV W Lfc.awS (.agg #[.int .i64 4, S [115], .int .i64 0, .slice (some ⟨w1.heap.size, 0, none⟩) 1 1])) := Lib.hid (fun W h => aws_v ((h.block _ l2).trans Q2.out))
  have VK : Hid (∀ W, Below w5.heap.size w5 W → IntsO W (some ⟨w3.heap.size, 0, none⟩) [1]) := Lib.hid (fun W h => ints_one ((h.block _ l4).trans Q4.out))
  obtain ⟨y0, y1, y2, y3⟩ := Y1
  clear b1 b2 b3 b4 b5 b35 b25 b15 b05 q1 q2 q3 q4 q5 n1 n2 n3 n4 n5 al hw1 hw3 hw5
  have B0 : Hid (Below w5.heap.size w5 w5) := Lib.hid (Below.refl _ _)
  go_enter Try.func14, Try.ntmps14
  go_upto_region 2 with fail
  rw [H1.out]
  go_upto_region 3 with fail
  rw [H3.out]
  go_upto_region 5 with fail
  rw [H5.out]
  clear y0 y1 y2 y3 H1 H3 H5 hw2 hw4
  obtain ⟨wa0, hwa0⟩ : ∃ wa, w5.alloc (.cells #[.int .i64 5, S [], .int .i64 0, .slice none 0 0] 34) = wa := ⟨_, rfl⟩
  obtain ⟨wb0, hwb0⟩ : ∃ wb, wa0.alloc (.cells #[.int .i64 4, S [115], .int .i64 0, .slice (some ⟨w1.heap.size, 0, none⟩) 1 1] 34) = wb := ⟨_, rfl⟩
  obtain ⟨ba, qa, na⟩ := AL.out _ _ _ hwa0
  obtain ⟨bb, qb, nb⟩ := AL.out _ _ _ hwb0
  have bA := B0.out.trans (ba.mono B0.out.size)
  have bB := bA.trans (bb.mono bA.size)
  obtain ⟨o0, o1, o2⟩ := FO.out _ B0.out
  obtain ⟨x0, x1, x2, x3⟩ := FX.out _ B0.out
  obtain ⟨r0, r1, r2⟩ := FO.out _ bA
  obtain ⟨z0, z1, z2, z3⟩ := FS.out _ bA
  have CH := Lib.hid (aw_h1 w5.heap.size wa0.heap.size (some ⟨w3.heap.size, 0, none⟩) wb0 (VK.out _ bB) (treesAt_new (ts := []) ((bb.block _ (by omega)).trans qa) (awx_v wb0)) (treesAt_new (ts := [Lfc.awX]) qb (VS.out wb0 bB)))
  have BB := Lib.hid bB
  clear ba qa na bb qb nb bA bB
  go_wp2_with fail
  refine CH.out.mono ?_
  rintro e v0 ⟨rfl, bc⟩
  have B1 := Lib.hid (BB.out.trans (bc.mono BB.out.size))
  clear bc CH BB hwa0 hwb0 o0 o1 o2 x0 x1 x2 x3 r0 r1 r2 z0 z1 z2 z3
  obtain ⟨wa1, hwa1⟩ : ∃ wa, v0.alloc (.cells #[.int .i64 4, S [115], .int .i64 0, .slice (some ⟨w1.heap.size, 0, none⟩) 1 1] 34) = wa := ⟨_, rfl⟩
  obtain ⟨wb1, hwb1⟩ : ∃ wb, wa1.alloc (.cells #[.int .i64 5, S [], .int .i64 0, .slice none 0 0] 34) = wb := ⟨_, rfl⟩
  obtain ⟨ba, qa, na⟩ := AL.out _ _ _ hwa1
  obtain ⟨bb, qb, nb⟩ := AL.out _ _ _ hwb1
  have bA := B1.out.trans (ba.mono B1.out.size)
  have bB := bA.trans (bb.mono bA.size)
  obtain ⟨o0, o1, o2⟩ := FO.out _ B1.out
  obtain ⟨x0, x1, x2, x3⟩ := FS.out _ B1.out
  obtain ⟨r0, r1, r2⟩ := FO.out _ bA
  obtain ⟨z0, z1, z2, z3⟩ := FX.out _ bA
  have CH := Lib.hid (aw_h2 v0.heap.size wa1.heap.size (some ⟨w3.heap.size, 0, none⟩) wb1 (VK.out _ bB) (treesAt_new (ts := [Lfc.awX]) ((bb.block _ (by omega)).trans qa) (VS.out wb1 bB)) (treesAt_new (ts := []) qb (awx_v wb1)))
  have BB := Lib.hid bB
  clear ba qa na bb qb nb bA bB
  go_wp2_with fail
  refine CH.out.mono ?_
  rintro e v1 ⟨rfl, bc⟩
  have B2 := Lib.hid (BB.out.trans (bc.mono BB.out.size))
  clear bc CH BB hwa1 hwb1 o0 o1 o2 x0 x1 x2 x3 r0 r1 r2 z0 z1 z2 z3
  obtain ⟨x0, x1, x2, x3⟩ := FX.out _ B2.out
  obtain ⟨z0, z1, z2, z3⟩ := FS.out _ B2.out
  have CH := Lib.hid (aw_path (some ⟨w3.heap.size, 0, none⟩) v1 _ (VK.out _ B2.out) (VS.out _ B2.out))
  go_wp2_with fail
  refine CH.out.mono ?_
  rintro e v2 ⟨⟨Ap, cp, rfl⟩, bc⟩
  have B3 := Lib.hid (B2.out.trans (bc.mono B2.out.size))
  clear bc CH x0 x1 x2 x3 z0 z1 z2 z3
  obtain ⟨wa3, hwa3⟩ : ∃ wa, v2.alloc (.cells #[.int .i64 5, S [], .int .i64 0, .slice none 0 0] 34) = wa := ⟨_, rfl⟩
  obtain ⟨wb3, hwb3⟩ : ∃ wb, wa3.alloc (.cells #[.int .i64 4, S [115], .int .i64 0, .slice (some ⟨w1.heap.size, 0, none⟩) 1 1] 34) = wb := ⟨_, rfl⟩
  obtain ⟨ba, qa, na⟩ := AL.out _ _ _ hwa3
  obtain ⟨bb, qb, nb⟩ := AL.out _ _ _ hwb3
  have bA := B3.out.trans (ba.mono B3.out.size)
  have bB := bA.trans (bb.mono bA.size)
  obtain ⟨o0, o1, o2⟩ := FO.out _ B3.out
  obtain ⟨x0, x1, x2, x3⟩ := FX.out _ B3.out
  obtain ⟨r0, r1, r2⟩ := FO.out _ bA
  obtain ⟨z0, z1, z2, z3⟩ := FS.out _ bA
  have CH := Lib.hid (aw_p v2.heap.size wa3.heap.size (some ⟨w3.heap.size, 0, none⟩) wb3 (VK.out _ bB) (treesAt_new (ts := []) ((bb.block _ (by omega)).trans qa) (awx_v wb3)) (treesAt_new (ts := [Lfc.awX]) qb (VS.out wb3 bB)))
  have BB := Lib.hid bB
  clear ba qa na bb qb nb bA bB
  go_wp2_with fail
  refine CH.out.mono ?_
  rintro e v3 ⟨⟨Al, cl, Bl, dl, rfl, hl⟩, bc⟩
  have B4 := Lib.hid (BB.out.trans (bc.mono BB.out.size))
  clear bc CH BB hwa3 hwb3 o0 o1 o2 x0 x1 x2 x3 r0 r1 r2 z0 z1 z2 z3
  obtain ⟨w8, hw8⟩ : ∃ w8, v3.alloc (.cells #[.int .i64 0, .slice none 0 0, .slice Al 1 cl, .slice Bl 0 dl] 58) = w8 := ⟨_, rfl⟩
  obtain ⟨w9, hw9⟩ : ∃ w9, w8.alloc (.cells #[.int .i64 4, S [113], .int .i64 0, .slice none 0 0, .int .i64 1, S [], .int .i64 0, .slice none 0 0] 34) = w9 := ⟨_, rfl⟩
  obtain ⟨wd, hwd⟩ : ∃ wd, w9.alloc (.cells #[S [112], .int .i64 2, S [], .int .i64 0, .slice (some ⟨w8.heap.size, 0, none⟩) 2 2, .int .i64 0] 36) = wd := ⟨_, rfl⟩
  obtain ⟨b8, q8, n8⟩ := AL.out _ _ _ hw8
  obtain ⟨b9, q9, n9⟩ := AL.out _ _ _ hw9
  obtain ⟨bd, qd, nd⟩ := AL.out _ _ _ hwd
  have HL := Lib.hid hl
  have b3d : Below v3.heap.size v3 wd := (b8.trans (b9.mono b8.size)).trans (bd.mono (Nat.le_trans b8.size b9.size))
  have BD : Hid (Below w5.heap.size w5 wd) := Lib.hid (B4.out.trans (b3d.mono B4.out.size))
  have QP := Lib.hid (((b9.trans (bd.mono b9.size)).block _ (by omega)).trans q8)
  have QT := Lib.hid ((bd.block _ (by omega)).trans q9)
  have l8 : v3.heap.size < wd.heap.size := by omega
  have L3D := Lib.hid b3d
  have H8 := Lib.hid hw8
  have HD := Lib.hid hwd
  obtain ⟨x0, x1, x2, x3, x4, x5⟩ := cells6d qd
  have CE := Lib.hid (aw_exp w8.heap.size wd QT.out)
  clear hl hw8 hwd b8 q8 n8 b9 q9 n9 bd qd nd b3d
  go_upto_region 9 with fail
  rw [H8.out]
  go_upto_region 10 with fail
  rw [HD.out]
  clear hw9
  go_wp2_with fail
  refine CE.out.mono ?_
  rintro e v4 ⟨⟨Ae, ce, rfl, hoe⟩, bc⟩
  obtain ⟨wE, hwE⟩ : ∃ wE, v4.alloc (.cells #[.int .i64 1, .int .i64 0, .slice Ae 0 ce] 28) = wE := ⟨_, rfl⟩
  obtain ⟨bE, qE, nE⟩ := AL.out _ _ _ hwE
  have hb4 := BD.out.trans (bc.mono BD.out.size)
  have hb5 := hb4.trans (bE.mono hb4.size)
  have hbd := bc.trans (bE.mono bc.size)
  have HB5 := Lib.hid hb5
  have HOE := Lib.hid (hoe.below bE)
  have QE := Lib.hid qE
  have HLE := Lib.hid ((HL.out.below L3D.out).below hbd)
  have QPE := Lib.hid ((hbd.block _ l8).trans QP.out)
  have l9 : v4.heap.size < wE.heap.size := by omega
  have l10 : v3.heap.size < wE.heap.size := Nat.lt_of_lt_of_le l8 hbd.size
  have HE := Lib.hid hwE
  have UP : Hid (∀ W, Below wE.heap.size wE W → Below w.heap.size w W) := Lib.hid (fun W hb => by
    have h5 := HB5.out.trans (hb.mono HB5.out.size)
    exact NB.out.1.trans (h5.mono NB.out.2))
  have UQ : ∀ W, Below wE.heap.size wE W → Below w5.heap.size w5 W := fun W hb => HB5.out.trans (hb.mono HB5.out.size)
  have SC : Hid (∀ W, Below wE.heap.size wE W → (W.cell? ⟨w4.heap.size, 0, none⟩ = some (.int .i64 1) ∧ W.cell? ⟨w4.heap.size, 1, none⟩ = some (.int .i64 0) ∧ W.cell? ⟨w4.heap.size, 2, none⟩ = some (.slice none 0 0)) ∧ (W.cell? ⟨w.heap.size, 0, none⟩ = some (.int .i64 5) ∧ W.cell? ⟨w.heap.size, 1, none⟩ = some (S []) ∧ W.cell? ⟨w.heap.size, 2, none⟩ = some (.int .i64 0) ∧ W.cell? ⟨w.heap.size, 3, none⟩ = some (.slice none 0 0)) ∧ (W.cell? ⟨w2.heap.size, 0, none⟩ = some (.int .i64 4) ∧ W.cell? ⟨w2.heap.size, 1, none⟩ = some (S [115]) ∧ W.cell? ⟨w2.heap.size, 2, none⟩ = some (.int .i64 0) ∧ W.cell? ⟨w2.heap.size, 3, none⟩ = some (.slice (some ⟨w1.heap.size, 0, none⟩) 1 1)) ∧ (W.cell? ⟨v3.heap.size, 0, none⟩ = some (.int .i64 0) ∧ W.cell? ⟨v3.heap.size, 1, none⟩ = some (.slice none 0 0) ∧ W.cell? ⟨v3.heap.size, 2, none⟩ = some (.slice Al 1 cl) ∧ W.cell? ⟨v3.heap.size, 3, none⟩ = some (.slice Bl 0 dl)) ∧ (W.cell? ⟨v4.heap.size, 0, none⟩ = some (.int .i64 1) ∧ W.cell? ⟨v4.heap.size, 1, none⟩ = some (.int .i64 0) ∧ W.cell? ⟨v4.heap.size, 2, none⟩ = some (.slice Ae 0 ce))) := Lib.hid (fun W hb => ⟨FO.out W (UQ W hb), FX.out W (UQ W hb), FS.out W (UQ W hb), cells4t ((hb.block _ l10).trans QPE.out), cells3o ((hb.block _ l9).trans QE.out)⟩)
  have BV : Hid (∀ W, Below wE.heap.size wE W → LinksP (fun b => wb3.heap.size ≤ b) W Al [⟨1, Lfc.awS, [0], 0⟩]) := Lib.hid (fun W hb => HLE.out.below hb)
  have CF1 : Hid (∀ W, Below wE.heap.size wE W → ∀ {g : Nat}, IntsO W (some ⟨g, 0, none⟩) [0] → Calls Try.prog 29 #[.agg #[.int .i64 5, S [], .int .i64 0, .slice none 0 0], .agg #[.int .i64 4, S [115], .int .i64 0, .slice (some ⟨w1.heap.size, 0, none⟩) 1 1], .slice (some ⟨g, 0, none⟩) 1 1, .slice (some ⟨w3.heap.size, 0, none⟩) 1 1] W fun e w' => e = .returned (.bool true) ∧ Below W.heap.size W w') := Lib.hid (fun W hb g hi => aw_f [0] true (some ⟨w3.heap.size, 0, none⟩) (some ⟨g, 0, none⟩) 1 W _ (by simp) Lfc.aw_fits (VK.out _ (UQ _ hb)) hi (VS.out _ (UQ _ hb)))
  have CF2 : Hid (∀ W, Below wE.heap.size wE W → Calls Try.prog 29 #[.agg #[.int .i64 5, S [], .int .i64 0, .slice none 0 0], .agg #[.int .i64 4, S [115], .int .i64 0, .slice (some ⟨w1.heap.size, 0, none⟩) 1 1], .slice none 0 0, .slice (some ⟨w3.heap.size, 0, none⟩) 1 1] W fun e w' => e = .returned (.bool false) ∧ Below W.heap.size W w') := Lib.hid (fun W hb => aw_f [] false (some ⟨w3.heap.size, 0, none⟩) none 0 W _ (by simp) Lfc.aw_fits2 (VK.out _ (UQ _ hb)) (fun h => absurd rfl h) (VS.out _ (UQ _ hb)))
  have CV1 : Hid (∀ W, Below wE.heap.size wE W → Calls Try.prog 9 #[.agg #[.int .i64 1, .int .i64 0, .slice none 0 0], .int .i64 1] W fun e w' => e = .returned (.int .i64 0) ∧ Below W.heap.size W w') := Lib.hid (fun W hb => aw_val 1 0 W (by omega) (by decide))
  have CV0 : Hid (∀ W, Below wE.heap.size wE W → Calls Try.prog 9 #[.agg #[.int .i64 1, .int .i64 0, .slice none 0 0], .int .i64 0] W fun e w' => e = .returned (.int .i64 5) ∧ Below W.heap.size W w') := Lib.hid (fun W hb => aw_val 0 5 W (by omega) (by decide))
  have CS : Hid (∀ W, Below wE.heap.size wE W → Calls Try.prog 12 #[.agg #[.int .i64 1, .int .i64 0, .slice none 0 0], .agg #[.int .i64 1, .int .i64 0, .slice Ae 0 ce]] W fun e w' => e = .returned (.bool true) ∧ Below W.heap.size W w') := Lib.hid (fun W hb => aw_shp Ae ce W (HOE.out.below hb))
  obtain ⟨wa, hwa⟩ : ∃ wa, wE.alloc (.cells #[.int .i64 5, S [], .int .i64 0, .slice none 0 0] 34) = wa := ⟨_, rfl⟩
  obtain ⟨wb, hwb⟩ : ∃ wb, wa.alloc (.cells #[.int .i64 4, S [115], .int .i64 0, .slice (some ⟨w1.heap.size, 0, none⟩) 1 1] 34) = wb := ⟨_, rfl⟩
  obtain ⟨ba, qa, na⟩ := AL.out _ _ _ hwa
  obtain ⟨bb, qb, nb⟩ := AL.out _ _ _ hwb
  have bA : Below wE.heap.size wE wa := ba
  have bB := bA.trans (bb.mono bA.size)
  have CH := Lib.hid (aw_v _ Al Bl cl dl wE.heap.size wa.heap.size (some ⟨w3.heap.size, 0, none⟩) wb (VK.out _ (UQ _ bB)) (treesAt_new (ts := []) ((bb.block _ (by omega)).trans qa) (awx_v wb)) (treesAt_new (ts := [Lfc.awX]) qb (VS.out _ (UQ _ bB))) (BV.out _ bB))
  obtain ⟨⟨o0, o1, o2⟩, ⟨y0, y1, y2, y3⟩, _⟩ := SC.out _ (Below.refl _ _)
  obtain ⟨⟨r0, r1, r2⟩, _, ⟨z0, z1, z2, z3⟩, _⟩ := SC.out _ bA
  obtain ⟨_, _, _, ⟨p0, p1, p2, p3⟩, _⟩ := SC.out _ bB
  have BB := Lib.hid bB
  clear hwE bE qE nE hb4 hb5 hbd bc hoe x0 x1 x2 x3 x4 x5 CE UQ l1 l2 l3 l4 l5 l8 l9 l10 FO FX FS VS VK HL HLE QP QPE QT QE HOE L3D BD B0 B1 B2 B3 B4 NB B05 Q1 Q2 Q3 Q4 Q5 AL H8 HD HB5 ba qa na bb qb nb bA bB
  go_upto_region 11 with fail
  rw [HE.out]
  clear HE
  go_wp2_with fail
  refine CH.out.mono ?_
  rintro e u0 ⟨rfl, bc0⟩
  have e0 := BB.out.trans (bc0.mono BB.out.size)
  obtain ⟨uz, huz⟩ : ∃ uz, u0.alloc (.cells #[.int .i64 0] 3) = uz := ⟨_, rfl⟩
  have bz : Below u0.heap.size u0 uz := by rw [← huz]; exact (Below.refl _ _).alloc (Nat.le_refl _) _
  have ez := e0.trans (bz.mono e0.size)
  have CH1 := Lib.hid (CF1.out _ ez (g := u0.heap.size) (ints_one (by rw [← huz]; exact heap_alloc_new _ _)))
  have EZ := Lib.hid ez
  clear o0 o1 o2 y0 y1 y2 y3 r0 r1 r2 z0 z1 z2 z3 p0 p1 p2 p3 hwa hwb CH BB bc0
  obtain ⟨_, ⟨y0, y1, y2, y3⟩, ⟨z0, z1, z2, z3⟩, _⟩ := SC.out _ e0
  clear e0 bz ez
  go_wp2_with fail
  refine CH1.out.mono ?_
  rintro e u1 ⟨rfl, bc1⟩
  have e1 := Lib.hid (EZ.out.trans (bc1.mono EZ.out.size))
  clear y0 y1 y2 y3 z0 z1 z2 z3 bc1 EZ huz CH1
  obtain ⟨_, ⟨y0, y1, y2, y3⟩, ⟨z0, z1, z2, z3⟩, _⟩ := SC.out _ e1.out
  go_wp2_with fail
  refine (CF2.out _ e1.out).mono ?_
  rintro e u2 ⟨rfl, bc1⟩
  have e2 := Lib.hid (e1.out.trans (bc1.mono e1.out.size))
  clear y0 y1 y2 y3 z0 z1 z2 z3 bc1
  obtain ⟨⟨o0, o1, o2⟩, _, _, _, ⟨r0, r1, r2⟩⟩ := SC.out _ e2.out
  go_wp2_with fail
  refine (CV1.out _ e2.out).mono ?_
  rintro e u3 ⟨rfl, bc1⟩
  have e3 := Lib.hid (e2.out.trans (bc1.mono e2.out.size))
  clear o0 o1 o2 r0 r1 r2 bc1
  obtain ⟨⟨o0, o1, o2⟩, _, _, _, ⟨r0, r1, r2⟩⟩ := SC.out _ e3.out
  go_wp2_with fail
  refine (CV0.out _ e3.out).mono ?_
  rintro e u4 ⟨rfl, bc1⟩
  have e4 := Lib.hid (e3.out.trans (bc1.mono e3.out.size))
  clear o0 o1 o2 r0 r1 r2 bc1
  obtain ⟨⟨o0, o1, o2⟩, _, _, _, ⟨r0, r1, r2⟩⟩ := SC.out _ e4.out
  go_wp2_with fail
  refine (CS.out _ e4.out).mono ?_
  rintro e u5 ⟨rfl, bc1⟩
  have e5 := Lib.hid (e4.out.trans (bc1.mono e4.out.size))
  clear o0 o1 o2 r0 r1 r2 bc1
  go_wp2_with fail
  go_ret
  exact ⟨rfl, UP.out _ e5.out⟩
end Go.Proofs.Ytadjpadieljjlaa

/- The walk of the law OrderValid. -/
set_option linter.unusedVariables false
set_option linter.unusedSimpArgs false
namespace Go.Proofs.Ytadjpadieljjlaa
open Go.RowKit Go.Maps
set_option maxRecDepth 100000 in
set_option maxHeartbeats 16000000 in
theorem orderValid_walk {p1 : Prop} (v0 : Value) (zs : List Int) (z : Int) (w : World) (i0 : IntsAt w v0 zs) (i1 : p1) :
    Calls Try.prog 3 #[v0, .int .i64 z] w fun e w' => e = .returned (.bool true) ∧ Below w.heap.size w w' := by
  obtain ⟨AT, cT, rfl⟩ : ∃ A c, v0 = .slice A zs.length c := by obtain ⟨A, c, h, _⟩ := i0; exact ⟨A, c, h⟩
  have hcut := cutO_lt z 5 (by omega)
  have CC := Lib.hid (fun W => cutO_any z 5 W (by omega) (by omega))
  generalize cutO z 5 = kk at *
  obtain ⟨w1, hw1⟩ : ∃ w1, w.alloc (.cells #[.slice AT zs.length cT, .int .i64 0] 25) = w1 := ⟨_, rfl⟩
  have b1 : Below w.heap.size w w1 := by rw [← hw1]; exact (Below.refl _ _).alloc (Nat.le_refl _) _
  have t1 := tapeI_new i0
  rw [hw1] at t1
  have l1 : w.heap.size < w1.heap.size := t1.lt
  have B1 := Lib.hid b1
  have T1 := Lib.hid t1
  clear t1 b1 i0 i1
  go_enter Try.func3, Try.ntmps3
  go_wp2_with fail
  refine (mOrder_any 3 (by omega) w.heap.size w1 T1.out).mono ?_
  rintro e w2 ⟨⟨o, vo, rfl, hvo, hso, hmo⟩, hT2, o2⟩
  obtain ⟨ko, ao, tso⟩ := o
  obtain ⟨Ao, co, rfl, hPo⟩ := hvo.open_
  have T2 := Lib.hid hT2
  have VO := Lib.hid hvo
  have HO2 := Lib.hid o2
  have hs2 := o2.size
  have HM := Lib.hid hmo
  clear hT2 hvo hPo o2 hmo hw1
  go_wp2_with fail
  refine (mOrder_any 3 (by omega) w.heap.size w2 T2.out).mono ?_
  rintro e w3 ⟨⟨p, vp, rfl, hvp, hsp, hmp⟩, hT3, o3⟩
  obtain ⟨kp, ap, tsp⟩ := p
  obtain ⟨Ap, cp, rfl, hPp⟩ := hvp.open_
  obtain ⟨w3b, hw3b⟩ : ∃ w3b, w3.alloc (.cells #[.int .i64 ko, .int .i64 ao, .slice Ao tso.length co] 28) = w3b := ⟨_, rfl⟩
  obtain ⟨w4, hw4⟩ : ∃ w4, w3b.alloc (.cells #[.int .i64 kp, .int .i64 ap, .slice Ap tsp.length cp] 28) = w4 := ⟨_, rfl⟩
  have b3 : Below w3.heap.size w3 w3b := by rw [← hw3b]; exact (Below.refl _ _).alloc (Nat.le_refl _) _
  have b4 : Below w3b.heap.size w3b w4 := by rw [← hw4]; exact (Below.refl _ _).alloc (Nat.le_refl _) _
  have q3 : w3b.heap[w3.heap.size]? = some (.cells #[.int .i64 ko, .int .i64 ao, .slice Ao tso.length co] 28 (0, 0)) := by rw [← hw3b]; exact heap_alloc_new _ _
  have q4 : w4.heap[w3b.heap.size]? = some (.cells #[.int .i64 kp, .int .i64 ap, .slice Ap tsp.length cp] 28 (0, 0)) := by rw [← hw4]; exact heap_alloc_new _ _
  have n3 : w3b.heap.size = w3.heap.size + 1 := by rw [← hw3b]; simp
  have b34 : Below w3.heap.size w3 w4 := b3.trans (b4.mono (by omega))
  have hs3 := o3.size
  have VS : Hid (VldS w w.heap.size w3.heap.size (.node ko ao tso) (.node kp ap tsp) w4) := Lib.hid {
    ho := ⟨ko, ao, tso, Ao, co, rfl, (b4.block _ (by omega)).trans q3, VO.out.keep (fun b hb hlt => (b34.block b (by omega)).trans (o3.block b hlt (fun e => by have e := Option.some.inj e; omega))) (Nat.le_trans hs3 b34.size) (fun b hlt hb => by omega)⟩
    hp := ⟨kp, ap, tsp, Ap, cp, rfl, by rw [← n3]; exact q4, hvp.keep (fun b hb hlt => b34.block b hlt) b34.size (fun b hlt hb => by omega)⟩
    so := by omega
    sp := by omega
    mo := HM.out
    tape := hT3.below b34
    below := (Oth.below (Oth.below B1.out HO2.out (Nat.le_refl _) (by omega)) o3 (Nat.le_refl _) (by omega)).trans (b34.mono (by omega))
    hT := Nat.le_refl _
    hO := by omega }
  have TT : TapeI w.heap.size w4 := VS.out.tape
  have TT := Lib.hid TT
  have hs4 : w3.heap.size + 2 = w4.heap.size := by rw [← hw4]; simp; omega
  have H3 := Lib.hid hw3b
  have H4 := Lib.hid hw4
  clear hT3 hvp hPp o3 hmp b3 b4 q3 q4 b34 VO HO2 HM T1 T2 hw3b hw4 n3
  go_upto_region 3 with fail
  rw [H3.out, H4.out]
  clear H3 H4 B1 hs2 hs3
  go_wp2_with fail
  refine (tapeI_next w.heap.size 4 w4 (by omega) (by omega) TT.out).mono ?_
  rintro e w5 ⟨⟨r, hr, rfl⟩, hT5, o5⟩
  have VS5 := Lib.hid (VS.out.oth o5 hT5)
  clear VS TT hT5 o5
  go_upto_if 24 with fail
  go_cut [] (fun wx => Hid (∃ k a ts, VldS w w.heap.size w3.heap.size (.node k a ts) (.node kp ap tsp) wx) ∧ w3.heap.size + 2 ≤ wx.heap.size)
  case first =>
    by_cases hr0 : r = 0
    · subst hr0
      have TT := Lib.hid VS5.out.tape
      go_wp2_with fail
      refine (tapeI_next w.heap.size 5 w5 (by omega) (by omega) TT.out).mono ?_
      rintro e w6 ⟨⟨r1, hr1, rfl⟩, hT6, o6⟩
      have VS6 := Lib.hid (VS5.out.oth o6 hT6)
      have TT6 := Lib.hid hT6
      clear TT VS5 hT6 o6
      go_wp2_with fail
      refine (tapeI_next w.heap.size 5 w6 (by omega) (by omega) TT6.out).mono ?_
      rintro e w7 ⟨⟨r2, hr2, rfl⟩, hT7, o7⟩
      have VS7 := Lib.hid (VS6.out.oth o7 hT7)
      clear TT6 VS6 hT7 o7
      obtain ⟨k, a, ts, A, c, he, hc, hv⟩ := VS7.out.ho
      cases he
      have hi1 : IntKind.i64.wrap ((r2 : Int) - 1) = (r2 : Int) - 1 := IntWalk.i64_in _ (by omega)
      obtain ⟨s1, s2, g1, g2, ⟨x0, x1⟩, ⟨f0, f1⟩, hq, ho⟩ := oput2 hc (.int .i64 (r1 : Int)) (.int .i64 ((r2 : Int) - 1))
      have VZ := Lib.hid (VS7.out.put ho hc hq (by omega))
      clear hc hv hq ho VS7
      go_wp2_with fail
      go_meet
      exact ⟨Lib.hid ⟨_, _, _, VZ.out⟩, by have := VZ.out.below.size; have := VZ.out.hO; obtain ⟨_, _, _, _, _, _, hq, _⟩ := VZ.out.hp; have := lt_of_block hq; omega⟩
    · have hr1 : ¬ (r : Int) = 0 := by omega
      go_wp2_with fail
      go_meet
      exact ⟨Lib.hid ⟨_, _, _, VS5.out⟩, by obtain ⟨_, _, _, _, _, _, hq, _⟩ := VS5.out.hp; have := lt_of_block hq; omega⟩
  case rest =>
    obtain ⟨HV, hs⟩ := hcut
    obtain ⟨k, a, ts, hvs⟩ := HV.out
    have VS := Lib.hid hvs
    clear HV hvs hso hsp hs4 TT VS5
    go_wp2_with fail
    refine (CC.out _).mono ?_
    rintro e w8 ⟨rfl, hw8⟩
    obtain rfl := hw8.symm
    have TT := Lib.hid VS.out.tape
    clear CC
    go_wp2_with fail
    refine (tapeI_next w.heap.size 4 _ (by omega) (by omega) TT.out).mono ?_
    rintro e w9 ⟨⟨r3, hr3, rfl⟩, hT9, o9⟩
    have VS9 := Lib.hid (VS.out.oth o9 hT9)
    have hs9 := o9.size
    have him : IntKind.i64.wrap ((r3 : Int) - 1) = (r3 : Int) - 1 := IntWalk.i64_in _ (by omega)
    obtain ⟨w10, hw10⟩ : ∃ w10, w9.alloc (.cells #[S [102], .int .i64 1, S [], .int .i64 0, .slice none 0 0, .int .i64 ((r3 : Int) - 1)] 36) = w10 := ⟨_, rfl⟩
    have b10 : Below w9.heap.size w9 w10 := by rw [← hw10]; exact (Below.refl _ _).alloc (Nat.le_refl _) _
    have q10 : w10.heap[w9.heap.size]? = some (.cells #[S [102], .int .i64 1, S [], .int .i64 0, .slice none 0 0, .int .i64 ((r3 : Int) - 1)] 36 (0, 0)) := by rw [← hw10]; exact heap_alloc_new _ _
    have D0 := Lib.hid (DclI.start q10)
    have B10 := Lib.hid b10
    have H10 := Lib.hid hw10
    have l10 := lt_of_block q10
    clear hT9 o9 TT VS b10 q10 hw10
    go_upto_region 7 with fail
    rw [H10.out]
    clear H10
    go_wp2_with fail
    go_loopw [10] (fun i wr => ∃ j : Nat, j ≤ kk ∧ i = .int .i64 j ∧ Hid (DclI w10 w9.heap.size ((r3 : Int) - 1) j wr)) (fun i _ => kk - (intOf i).toNat)
    case atStart => exact ⟨0, by omega, rfl, D0⟩
    case round =>
      obtain ⟨j, hj, rfl, HL⟩ := hrel
      obtain ⟨kd, nd, pd, tsd, Ad, cd, hpi, hcells, htv, hod⟩ := HL.out
      obtain ⟨x0, x1, x2, x3, x4, x5⟩ := cells6d hcells
      have HC := Lib.hid hcells
      have HT := Lib.hid htv
      have HP := Lib.hid hpi
      have HO := Lib.hid hod
      have hlt0 := lt_of_block hcells
      clear hpi hcells htv hod HL
      by_cases hlt : j < kk
      · obtain ⟨w11, hw11⟩ : ∃ w11, wr.alloc (.cells #[.int .i64 4, S [113], .int .i64 0, .slice none 0 0, .int .i64 kd, S nd, .int .i64 pd, .slice Ad tsd.length cd] 34) = w11 := ⟨_, rfl⟩
        have b11 : Below wr.heap.size wr w11 := by rw [← hw11]; exact (Below.refl _ _).alloc (Nat.le_refl _) _
        have q11 : w11.heap[wr.heap.size]? = some (.cells #[.int .i64 4, S [113], .int .i64 0, .slice none 0 0, .int .i64 kd, S nd, .int .i64 pd, .slice Ad tsd.length cd] 34 (0, 0)) := by rw [← hw11]; exact heap_alloc_new _ _
        obtain ⟨s1, s2, s3, s4, g1, g2, g3, g4, ⟨y0, y1, y2, y3⟩, ⟨f0, f1, f2, f3⟩, q, oq⟩ := dput4 ((b11.block _ hlt0).trans HC.out) (.int .i64 2) (S []) (.int .i64 0) (.slice (some ⟨wr.heap.size, 0, none⟩) 2 2)
        have HS := Lib.hid (DclI.step HP.out HT.out HO.out hlt0 b11 q11 q oq)
        clear q oq b11 q11
        have hd1 : decide ((j : Int) < (kk : Int)) = true := by simp; omega
        go_wp2_with fail
        go_roundw
        case rel => exact ⟨j + 1, by omega, by go_num, HS⟩
        case measure => simp [intOf]; omega
      · obtain rfl : j = kk := by omega
        have hd1 : decide ((j : Int) < (j : Int)) = false := by simp
        have b0r : Below w9.heap.size w9 wr := Oth.below B10.out HO.out (Nat.le_refl _) (by omega)
        have VR := VS9.out.below_ b0r
        obtain ⟨Ao2, co2, Ap2, cp2, F⟩ := VR.later
        have hso := VR.so
        have hsp := VR.sp
        have hmo := VR.mo
        have htv : TreeV wr (Lfc.piCh j) (.agg #[.int .i64 kd, S nd, .int .i64 pd, .slice Ad tsd.length cd]) := by rw [HP.out]; exact HT.out.toV
        have BR : Hid (Below w.heap.size w wr) := Lib.hid VR.below
        have hsr := VR.below.size
        have FF := Lib.hid F
        have HTV := Lib.hid htv
        have hszr := b0r.size
        have C1 := Lib.hid (oExplicit_any (.node k a ts) (.agg #[.int .i64 k, .int .i64 a, .slice Ao2 ts.length co2]) j ((r3 : Int) - 1) [102] kd pd nd Ad tsd.length cd wr (by omega) hmo (by omega) (by omega) (by omega) (F wr (Below.refl _ _)).2.2.1 htv)
        have C2 := Lib.hid (fun W (hb : Below wr.heap.size wr W) => rExplicit_any (.node k a ts) (.agg #[.int .i64 k, .int .i64 a, .slice Ao2 ts.length co2]) j ((r3 : Int) - 1) [102] kd pd nd Ad tsd.length cd W (by omega) hmo (by omega) (by omega) (by omega) (F W hb).2.2.1 (htv.below hb))
        have HEQ := Lib.hid (Lfc.Ord.exp_eq (.node k a ts) ((r3 : Int) - 1) j)
        have HSZ := Lib.hid (Lfc.Ord.exp_size (.node k a ts) ((r3 : Int) - 1) j)
        have HS2 := Lib.hid (And.intro hso hsp)
        obtain ⟨⟨o0, o1, o2⟩, _⟩ := F wr (Below.refl _ _)
        clear F VR VS9 D0 B10 HT HP HO b0r htv hmo hso hsp
        go_wp2_with fail
        refine C1.out.mono ?_
        rintro e w12 ⟨⟨v12, rfl, hv12⟩, b12⟩
        obtain ⟨oa, hoa⟩ : ∃ oa, (if (Lfc.Ord.node k a ts).expE ((r3 : Int) - 1) j = 0 then (Lfc.Ord.node k a ts).mv ((r3 : Int) - 1 - 1) else .node 0 0 []) = oa := ⟨_, rfl⟩
        rw [hoa] at hv12
        obtain ⟨ka, aa, tsa⟩ := oa
        obtain ⟨Aa, ca, rfl, _⟩ := hv12.open_
        have HV12 := Lib.hid hv12.toV
        obtain ⟨w13, hw13⟩ : ∃ w13, w12.alloc (.cells #[.int .i64 ka, .int .i64 aa, .slice Aa tsa.length ca] 28) = w13 := ⟨_, rfl⟩
        have b13 : Below w12.heap.size w12 w13 := by rw [← hw13]; exact (Below.refl _ _).alloc (Nat.le_refl _) _
        have q13 : w13.heap[w12.heap.size]? = some (.cells #[.int .i64 ka, .int .i64 aa, .slice Aa tsa.length ca] 28 (0, 0)) := by rw [← hw13]; exact heap_alloc_new _ _
        have br13 := b12.trans (b13.mono b12.size)
        have C2 := Lib.hid (C2.out w13 br13)
        obtain ⟨⟨o0', o1', o2'⟩, _⟩ := FF.out w13 br13
        obtain ⟨y0, y1, y2, y3, y4, y5⟩ := cells6d ((br13.block _ hlt0).trans HC.out)
        have HOA := Lib.hid hoa
        have B13 := Lib.hid b13
        have BR13 := Lib.hid br13
        have Q13 := Lib.hid q13
        have H13 := Lib.hid hw13
        have hsz13 : w12.heap.size < w13.heap.size := lt_of_block q13
        clear hoa hv12 b12 b13 q13 br13 hw13 o0 o1 o2 x0 x1 x2 x3 x4 x5 C1
        go_upto_region 12 with fail
        rw [H13.out]
        clear H13
        go_wp2_with fail
        refine C2.out.mono ?_
        rintro e w14 ⟨⟨v14, rfl, hv14⟩, b14⟩
        obtain ⟨ob, hob⟩ : ∃ ob, (if (Lfc.Ord.node k a ts).expE ((r3 : Int) - 1) j = 0 then (Lfc.Ord.node k a ts).mvr ((r3 : Int) - 1 - 1) else .node 0 0 []) = ob := ⟨_, rfl⟩
        rw [hob] at hv14
        obtain ⟨kb, ab, tsb⟩ := ob
        obtain ⟨Ab, cb, rfl, _⟩ := hv14.open_
        obtain ⟨w15, hw15⟩ : ∃ w15, w14.alloc (.cells #[.int .i64 kb, .int .i64 ab, .slice Ab tsb.length cb] 28) = w15 := ⟨_, rfl⟩
        have b15 : Below w14.heap.size w14 w15 := by rw [← hw15]; exact (Below.refl _ _).alloc (Nat.le_refl _) _
        have q15 : w15.heap[w14.heap.size]? = some (.cells #[.int .i64 kb, .int .i64 ab, .slice Ab tsb.length cb] 28 (0, 0)) := by rw [← hw15]; exact heap_alloc_new _ _
        have b1315 := b14.trans (b15.mono b14.size)
        have br15 := BR13.out.trans (b1315.mono BR13.out.size)
        have hse := HSZ.out
        have heq := HEQ.out
        have hoa := HOA.out
        rw [hoa, hob] at hse heq
        have UP : Hid (∀ W, Below w15.heap.size w15 W → Below w.heap.size w W) := Lib.hid (fun W hb => by
          have h5 := br15.trans (hb.mono br15.size)
          exact BR.out.trans (h5.mono hsr))
        have FW : ∀ W, Below w15.heap.size w15 W → Below wr.heap.size wr W := fun W hb => br15.trans (hb.mono br15.size)
        have SC : Hid (∀ W, Below w15.heap.size w15 W → (W.cell? ⟨w3.heap.size, 0, none⟩ = some (.int .i64 k) ∧ W.cell? ⟨w3.heap.size, 1, none⟩ = some (.int .i64 a) ∧ W.cell? ⟨w3.heap.size, 2, none⟩ = some (.slice Ao2 ts.length co2)) ∧ (W.cell? ⟨w3.heap.size + 1, 0, none⟩ = some (.int .i64 kp) ∧ W.cell? ⟨w3.heap.size + 1, 1, none⟩ = some (.int .i64 ap) ∧ W.cell? ⟨w3.heap.size + 1, 2, none⟩ = some (.slice Ap2 tsp.length cp2)) ∧ (W.cell? ⟨w12.heap.size, 0, none⟩ = some (.int .i64 ka) ∧ W.cell? ⟨w12.heap.size, 1, none⟩ = some (.int .i64 aa) ∧ W.cell? ⟨w12.heap.size, 2, none⟩ = some (.slice Aa tsa.length ca)) ∧ (W.cell? ⟨w14.heap.size, 0, none⟩ = some (.int .i64 kb) ∧ W.cell? ⟨w14.heap.size, 1, none⟩ = some (.int .i64 ab) ∧ W.cell? ⟨w14.heap.size, 2, none⟩ = some (.slice Ab tsb.length cb))) := Lib.hid (fun W hb =>
          ⟨(FF.out W (FW W hb)).1, (FF.out W (FW W hb)).2.1, cells3o ((hb.block _ (Nat.lt_of_lt_of_le hsz13 b1315.size)).trans ((b1315.block _ hsz13).trans Q13.out)), cells3o ((hb.block _ (lt_of_block q15)).trans q15)⟩)
        have VOA : ∀ W, Below w15.heap.size w15 W → OrdV W (.node ka aa tsa) (.agg #[.int .i64 ka, .int .i64 aa, .slice Aa tsa.length ca]) := fun W hb => (((HV12.out.below B13.out).below b1315).below hb)
        have VOB : ∀ W, Below w15.heap.size w15 W → OrdV W (.node kb ab tsb) (.agg #[.int .i64 kb, .int .i64 ab, .slice Ab tsb.length cb]) := fun W hb => ((hv14.toV.below b15).below hb)
        have CV : Hid (∀ W, Below w15.heap.size w15 W → Calls Try.prog 9 #[(.agg #[.int .i64 k, .int .i64 a, .slice Ao2 ts.length co2]), .int .i64 (j : Int)] W fun e w' => e = .returned (.int .i64 ((Lfc.Ord.node k a ts).vld j)) ∧ Below W.heap.size W w') := Lib.hid (fun W hb => oValid_any _ _ _ W (by have := HS2.out; omega) (by omega) (by omega) (FF.out W (FW W hb)).2.2.1)
        have CR : Hid (∀ W, Below w15.heap.size w15 W → Calls Try.prog 10 #[(.agg #[.int .i64 k, .int .i64 a, .slice Ao2 ts.length co2]), .int .i64 (j : Int)] W fun e w' => e = .returned (.int .i64 ((Lfc.Ord.node k a ts).vld j)) ∧ Below W.heap.size W w') := Lib.hid (fun W hb => rValid_any _ _ _ W (by have := HS2.out; omega) (by omega) (by omega) (FF.out W (FW W hb)).2.2.1)
        have CS : Hid (∀ W, Below w15.heap.size w15 W → Calls Try.prog 11 #[(.agg #[.int .i64 ka, .int .i64 aa, .slice Aa tsa.length ca]), (.agg #[.int .i64 kb, .int .i64 ab, .slice Ab tsb.length cb])] W fun e w' => e = .returned (.bool true) ∧ Below W.heap.size W w') := Lib.hid (fun W hb => by
          have h := rSameOrder_upto 16 (by omega) _ _ _ _ W (by have := HS2.out; omega) (by have := HS2.out; omega) (VOA W hb) (VOB W hb)
          rwa [heq] at h)
        have CH1 : Hid (∀ W, Below w15.heap.size w15 W → Calls Try.prog 12 #[(.agg #[.int .i64 k, .int .i64 a, .slice Ao2 ts.length co2]), (.agg #[.int .i64 kp, .int .i64 ap, .slice Ap2 tsp.length cp2])] W fun e w' => e = .returned (.bool (Lfc.Ord.shp (.node k a ts) (.node kp ap tsp))) ∧ Below W.heap.size W w') := Lib.hid (fun W hb => oShape_upto 16 (by omega) _ _ _ _ W (by have := HS2.out; omega) (FF.out W (FW W hb)).2.2.1 (FF.out W (FW W hb)).2.2.2)
        have CH2 : Hid (∀ W, Below w15.heap.size w15 W → Calls Try.prog 13 #[(.agg #[.int .i64 k, .int .i64 a, .slice Ao2 ts.length co2]), (.agg #[.int .i64 kp, .int .i64 ap, .slice Ap2 tsp.length cp2])] W fun e w' => e = .returned (.bool (Lfc.Ord.shp (.node k a ts) (.node kp ap tsp))) ∧ Below W.heap.size W w') := Lib.hid (fun W hb => rShape_upto 16 (by omega) _ _ _ _ W (by have := HS2.out; omega) (by have := HS2.out; omega) (FF.out W (FW W hb)).2.2.1 (FF.out W (FW W hb)).2.2.2)
        have CH3 : Hid (∀ W, Below w15.heap.size w15 W → Calls Try.prog 12 #[(.agg #[.int .i64 k, .int .i64 a, .slice Ao2 ts.length co2]), (.agg #[.int .i64 k, .int .i64 a, .slice Ao2 ts.length co2])] W fun e w' => e = .returned (.bool true) ∧ Below W.heap.size W w') := Lib.hid (fun W hb => by
          have h := oShape_upto 16 (by omega) _ _ _ _ W (by have := HS2.out; omega) (FF.out W (FW W hb)).2.2.1 (FF.out W (FW W hb)).2.2.1
          rwa [Lfc.shp_refl 16 _ (by have := HS2.out; omega)] at h)
        generalize (Lfc.Ord.node k a ts).vld j = E1 at *
        generalize (Lfc.Ord.node k a ts).expE ((r3 : Int) - 1) j = E2 at *
        generalize Lfc.Ord.shp (.node k a ts) (.node kp ap tsp) = sh at *
        have H15 := Lib.hid hw15
        have G0 : Below w15.heap.size w15 w15.drew := (Below.refl _ _).drew
        have aw : ∀ W W', Below w15.heap.size w15 W → Below W.heap.size W W' → Below w15.heap.size w15 W' := fun W W' h h' => h.trans (h'.mono h.size)
        clear hoa hob hse heq b14 hv14 b15 q15 b1315 br15 hw15 FW VOA VOB HV12 o0' o1' o2' y0 y1 y2 y3 y4 y5 C2 HEQ HSZ HS2 HOA B13 BR13 Q13 FF HTV BR HC
        go_upto_region 13 with fail
        rw [H15.out]
        clear H15
        go_region_held3 (fun W => (W.cell? ⟨w3.heap.size, 0, none⟩ = some (.int .i64 k) ∧ W.cell? ⟨w3.heap.size, 1, none⟩ = some (.int .i64 a) ∧ W.cell? ⟨w3.heap.size, 2, none⟩ = some (.slice Ao2 ts.length co2)) ∧ (W.cell? ⟨w3.heap.size + 1, 0, none⟩ = some (.int .i64 kp) ∧ W.cell? ⟨w3.heap.size + 1, 1, none⟩ = some (.int .i64 ap) ∧ W.cell? ⟨w3.heap.size + 1, 2, none⟩ = some (.slice Ap2 tsp.length cp2)) ∧ (W.cell? ⟨w12.heap.size, 0, none⟩ = some (.int .i64 ka) ∧ W.cell? ⟨w12.heap.size, 1, none⟩ = some (.int .i64 aa) ∧ W.cell? ⟨w12.heap.size, 2, none⟩ = some (.slice Aa tsa.length ca)) ∧ (W.cell? ⟨w14.heap.size, 0, none⟩ = some (.int .i64 kb) ∧ W.cell? ⟨w14.heap.size, 1, none⟩ = some (.int .i64 ab) ∧ W.cell? ⟨w14.heap.size, 2, none⟩ = some (.slice Ab tsb.length cb)))
          (first | exact SC.out _ G0 | (refine SC.out _ ?_; assumption))
          (first
            | (go_at_call 9; (with_reducible refine (CV.out _ ?_).mono ?_); assumption; rintro e v1 ⟨rfl, hbv1'⟩; have hbv1 := aw _ _ (by assumption) hbv1')
            | (go_at_call 10; (with_reducible refine (CR.out _ ?_).mono ?_); assumption; rintro e v2 ⟨rfl, hbv2'⟩; have hbv2 := aw _ _ (by assumption) hbv2')
            | (go_at_call 11; (with_reducible refine (CS.out _ ?_).mono ?_); assumption; rintro e v3 ⟨rfl, hbv3'⟩; have hbv3 := aw _ _ (by assumption) hbv3')
            | (go_at_call 12; (with_reducible refine (CH1.out _ ?_).mono ?_); assumption; rintro e v4 ⟨rfl, hbv4'⟩; have hbv4 := aw _ _ (by assumption) hbv4')
            | (go_at_call 13; (with_reducible refine (CH2.out _ ?_).mono ?_); assumption; rintro e v5 ⟨rfl, hbv5'⟩; have hbv5 := aw _ _ (by assumption) hbv5')
            | (go_at_call 12; (with_reducible refine (CH3.out _ ?_).mono ?_); assumption; rintro e v6 ⟨rfl, hbv6'⟩; have hbv6 := aw _ _ (by assumption) hbv6')
            | (go_at_call 14; refine (oAwake_any _).mono ?_; rintro e v7 ⟨rfl, hbv7'⟩; have hbv7 := aw _ _ (by assumption) hbv7'))
        all_goals
          go_wp2_with fail
          go_ret
          exact ⟨rfl, UP.out _ hbv7⟩
end Go.Proofs.Ytadjpadieljjlaa

/- The law OrderValid is true of every input: its row. -/
set_option linter.unusedVariables false
namespace Go.Proofs.Ytadjpadieljjlaa.orderValid
open Go.ChangeShapes Go.WideShapes Go.ChangeAt Go.RowKit

theorem readable : ∀ t ∈ Try.f3.params.toList, Try.prog.readableRec t = true ∧ t < Try.prog.types.size := by
  have h : (Try.f3.params.toList.all fun t => Try.prog.readableRec t && decide (t < Try.prog.types.size)) = true := by kernel_rfl
  intro t ht
  have := List.all_eq_true.1 h t ht
  simp only [Bool.and_eq_true, decide_eq_true_eq] at this
  exact this

set_option maxRecDepth 100000 in
theorem lifted (os : Os) (started : os.Started) (H : Type) (enc : TypeId × Value → H) :
    ReturnsInHanded {} Try.checked os 3 .any (Rows.orderValidSpec.pre6 enc Try.prog Try.f3 Rows.orderValidRow.domain false) (Rows.orderValidSpec.post enc Try.prog Try.f3 false true false false) := by
  refine returnsInHanded_of_change (C := Try.checked) own started (by kernel_rfl) Try.func3
    (ChangeSpec.witness6 (enc := enc) (C := Try.checked) false ⟨#[], #[.slice none 0 0, .int .i64 0], []⟩ 8 (by kernel_rfl) (by kernel_rfl) (by kernel_rfl) (by kernel_rfl)) ?_
  intro W base args ds gs before hval0 hW hcnd _
  have hval : ∀ (j : Nat) t v, Try.f3.params[j]? = some t → args[j]? = some v → Value.okWide Try.prog W .any base t v := hval0
  have hW' := hW
  obtain ⟨p, q, hA0, hV, rfl, hfz, hnd⟩ := hW
  have hA : DataW.TrodAll enc Try.prog W 0 (fun _ => true) true Try.f3.params.toList args.toList ds p := hA0
  rw [Try.params3] at hA hval
  obtain ⟨v0, vs0, d0, ds0, p0, q0, hargs, rfl, rfl, h0, r0⟩ := trodAll_cons hA
  obtain ⟨v1, vs1, d1, ds1, p1, q1, e1, rfl, rfl, h1, r1⟩ := trodAll_cons r0
  obtain ⟨e2, rfl, rfl⟩ := trodAll_nil r1
  obtain rfl : args = #[v0, v1] := by cases args; simp_all
  obtain ⟨rfl, rfl⟩ := trodVars_none hV
  obtain ⟨z0, i0⟩ := intsAt_of (hval 0 22 v0 rfl rfl) h0
  obtain ⟨z1, rfl, rfl, rfl, w1⟩ := open_int Try.underlying3 (hval 1 3 v1 rfl rfl) h1
  clear hA0 hval0
  refine (orderValid_walk v0 z0 z1 W i0 w1).mono fun e W' ⟨he, hb⟩ => ?_
  subst he
  exact ⟨_, rfl, law_post rfl ⟨rfl, rfl, rfl⟩ rfl readable hW' hb⟩

theorem said : Rows.OrderValidSaid :=
  OpenClaim.holds_of_wide 3 Try.f3 rfl rfl rfl rfl rfl rfl rfl ⟨rfl, rfl, rfl, rfl, rfl⟩ rfl rfl rfl rfl rfl (by kernel_rfl) Try.func3 (by kernel_rfl)
    (of_decide_eq_true (by kernel_rfl)) (by unfold Func.isWrapper; first | (rw [if_pos (by decide +kernel)]; kernel_rfl) | (rw [if_neg (by decide +kernel)]; exact ⟨rfl, rfl⟩))
    (fun os started H enc _ => lifted os started H enc)
#print axioms said
end Go.Proofs.Ytadjpadieljjlaa.orderValid
