/- The contract of lfcheckmade.SpoilRaw: some tree, at most one node larger. -/
import Derived.Test.YtkhfnkokdmoipaaRawMade
set_option linter.unusedVariables false
set_option linter.unusedSimpArgs false
namespace Go.Proofs.Ytkhfnkokdmoipaa
open Go.RowKit Go.Maps Go.WideMaps

theorem TreeP.one {q : Nat → Prop} {w : World} : ∀ {t : Lfc.Raw} {v0 v1 v2 v3 : Value}, TreeP q w t v0 v1 v2 v3 → v0.oneCell' = true ∧ v1.oneCell' = true ∧ v2.oneCell' = true ∧ v3.oneCell' = true
  | .node k n p ts, v0, v1, v2, v3, h => by
    rw [TreeP] at h
    obtain ⟨rfl, rfl, _, rfl, A, c, rfl, _⟩ := h
    exact ⟨rfl, rfl, rfl, rfl⟩
theorem RowP.ones {q : Nat → Prop} {w : World} : ∀ {ts : List Lfc.Raw} {xs : List Value}, RowP q w ts xs → ∀ u ∈ xs, u.oneCell' = true
  | [], xs, h => by rw [RowP] at h; subst h; intro u hu; cases hu
  | t :: r, xs, h => by
    rw [RowP] at h
    obtain ⟨v0, v1, v2, v3, ys, rfl, ht, hr⟩ := h
    have h1 := ht.one
    intro u hu
    simp only [List.mem_cons] at hu
    rcases hu with rfl | rfl | rfl | rfl | hu
    · exact h1.1
    · exact h1.2.1
    · exact h1.2.2.1
    · exact h1.2.2.2
    · exact hr.ones u hu

theorem cellsAdd {w : World} {b o : Nat} {xs : List Value} (h : CellsAt w b o xs) : ∀ j u, xs[j]? = some u → w.cell? ((⟨b, o, none⟩ : Addr).add j) = some u := fun j u hj => by
  rw [Go.WideShapes.add_plain]; exact h j u hj
/-- The copy of a node, whose arguments are copied. -/
def CopyAt (w wa : World) (q : Nat → Prop) (k p : Int) (n : List UInt8) (ts : List Lfc.Raw) (O : Nat) (A : Option Addr) (c : Nat) (xs : List Value) (wx : World) : Prop :=
  w.heap.size + 2 ≤ O ∧ Hid (wx.heap[O]? = some (.cells #[.int .i64 k, S n, .int .i64 p, .slice A ts.length c] 32 (0, 0))) ∧ Hid (wx.ownsRow (w.heap.size + 2) 32 4 (.slice A ts.length c) ts.length xs ∧ (Value.slice A ts.length c).ownBlock ≠ some O) ∧ Hid (RowP (fun b => q b ∧ b < w.heap.size) wx ts xs) ∧ Hid (Below wa.heap.size wa wx)
theorem copyA {w wa w2 : World} {q : Nat → Prop} {ts : List Lfc.Raw} {xs : List Value} {A : Option Addr} {c : Nat} (k p : Int) (n : List UInt8) (hh : w.heap.size + 2 ≤ wa.heap.size) (hrow : RowP (fun b => q b ∧ b < w.heap.size) wa ts xs) (hown : w2.ownsRow (w.heap.size + 2) 32 4 (.slice A ts.length c) ts.length xs) (hg : wa.drew.grownBy w2 (Value.slice none 0 0).ownBlock) :
    CopyAt w wa q k p n ts w2.heap.size A c xs (w2.alloc (.cells #[.int .i64 k, S n, .int .i64 p, .slice A ts.length c] 32)) := by
  have hs : wa.heap.size ≤ w2.heap.size := hg.size
  have hk : ∀ b, b < wa.heap.size → (w2.alloc (.cells #[.int .i64 k, S n, .int .i64 p, .slice A ts.length c] 32)).heap[b]? = wa.heap[b]? := fun b hb => by
    rw [Lib.alloc_old _ _ _ (by omega)]; exact hg.block b hb (by simp [Value.ownBlock])
  refine ⟨by omega, Lib.hid (heap_alloc_new _ _), Lib.hid ⟨hown.alloc _, fun e => by have := (hown.lt _ e).2; omega⟩, Lib.hid (hrow.keep (fun b _ hlt => hk b hlt) (by simp; omega) (fun b _ hb => hb)), Lib.hid ⟨hg.os, hg.tape, hg.output, by simp; omega, hk⟩⟩
theorem copyB {w wa w2 : World} {q : Nat → Prop} {ts : List Lfc.Raw} {xs : List Value} {A : Option Addr} {c : Nat} (k p : Int) (n : List UInt8) (hh : w.heap.size + 2 ≤ wa.heap.size) (hrow : RowP (fun b => q b ∧ b < w.heap.size) wa ts xs) (hown : w2.ownsRow (w.heap.size + 2) 32 4 (.slice A ts.length c) ts.length xs)
    (hg : (wa.alloc (.cells #[.int .i64 0, S [], .int .i64 0, .slice none 0 0] 32)).drew.grownBy w2 (Value.slice none 0 0).ownBlock) (hloc : (Value.slice A ts.length c).ownBlock = (Value.slice none 0 0).ownBlock ∨ (Value.slice A ts.length c).ownBlock = some (wa.alloc (.cells #[.int .i64 0, S [], .int .i64 0, .slice none 0 0] 32)).drew.heap.size) :
    ∃ s1 s2 s3 s4, w2.setCell ⟨wa.heap.size, 0, none⟩ (.int .i64 k) = s1 ∧ s1.setCell ⟨wa.heap.size, 1, none⟩ (S n) = s2 ∧ s2.setCell ⟨wa.heap.size, 2, none⟩ (.int .i64 p) = s3 ∧ s3.setCell ⟨wa.heap.size, 3, none⟩ (.slice A ts.length c) = s4 ∧
    (w2.cell? ⟨wa.heap.size, 0, none⟩ = some (.int .i64 0) ∧ s1.cell? ⟨wa.heap.size, 1, none⟩ = some (S []) ∧ s2.cell? ⟨wa.heap.size, 2, none⟩ = some (.int .i64 0) ∧ s3.cell? ⟨wa.heap.size, 3, none⟩ = some (.slice none 0 0)) ∧
    (w2.frozen? ⟨wa.heap.size, 0, none⟩ = false ∧ s1.frozen? ⟨wa.heap.size, 1, none⟩ = false ∧ s2.frozen? ⟨wa.heap.size, 2, none⟩ = false ∧ s3.frozen? ⟨wa.heap.size, 3, none⟩ = false) ∧ CopyAt w wa q k p n ts wa.heap.size A c xs s4 := by
  have hs : wa.heap.size + 1 ≤ w2.heap.size := by have := hg.size; simpa using this
  have hz : w2.heap[wa.heap.size]? = some (.cells #[.int .i64 0, S [], .int .i64 0, .slice none 0 0] 32 (0, 0)) := (hg.block _ (by simp) (by simp [Value.ownBlock])).trans (heap_alloc_new wa _)
  obtain ⟨s1, s2, s3, s4, h1, h2, h3, h4, hc, hf, hq, ho⟩ := put4 hz (.int .i64 k) (S n) (.int .i64 p) (.slice A ts.length c)
  refine ⟨s1, s2, s3, s4, h1, h2, h3, h4, hc, hf, ?_⟩
  have hk : ∀ b, b < wa.heap.size → s4.heap[b]? = wa.heap[b]? := fun b hb => by
    rw [ho.block b (by omega) (fun e => by have := Option.some.inj e; omega), hg.block b (by simp; omega) (by simp [Value.ownBlock])]
    exact Lib.alloc_old wa _ b hb
  have hne : (Value.slice A ts.length c).ownBlock ≠ some wa.heap.size := fun e => by
    rcases hloc with h | h
    · rw [e] at h; simp [Value.ownBlock] at h
    · rw [e] at h; have := Option.some.inj h; simp at this
  refine ⟨hh, Lib.hid hq, Lib.hid ⟨hown.kept ho (Or.inr hne), hne⟩, Lib.hid (hrow.keep (fun b _ hlt => hk b hlt) (by have := ho.size; omega) (fun b _ hb => hb)), Lib.hid ⟨ho.os.trans hg.os, ho.tape.trans hg.tape, ho.output.trans hg.output, by have := ho.size; omega, hk⟩⟩
theorem RowP.get {q : Nat → Prop} {w : World} : ∀ {ts : List Lfc.Raw} {xs : List Value} (i : Nat) (h : i < ts.length), RowP q w ts xs → ∃ v0 v1 v2 v3, xs[i * 4]? = some v0 ∧ xs[i * 4 + 1]? = some v1 ∧ xs[i * 4 + 2]? = some v2 ∧ xs[i * 4 + 3]? = some v3 ∧ TreeP q w ts[i] v0 v1 v2 v3
  | [], _, _, h, _ => by simp at h
  | t :: r, xs, i, h, hr => by
    rw [RowP] at hr
    obtain ⟨v0, v1, v2, v3, ys, rfl, ht, hr⟩ := hr
    match i with
    | 0 => exact ⟨v0, v1, v2, v3, rfl, rfl, rfl, rfl, ht⟩
    | i + 1 =>
      obtain ⟨u0, u1, u2, u3, h0, h1, h2, h3, hu⟩ := RowP.get i (by simpa using h) hr
      refine ⟨u0, u1, u2, u3, ?_, ?_, ?_, ?_, hu⟩
      · rw [show (i + 1) * 4 = i * 4 + 1 + 1 + 1 + 1 by omega]; simpa using h0
      · rw [show (i + 1) * 4 + 1 = i * 4 + 1 + 1 + 1 + 1 + 1 by omega]; simpa using h1
      · rw [show (i + 1) * 4 + 2 = i * 4 + 2 + 1 + 1 + 1 + 1 by omega]; simpa using h2
      · rw [show (i + 1) * 4 + 3 = i * 4 + 3 + 1 + 1 + 1 + 1 by omega]; simpa using h3
theorem sizes_set (t : Lfc.Raw) : ∀ (ts : List Lfc.Raw) (i : Nat) (h : i < ts.length), Lfc.Raw.sizes (ts.set i t) + ts[i].size = Lfc.Raw.sizes ts + t.size
  | [], _, h => by simp at h
  | a :: r, 0, _ => by simp only [List.set_cons_zero, Lfc.Raw.sizes, List.getElem_cons_zero]; omega
  | a :: r, i + 1, h => by
    have := sizes_set t r i (by simpa using h)
    simp only [List.set_cons_succ, Lfc.Raw.sizes, List.getElem_cons_succ]
    omega
/-- Four cells of a row are stored. -/
theorem put4row {W : World} {g i : Nat} {xs : List Value} {cur : Array Value} {t : TypeId} (h : W.heap[g]? = some (.cells cur t (0, 0))) (hc : CellsAt W g 0 xs) (hi : i * 4 + 3 < xs.length) (v0 v1 v2 v3 : Value) : ∃ s1 s2 s3 s4 a0 a1 a2 a3, W.setCell ⟨g, i * 4, none⟩ v0 = s1 ∧ s1.setCell ⟨g, i * 4 + 1, none⟩ v1 = s2 ∧ s2.setCell ⟨g, i * 4 + 2, none⟩ v2 = s3 ∧ s3.setCell ⟨g, i * 4 + 3, none⟩ v3 = s4 ∧
    (W.cell? ⟨g, i * 4, none⟩ = some a0 ∧ s1.cell? ⟨g, i * 4 + 1, none⟩ = some a1 ∧ s2.cell? ⟨g, i * 4 + 2, none⟩ = some a2 ∧ s3.cell? ⟨g, i * 4 + 3, none⟩ = some a3) ∧
    (W.frozen? ⟨g, i * 4, none⟩ = false ∧ s1.frozen? ⟨g, i * 4 + 1, none⟩ = false ∧ s2.frozen? ⟨g, i * 4 + 2, none⟩ = false ∧ s3.frozen? ⟨g, i * 4 + 3, none⟩ = false) ∧
    CellsAt s4 g 0 ((((xs.set (i * 4) v0).set (i * 4 + 1) v1).set (i * 4 + 2) v2).set (i * 4 + 3) v3) ∧ Oth g W s4 := by
  have fz : ∀ (j k : Nat) (V : World) (v : Value) (c : Array Value), V.heap[g]? = some (.cells c t (0, 0)) → (V.setCell ⟨g, j, none⟩ v).heap[g]? = some (.cells (c.set! j v) t (0, 0)) := fun j k V v c hV => by simp [World.setCell, Array.getElem?_modify, hV]
  have c1 := hc.set (j0 := i * 4) v0
  have c2 := c1.set (j0 := i * 4 + 1) v1
  have c3 := c2.set (j0 := i * 4 + 2) v2
  have c4 := c3.set (j0 := i * 4 + 3) v3
  simp only [Nat.zero_add] at c1 c2 c3 c4
  have h1 := fz (i * 4) 0 W v0 _ h
  have h2 := fz (i * 4 + 1) 0 _ v1 _ h1
  have h3 := fz (i * 4 + 2) 0 _ v2 _ h2
  have e0 := hc (i * 4) _ (List.getElem?_eq_getElem (by omega))
  have e1 := c1 (i * 4 + 1) _ (List.getElem?_eq_getElem (by simp; omega))
  have e2 := c2 (i * 4 + 2) _ (List.getElem?_eq_getElem (by simp; omega))
  have e3 := c3 (i * 4 + 3) _ (List.getElem?_eq_getElem (by simp; omega))
  rw [Nat.zero_add] at e0 e1 e2 e3
  exact ⟨_, _, _, _, _, _, _, _, rfl, rfl, rfl, rfl, ⟨e0, e1, e2, e3⟩, ⟨Lib.frozen_of_heap h _, Lib.frozen_of_heap h1 _, Lib.frozen_of_heap h2 _, Lib.frozen_of_heap h3 _⟩, c4, (((Oth.set W v0).trans (Oth.set _ v1)).trans (Oth.set _ v2)).trans (Oth.set _ v3)⟩
theorem spoil_row {w wc w5 s4 : World} {q : Nat → Prop} {g i : Nat} {ts : List Lfc.Raw} {xs : List Value} {t5 : Lfc.Raw} {v0 v1 v2 v3 : Value} (hi : i < ts.length) (hg : w.heap.size + 2 ≤ g) (hgc : g < wc.heap.size) (hrow : RowP (fun b => q b ∧ b < w.heap.size) wc ts xs)
    (b5 : Below wc.drew.heap.size wc.drew w5) (hp5 : TreeP (fun b => (q b ∧ b < w.heap.size) ∨ wc.drew.heap.size ≤ b) w5 t5 v0 v1 v2 v3) (ho : Oth g w5 s4) (hc : CellsAt s4 g 0 ((((xs.set (i * 4) v0).set (i * 4 + 1) v1).set (i * 4 + 2) v2).set (i * 4 + 3) v3)) :
    TreesAtP (fun b => (q b ∧ b < w.heap.size) ∨ w.heap.size + 2 ≤ b) s4 (some ⟨g, 0, none⟩) (ts.set i t5) := by
  have s5 : wc.heap.size ≤ w5.heap.size := b5.size
  have hs := ho.size
  have k1 : TreeP (fun b => (q b ∧ b < w.heap.size) ∨ w.heap.size + 2 ≤ b) s4 t5 v0 v1 v2 v3 := by
    refine TreeP.keep (fun b hb hlt => ho.block b hlt (fun e => ?_)) hs (fun b _ hb => ?_) _ _ _ _ _ hp5
    · have := Option.some.inj e
      rcases hb with hb | hb
      · omega
      · have hb : wc.heap.size ≤ b := hb
        omega
    · rcases hb with hb | hb
      · exact .inl hb
      · have hb : wc.heap.size ≤ b := hb
        exact .inr (by omega)
  have k2 : RowP (fun b => (q b ∧ b < w.heap.size) ∨ w.heap.size + 2 ≤ b) s4 ts xs := by
    refine RowP.keep (fun b hb hlt => ?_) (by omega) (fun b _ hb => .inl hb) hrow
    have h2 : b < w.heap.size := hb.2
    exact (ho.block b (by omega) (fun e => by have := Option.some.inj e; omega)).trans (b5.block b hlt)
  exact fun _ => ⟨g, 0, rfl, by omega, .inr hg, (RowP.set k1 i hi k2).lie hc⟩

theorem TreeP.name_le {q : Nat → Prop} {w : World} {k p : Int} {n : List UInt8} {ts : List Lfc.Raw} {v0 v1 v2 v3 : Value} (h : TreeP q w (.node k n p ts) v0 v1 v2 v3) : n.length ≤ 1000000 := by rw [TreeP] at h; exact h.2.2.1
theorem own_le {w : World} {base e size n c : Nat} {A : Option Addr} {xs : List Value} (h : w.ownsRow base e size (.slice A n c) n xs) : n ≤ c := by
  rcases h.2 with ⟨_, h2⟩ | ⟨g, cap, cur, hv, _, _, hnc, _⟩
  · omega
  · injection hv with _ _ e3
    omega
/-- What stands in the variable out at the end. -/
def SpoilEnd (w wa : World) (q : Nat → Prop) (O : Nat) (sz : Nat) (wx : World) : Prop := ∃ (k' : Int) (n' : List UInt8) (p' : Int) (ts' : List Lfc.Raw) (A'' : Option Addr) (c'' : Nat), Hid (wx.heap[O]? = some (.cells #[.int .i64 k', S n', .int .i64 p', .slice A'' ts'.length c''] 32 (0, 0))) ∧ Hid (TreesAtP (fun b => (q b ∧ b < w.heap.size) ∨ w.heap.size + 2 ≤ b) wx A'' ts') ∧ Hid (Below (w.heap.size + 2) wa wx) ∧ Hid (n'.length ≤ 1000000 ∧ ts'.length ≤ c'' ∧ Lfc.Raw.sizes ts' ≤ sz)
theorem copy_trees {w W : World} {q : Nat → Prop} {O : Nat} {A : Option Addr} {c : Nat} {ts : List Lfc.Raw} {xs : List Value} (hown : W.ownsRow (w.heap.size + 2) 32 4 (.slice A ts.length c) ts.length xs) (hne : (Value.slice A ts.length c).ownBlock ≠ some O) (hrow : RowP (fun b => q b ∧ b < w.heap.size) W ts xs) :
    TreesAtP (fun b => (q b ∧ b < w.heap.size) ∨ (w.heap.size + 2 ≤ b ∧ b ≠ O)) W A ts := by
  rcases hown.2 with ⟨h1, h2⟩ | ⟨g, cap, cur, hv, hbg, hg, hnc, _, _, _⟩
  · exact fun hne => absurd (List.length_eq_zero_iff.1 h2) hne
  · injection hv with e1 _ e3
    subst e1 e3
    refine fun _ => ⟨g, 0, rfl, lt_of_block hg, .inr ⟨hbg, fun e => hne (by rw [e]; rfl)⟩, ?_⟩
    exact (RowP.keep (fun _ _ _ => rfl) (Nat.le_refl _) (fun b _ hb => .inl hb) hrow).lie (own_cells hown)
theorem TreesAtP.setO {w W : World} {q : Nat → Prop} {O : Nat} {A : Option Addr} {ts : List Lfc.Raw} (h : TreesAtP (fun b => (q b ∧ b < w.heap.size) ∨ (w.heap.size + 2 ≤ b ∧ b ≠ O)) W A ts) (j : Nat) (v : Value) (hO : w.heap.size + 2 ≤ O := by omega) : TreesAtP (fun b => (q b ∧ b < w.heap.size) ∨ w.heap.size + 2 ≤ b) (W.setCell ⟨O, j, none⟩ v) A ts := by
  refine h.keep (fun b hb _ => Below.heap_setCell _ _ _ _ ?_) (by simp [World.setCell]) (fun b _ hb => ?_)
  · show b ≠ O
    rcases hb with hb | hb <;> omega
  · rcases hb with hb | hb
    · exact .inl hb
    · exact .inr hb.1
theorem set0 {W : World} {r : Nat} {v0 v1 v2 v3 v : Value} {t : TypeId} (h : W.heap[r]? = some (.cells #[v0, v1, v2, v3] t (0, 0))) : (W.setCell ⟨r, 0, none⟩ v).heap[r]? = some (.cells #[v, v1, v2, v3] t (0, 0)) := by
  simp [World.setCell, Array.getElem?_modify, h]
theorem set2 {W : World} {r : Nat} {v0 v1 v2 v3 v : Value} {t : TypeId} (h : W.heap[r]? = some (.cells #[v0, v1, v2, v3] t (0, 0))) : (W.setCell ⟨r, 2, none⟩ v).heap[r]? = some (.cells #[v0, v1, v, v3] t (0, 0)) := by
  simp [World.setCell, Array.getElem?_modify, h]
theorem hole_final {w wa wc w10 : World} {q : Nat → Prop} {O : Nat} {A A10 : Option Addr} {c c10 : Nat} {ts : List Lfc.Raw} {xs : List Value} {v0 v1 v2 : Value} (hO : w.heap.size + 2 ≤ O) (HB : Below wa.heap.size wa wc) (hwa : w.heap.size + 2 ≤ wa.heap.size) (hOs : O < wc.heap.size) (hR : wc.heap[O]? = some (.cells #[v0, v1, v2, .slice A ts.length c] 32 (0, 0))) (hown : wc.ownsRow (w.heap.size + 2) 32 4 (.slice A ts.length c) ts.length xs) (hne : (Value.slice A ts.length c).ownBlock ≠ some O) (hrow : RowP (fun b => q b ∧ b < w.heap.size) wc ts xs)
    (hown' : w10.ownsRow (w.heap.size + 2) 32 4 (.slice A10 (ts.length + 1) c10) (ts.length + 1) (xs ++ [.int .i64 3, S [], .int .i64 0, .slice none 0 0])) (hg : (wc.alloc (.cells #[.int .i64 3, S [], .int .i64 0, .slice none 0 0] 32)).grownBy w10 (Value.slice A ts.length c).ownBlock) (hloc : (Value.slice A10 (ts.length + 1) c10).ownBlock = (Value.slice A ts.length c).ownBlock ∨ (Value.slice A10 (ts.length + 1) c10).ownBlock = some (wc.heap.size + 1)) :
    w10.heap[O]? = some (.cells #[v0, v1, v2, .slice A ts.length c] 32 (0, 0)) ∧ TreesAtP (fun b => (q b ∧ b < w.heap.size) ∨ (w.heap.size + 2 ≤ b ∧ b ≠ O)) w10 A10 (ts ++ [.node 3 [] 0 []]) ∧ Below (w.heap.size + 2) wa w10 := by
  have s10 : wc.heap.size + 1 ≤ w10.heap.size := by have := hg.size; simpa using this
  have hk : ∀ b, b < w.heap.size + 2 → b < wc.heap.size → w10.heap[b]? = wc.heap[b]? := fun b hb hlt => by
    rw [hg.block b (by simp; omega) (fun e => by have := (hown.lt b e.symm).1; omega)]
    exact Lib.alloc_old wc _ b hlt
  have hbz := HB.size
  refine ⟨?_, ?_, ⟨hg.os.trans HB.os, hg.tape.trans HB.tape, hg.output.trans HB.output, by omega, fun b hb => (hk b hb (by omega)).trans (HB.block b (by omega))⟩⟩
  · rw [hg.block O (by simp; omega) (fun e => hne e.symm)]
    exact (Lib.alloc_old wc _ O hOs).trans hR
  · have hne' : (Value.slice A10 (ts.length + 1) c10).ownBlock ≠ some O := fun e => by
      rcases hloc with h | h
      · exact hne (h.symm.trans e)
      · have := Option.some.inj (h.symm.trans e); omega
    have hrow' : RowP (fun b => q b ∧ b < w.heap.size) w10 ts xs := by
      refine RowP.keep (fun b hb hlt => ?_) (by omega) (fun b _ hb => hb) hrow
      have h2 : b < w.heap.size := hb.2
      exact hk b (by omega) hlt
    have hh : TreeP (fun b => q b ∧ b < w.heap.size) w10 (.node 3 [] 0 []) (.int .i64 3) (S []) (.int .i64 0) (.slice none 0 0) := by
      rw [TreeP]; exact ⟨rfl, rfl, by simp, rfl, none, 0, rfl, Nat.le_refl _, fun h => absurd rfl h⟩
    have hr2 := RowP.append (RowP.one hh) hrow'
    refine copy_trees (c := c10) (ts := ts ++ [.node 3 [] 0 []]) ?_ ?_ hr2
    · rw [List.length_append]; exact hown'
    · rw [List.length_append]; exact hne'
theorem TreesAtP.tail {q : Nat → Prop} {w : World} {g o : Nat} {t : Lfc.Raw} {tr : List Lfc.Raw} (h : TreesAtP q w (some ⟨g, o, none⟩) (t :: tr)) : TreesAtP q w (some ⟨g, o + 4, none⟩) tr := fun _ => by
  obtain ⟨b, o', hA, hlt, hqb, hts⟩ := h (by simp)
  cases hA
  rw [TreesP] at hts
  exact ⟨g, o + 4, rfl, hlt, hqb, hts.2⟩
theorem TreesAtP.drew {q : Nat → Prop} {w : World} {A : Option Addr} {ts : List Lfc.Raw} (h : TreesAtP q w A ts) : TreesAtP q w.drew A ts :=
  TreesAtP.keep (w := w) (w' := w.drew) (fun _ _ _ => rfl) (Nat.le_refl w.heap.size) (fun _ _ h => h) h
end Go.Proofs.Ytkhfnkokdmoipaa
