/- Contracts of slices.Clone at trees, operator.clone, apply and join. -/
import Derived.Test.YtkhfnkokdmoipaaDoorOpMem
import Derived.Test.YtkhfnkokdmoipaaDoorRawSpoil
set_option linter.unusedVariables false
set_option linter.unusedSimpArgs false
namespace Go.Proofs.YtkhfnkokdmoipaaDoor
open Go.RowKit Go.Maps Go.WideMaps

set_option maxRecDepth 100000 in
set_option maxHeartbeats 2000000 in
theorem sclone_any (q : Nat → Prop) (ts : List Lfc.Raw) (A : Option Addr) (c : Nat) (w : World) (hl : ts.length ≤ 1000000000) (h : TreesAtP q w A ts) :
    Calls Tryd.prog 50 #[.slice A ts.length c] w fun e w' => ∃ A' c' xs, e = .returned (.slice A' ts.length c') ∧ Hid (w'.ownsRow w.heap.size 39 4 (.slice A' ts.length c') ts.length xs) ∧ Hid (RowP (fun b => q b ∧ b < w.heap.size) w' ts xs) ∧ Below w.heap.size w w' := by
  obtain ⟨i0, hi, hz0, hz1, hz2⟩ := raw_info
  rcases A with _ | A
  · have hts : ts = [] := by
      by_cases e : ts = []
      · exact e
      · obtain ⟨b, o, hA, _⟩ := h e; cases hA
    subst hts
    simp only [List.length_nil] at *
    have hnil : ∀ W : World, (binOp .eql 37 (.slice none 0 c) (.slice none 0 0)).run Tryd.prog W = .ok (.bool true) W := fun _ => rfl
    clear h
    go_enter Tryd.func50, Tryd.ntmps50
    go_wp2_with fail
    go_ret
    exact ⟨none, 0, [], rfl, Lib.hid (own_nil _ _ _ _), Lib.hid (by rw [RowP]), Below.refl _ _⟩
  · obtain ⟨xs, hrow, hcells, hx⟩ : ∃ xs, RowP (fun b => q b ∧ b < w.heap.size) w ts xs ∧ (∀ j u, xs[j]? = some u → w.cell? (A.add j) = some u) ∧ xs.length = ts.length * 4 := by
      by_cases e : ts = []
      · subst e
        exact ⟨[], by rw [RowP], fun j u hj => by simp at hj, by simp⟩
      · obtain ⟨b, o, hA, hb, hqb, hT⟩ := h e
        cases hA
        obtain ⟨xs, hr, hc⟩ := hT.row
        exact ⟨xs, hr.keep (fun _ _ _ => rfl) (Nat.le_refl _) (fun b hlt hb => ⟨hb, hlt⟩), cellsAdd hc, by have := hr.len; omega⟩
    have hone := hrow.ones
    have hlm : 0 + ts.length ≤ maxLen := by unfold maxLen; omega
    have hl56 : (0 + ts.length) * 56 ≤ 140737488355328 := by omega
    have HROW := Lib.hid hrow
    have hown0 : (w.alloc (.cells #[] 39)).ownsRow w.heap.size 39 4 (.slice (some ⟨w.heap.size, 0, none⟩) 0 0) 0 [] :=
      ⟨rfl, .inr ⟨w.heap.size, 0, #[], rfl, Nat.le_refl _, heap_alloc_new _ _, Nat.le_refl _, by unfold maxLen; omega, rfl, rfl⟩⟩
    have hc2 : ∀ j u, xs[j]? = some u → (w.alloc (.cells #[] 39)).cell? (A.add j) = some u := fun j u hj => by
      have h1 := hcells j u hj
      have h2 : (A.add j).block < w.heap.size := by
        rcases Nat.lt_or_ge (A.add j).block w.heap.size with h3 | h3
        · exact h3
        · unfold World.cell? at h1; rw [Array.getElem?_eq_none h3] at h1; cases h1
      rw [World.cell?_of_block (Lib.alloc_old w _ _ h2)]; exact h1
    have HOWN := Lib.hid hown0
    have HC2 := Lib.hid hc2
    have b1 : Below w.heap.size w (w.alloc (.cells #[] 39)) := (Below.refl _ _).alloc (Nat.le_refl _) _
    have hnil : ∀ W : World, (binOp .eql 37 (.slice (some A) ts.length c) (.slice none 0 0)).run Tryd.prog W = .ok (.bool false) W := fun _ => rfl
    clear h hrow hcells hown0 hc2
    go_enter Tryd.func50, Tryd.ntmps50
    go_wp2_with (at_builtin; refine wpList_append_own_at _ rfl _ _ 37 rfl w.heap.size 39 i0 (.agg #[.int .i64 0, S [], .int .i64 0, .slice none 0 0]) 4 56 Tryd.underlying37 hi hz0 hz1 hz2 rfl (by decide) _ _ _ rfl HOWN.out A ts.length c xs rfl hx HC2.out hone hlm hl56 (by simp) ?_)
    intro v' w2 hown2 hg2 _ _
    obtain ⟨A2, c2, rfl⟩ := own_form hown2
    have HO2 := Lib.hid hown2
    have b2 : Below w.heap.size w w2 := b1.grown hg2 (by simp) (own_block_ge HOWN.out)
    have HR2 : Hid (RowP (fun b => q b ∧ b < w.heap.size) w2 ts xs) := Lib.hid (HROW.out.keep (fun b hb _ => b2.block b hb.2) b2.size (fun _ _ h => h))
    clear hown2 hg2
    go_wp2_with fail
    go_ret
    exact ⟨A2, c2, xs, rfl, by simpa using HO2, HR2, b2⟩
theorem TreeVP.parts4 {q : Nat → Prop} {w : World} {t : Lfc.Raw} {v : Value} (h : TreeVP q w t v) : ∃ k n p ts A c, t = .node k n p ts ∧ v = .agg #[.int .i64 k, S n, .int .i64 p, .slice A ts.length c] ∧ TreeP q w t (.int .i64 k) (S n) (.int .i64 p) (.slice A ts.length c) := by
  obtain ⟨k, n, p, ts⟩ := t
  obtain ⟨A, c, rfl, h1⟩ := h.open_
  exact ⟨k, n, p, ts, A, c, rfl, rfl, h1⟩
/-- What clone does at trees of at most so many nodes. -/
def CloneUpto (m : Nat) : Prop := ∀ (t : Lfc.Raw) (v : Value) (w : World) (q : Nat → Prop), t.size ≤ m → TreeVP q w t v →
    Calls Tryd.prog 31 #[v] w fun e w' => (∃ v', e = .returned v' ∧ TreeVP (fun b => q b ∨ w.heap.size ≤ b) w' t v') ∧ Below w.heap.size w w'
/-- The loop of clone: the node's box at B, the result's box behind it, the row of the arguments. -/
structure CloneI (w w1 : World) (q : Nat → Prop) (k p : Int) (n : List UInt8) (ts : List Lfc.Raw) (A : Option Addr) (c : Nat) (xs : List Value) (wr : World) : Prop where
  box : wr.heap[w.heap.size]? = some (.cells #[.int .i64 k, S n, .int .i64 p, .slice A ts.length c] 39 (0, 0))
  res : wr.heap[w.heap.size + 1]? = some (.cells #[.int .i64 0, S [], .int .i64 0, .slice none 0 0] 39 (0, 0))
  own : wr.ownsRow (w.heap.size + 2) 39 4 (.slice A ts.length c) ts.length xs
  row : RowP (fun b => (q b ∧ b < w.heap.size) ∨ w1.heap.size ≤ b) wr ts xs
  bel : Below w.heap.size w wr
  size : w1.heap.size ≤ wr.heap.size
theorem own_set4 {W s4 : World} {base g i n c : Nat} {xs : List Value} {v0 v1 v2 v3 : Value} {s1 s2 s3 : World} (h : W.ownsRow base 39 4 (.slice (some ⟨g, 0, none⟩) n c) n xs) (h1 : W.setCell ⟨g, i * 4, none⟩ v0 = s1) (h2 : s1.setCell ⟨g, i * 4 + 1, none⟩ v1 = s2) (h3 : s2.setCell ⟨g, i * 4 + 2, none⟩ v2 = s3) (h4 : s3.setCell ⟨g, i * 4 + 3, none⟩ v3 = s4) :
    s4.ownsRow base 39 4 (.slice (some ⟨g, 0, none⟩) n c) n ((((xs.set (i * 4) v0).set (i * 4 + 1) v1).set (i * 4 + 2) v2).set (i * 4 + 3) v3) := by
  have one : ∀ (V : World) (ys : List Value) (j : Nat) (v : Value), V.ownsRow base 39 4 (.slice (some ⟨g, 0, none⟩) n c) n ys → (V.setCell ⟨g, j, none⟩ v).ownsRow base 39 4 (.slice (some ⟨g, 0, none⟩) n c) n (ys.set j v) := fun V ys j v hV => by
    obtain ⟨hl, hr⟩ := hV
    rcases hr with ⟨hv, _⟩ | ⟨g', cap, cur, hv, hbg, hg, hnc, hcm, hcs, htk⟩
    · cases hv
    · injection hv with e1 _ e3
      cases e1
      subst e3
      refine ⟨by simpa using hl, .inr ⟨g, c, cur.set! j v, rfl, hbg, by simp [World.setCell, Array.getElem?_modify, hg], hnc, hcm, by simpa using hcs, ?_⟩⟩
      rw [← htk]
      simp [Array.set!, List.take_set]
  subst h1 h2 h3 h4
  exact one _ _ _ _ (one _ _ _ _ (one _ _ _ _ (one _ _ _ _ h)))

set_option maxRecDepth 100000 in
set_option maxHeartbeats 4000000 in
theorem clone_step (m : Nat) (hm : m ≤ 100000000) (ih : CloneUpto m) : CloneUpto (m + 1) := by
  intro t v w q hsz hv
  obtain ⟨k, n, p, ts⟩ := t
  obtain ⟨A, c, rfl, hp⟩ := hv.open_
  obtain ⟨wa, hwa⟩ : ∃ wa, (w.alloc (.cells #[.int .i64 k, S n, .int .i64 p, .slice A ts.length c] 39)).alloc (.cells #[.int .i64 0, S [], .int .i64 0, .slice none 0 0] 39) = wa := ⟨_, rfl⟩
  have qx : wa.heap[w.heap.size]? = some (.cells #[.int .i64 k, S n, .int .i64 p, .slice A ts.length c] 39 (0, 0)) := by rw [← hwa]; exact heap_alloc_old _ _ _ _ (heap_alloc_new _ _)
  have qr : wa.heap[w.heap.size + 1]? = some (.cells #[.int .i64 0, S [], .int .i64 0, .slice none 0 0] 39 (0, 0)) := by
    rw [← hwa]
    have := heap_alloc_new (w.alloc (.cells #[.int .i64 k, S n, .int .i64 p, .slice A ts.length c] 39)) (.cells #[.int .i64 0, S [], .int .i64 0, .slice none 0 0] 39)
    simpa using this
  have ba : Below w.heap.size w wa := by rw [← hwa]; exact ((Below.refl _ _).alloc (Nat.le_refl _) _).alloc (by simp) _
  have hsa := eq2 (show wa.heap.size = w.heap.size + 2 by rw [← hwa]; simp)
  simp only [Lfc.Raw.size] at hsz
  have hlen := Lfc.Raw.sizes_len ts
  have hnm : n.length ≤ 1000000 := hp.name_le
  have hT0 : TreesAtP (fun b => q b ∧ b < w.heap.size) wa A ts := by
    rw [TreeP] at hp
    obtain ⟨_, _, _, _, A', c', hA', _, hts'⟩ := hp
    cases hA'
    exact TreesAtP.keep (w := w) (fun b _ hlt => ba.block b hlt) ba.size (fun b hlt hb => ⟨hb, hlt⟩) hts'
  have C1 := Lib.hid (sclone_any _ ts A c wa (by omega) hT0)
  have HQX := Lib.hid qx
  have HQR := Lib.hid qr
  have BA := Lib.hid ba
  have IH := Lib.hid ih
  obtain ⟨x0, x1, x2, x3⟩ := cells4 qx
  clear qx qr ba hp ih hv hT0
  go_enter Tryd.func31, Tryd.ntmps31
  go_upto_region 1 with fail
  clear hwa
  go_wp2_with fail
  refine C1.out.mono ?_
  rintro e w1 ⟨A', c', xs, rfl, HO, HR, b1⟩
  have B1 := Lib.hid b1
  have hs1 := b1.size
  have qb1 := (b1.block _ (by omega)).trans HQX.out
  have f3 := Lib.frozen_of_heap qb1 3
  have y3 := Lib.cell_of_heap qb1 3
  simp at y3
  obtain ⟨w2, hw2⟩ : ∃ w2, w1.setCell ⟨w.heap.size, 3, none⟩ (.slice A' ts.length c') = w2 := ⟨_, rfl⟩
  have qb2 : w2.heap[w.heap.size]? = some (.cells #[.int .i64 k, S n, .int .i64 p, .slice A' ts.length c'] 39 (0, 0)) := by rw [← hw2]; exact set3 qb1
  have o12 : Oth w.heap.size w1 w2 := by rw [← hw2]; exact Oth.set _ _
  have hA'lt : ∀ b, (Value.slice A' ts.length c').ownBlock = some b → w.heap.size + 2 ≤ b ∧ b < w1.heap.size := fun b hb => by have := HO.out.lt b hb; omega
  have L0 : Hid (CloneI w w1 q k p n ts A' c' xs w2) := by
    refine Lib.hid ⟨qb2, o12.heap ((b1.block _ (by omega)).trans HQR.out) (by omega), ?_, ?_, Oth.below (BA.out.trans (b1.mono (by omega))) o12 (Nat.le_refl _) (by omega), o12.size⟩
    · have h := HO.out.kept o12 (Or.inr (fun e => by have := hA'lt _ e; omega))
      refine ⟨h.1, ?_⟩
      rcases h.2 with hn | ⟨g, cap, cur, hv, hbg, rest⟩
      · exact .inl hn
      · exact .inr ⟨g, cap, cur, hv, by omega, rest⟩
    · exact HR.out.keep (fun b hb hlt => o12.block b hlt (fun e => by have := Option.some.inj e; have := hb.1.2; omega)) o12.size (fun b _ hb => .inl hb.1)
  have hcl : ts.length ≤ c' := own_le HO.out
  obtain ⟨z0, z1, z2, z3⟩ := cells4 qb2
  have HAL := Lib.hid hA'lt
  clear qb1 qb2 b1 o12 HO HR hA'lt x0 x1 x2 x3
  go_upto_region 2 with fail
  clear hw2 f3 y3
  go_wp2_with fail
  go_loopw [12] (fun i wr => ∃ j : Nat, j ≤ ts.length ∧ i = .int .i64 j ∧ ∃ ys, Hid (CloneI w w1 q k p n ts A' c' ys wr)) (fun i _ => ts.length - (intOf i).toNat)
  case atStart => exact ⟨0, by omega, rfl, xs, L0⟩
  case round =>
    obtain ⟨j, hj, rfl, ys, HI⟩ := hrel
    by_cases hlt : j < ts.length
    · obtain ⟨g, cap, cur, hvg, hgb, hgh⟩ : ∃ g cap cur, A' = some ⟨g, 0, none⟩ ∧ w.heap.size + 2 ≤ g ∧ wr.heap[g]? = some (.cells cur 39 (0, 0)) := by
        rcases HI.out.own.2 with ⟨_, h2⟩ | ⟨g, cap, cur, hv, hbg, hg, _⟩
        · omega
        · injection hv with e1 _ e3
          exact ⟨g, cap, cur, e1, hbg, hg⟩
      subst hvg
      have hgl := (HAL.out g rfl).2
      have hcat := own_cells HI.out.own
      have hrow := HI.out.row
      have hxl := hrow.len
      obtain ⟨v0, v1, v2, v3, hx0, hx1, hx2, hx3, htp⟩ := hrow.get j hlt
      have ht0 := htp
      obtain ⟨k1, n1, p1, us, hnode⟩ : ∃ k1 n1 p1 us, ts[j] = .node k1 n1 p1 us := by cases ts[j] with | node a b c d => exact ⟨a, b, c, d, rfl⟩
      rw [hnode, TreeP] at htp
      obtain ⟨rfl, rfl, _, rfl, A1, c1, rfl, _⟩ := htp
      have d0 := hcat _ _ hx0
      have d1 := hcat _ _ hx1
      have d2 := hcat _ _ hx2
      have d3 := hcat _ _ hx3
      simp only [Nat.zero_add] at d0 d1 d2 d3
      have hszi := Lfc.Raw.sizes_mem ts ts[j] (List.getElem_mem _)
      obtain ⟨w3, hw3⟩ : ∃ w3, wr.alloc (.cells #[.int .i64 k1, S n1, .int .i64 p1, .slice A1 us.length c1] 39) = w3 := ⟨_, rfl⟩
      have b3 : Below wr.heap.size wr w3 := by rw [← hw3]; exact (Below.refl _ _).alloc (Nat.le_refl _) _
      have q3 : w3.heap[wr.heap.size]? = some (.cells #[.int .i64 k1, S n1, .int .i64 p1, .slice A1 us.length c1] 39 (0, 0)) := by rw [← hw3]; exact heap_alloc_new _ _
      have hrs := HI.out.size
      have hbox := lt_of_block HI.out.box
      have hres := lt_of_block HI.out.res
      have hgr : g < wr.heap.size := lt_of_block hgh
      have hs3 := b3.size
      have h3s := lt_of_block q3
      have htv : TreeVP (fun b => (q b ∧ b < w.heap.size) ∨ w1.heap.size ≤ b) w3.drew ts[j] (.agg #[.int .i64 k1, S n1, .int .i64 p1, .slice A1 us.length c1]) := ⟨_, _, _, _, rfl, TreeP.keep (w := wr) (w' := w3.drew) (fun b _ hb => b3.block b hb) b3.size (fun _ _ h => h) _ _ _ _ _ ht0⟩
      have HIH := Lib.hid (IH.out ts[j] _ w3.drew _ (by omega) htv)
      have y3 := (b3.cell (p := ⟨w.heap.size, 3, none⟩) hbox).trans (Lib.cell_of_heap HI.out.box 3)
      simp at y3
      obtain ⟨e0, e1, e2, e3⟩ := cells4 q3
      have hi0 : (0 : Int) ≤ (j : Int) := Int.natCast_nonneg _
      have hi1 : (j : Int) < (ts.length : Int) := by omega
      have hi3 : j * 4 + 3 < ys.length := by omega
      have HB3 := Lib.hid b3
      have HQ3 := Lib.hid q3
      have HGH := Lib.hid hgh
      have HCAT := Lib.hid hcat
      have HW3 := Lib.hid hw3
      have HX := Lib.hid (And.intro hx0 hnode)
      clear hrow hcat hgh ht0 htv hx0 hx1 hx2 hx3 hw3 q3 b3 hnode z0 z1 z2 z3
      go_upto_region 5 with fail
      rw [HW3.out]
      go_region_held3 (fun W => W.cell? ⟨w.heap.size, 3, none⟩ = some (.slice (some ⟨g, 0, none⟩) ts.length c') ∧ W.cell? ⟨wr.heap.size, 0, none⟩ = some (.int .i64 k1) ∧ W.cell? ⟨wr.heap.size, 1, none⟩ = some (S n1) ∧ W.cell? ⟨wr.heap.size, 2, none⟩ = some (.int .i64 p1) ∧ W.cell? ⟨wr.heap.size, 3, none⟩ = some (.slice A1 us.length c1))
        (first | exact ⟨y3, e0, e1, e2, e3⟩ | exact ⟨hy5, cells4 hq5⟩ | exact ⟨hy4, cells4 hq4⟩)
        (first | (go_at_call 31; refine HIH.out.mono ?_; rintro e w5 ⟨⟨v5, rfl, hv5⟩, b5⟩; obtain ⟨k5, n5, p5, us5, A5, c5, ht5, rfl, hp5⟩ := hv5.parts4; have hy5 := (b5.cell (p := ⟨w.heap.size, 3, none⟩) (Nat.lt_of_lt_of_le hbox hs3)).trans y3; have hq5 := (b5.block _ h3s).trans HQ3.out; obtain ⟨s1, s2, s3, s4, a0, a1, a2, a3, h1, h2, h3, h4, ⟨m0, m1, m2, m3⟩, ⟨f0, f1, f2, f3⟩, hc4, ho4⟩ := put4row ((b5.block g (Nat.lt_of_lt_of_le hgr hs3)).trans ((HB3.out.block g hgr).trans HGH.out)) (fun j u hj => (b5.cell (p := ⟨g, _, none⟩) (Nat.lt_of_lt_of_le hgr hs3)).trans ((HB3.out.cell (p := ⟨g, _, none⟩) hgr).trans (HCAT.out j u hj))) hi3 (.int .i64 k5) (S n5) (.int .i64 p5) (.slice A5 us5.length c5); have hq4 := ho4.heap hq5 (by omega); have hy4 := (ho4.cell (p := ⟨w.heap.size, 3, none⟩) (Nat.lt_of_lt_of_le (Nat.lt_of_lt_of_le hbox hs3) b5.size) (by show w.heap.size ≠ g; omega)).trans hy5))
      all_goals
        have b35 : Below w3.heap.size w3 w5 := (Below.refl w3.heap.size w3).drew.trans b5
        have hs5 := b35.size
        have HNEW : Hid (CloneI w w1 q k p n ts (some ⟨g, 0, none⟩) c' ((((ys.set (j * 4) (.int .i64 k5)).set (j * 4 + 1) (S n5)).set (j * 4 + 2) (.int .i64 p5)).set (j * 4 + 3) (.slice A5 us5.length c5)) s4) := by
          have k1 : ∀ b, b < wr.heap.size → w5.heap[b]? = wr.heap[b]? := fun b hb => (b35.block b (by omega)).trans (HB3.out.block b hb)
          have hbel : Below wr.heap.size wr w5 := HB3.out.trans (b35.mono hs3)
          refine Lib.hid ⟨ho4.heap ((k1 _ hbox).trans HI.out.box) (by omega), ho4.heap ((k1 _ hres).trans HI.out.res) (by omega), ?_, ?_, Oth.below (HI.out.bel.trans (hbel.mono (by omega))) ho4 (by omega) (by omega), by have := ho4.size; omega⟩
          · exact own_set4 (own_below HI.out.own hbel) h1 h2 h3 h4
          · have hr : RowP (fun b => (q b ∧ b < w.heap.size) ∨ w1.heap.size ≤ b) s4 ts ys := HI.out.row.keep (fun b hb hlt => (ho4.block b (by omega) (fun e => by have := Option.some.inj e; rcases hb with hb | hb <;> omega)).trans (k1 b hlt)) (by have := ho4.size; omega) (fun _ _ h => h)
            have ht : TreeP (fun b => (q b ∧ b < w.heap.size) ∨ w1.heap.size ≤ b) s4 ts[j] (.int .i64 k5) (S n5) (.int .i64 p5) (.slice A5 us5.length c5) := TreeP.keep (fun b hb hlt => ho4.block b hlt (fun e => by
                have := Option.some.inj e
                rcases hb with (hb | hb) | hb
                · omega
                · omega
                · have hb : w3.heap.size ≤ b := hb
                  omega)) ho4.size (fun b _ hb => by
                rcases hb with hb | hb
                · exact hb
                · have hb : w3.heap.size ≤ b := hb
                  exact .inr (by omega)) _ _ _ _ _ hp5
            have := RowP.set ht j hlt hr
            rwa [List.set_getElem_self] at this
        clear hp5 hc4 ho4 hv5
        go_wp2_with fail
        go_roundw
        case rel => exact ⟨j + 1, by omega, by go_num, _, HNEW⟩
        case measure => simp [intOf]; omega
    · obtain ⟨x0, x1, x2, x3⟩ := cells4 HI.out.box
      obtain ⟨s1, s2, s3, s4, g1, g2, g3, g4, ⟨y0, y1, y2, y3⟩, ⟨f0, f1, f2, f3⟩, hq', ho'⟩ := put4 HI.out.res (.int .i64 k) (S n) (.int .i64 p) (.slice A' ts.length c')
      have HQ' := Lib.hid hq'
      have HO' := Lib.hid ho'
      have hbox := lt_of_block HI.out.box
      have hres := lt_of_block HI.out.res
      clear hq' ho' z0 z1 z2 z3
      go_wp2_with fail
      refine bodyPost_ret (results_raw rfl _ _ _ _ _ _ _ rfl HQ'.out) rfl ?_
      refine ⟨⟨_, rfl, TreeVP.mk hnm hcl ?_⟩, Oth.below HI.out.bel HO'.out (by omega) (by omega)⟩
      rcases HI.out.own.2 with ⟨_, h2⟩ | ⟨g, cap, cur, hv, hbg, hg, _⟩
      · exact fun hne => absurd (List.length_eq_zero_iff.1 h2) hne
      · injection hv with e1 _ e3
        subst e1 e3
        have hrs := HI.out.size
        have hr : RowP (fun b => q b ∨ w.heap.size ≤ b) s4 ts ys := HI.out.row.keep (fun b hb hlt => HO'.out.block b hlt (fun e => by have := Option.some.inj e; rcases hb with hb | hb <;> omega)) HO'.out.size (fun b _ hb => by rcases hb with hb | hb; exact .inl hb.1; exact .inr (by omega))
        have hc : CellsAt s4 g 0 ys := fun j u hj => (World.cell?_of_block (HO'.out.block g (lt_of_block hg) (fun e => by have := Option.some.inj e; omega))).trans (own_cells HI.out.own j u hj)
        exact fun _ => ⟨g, 0, rfl, Nat.lt_of_lt_of_le (lt_of_block hg) HO'.out.size, .inr (by omega), hr.lie hc⟩
theorem clone_any : ∀ m, m ≤ 100000000 → CloneUpto m
  | 0, _ => fun t v w q h _ => by have := t.size_pos; omega
  | m + 1, h => clone_step m (by omega) (clone_any m (by omega))
end Go.Proofs.YtkhfnkokdmoipaaDoor
