/- Contracts of Free's closures. -/
import Derived.Test.YtmdhkcefbkdkbaaDoorRawFreeM
import Derived.Test.YtmdhkcefbkdkbaaDoorRawWf2
import Derived.StillTailTactics
set_option linter.unusedVariables false
set_option linter.unusedSimpArgs false
namespace Go.Proofs.YtmdhkcefbkdkbaaDoor
open Go.RowKit Go.Maps Go.WideMaps

theorem enters_add : ∀ args w, (callFunc 63 args).run Tryd.prog w = .ok (.enter 63 args) w := enters_of Tryd.func63 (by kernel_rfl) rfl
theorem enters_walk : ∀ args w, (callFunc 64 args).run Tryd.prog w = .ok (.enter 64 args) w := enters_of Tryd.func64 (by kernel_rfl) rfl

/-- Two rows of names: no block is of both. -/
def Apart (v v' : Value) : Prop := v.ownBlock = none ∨ v.ownBlock ≠ v'.ownBlock
theorem Apart.symm {v v' : Value} (h : Apart v v') : Apart v' v := by
  unfold Apart at *
  rcases h with h | h
  · cases hb : v'.ownBlock
    · exact .inl rfl
    · exact .inr (by rw [h]; simp)
  · exact .inr (Ne.symm h)

/-- Free's variables behind w0: out at b, bound at b + 1, the map at b + 2, seen, add, walk. -/
structure FrI (w0 : World) (b : Nat) (sn out bound : List (List UInt8)) (w : World) : Prop where
  at_ : b = w0.heap.size
  bel : Below w0.heap.size w0 w
  sv : w.heap[b + 3]? = some (.cells #[.map (some (b + 2))] 80 (0, 0))
  av : w.heap[b + 4]? = some (.cells #[.func (.func 63) #[] #[.pointer (some ⟨b + 3, 0, none⟩), .pointer (some ⟨b, 0, none⟩)]] 81 (0, 0))
  wv : w.heap[b + 5]? = some (.cells #[.func (.func 64) #[] #[.pointer (some ⟨b + 1, 0, none⟩), .pointer (some ⟨b + 4, 0, none⟩), .pointer (some ⟨b + 5, 0, none⟩)]] 53 (0, 0))
  seen : SeenAt w (b + 2) sn
  rows : ∃ vo vb, w.heap[b]? = some (.cells #[vo] 38 (0, 0)) ∧ w.heap[b + 1]? = some (.cells #[vb] 38 (0, 0)) ∧ w.ownsRow (b + 6) 9 1 vo out.length (nameCells out) ∧ w.ownsRow (b + 6) 9 1 vb bound.length (nameCells bound) ∧ Apart vo vb

theorem info_string : ∃ i, Tryd.prog.info? 9 = some i ∧ i.zero = some (S []) ∧ i.size = 1 ∧ i.bytes = 16 := by
  obtain ⟨i0, hi, hz0, hz1, hz2⟩ := info_parts (show (Tryd.prog.info? 9).map (fun i => (i.zero, i.size, i.bytes)) = some (some (S []), 1, 16) by kernel_rfl)
  exact ⟨i0, hi, hz0, hz1, hz2⟩

/-- One row grows by a name, and is stored in its box: the two rows and boxes. -/
theorem push_rows {w w2 : World} {b p q : Nat} {vp vq v' : Value} {l l' : List (List UInt8)} {x : List UInt8} (hpq : p ≠ q) (hp6 : p < b + 6) (hq6 : q < b + 6)
    (hp : w.heap[p]? = some (.cells #[vp] 38 (0, 0))) (hq : w.heap[q]? = some (.cells #[vq] 38 (0, 0))) (hown : w.ownsRow (b + 6) 9 1 vp l.length (nameCells l)) (hqown : w.ownsRow (b + 6) 9 1 vq l'.length (nameCells l')) (hap : Apart vp vq)
    (hgrow : (w.alloc (.cells #[S x] 9)).grownBy w2 vp.ownBlock) (hown' : w2.ownsRow (b + 6) 9 1 v' (l.length + 1) (nameCells l ++ [S x])) (hloc : v'.ownBlock = vp.ownBlock ∨ v'.ownBlock = some (w.heap.size + 1)) :
    w2.heap[p]? = some (.cells #[vp] 38 (0, 0)) ∧ (w2.setCell ⟨p, 0, none⟩ v').heap[p]? = some (.cells #[v'] 38 (0, 0)) ∧ (w2.setCell ⟨p, 0, none⟩ v').heap[q]? = some (.cells #[vq] 38 (0, 0)) ∧
    (w2.setCell ⟨p, 0, none⟩ v').ownsRow (b + 6) 9 1 v' (l ++ [x]).length (nameCells (l ++ [x])) ∧ (w2.setCell ⟨p, 0, none⟩ v').ownsRow (b + 6) 9 1 vq l'.length (nameCells l') ∧ Apart v' vq ∧ KeptR w (w2.setCell ⟨p, 0, none⟩ v') ∧ (b ≤ p → b ≤ w.heap.size → Below b w (w2.setCell ⟨p, 0, none⟩ v')) := by
  have hpl := lt_of_block hp
  have hql := lt_of_block hq
  have ne (k : Nat) (hk : k < b + 6) : some k ≠ vp.ownBlock := fun e => by have := (hown.lt k e.symm).1; omega
  have hp2 : w2.heap[p]? = some (.cells #[vp] 38 (0, 0)) := (hgrow.block p (by simp; omega) (ne p hp6)).trans ((Lib.alloc_old w _ p hpl).trans hp)
  have hq2 : w2.heap[q]? = some (.cells #[vq] 38 (0, 0)) := (hgrow.block q (by simp; omega) (ne q hq6)).trans ((Lib.alloc_old w _ q hql).trans hq)
  have hv'b : v'.ownBlock ≠ some p := fun e => by have := (hown'.lt p e).1; omega
  have hvqb : vq.ownBlock ≠ some p := fun e => by have := (hqown.lt p e).1; omega
  have hk1 : KeptR (w.alloc (.cells #[S x] 9)) w2 := KeptR.grown hgrow (fun g c t e hg => by
    rcases (hown.alloc (.cells #[S x] 9)).2 with ⟨rfl, _⟩ | ⟨g', cap, cur, rfl, _, hgg, _⟩
    · simp [Value.ownBlock] at e
    · simp [Value.ownBlock] at e
      subst e
      rw [hgg] at hg
      cases hg
      rfl)
  refine ⟨hp2, one_setCell hp2, (Below.heap_setCell _ _ _ _ (by simpa using hpq.symm)).trans hq2, ?_, ?_, ?_, ?_, ?_⟩
  · have : nameCells (l ++ [x]) = nameCells l ++ [S x] := by simp [nameCells]
    rw [this, List.length_append]
    exact ownsRow_setCell_other hown' hv'b _
  · exact ownsRow_setCell_other ((hqown.alloc _).kept hgrow hap.symm) hvqb _
  · rcases hloc with h | h
    · rcases hap with h' | h'
      · exact .inl (h.trans h')
      · exact .inr (by rw [h]; exact h')
    · exact .inr (by rw [h]; intro e; have := (hqown.lt _ e.symm).2; omega)
  · exact ((KeptR.alloc w _).trans hk1).trans (KeptR.setCell hp2 _)
  · intro hbp hbw
    exact (((Below.refl b w).alloc hbw _).grown hgrow (by simp; omega) (fun k hk => by have := (hown.lt k hk).1; omega)).setCell (p := ⟨p, 0, none⟩) hbp _

set_option maxRecDepth 100000 in
set_option maxHeartbeats 1000000 in
theorem add_any (w0 : World) (b : Nat) (out bound : List (List UInt8)) (n : List UInt8) (w : World) (hn : n.length ≤ 1000000) (hl : out.length ≤ 1000000000) (h : FrI w0 b out out bound w) :
    Calls Tryd.prog 63 #[S n, .pointer (some ⟨b + 3, 0, none⟩), .pointer (some ⟨b, 0, none⟩)] w fun e w' => e = .returned (.tuple #[]) ∧ FrI w0 b (Lfc.addN n out) (Lfc.addN n out) bound w' ∧ Below b w w' ∧ KeptR w w' := by
  have hlk := seen_lookup h.seen n hn
  have hsv := cell_of_one h.sv
  by_cases hmem : n ∈ out
  · rw [decide_eq_true hmem] at hlk
    have e : Lfc.addN n out = out := if_pos hmem
    rw [e]
    have H := Lib.hid h
    clear h e hmem
    go_enter Tryd.func63, Tryd.ntmps63
    go_wp2_with fail
    go_end0
    exact ⟨rfl, H.out, Below.refl _ _, KeptR.refl _⟩
  · rw [decide_eq_false hmem] at hlk
    have e : Lfc.addN n out = out ++ [n] := if_neg hmem
    rw [e]
    clear e hmem
    obtain ⟨D, hmap, hD⟩ := h.seen
    have hk := keyOf_name n hn
    have H := Lib.hid h
    have HD := Lib.hid hD
    clear h hD
    go_enter Tryd.func63, Tryd.ntmps63
    go_wp2_with (at_mapUpdate; refine wpList_mapUpdate_own _ rfl _ _ _ 80 rfl 9 4 (string_keyed Tryd.underlying9) Tryd.underlying80 _ (b + 2) out.length _ rfl hmap (by unfold maxLen; omega) _ _ _ rfl rfl hk _ [] (plainElem_bool Tryd.underlying4 true) ?_)
    intro w1 hmap1 hgrow1
    obtain ⟨vo, vb, ho, hb, hown, hbown, hap⟩ := H.out.rows
    have hlt2 := hmap.lt
    have k01 : KeptR w w1 := KeptR.grown hgrow1 (fun g c t e hg => by
      obtain ⟨es, clock, hm, _⟩ := hmap
      cases e
      rw [hm] at hg; cases hg)
    have b01 : Below b w w1 := (Below.refl b w).grown hgrow1 (by omega) (fun j hj => by cases hj; omega)
    have ho1 : w1.heap[b]? = some (.cells #[vo] 38 (0, 0)) := (hgrow1.block b (lt_of_block ho) (fun e => by have := Option.some.inj e; omega)).trans ho
    have hb1 : w1.heap[b + 1]? = some (.cells #[vb] 38 (0, 0)) := (hgrow1.block (b + 1) (lt_of_block hb) (fun e => by have := Option.some.inj e; omega)).trans hb
    have hown1 := hown.kept hgrow1 (.inr fun e => by have := (hown.lt _ e).1; omega)
    have hbown1 := hbown.kept hgrow1 (.inr fun e => by have := (hbown.lt _ e).1; omega)
    obtain ⟨Ao, co, rfl⟩ := own_form hown
    obtain ⟨i0, hi, hz0, hz1, hz2⟩ := info_string
    have hco := cell_of_one ho1
    have hs1 := hgrow1.size
    have hb6 : b + 6 ≤ w.heap.size := by have := lt_of_block H.out.wv; omega
    clear hown hbown ho hb
    go_wp2_with (at_builtin; refine wpList_append_own_at _ rfl _ _ 38 rfl (b + 6) 9 i0 (S []) 1 16 Tryd.underlying38 hi hz0 hz1 hz2 rfl (by decide) _ _ _ rfl (hown1.alloc _) ⟨w1.heap.size, 0, none⟩ 1 1 [S n] rfl rfl (cell_one_new _ _ _) (by intro u hu; simp at hu; subst hu; rfl) (by unfold maxLen; omega) (by omega) (by simp; omega) ?_)
    intro v' w2 hown2 hgrow2 _ hloc
    obtain ⟨hp2, hp3, hq3, hown3, hbown3, hap3, hk3, hb3⟩ := push_rows (by omega) (by omega) (by omega) ho1 hb1 hown1 hbown1 hap hgrow2 hown2 (by simpa using hloc)
    have hb3 := hb3 (Nat.le_refl _) (by omega)
    have hmap3 : (w2.setCell ⟨b, 0, none⟩ v').ownsMap Tryd.prog 9 (plainElem Tryd.prog 4) (b + 2) (out.length + 1) (D.put (.string n) (.lit (.bool true))) :=
      ((hmap1.alloc _).kept hgrow2 (fun e => by have := (hown1.lt _ e.symm).1; omega)).setCell (by show b + 2 ≠ b; omega) _
    have k03 := k01.trans hk3
    have hF : FrI w0 b (out ++ [n]) (out ++ [n]) bound (w2.setCell ⟨b, 0, none⟩ v') :=
      ⟨H.out.at_, H.out.bel.trans (by rw [← H.out.at_]; exact b01.trans hb3), k03 _ _ _ H.out.sv (by decide) (by decide), k03 _ _ _ H.out.av (by decide) (by decide), k03 _ _ _ H.out.wv (by decide) (by decide),
        ⟨_, by rw [List.length_append]; exact hmap3, seen_put hmap.isMap HD.out n⟩, ⟨_, _, hp3, hq3, hown3, hbown3, hap3⟩⟩
    have hc2 := cell_of_one hp2
    have hf2 := free_of_one hp2
    obtain ⟨A', c', rfl⟩ := own_form hown2
    have HF := Lib.hid hF
    have HB := Lib.hid (b01.trans hb3)
    clear hF hmap3 hown3 hbown3 hown2 hgrow2 hp3 hq3 hb3 hk3 hmap1 hgrow1
    go_wp2_with fail
    go_end0
    exact ⟨rfl, HF.out, HB.out, k03⟩
end Go.Proofs.YtmdhkcefbkdkbaaDoor
