/- The contract of Free's closure walk: the binders. -/
import Derived.Test.YtmdhkcefbkdkbaaDoorRawFree4
set_option linter.unusedVariables false
set_option linter.unusedSimpArgs false
namespace Go.Proofs.YtmdhkcefbkdkbaaDoor
open Go.RowKit Go.Maps Go.WideMaps

set_option maxRecDepth 100000 in
set_option maxHeartbeats 2000000 in
theorem walk_b1 (w0 : World) (b m : Nat) (ih : WalkUpto w0 b m) (k p : Int) (n : List UInt8) (hk : k = 7 ∨ k = 8) (a : Lfc.Raw) (hm : Lfc.Raw.sizes [a] ≤ m) (hf : Lfc.Raw.forms [a] = true) (v : Value) (w : World) (out bound : List (List UInt8)) (hv : TreeV w0 (.node k n p [a]) v) (h : FrI w0 b out out bound w) (hl : out.length + bound.length + Lfc.Raw.sizes [a] + 1 ≤ 1000000000) :
    Calls Tryd.prog 64 #[v, .pointer (some ⟨b + 1, 0, none⟩), .pointer (some ⟨b + 4, 0, none⟩), .pointer (some ⟨b + 5, 0, none⟩)] w fun e w' => e = .returned (.tuple #[]) ∧ FrI w0 b (Lfc.Raw.fr bound (.node k n p [a]) out) (Lfc.Raw.fr bound (.node k n p [a]) out) bound w' ∧ Below b w w' ∧ KeptR w w' := by
  have HE : Lfc.Raw.fr bound (.node k n p [a]) out = Lfc.Raw.fr (bound ++ [n]) a out := by
    rw [Lfc.Raw.fr, if_neg (by omega), if_neg (by omega), if_pos hk, Lfc.Raw.frB]
  rw [HE]
  clear HE
  have he := enters_walk
  obtain ⟨A, c, rfl, hc, hA⟩ := hv.open_
  simp only [Lfc.Raw.sizes, Lfc.Raw.forms, Bool.and_true, Bool.and_eq_true, Nat.add_zero, List.length_cons, List.length_nil, Nat.zero_add, Nat.reduceAdd] at *
  have IH := Lib.hid ih
  have h0 := FrS.start #[.int .i64 k, S n, .int .i64 p, .slice A 1 c] h
  obtain ⟨wa, hwa⟩ : ∃ wa, w.alloc (.cells #[.int .i64 k, S n, .int .i64 p, .slice A 1 c] 42) = wa := ⟨_, rfl⟩
  rw [hwa] at h0
  have H0 := Lib.hid h0
  have hR0 := Lib.cell_of_heap H0.out.box 0
  have hR3 := Lib.cell_of_heap H0.out.box 3
  simp at hR0 hR3
  clear hv h ih h0
  obtain ⟨B, O, k1, n1, p1, xs, B1, c1, rfl, hbB, ht, d0, d1, d2, d3, hcu, hB1, hT⟩ := hA.at_ (i := 0) (by simp)
  simp only [List.getElem_cons_zero, Nat.zero_mul, Nat.add_zero] at hT ht d0 d1 d2 d3
  clear ht hB1 hA
  rcases hk with rfl | rfl
  all_goals
    go_enter Tryd.func64, Tryd.ntmps64
    obtain ⟨vo, vb, ho, hb, hown, hbown, hap⟩ := H0.out.inv.rows
    obtain ⟨i0, hi, hz0, hz1, hz2⟩ := info_string
    obtain ⟨Ab, cb, rfl⟩ := own_form hbown
    have hcb := cell_of_one hb
    have hR1 := Lib.cell_of_heap H0.out.box 1
    simp only [List.getElem?_toArray, List.getElem?_cons_succ, List.getElem?_cons_zero, Option.some.injEq] at hR1
    have hlt0 := H0.out.inv.lt
    go_wp2_with (at_builtin; refine wpList_append_own_at _ rfl _ _ 38 rfl (b + 6) 9 i0 (S []) 1 16 Tryd.underlying38 hi hz0 hz1 hz2 rfl (by decide) _ _ _ rfl (hbown.alloc _) ⟨wa.heap.size, 0, none⟩ 1 1 [S n] rfl rfl (cell_one_new _ _ _) (by intro u hu; simp at hu; subst hu; rfl) (by unfold maxLen; omega) (by omega) (by simp; omega) ?_)
    intro v' wp hown2 hgrow2 _ hloc
    obtain ⟨hp2, hF, hB, hK⟩ := H0.out.inv.pushed ho hb hown hbown hap hgrow2 hown2 (by simpa using hloc)
    obtain ⟨A', c', rfl⟩ := own_form hown2
    have H3' := H0.out.next hF hB hK
    obtain ⟨w3, hw3⟩ : ∃ w3, wp.setCell ⟨b + 1, 0, none⟩ (.slice A' (bound.length + 1) c') = w3 := ⟨_, rfl⟩
    rw [hw3] at H3'
    have H3 := Lib.hid H3'
    have hc2 := cell_of_one hp2
    have hf2 := free_of_one hp2
    clear H3' hF hB hK hown2 hgrow2 hp2 ho hb hown hbown hap hloc
    have hRff := Lib.cell_of_heap H3.out.box 3
    have hWff := cell_of_one H3.out.inv.wv
    have f0 := (H3.out.inv.bel.cell (p := ⟨B, _, none⟩) hbB).trans d0
    have f1 := (H3.out.inv.bel.cell (p := ⟨B, _, none⟩) hbB).trans d1
    have f2 := (H3.out.inv.bel.cell (p := ⟨B, _, none⟩) hbB).trans d2
    have f3 := (H3.out.inv.bel.cell (p := ⟨B, _, none⟩) hbB).trans d3
    go_wp2_with fail
    have hzwf : IntKind.i64.wrap 0 = 0 := by decide
    refine wp_region_still_tail 9 (by kernel_rfl) (by kernel_rfl) ?_
    simp only [List.take_succ_cons, List.take_zero, List.drop_succ_cons, List.drop_zero]
    change wpStill Tryd.prog _ w3.drew _ _ _
    repeat still_step
    try refine wpStill_nil ?_
    change wpList _ _ _ _ _ w3.drew
    go_wp2_with fail
    refine (IH.out a _ w3.drew _ _ (by omega) hf hT H3.out.drew.inv (by simp only [List.length_append, List.length_singleton]; omega)).mono ?_
    rintro e w4 ⟨rfl, hi2, hb2, hk2⟩
    have H4 := Lib.hid (H3.out.drew.next hi2 hb2 hk2)
    clear hi2 hb2 hk2
    obtain ⟨g, cg, hg, hcg, hcm, hF, hB, hK⟩ := H4.out.inv.popped
    have H5 := Lib.hid (H4.out.next hF hB hK)
    have hc5 := cell_of_one hg
    have hf5 := free_of_one hg
    clear hF hB hK hg
    go_wp2_with fail
    go_end0
    exact ⟨rfl, H5.out.inv, H5.out.bel, H5.out.kept⟩

set_option maxRecDepth 100000 in
set_option maxHeartbeats 2000000 in
theorem walk_b2 (w0 : World) (b m : Nat) (ih : WalkUpto w0 b m) (k p : Int) (n : List UInt8) (hk : k = 7 ∨ k = 8) (a a' : Lfc.Raw) (hm : Lfc.Raw.sizes [a, a'] ≤ m) (hf : Lfc.Raw.forms [a, a'] = true) (v : Value) (w : World) (out bound : List (List UInt8)) (hv : TreeV w0 (.node k n p [a, a']) v) (h : FrI w0 b out out bound w) (hl : out.length + bound.length + Lfc.Raw.sizes [a, a'] + 1 ≤ 1000000000) :
    Calls Tryd.prog 64 #[v, .pointer (some ⟨b + 1, 0, none⟩), .pointer (some ⟨b + 4, 0, none⟩), .pointer (some ⟨b + 5, 0, none⟩)] w fun e w' => e = .returned (.tuple #[]) ∧ FrI w0 b (Lfc.Raw.fr bound (.node k n p [a, a']) out) (Lfc.Raw.fr bound (.node k n p [a, a']) out) bound w' ∧ Below b w w' ∧ KeptR w w' := by
  have HE : Lfc.Raw.fr bound (.node k n p [a, a']) out = Lfc.Raw.fr (bound ++ [n]) a' (Lfc.Raw.fr bound a out) := by
    rw [Lfc.Raw.fr, if_neg (by omega), if_neg (by omega), if_pos hk, Lfc.Raw.frB]
  rw [HE]
  clear HE
  have he := enters_walk
  obtain ⟨A, c, rfl, hc, hA⟩ := hv.open_
  simp only [Lfc.Raw.sizes, Lfc.Raw.forms, Bool.and_true, Bool.and_eq_true, Nat.add_zero, List.length_cons, List.length_nil, Nat.zero_add, Nat.reduceAdd] at *
  have IH := Lib.hid ih
  have h0 := FrS.start #[.int .i64 k, S n, .int .i64 p, .slice A 2 c] h
  obtain ⟨wa, hwa⟩ : ∃ wa, w.alloc (.cells #[.int .i64 k, S n, .int .i64 p, .slice A 2 c] 42) = wa := ⟨_, rfl⟩
  rw [hwa] at h0
  have H0 := Lib.hid h0
  have hR0 := Lib.cell_of_heap H0.out.box 0
  have hR3 := Lib.cell_of_heap H0.out.box 3
  simp at hR0 hR3
  clear hv h ih h0
  obtain ⟨hfa, hfa'⟩ := hf
  have hfl := Lfc.fr_len a bound out
  obtain ⟨B, O, k1, n1, p1, xs, B1, c1, rfl, hbB, ht, d0, d1, d2, d3, hcu, hB1, hT⟩ := hA.at_ (i := 0) (by simp)
  obtain ⟨B', O', k2, n2, p2, ys, B2, c2, hBO, hb', ht', e0, e1, e2, e3, hcu', hB', hT'⟩ := hA.at_ (i := 1) (by simp)
  simp only [List.getElem_cons_zero, List.getElem_cons_succ, Nat.zero_mul, Nat.one_mul, Nat.add_zero] at hT ht d0 d1 d2 d3 hT' ht' e0 e1 e2 e3
  cases hBO
  clear ht hB1 hA ht' hB' hb'
  rcases hk with rfl | rfl
  all_goals
    go_enter Tryd.func64, Tryd.ntmps64
    have hRff := Lib.cell_of_heap H0.out.box 3
    have hWff := cell_of_one H0.out.inv.wv
    have f0 := (H0.out.inv.bel.cell (p := ⟨B, _, none⟩) hbB).trans d0
    have f1 := (H0.out.inv.bel.cell (p := ⟨B, _, none⟩) hbB).trans d1
    have f2 := (H0.out.inv.bel.cell (p := ⟨B, _, none⟩) hbB).trans d2
    have f3 := (H0.out.inv.bel.cell (p := ⟨B, _, none⟩) hbB).trans d3
    go_wp2_with fail
    have hzwf : IntKind.i64.wrap 0 = 0 := by decide
    refine wp_region_still_tail 5 (by kernel_rfl) (by kernel_rfl) ?_
    simp only [List.take_succ_cons, List.take_zero, List.drop_succ_cons, List.drop_zero]
    change wpStill Tryd.prog _ wa.drew _ _ _
    repeat still_step
    try refine wpStill_nil ?_
    change wpList _ _ _ _ _ wa.drew
    go_wp2_with fail
    refine (IH.out a _ wa.drew _ _ (by omega) hfa hT H0.out.drew.inv (by omega)).mono ?_
    rintro e w2 ⟨rfl, hi2, hb2, hk2⟩
    have H2 := Lib.hid (H0.out.drew.next hi2 hb2 hk2)
    clear hi2 hb2 hk2
    obtain ⟨vo, vb, ho, hb, hown, hbown, hap⟩ := H2.out.inv.rows
    obtain ⟨i0, hi, hz0, hz1, hz2⟩ := info_string
    obtain ⟨Ab, cb, rfl⟩ := own_form hbown
    have hcb := cell_of_one hb
    have hR1 := Lib.cell_of_heap H2.out.box 1
    simp only [List.getElem?_toArray, List.getElem?_cons_succ, List.getElem?_cons_zero, Option.some.injEq] at hR1
    have hlt0 := H2.out.inv.lt
    go_wp2_with (at_builtin; refine wpList_append_own_at _ rfl _ _ 38 rfl (b + 6) 9 i0 (S []) 1 16 Tryd.underlying38 hi hz0 hz1 hz2 rfl (by decide) _ _ _ rfl (hbown.alloc _) ⟨w2.heap.size, 0, none⟩ 1 1 [S n] rfl rfl (cell_one_new _ _ _) (by intro u hu; simp at hu; subst hu; rfl) (by unfold maxLen; omega) (by omega) (by simp; omega) ?_)
    intro v' wp hown2 hgrow2 _ hloc
    obtain ⟨hp2, hF, hB, hK⟩ := H2.out.inv.pushed ho hb hown hbown hap hgrow2 hown2 (by simpa using hloc)
    obtain ⟨A', c', rfl⟩ := own_form hown2
    have H3' := H2.out.next hF hB hK
    obtain ⟨w3, hw3⟩ : ∃ w3, wp.setCell ⟨b + 1, 0, none⟩ (.slice A' (bound.length + 1) c') = w3 := ⟨_, rfl⟩
    rw [hw3] at H3'
    have H3 := Lib.hid H3'
    have hc2 := cell_of_one hp2
    have hf2 := free_of_one hp2
    clear H3' hF hB hK hown2 hgrow2 hp2 ho hb hown hbown hap hloc
    have hRfg := Lib.cell_of_heap H3.out.box 3
    have hWfg := cell_of_one H3.out.inv.wv
    have g0 := (H3.out.inv.bel.cell (p := ⟨B, _, none⟩) hbB).trans e0
    have g1 := (H3.out.inv.bel.cell (p := ⟨B, _, none⟩) hbB).trans e1
    have g2 := (H3.out.inv.bel.cell (p := ⟨B, _, none⟩) hbB).trans e2
    have g3 := (H3.out.inv.bel.cell (p := ⟨B, _, none⟩) hbB).trans e3
    go_wp2_with fail
    have hzwg : IntKind.i64.wrap 1 = 1 := by decide
    refine wp_region_still_tail 9 (by kernel_rfl) (by kernel_rfl) ?_
    simp only [List.take_succ_cons, List.take_zero, List.drop_succ_cons, List.drop_zero]
    change wpStill Tryd.prog _ w3.drew _ _ _
    repeat still_step
    try refine wpStill_nil ?_
    change wpList _ _ _ _ _ w3.drew
    go_wp2_with fail
    refine (IH.out a' _ w3.drew _ _ (by omega) hfa' hT' H3.out.drew.inv (by simp only [List.length_append, List.length_singleton]; omega)).mono ?_
    rintro e w4 ⟨rfl, hi2, hb2, hk2⟩
    have H4 := Lib.hid (H3.out.drew.next hi2 hb2 hk2)
    clear hi2 hb2 hk2
    obtain ⟨g, cg, hg, hcg, hcm, hF, hB, hK⟩ := H4.out.inv.popped
    have H5 := Lib.hid (H4.out.next hF hB hK)
    have hc5 := cell_of_one hg
    have hf5 := free_of_one hg
    clear hF hB hK hg
    go_wp2_with fail
    go_end0
    exact ⟨rfl, H5.out.inv, H5.out.bel, H5.out.kept⟩
end Go.Proofs.YtmdhkcefbkdkbaaDoor
