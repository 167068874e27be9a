/- Contract of Scope. -/
import Derived.Test.YtlcikiiijelpjaaDoorTmWf
set_option linter.unusedVariables false
set_option linter.unusedSimpArgs false
namespace Go.Proofs.YtlcikiiijelpjaaDoor
open Go.RowKit Go.Shelf
attribute [local go_sem] Oper.semAt_some

set_option maxRecDepth 100000 in
set_option maxHeartbeats 4000000 in
theorem tScope_any (T : Lfc.Raw) (v : Value) (w : World) (hsz : T.size ≤ 1000000000) (hv : TreeV w T v) (hp : ∀ y ∈ T.nodes 0, -1000000000 ≤ y.2.pos ∧ y.2.pos ≤ 1000000000) :
    Calls Tryd.prog 18 #[v] w fun e w' => e = .returned (.int .i64 (if T.twf = 0 then Lfc.scopeN (T.nodes 0) else 0)) ∧ Below w.heap.size w w' := by
  have CW := Lib.hid (fun W hV => tWf_any T v W hsz hV)
  obtain ⟨k, nm, p, ts⟩ := T
  obtain ⟨A, c, rfl, hc, hA⟩ := hv.open_
  obtain ⟨wa, hwa⟩ : ∃ wa, w.alloc (.cells #[.int .i64 k, S nm, .int .i64 p, .slice A ts.length c] 31) = wa := ⟨_, rfl⟩
  have sa : w.heap.size + 1 ≤ wa.heap.size := by rw [← hwa]; simp
  have ba : Below w.heap.size w wa := by rw [← hwa]; exact (Below.refl _ _).alloc (Nat.le_refl _) _
  have hta : wa.heap[w.heap.size]? = some (.cells #[.int .i64 k, S nm, .int .i64 p, .slice A ts.length c] 31) := by rw [← hwa]; exact World.alloc_heap_new w _
  have r0 : wa.cell? ⟨w.heap.size, 0, none⟩ = some (.int .i64 k) := Lib.cell_of_heap hta 0
  have r1 : wa.cell? ⟨w.heap.size, 1, none⟩ = some (S nm) := Lib.cell_of_heap hta 1
  have r2 : wa.cell? ⟨w.heap.size, 2, none⟩ = some (.int .i64 p) := Lib.cell_of_heap hta 2
  have r3 : wa.cell? ⟨w.heap.size, 3, none⟩ = some (.slice A ts.length c) := Lib.cell_of_heap hta 3
  have CWa := Lib.hid (CW.out wa (hv.below ba))
  have HV := Lib.hid hv
  by_cases hwf : (Lfc.Raw.node k nm p ts).twf = 0
  · have HW := Lib.hid hwf
    rw [if_pos hwf]
    rw [hwf] at CWa
    clear hwf hv CW
    refine (callsIn_wide (n := 3)).1 ?_
    refine callsIn_of_wp_marks Tryd.func18 rfl trivial ?_ rfl
    simp only [Tryd.ntmps18, List.size_toArray, List.length_cons, List.length_nil, Nat.reduceAdd, Nat.reduceSub, Array.replicate_succ, Array.replicate_zero, List.push_toArray, List.append_toArray, List.nil_append, List.cons_append]
    gi_wp2
    refine ⟨trivial, (callsIn_wide.2 CWa.out).mono ?_⟩
    rintro e w2 ⟨rfl, hb2⟩
    have ht2 := (hb2.block w.heap.size (by omega)).trans hta
    have q0 : w2.cell? ⟨w.heap.size, 0, none⟩ = some (.int .i64 k) := Lib.cell_of_heap ht2 0
    have z0 := cell_alloc_t (.cells #[.int .i64 0] 3) q0
    have q1 : w2.cell? ⟨w.heap.size, 1, none⟩ = some (S nm) := Lib.cell_of_heap ht2 1
    have z1 := cell_alloc_t (.cells #[.int .i64 0] 3) q1
    have q2 : w2.cell? ⟨w.heap.size, 2, none⟩ = some (.int .i64 p) := Lib.cell_of_heap ht2 2
    have z2 := cell_alloc_t (.cells #[.int .i64 0] 3) q2
    have q3 : w2.cell? ⟨w.heap.size, 3, none⟩ = some (.slice A ts.length c) := Lib.cell_of_heap ht2 3
    have z3 := cell_alloc_t (.cells #[.int .i64 0] 3) q3
    have b2 : Below w.heap.size w w2 := ba.trans (hb2.mono (by omega))
    have s2 := hb2.size
    obtain ⟨wb, hwb⟩ : ∃ wb, w2.alloc (.cells #[.int .i64 0] 3) = wb := ⟨_, rfl⟩
    obtain ⟨wc, hwc⟩ : ∃ wc, wb.alloc (.cells #[.int .i64 k, S nm, .int .i64 p, .slice A ts.length c] 31) = wc := ⟨_, rfl⟩
    have sb : w2.heap.size + 1 ≤ wb.heap.size := by rw [← hwb]; simp
    have sc : wb.heap.size + 1 ≤ wc.heap.size := by rw [← hwc]; simp
    have bb : Below w.heap.size w wb := by rw [← hwb]; exact b2.alloc (by omega) _
    have bc : Below w.heap.size w wc := by rw [← hwc]; exact bb.alloc (by omega) _
    have nb := cell_new_t w2 (.int .i64 0) 3
    rw [hwb] at nb
    have nc1 := cell_alloc_t (.cells #[.int .i64 k, S nm, .int .i64 p, .slice A ts.length c] 31) nb.1
    have nc2 := frozen_alloc_t (.cells #[.int .i64 k, S nm, .int .i64 p, .slice A ts.length c] 31) nb.1 nb.2
    rw [hwc] at nc1 nc2
    have htc : wc.heap[wb.heap.size]? = some (.cells #[.int .i64 k, S nm, .int .i64 p, .slice A ts.length c] 31) := by rw [← hwc]; exact World.alloc_heap_new wb _
    have NA := Lib.hid (nodes_any _ k p nm ts.length c A wb rfl)
    rw [hwc] at NA
    have HWB := Lib.hid hwb
    clear hwb nb hwa
    gi_wp2
    rw [HWB.out]
    refine ⟨trivial, (callsIn_wide.2 NA.out).mono ?_⟩
    rintro e w' ⟨rfl, hw⟩
    obtain rfl := hw.symm
    clear hw
    gi_wp2
    refine wpIn_rangeFunc_ownH rfl (by omega) (gf := 44) (lb := #[.pointer (some ⟨wb.heap.size, 0, none⟩)]) rfl trivial enters_nodes1
      (nodes_stops _ (.node k nm p ts) k p nm ts A c wb.heap.size w _ rfl hsz htc bc HV.out) (fun h k => h.trans k) (KpT.putObj bc.size) (Below.refl _ _) (fun _ => rfl)
      (fun pre W => (W.cell? ⟨w2.heap.size, 0, none⟩ = some (.int .i64 (Lfc.scopeN (TNs.ns pre))) ∧ W.frozen? ⟨w2.heap.size, 0, none⟩ = false) ∧ (0 ≤ Lfc.scopeN (TNs.ns pre) ∧ Lfc.scopeN (TNs.ns pre) ≤ 1000000001) ∧ wc.heap.size ≤ W.heap.size ∧ Below w.heap.size w W)
      (fun _ _ _ => False)
      (OwnFrom.and (Own.from (fun s A B row hs hg hr => ⟨cell_kept hs.1 hg hr, (frozen_kept hs.1 hg hr).trans hs.2⟩) _) (OwnFrom.and (ownFrom_pure _ _) (OwnFrom.and (fun _ X Y row hs hg hr => Nat.le_trans hs hg.size) (ownFrom_below (Nat.le_refl _) bc.size))))
      (fun _ _ _ _ _ hs _ _ => hs)
      ⟨⟨nc1, nc2⟩, ⟨Int.le_refl 0, (by decide : (0 : Int) ≤ 1000000001)⟩, Nat.le_refl _, bc⟩
      (fun x a' W => ∃ Bx, wc.heap.size ≤ Bx ∧ W.heap[Bx]? = some (.cells #[.int .i64 x.1.t.kind, S x.1.t.name, .int .i64 x.1.t.pos, .slice x.1.A x.1.t.args.length x.1.c] 31) ∧
        a' = { tmps := #[.agg #[.int .i64 k, S nm, .int .i64 p, .slice A ts.length c], .pointer (some ⟨w.heap.size, 0, none⟩), .int .i64 0, .pointer (some ⟨w2.heap.size, 0, none⟩), .int .i64 (x.1.d : Int), .pointer (some ⟨Bx, 0, none⟩), .agg #[.int .i64 k, S nm, .int .i64 p, .slice A ts.length c], .int .i64 0, .bool false, .agg #[.int .i64 k, S nm, .int .i64 p, .slice A ts.length c], .func (.func 44) #[] #[.pointer (some ⟨wb.heap.size, 0, none⟩)], .int .i64 (x.1.d : Int), x.1.v, undef, undef, undef, undef, undef, undef, undef, undef, undef, undef, undef], defers := [] })
      (fun x a' _ X Y row hs hg hr => by
        obtain ⟨Bx, h1, h2, h3⟩ := hs
        exact ⟨Bx, h1, (hg.block Bx (Array.getElem?_eq_some_iff.1 h2).1 (fun e => by obtain ⟨_, o, ho, hc⟩ := hr Bx e.symm; rw [h2] at ho; cases ho; cases hc)).trans h2, h3⟩) ?assign ?body ?done ?stop
    case assign =>
      intro l pre x W K hi hK
      obtain ⟨⟨hc, hf⟩, hr, hs, hB⟩ := hi
      simp only [TNs.encs, TN.v]
      gi_wp2
      exact hK _ _ ((KeepsOthers.alloc _ _).from _) (KpT.alloc _ _ hB.size) ⟨⟨cell_alloc_t _ hc, frozen_alloc_t _ hc hf⟩, hr, by simp; omega, hB.alloc hB.size _⟩ ⟨W.heap.size, hs, World.alloc_heap_new W _, rfl⟩
    case body =>
      rintro l pre x a' W hl ⟨r, hr⟩ ⟨⟨hc, hf⟩, ⟨hn0, hn1⟩, hs, hB⟩ ⟨Bx, hBx, hx, rfl⟩ hlen
      obtain ⟨⟨d, t, A2, c2⟩, hmem⟩ := x
      have hpos := hp _ hmem
      have hdeep := Lfc.nodes_deep _ _ 0 (Nat.le_refl _) _ hmem
      simp only at hpos hdeep hx
      have y0 : W.cell? ⟨Bx, 0, none⟩ = some (.int .i64 t.kind) := Lib.cell_of_heap hx 0
      have y2 : W.cell? ⟨Bx, 2, none⟩ = some (.int .i64 t.pos) := Lib.cell_of_heap hx 2
      have hsn : Lfc.scopeN (TNs.ns (pre ++ [⟨⟨d, t, A2, c2⟩, hmem⟩])) = if t.kind = 5 then max (Lfc.scopeN (TNs.ns pre)) (t.pos - d + 1) else Lfc.scopeN (TNs.ns pre) := by rw [TNs.ns_app]; exact Lfc.scopeN_snoc _ d t
      have HSN := Lib.hid hsn
      clear hsn hp
      generalize t.pos = pos at *
      by_cases hk5 : t.kind = 5
      · rw [hk5] at y0
        have hm : Lfc.scopeN (TNs.ns (pre ++ [⟨⟨d, t, A2, c2⟩, hmem⟩])) = max (Lfc.scopeN (TNs.ns pre)) (pos - d + 1) := by rw [HSN.out, if_pos hk5]
        have HM := Lib.hid hm
        clear hm HSN hk5
        gi_wp2
        refine ⟨(KeepsOthers.setCell _ _ _).from _, KpT.setCell _ _ _ (by omega) (by omega), ⟨?_, by rw [World.frozen?_setCell]; exact hf⟩, ⟨by rw [HM.out]; omega, by rw [HM.out]; omega⟩, by simpa using hs, hB.setCell (p := ⟨w2.heap.size, 0, none⟩) (by simp only; omega) _⟩
        rw [HM.out]
        exact World.cell?_setCell_same' _ _ _ (by rw [hc]; rfl)
      · have hk5f : (t.kind == 5) = false := by simpa using hk5
        have hm : Lfc.scopeN (TNs.ns (pre ++ [⟨⟨d, t, A2, c2⟩, hmem⟩])) = Lfc.scopeN (TNs.ns pre) := by rw [HSN.out, if_neg hk5]
        have HM := Lib.hid hm
        clear hm HSN hk5
        gi_wp2
        exact ⟨KeepsFrom.refl _ _, KpT.refl _ _ _, ⟨by rw [HM.out]; exact hc, hf⟩, ⟨by rw [HM.out]; exact hn0, by rw [HM.out]; exact hn1⟩, hs, hB⟩
    case done =>
      rintro D ys W hD hys ⟨⟨hc, _⟩, _, _, hB⟩ hK
      gi_wp2
      refine ⟨by simp, .inl ⟨_, _, rfl, run_takeDeferred hK, ?_⟩⟩
      refine ⟨_, results_tmp rfl _ _ _, ?_, hB.trans (belowK_b (w := w) (Nat.le_refl _) W D _ _ (by omega) hK rfl rfl)⟩
      exact ret_int (by first | rfl | rw [hys])
    case stop =>
      rintro D c pre W _ _ h _
      exact h.elim
  · rw [if_neg hwf]
    generalize (Lfc.Raw.node k nm p ts).twf = q at *
    have hq : (q != 0) = true := by simpa using hwf
    clear hwf hv CW HV hp
    go_enter Tryd.func18, Tryd.ntmps18
    go_wp2_with fail
    refine CWa.out.mono ?_
    rintro e w2 ⟨rfl, hb2⟩
    go_wp2_with fail
    go_ret
    exact ⟨rfl, ba.trans (hb2.mono (by omega))⟩
end Go.Proofs.YtlcikiiijelpjaaDoor
