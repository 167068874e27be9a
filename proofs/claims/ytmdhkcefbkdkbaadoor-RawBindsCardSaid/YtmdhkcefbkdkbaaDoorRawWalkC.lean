/- The walk of the law RawBinds. -/
import Derived.Test.YtmdhkcefbkdkbaaDoorRawWalkB
import Derived.Test.YtmdhkcefbkdkbaaDoorRawBinds
set_option linter.unusedVariables false
set_option linter.unusedSimpArgs false
namespace Go.Proofs.YtmdhkcefbkdkbaaDoor
open Go.RowKit Go.Maps Go.WideMaps

theorem names5 {w : World} {g : Nat} (r : Nat) (hr : r < 5) (h : w.heap[g]? = some (.cells #[S [97], S [78], S [110, 97, 116], S [95], S [113]] 9 (0, 0))) : ∃ nm : List UInt8, (Lfc.isName nm || decide (nm = [95])) = true ∧ nm.length ≤ 10 ∧ w.cell? ⟨g, r, none⟩ = some (S nm) := by
  match r, hr with
  | 0, _ => exact ⟨[97], by decide, by decide, Lib.cell_of_heap h 0⟩
  | 1, _ => exact ⟨[78], by decide, by decide, Lib.cell_of_heap h 1⟩
  | 2, _ => exact ⟨[110, 97, 116], by decide, by decide, Lib.cell_of_heap h 2⟩
  | 3, _ => exact ⟨[95], by decide, by decide, Lib.cell_of_heap h 3⟩
  | 4, _ => exact ⟨[113], by decide, by decide, Lib.cell_of_heap h 4⟩

theorem bindsEnv {w1 : World} {k p : Int} {n x : List UInt8} {ts : List Lfc.Raw} {A : Option Addr} {c : Nat} (h1 : TreeV w1 (.node k n p ts) (.agg #[.int .i64 k, S n, .int .i64 p, .slice A ts.length c])) (hx : x.length ≤ 10) :
    ∃ w3, ((((w1.alloc (.cells #[.int .i64 k, S n, .int .i64 p, .slice A ts.length c] 42)).alloc (.cells #[S [97], S [78], S [110, 97, 116], S [95], S [113]] 9)).alloc (.cells #[S x] 9)).alloc (.cells #[.int .i64 k, S n, .int .i64 p, .slice A ts.length c] 42)).alloc (.cells #[.int .i64 8, S x, .int .i64 0, .slice (some ⟨w1.heap.size + 1 + 1 + 1, 0, none⟩) 1 1] 42) = w3 ∧ Below w1.heap.size w1 w3 ∧ w1.heap.size + 5 ≤ w3.heap.size ∧
      ∀ W, Below w3.heap.size w3 W → TreeV W (.node k n p ts) (.agg #[.int .i64 k, S n, .int .i64 p, .slice A ts.length c]) ∧ TreeV W (.node 8 x 0 [.node k n p ts]) (.agg #[.int .i64 8, S x, .int .i64 0, .slice (some ⟨w1.heap.size + 1 + 1 + 1, 0, none⟩) 1 1]) ∧
        (W.cell? ⟨w1.heap.size, 0, none⟩ = some (.int .i64 k) ∧ W.cell? ⟨w1.heap.size, 1, none⟩ = some (S n) ∧ W.cell? ⟨w1.heap.size, 2, none⟩ = some (.int .i64 p) ∧ W.cell? ⟨w1.heap.size, 3, none⟩ = some (.slice A ts.length c)) ∧
        W.cell? ⟨w1.heap.size + 1 + 1, 0, none⟩ = some (S x) ∧
        (W.cell? ⟨w1.heap.size + 1 + 1 + 1 + 1, 0, none⟩ = some (.int .i64 8) ∧ W.cell? ⟨w1.heap.size + 1 + 1 + 1 + 1, 1, none⟩ = some (S x) ∧ W.cell? ⟨w1.heap.size + 1 + 1 + 1 + 1, 2, none⟩ = some (.int .i64 0) ∧ W.cell? ⟨w1.heap.size + 1 + 1 + 1 + 1, 3, none⟩ = some (.slice (some ⟨w1.heap.size + 1 + 1 + 1, 0, none⟩) 1 1)) := by
  obtain ⟨w3, hw3⟩ : ∃ w3, ((((w1.alloc (.cells #[.int .i64 k, S n, .int .i64 p, .slice A ts.length c] 42)).alloc (.cells #[S [97], S [78], S [110, 97, 116], S [95], S [113]] 9)).alloc (.cells #[S x] 9)).alloc (.cells #[.int .i64 k, S n, .int .i64 p, .slice A ts.length c] 42)).alloc (.cells #[.int .i64 8, S x, .int .i64 0, .slice (some ⟨w1.heap.size + 1 + 1 + 1, 0, none⟩) 1 1] 42) = w3 := ⟨_, rfl⟩
  have hn := fun (W : World) (o : Obj) (k : Nat) (h : k = W.heap.size) => (h ▸ heap_alloc_new W o : (W.alloc o).heap[k]? = some o)
  have q0 : w3.heap[w1.heap.size]? = some (.cells #[.int .i64 k, S n, .int .i64 p, .slice A ts.length c] 42) := by
    rw [← hw3]; exact heap_alloc_old _ _ _ _ (heap_alloc_old _ _ _ _ (heap_alloc_old _ _ _ _ (heap_alloc_old _ _ _ _ (heap_alloc_new _ _))))
  have q2 : w3.heap[w1.heap.size + 1 + 1]? = some (.cells #[S x] 9) := by
    rw [← hw3]; exact heap_alloc_old _ _ _ _ (heap_alloc_old _ _ _ _ (hn _ _ _ (by simp)))
  have q3 : w3.heap[w1.heap.size + 1 + 1 + 1]? = some (.cells #[.int .i64 k, S n, .int .i64 p, .slice A ts.length c] 42) := by
    rw [← hw3]; exact heap_alloc_old _ _ _ _ (hn _ _ _ (by simp))
  have q4 : w3.heap[w1.heap.size + 1 + 1 + 1 + 1]? = some (.cells #[.int .i64 8, S x, .int .i64 0, .slice (some ⟨w1.heap.size + 1 + 1 + 1, 0, none⟩) 1 1] 42) := by
    rw [← hw3]; exact hn _ _ _ (by simp)
  have hb : Below w1.heap.size w1 w3 := by
    rw [← hw3]; exact (((((Below.refl _ _).alloc (Nat.le_refl _) _).alloc (by simp) _).alloc (by simp; omega) _).alloc (by simp; omega) _).alloc (by simp; omega) _
  have hsz : w3.heap.size = w1.heap.size + 5 := by rw [← hw3]; simp
  refine ⟨w3, hw3, hb, by omega, fun W hW => ?_⟩
  have p0 := (hW.block _ (by omega)).trans q0
  have p2 := (hW.block _ (by omega)).trans q2
  have p3 := (hW.block _ (by omega)).trans q3
  have p4 := (hW.block _ (by omega)).trans q4
  have hs := hW.size
  have hT := h1.below (hb.trans (hW.mono (by omega)))
  refine ⟨hT, ?_, cells4 p0, Lib.cell_of_heap p2 0, cells4 p4⟩
  obtain ⟨v0, v1, v2, v3, hv, hC⟩ := hT
  simp only [Value.agg.injEq, Array.mk.injEq, List.cons.injEq, and_true] at hv
  obtain ⟨rfl, rfl, rfl, rfl⟩ := hv
  refine TreeV.mk (ts := [.node k n p ts]) (by omega) (Nat.le_refl _) (fun _ => ⟨_, _, rfl, by omega, ?_⟩)
  exact ⟨⟨_, _, _, _, Lib.cell_of_heap p3 0, Lib.cell_of_heap p3 1, Lib.cell_of_heap p3 2, Lib.cell_of_heap p3 3, hC⟩, trivial⟩
theorem own_names {w : World} {base c : Nat} {A : Option Addr} {l : List (List UInt8)} (h : w.ownsRow base 9 1 (.slice A l.length c) l.length (nameCells l)) : NamesAt w A l := fun hne => by
  rcases h.2 with ⟨_, h0⟩ | ⟨g, cap, cur, hv, hbg, hg, _, _, _, _⟩
  · omega
  · have hv' := hv
    injection hv with e1 _ e3
    subst e1 e3
    refine ⟨g, 0, rfl, lt_of_block hg, fun k hk => ?_⟩
    rw [Nat.zero_add, h.cellAt k (by omega)]
    simp [nameCells, hk]
theorem freeN_len (t : Lfc.Raw) : t.freeN.length ≤ t.size := by
  unfold Lfc.Raw.freeN
  split
  · have := Lfc.fr_len t [] []
    simpa using this
  · simp
theorem lam_wf {t : Lfc.Raw} {x : List UInt8} (h1 : t.form = true) (h2 : t.size ≤ 31) (h3 : t.depth ≤ 5) (hx : (Lfc.isName x || decide (x = [95])) = true) : (Lfc.Raw.node 8 x 0 [t]).wf = 0 := by
  have hf : (Lfc.Raw.node 8 x 0 [t]).form = true := by
    rw [Lfc.Raw.form, Lfc.Raw.forms, Lfc.Raw.forms, h1]
    simp only [Bool.and_true, List.length_singleton]
    exact binder_formed (.inr rfl) hx (.inl rfl)
  unfold Lfc.Raw.wf
  rw [hf, if_neg (by simp), if_neg (by simp only [Lfc.Raw.size, Lfc.Raw.sizes, Lfc.Raw.depth, Lfc.Raw.depths]; omega)]

set_option maxRecDepth 100000 in
set_option maxHeartbeats 4000000 in
theorem rawBinds_walk (v0 : Value) (z0 : List Int) (z1 : Int) (w : World) (i0 : IntsAt w v0 z0) (hzz : (Lit.int .i64 z1).wf = true) (hw : WordsAt w) :
    Calls Tryd.prog 13 #[v0, .int .i64 z1] w fun e w' => e = .returned (.bool true) ∧ Below w.heap.size w w' := by
  have C1 := Lib.hid (tree_any v0 (.slice none 0 0) z0 [] w i0 (ints_nil w) hw)
  have he := enters_expl
  clear i0 hw hzz
  go_enter Tryd.func13, Tryd.ntmps13
  go_wp2_with fail
  refine C1.out.mono ?_
  rintro e w1 ⟨⟨t1, x1, rfl, hv1, hs1, hf1⟩, b1⟩
  have hf1 := hf1 (by simp)
  obtain ⟨k1, n1, p1, ts1, A1, c1, ht1, rfl⟩ := hv1.node
  rw [ht1] at hv1 hs1 hf1
  clear C1 ht1
  have HV1 := Lib.hid hv1
  have HF1 := Lib.hid hf1
  have B1 := Lib.hid b1
  clear hv1 hf1 b1
  go_wp2_with fail
  refine (cut_any z1 5 _ (by omega) (by omega)).mono ?_
  rintro e w2 ⟨rfl, hw2⟩
  obtain rfl := hw2.symm
  have hr := cutI_lt z1 5 (by omega)
  generalize cutI z1 5 = r at *
  obtain ⟨x, hx1, hx2, hxc⟩ := names5 (w := (w1.alloc (.cells #[.int .i64 k1, S n1, .int .i64 p1, .slice A1 ts1.length c1] 42)).alloc (.cells #[S [97], S [78], S [110, 97, 116], S [95], S [113]] 9)) (g := w1.heap.size + 1) r hr (by
    have := heap_alloc_new (w1.alloc (.cells #[.int .i64 k1, S n1, .int .i64 p1, .slice A1 ts1.length c1] 42)) (.cells #[S [97], S [78], S [110, 97, 116], S [95], S [113]] 9)
    simpa using this)
  have hb5 : (r : Int) < 5 := by omega
  have HX1 := Lib.hid hx1
  obtain ⟨w3, hw3, b3, hs3, F⟩ := bindsEnv HV1.out hx2
  go_upto_region 4 with fail
  clear hw3
  have hwl := lam_wf HF1.out.1 HF1.out.2.1 HF1.out.2.2 HX1.out
  have hwr := Lfc.wf_of HF1.out.1 HF1.out.2.1 HF1.out.2.2
  have G0 : Below w3.heap.size w3 w3 := Below.refl _ _
  have hz1 : (Lfc.Raw.node k1 n1 p1 ts1).size ≤ 31 := HF1.out.2.1
  have hz2 : (Lfc.Raw.node 8 x 0 [Lfc.Raw.node k1 n1 p1 ts1]).size ≤ 32 := by simp only [Lfc.Raw.size, Lfc.Raw.sizes] at hz1 ⊢; omega
  have HFL : Hid (Lfc.Raw.expl x (.node k1 n1 p1 ts1) = false → (Lfc.Raw.node 8 x 0 [Lfc.Raw.node k1 n1 p1 ts1]).freeN = Lfc.without x (Lfc.Raw.node k1 n1 p1 ts1).freeN) := Lib.hid (Lfc.free_lam hwr hwl)
  have hLn := freeN_len (Lfc.Raw.node k1 n1 p1 ts1)
  have CW := Lib.hid (wf_any (Lfc.Raw.node 8 x 0 [Lfc.Raw.node k1 n1 p1 ts1]) _ w3 (by omega) (F w3 G0).2.1)
  rw [hwl] at CW
  generalize hTL : (Lfc.Raw.node 8 x 0 [Lfc.Raw.node k1 n1 p1 ts1]) = TL at *
  generalize hTR : Lfc.Raw.node k1 n1 p1 ts1 = TR at *
  clear hwl hwr hTL hTR HF1 HX1 HV1 hx1
  have FF := Lib.hid F
  have B13 := Lib.hid (B1.out.trans (b3.mono B1.out.size))
  obtain ⟨⟨a0, a1, a2, a3⟩, anm, ⟨l0, l1, l2, l3⟩⟩ := (F w3 G0).2.2
  clear F b3 hxc
  go_wp2_with fail
  refine CW.out.mono ?_
  rintro e w4 ⟨rfl, b4⟩
  have hs4 := b4.size
  obtain ⟨w5, hw5⟩ : ∃ w5, (w4.alloc (.cells #[.bool false] 4)).alloc (.cells #[.func (.func 40) #[] #[.pointer (some ⟨w4.heap.size, 0, none⟩), .pointer (some ⟨w1.heap.size + 1 + 1, 0, none⟩), .pointer (some ⟨w4.heap.size + 1, 0, none⟩)]] 53) = w5 := ⟨_, rfl⟩
  have b45 : Below w4.heap.size w4 w5 := by rw [← hw5]; exact ((Below.refl _ _).alloc (Nat.le_refl _) _).alloc (by simp) _
  have I5 : Hid (ExpI w4 w4.heap.size (w1.heap.size + 1 + 1) x false w5) := by
    refine Lib.hid ⟨rfl, b45, ?_, ?_, by omega, (FF.out w4 b4).2.2.2.1⟩
    · rw [← hw5]; exact heap_alloc_old _ _ _ _ (heap_alloc_new _ _)
    · rw [← hw5]
      have := heap_alloc_new (w4.alloc (.cells #[.bool false] 4)) (.cells #[.func (.func 40) #[] #[.pointer (some ⟨w4.heap.size, 0, none⟩), .pointer (some ⟨w1.heap.size + 1 + 1, 0, none⟩), .pointer (some ⟨w4.heap.size + 1, 0, none⟩)]] 53)
      simpa using this
  clear a0 a1 a2 a3 anm l0 l1 l2 l3
  go_upto_region 9 with fail
  clear hw5
  have g5 : Below w3.heap.size w3 w5 := b4.trans (b45.mono b4.size)
  obtain ⟨⟨a0, a1, a2, a3⟩, _, _⟩ := (FF.out w5 g5).2.2
  have hwv := cell_of_one I5.out.wv
  have HEX := Lib.hid (expl_upto w4 _ _ x 100 TR _ w5 false (by omega) (by omega) (FF.out w4 b4).1 I5.out)
  rw [Bool.false_or] at HEX
  generalize hex : TR.expl x = ex at *
  go_wp2_with fail
  refine HEX.out.mono ?_
  rintro e w6 ⟨rfl, hI6, ho6⟩
  have g6 : Below w3.heap.size w3 w6 := b4.trans (hI6.bel.mono b4.size)
  have I6 := Lib.hid hI6
  clear hI6 ho6 a0 a1 a2 a3 hwv
  obtain ⟨⟨a0, a1, a2, a3⟩, _, _⟩ := (FF.out w6 g6).2.2
  have HFR := Lib.hid (free_any TR _ w6 (by omega) (FF.out w6 g6).1)
  generalize TR.freeN = L at *
  go_wp2_with fail
  refine HFR.out.mono ?_
  rintro e w7 ⟨⟨Af, cf, rfl, hnf⟩, b7⟩
  have g7 : Below w3.heap.size w3 w7 := g6.trans (b7.mono g6.size)
  have HNF := Lib.hid hnf
  have I7 := Lib.hid (I6.out.new b7)
  clear hnf a0 a1 a2 a3
  obtain ⟨y0, hi, hz0, hz1', hz2'⟩ := info_string
  have b77 : Below w7.heap.size w7 w7 := Below.refl _ _
  have FG := Lib.hid (fun W (hb : Below w7.heap.size w7 W) => FF.out W (g7.trans (hb.mono g7.size)))
  go_wp2_with fail
  go_loopw [10, 12] (fun v i wr => ∃ j : Nat, j ≤ L.length ∧ i = .int .i64 j ∧ Hid (wr.ownsRow w7.heap.size 9 1 v (Lfc.without x (L.take j)).length (nameCells (Lfc.without x (L.take j)))) ∧ Below w7.heap.size w7 wr) (fun _ i _ => L.length - (intOf i).toNat)
  case atStart => exact ⟨0, by omega, rfl, Lib.hid (own_nil _ _ _ _), b77⟩
  case round =>
    rename_i v0' i0' wr
    obtain ⟨j, hj, rfl, HO, hbw⟩ := hrel
    obtain ⟨Aw, cw, rfl⟩ := own_form HO.out
    have hnm := (FG.out wr hbw).2.2.2.1
    by_cases hlt : j < L.length
    · obtain ⟨b, o, rfl, hb, hcs⟩ := HNF.out (by omega)
      have hc1 := (hbw.cell (p := ⟨b, o + j, none⟩) hb).trans (hcs j hlt)
      have hwt := Lfc.without_take x L j hlt
      have hwle : (Lfc.without x (L.take j)).length ≤ L.length := Nat.le_trans (List.length_filter_le _ _) (by rw [List.length_take]; omega)
      have HWT := Lib.hid hwt
      clear hcs hwt
      have e1 : (0 : Int) ≤ (j : Int) := Int.natCast_nonneg _
      have e2 : (j : Int) < (L.length : Int) := by omega
      generalize hy : L[j] = y at *
      by_cases hyx : y = x
      · have hq : (y != x) = false := by simp [hyx]
        have hq2 : (y == x) = true := by simp [hyx]
        rw [if_pos hyx] at HWT
        have HYX := Lib.hid hyx
        clear hyx
        go_wp2_with fail
        refine wp_region_still_tail 5 (by kernel_rfl) (by kernel_rfl) ?_
        simp only [List.take_succ_cons, List.take_zero, List.drop_succ_cons, List.drop_zero]
        change wpStill Tryd.prog _ wr.drew _ _ _
        repeat still_step
        try refine wpStill_nil ?_
        change wpList _ _ _ _ _ wr.drew
        obtain ⟨wz, hwz⟩ : ∃ wz, wr.drew = wz := ⟨_, rfl⟩
        rw [hwz]
        have hbz : Below w7.heap.size w7 wz := by rw [← hwz]; exact hbw.drew
        have HOz : Hid (wz.ownsRow w7.heap.size 9 1 (.slice Aw (Lfc.without x (L.take j)).length cw) (Lfc.without x (L.take j)).length (nameCells (Lfc.without x (L.take j)))) := Lib.hid (by rw [← hwz]; exact HO.out.drew)
        have hcz : wz.cell? ⟨b, o + j, none⟩ = some (S y) := by rw [← hwz]; exact hc1
        clear hwz
        go_wp2_with fail
        go_roundw
        case rel => exact ⟨j + 1, by omega, by go_num, by rw [HWT.out]; exact HOz, hbz⟩
        case measure => simp [intOf]; omega
      · have hq : (y != x) = true := by simpa using hyx
        have hq2 : (y == x) = false := by simpa using hyx
        rw [if_neg hyx] at HWT
        clear hyx
        generalize hacc : Lfc.without x (L.take j) = acc at *
        have hlm : acc.length + 1 ≤ maxLen := by unfold maxLen; omega
        have hl16 : (acc.length + 1) * 16 ≤ 140737488355328 := by omega
        go_wp2_with fail
        refine wp_region_still_tail 5 (by kernel_rfl) (by kernel_rfl) ?_
        simp only [List.take_succ_cons, List.take_zero, List.drop_succ_cons, List.drop_zero]
        change wpStill Tryd.prog _ wr.drew _ _ _
        repeat still_step
        try refine wpStill_nil ?_
        change wpList _ _ _ _ _ wr.drew
        obtain ⟨wz, hwz⟩ : ∃ wz, wr.drew = wz := ⟨_, rfl⟩
        rw [hwz]
        have hbz : Below w7.heap.size w7 wz := by rw [← hwz]; exact hbw.drew
        have HOz : Hid (wz.ownsRow w7.heap.size 9 1 (.slice Aw acc.length cw) acc.length (nameCells acc)) := Lib.hid (by rw [← hwz]; exact HO.out.drew)
        have hcz : wz.cell? ⟨b, o + j, none⟩ = some (S y) := by rw [← hwz]; exact hc1
        clear hwz
        go_wp2_with (at_builtin; refine wpList_append_own_at _ rfl _ _ 38 rfl w7.heap.size 9 y0 (S []) 1 16 Tryd.underlying38 hi hz0 hz1' hz2' rfl (by decide) _ _ _ rfl (HOz.out.alloc _) ⟨wz.heap.size, 0, none⟩ 1 1 [S y] rfl rfl (cell_one_new _ _ _) (by intro u hu; simp at hu; subst hu; rfl) hlm hl16 (alloc_le hbz.size) ?_)
        intro v' w8 hown8 hg8 _ _
        have hb8 : Below w7.heap.size w7 w8 := (hbz.alloc hbz.size _).grown hg8 (alloc_le hbz.size) (own_block_ge HOz.out)
        have HO8 : Hid (w8.ownsRow w7.heap.size 9 1 v' (acc ++ [y]).length (nameCells (acc ++ [y]))) := Lib.hid (by
          have e : nameCells (acc ++ [y]) = nameCells acc ++ [S y] := by simp [nameCells]
          rw [e, List.length_append]; exact hown8)
        clear hown8 hg8
        go_wp2_with fail
        go_roundw
        case rel => exact ⟨j + 1, by omega, by go_num, by rw [HWT.out]; exact HO8, hb8⟩
        case measure => simp [intOf]; omega
    · have hjl : j = L.length := by omega
      subst hjl
      simp only [List.take_length] at *
      have hnw := own_names HO.out
      have hwle : (Lfc.without x L).length ≤ L.length := List.length_filter_le _ _
      have HNW := Lib.hid hnw
      have hev : wr.cell? ⟨w4.heap.size, 0, none⟩ = some (.bool ex) := cell_of_one (I7.out.new hbw).ev
      obtain ⟨_, _, ⟨l0, l1, l2, l3⟩⟩ := (FG.out wr hbw).2.2
      have hfin : ∀ W, Below wr.heap.size wr W → Below w.heap.size w W := fun W hb => B13.out.trans ((g7.mono B13.out.size).trans ((hbw.mono (Nat.le_trans B13.out.size g7.size)).trans (hb.mono (Nat.le_trans (Nat.le_trans B13.out.size g7.size) hbw.size))))
      have HFIN := Lib.hid hfin
      clear hfin hnw
      cases ex
      · have hfl := HFL.out rfl
        have HC := Lib.hid (free_any TL _ wr (by omega) (FG.out wr hbw).2.1)
        rw [hfl] at HC
        generalize Lfc.without x L = M at *
        go_wp2_with fail
        refine HC.out.mono ?_
        rintro e w9 ⟨⟨A9, c9, rfl, hn9⟩, b9⟩
        have HS : Hid (Calls Tryd.prog 34 #[.slice A9 M.length c9, .slice Aw M.length cw] w9 fun e w' => e = .returned (.bool true) ∧ Below w9.heap.size w9 w') := Lib.hid (sameNames_any M A9 Aw c9 cw w9 (by omega) hn9 (HNW.out.below b9))
        clear hn9
        go_wp2_with fail
        with_reducible refine HS.out.mono ?_
        rintro e w10 ⟨rfl, b10⟩
        go_wp2_with fail
        refine (awake2_any _).mono ?_
        rintro e w11 ⟨rfl, b11⟩
        go_wp2_with fail
        go_ret
        exact ⟨rfl, HFIN.out w11 (b9.trans ((b10.mono b9.size).trans (b11.mono (Nat.le_trans b9.size b10.size))))⟩
      · go_wp2_with fail
        refine (awake2_any _).mono ?_
        rintro e w9 ⟨rfl, b9⟩
        go_wp2_with fail
        go_ret
        exact ⟨rfl, HFIN.out w9 b9⟩
end Go.Proofs.YtmdhkcefbkdkbaaDoor
