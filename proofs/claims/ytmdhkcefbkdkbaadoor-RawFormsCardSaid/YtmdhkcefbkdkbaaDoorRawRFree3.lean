/- The contract of the reference's free: the binders; Free. -/
import Derived.Test.YtmdhkcefbkdkbaaDoorRawRFree2
import Derived.Test.YtmdhkcefbkdkbaaDoorRawSpoil
set_option linter.unusedVariables false
set_option linter.unusedSimpArgs false
namespace Go.Proofs.YtmdhkcefbkdkbaaDoor
open Go.RowKit Go.Maps Go.WideMaps

theorem names_cells {w : World} {b o : Nat} {l : List (List UInt8)} (h : ∀ k (hk : k < l.length), w.cell? ⟨b, o + k, none⟩ = some (S l[k])) : CellsAt w b o (nameCells l) := by
  intro j u hj
  simp only [nameCells, List.getElem?_map] at hj
  cases e : l[j]? with
  | none => rw [e] at hj; cases hj
  | some x =>
    rw [e] at hj
    simp only [Option.map_some, Option.some.injEq] at hj
    subst hj
    obtain ⟨hl, hx⟩ := List.getElem?_eq_some_iff.1 e
    rw [← hx]; exact h j hl
theorem cellsAdd2 {w : World} {b o : Nat} {xs : List Value} (h : CellsAt w b o xs) : ∀ j u, xs[j]? = some u → w.cell? ((⟨b, o, none⟩ : Addr).add j) = some u := fun j u hj => by
  rw [Go.WideShapes.add_plain]; exact h j u hj
theorem names_ones {l : List (List UInt8)} : ∀ u ∈ nameCells l, u.oneCell' = true := by
  intro u hu
  simp only [nameCells, List.mem_map] at hu
  obtain ⟨n, _, rfl⟩ := hu
  rfl
theorem inner_names {w wr : World} {vr : Value} {A : Option Addr} {c : Nat} {l : List (List UInt8)} (h : w.ownsRow wr.heap.size 9 1 (.slice A l.length c) l.length (nameCells l)) (hv : ∀ g, vr.ownBlock = some g → g < wr.heap.size) : NamesB w vr A l := fun hne => by
  rcases h.2 with ⟨_, h0⟩ | ⟨g, cap, cur, hv', hbg, hg, _, _, _, _⟩
  · omega
  · injection hv' with e1 _ e3
    subst e1 e3
    refine ⟨g, 0, rfl, lt_of_block hg, fun e => by have := hv g e; omega, fun k hk => ?_⟩
    rw [Nat.zero_add, h.cellAt k (by omega)]
    simp [nameCells, hk]
theorem relB_hole {B' B : List (List UInt8)} {n : List UInt8} (h : RelB B' B) (hn : n = [95]) : RelB B' (B ++ [n]) := fun x hx => by
  rw [h x hx]; simp [hn, hx]
theorem relB_name {B' B : List (List UInt8)} (h : RelB B' B) (n : List UInt8) : RelB (B' ++ [n]) (B ++ [n]) := fun x hx => by
  simp [h x hx]

set_option maxRecDepth 100000 in
set_option maxHeartbeats 4000000 in
theorem rfree_b1h (w0 : World) (m : Nat) (ih : RFreeUpto w0 m) (k p : Int) (n : List UInt8) (hk : k = 7 ∨ k = 8) (hn95 : n = [95]) (a : Lfc.Raw) (hm : Lfc.Raw.sizes [a] ≤ m) (hf : Lfc.Raw.forms [a] = true) (v : Value) (w : World) (out B B' : List (List UInt8)) (vl : Value) (Ab : Option Addr) (cb : Nat) (hv : TreeV w0 (.node k n p [a]) v) (hb0 : Below w0.heap.size w0 w) (hown : w.ownsRow w0.heap.size 9 1 vl out.length (nameCells out)) (hB : NamesB w vl Ab B') (hR : RelB B' B) (hl : out.length + B'.length + Lfc.Raw.sizes [a] + 1 ≤ 1000000000) :
    Calls Tryd.prog 65 #[vl, v, .slice Ab B'.length cb] w fun e w' => ∃ vl', e = .returned vl' ∧ w'.ownsRow w0.heap.size 9 1 vl' (Lfc.Raw.fr B (.node k n p [a]) out).length (nameCells (Lfc.Raw.fr B (.node k n p [a]) out)) ∧ GB w vl w' vl' ∧ Below w0.heap.size w0 w' := by
  have HE : Lfc.Raw.fr B (.node k n p [a]) out = Lfc.Raw.fr (B ++ [n]) a out := by
    rw [Lfc.Raw.fr, if_neg (by omega), if_neg (by omega), if_pos hk, Lfc.Raw.frB]
  rw [HE]
  clear HE
  obtain ⟨A, c, rfl, hc, hA⟩ := hv.open_
  simp only [Lfc.Raw.sizes, Lfc.Raw.forms, Bool.and_true, Bool.and_eq_true, Nat.add_zero, List.length_cons, List.length_nil, Nat.zero_add, Nat.reduceAdd] at *
  have IH := Lib.hid ih
  have HRel := Lib.hid hR
  have HN := Lib.hid hn95
  clear hn95
  obtain ⟨y0, hi, hz0, hz1', hz2'⟩ := info_string
  obtain ⟨Bk, O, k1, n1, p1, us, B1, c1, rfl, hbB, ht, d0, d1, d2, d3, hcu, hB1, hT⟩ := hA.at_ (i := 0) (by simp)
  simp only [List.getElem_cons_zero, Nat.zero_mul, Nat.add_zero] at hT ht d0 d1 d2 d3
  clear ht hB1 hA
  obtain ⟨wa, hwa⟩ : ∃ wa, w.alloc (.cells #[.int .i64 k, S n, .int .i64 p, .slice (some ⟨Bk, O, none⟩) 1 c] 42) = wa := ⟨_, rfl⟩
  have ba : Below w.heap.size w wa := by rw [← hwa]; exact (Below.refl _ _).alloc (Nat.le_refl _) _
  have qa : wa.heap[w.heap.size]? = some (.cells #[.int .i64 k, S n, .int .i64 p, .slice (some ⟨Bk, O, none⟩) 1 c] 42 (0, 0)) := by rw [← hwa]; exact heap_alloc_new _ _
  have h0 : RS w0 w vl w.heap.size #[.int .i64 k, S n, .int .i64 p, .slice (some ⟨Bk, O, none⟩) 1 c] B' Ab out wa vl := ⟨own_below hown ba, GB.new ba, hb0.trans (ba.mono hb0.size), qa, fun e => by have := (hown.lt _ e).2; omega, hB.gb (GB.new ba)⟩
  obtain ⟨x0, x1, x2, x3⟩ := cells4 qa
  have H0 := Lib.hid h0
  obtain ⟨bx, hbx⟩ : ∃ bx, #[.int .i64 k, S n, .int .i64 p, .slice (some ⟨Bk, O, none⟩) 1 c] = bx := ⟨_, rfl⟩
  have HBX : Hid (∀ j : Nat, bx[j]? = (#[Value.int .i64 k, S n, .int .i64 p, .slice (some ⟨Bk, O, none⟩) 1 c])[j]?) := Lib.hid (by rw [← hbx]; intro j; rfl)
  rw [hbx] at H0
  obtain ⟨Al, cl, rfl⟩ := own_form hown
  clear h0 qa ba hbx hv ih hR hB hown hb0
  rcases hk with rfl | rfl
  all_goals
    go_enter Tryd.func65, Tryd.ntmps65
    go_upto_region 1 with fail
    clear hwa
    go_upto_region 14 with fail
    go_cut [7] (fun s7 wx => ∃ (Ai : Option Addr) (ci : Nat), s7 = .slice Ai B'.length ci ∧ Hid (wx.ownsRow wa.heap.size 9 1 (.slice Ai B'.length ci) B'.length (nameCells B') ∧ Below wa.heap.size wa wx))
    case first =>
      by_cases hB0 : B' = []
      · subst hB0
        simp only [List.length_nil] at *
        rcases Ab with _ | Ab
        · go_wp2_with fail
          go_meet
          exact ⟨none, 0, rfl, Lib.hid ⟨own_nil _ _ _ _, Below.refl _ _⟩⟩
        · go_wp2_with fail
          go_meet
          exact ⟨none, 0, rfl, Lib.hid ⟨own_nil _ _ _ _, Below.refl _ _⟩⟩
      · obtain ⟨bb, ob, rfl, hbb, _, hcs⟩ := H0.out.names (List.length_pos_iff.2 hB0)
        have hca : CellsAt wa bb ob (nameCells B') := names_cells hcs
        have hlm0 : 0 + B'.length ≤ maxLen := by unfold maxLen; omega
        have hl0 : (0 + B'.length) * 16 ≤ 140737488355328 := by omega
        clear hB0 hcs
        go_wp2_with (at_builtin; refine wpList_append_own_at _ rfl _ _ 38 rfl wa.heap.size 9 y0 (S []) 1 16 Tryd.underlying38 hi hz0 hz1' hz2' rfl (by decide) _ _ _ rfl (own_nil _ _ _ _) ⟨bb, ob, none⟩ B'.length cb (nameCells B') rfl (by simp [nameCells]) (cellsAdd2 hca) names_ones hlm0 hl0 (Nat.le_refl _) ?_)
        intro v' w5 hown5 hg5 _ _
        obtain ⟨Ai, ci, rfl⟩ := own_form hown5
        have hb5 : Below wa.heap.size wa w5 := ⟨hg5.os, hg5.tape, hg5.output, hg5.size, fun k hk => hg5.block k hk (by simp [Value.ownBlock])⟩
        have H5 := Lib.hid (And.intro hown5 hb5)
        clear hown5 hg5 hb5
        go_wp2_with fail
        go_meet
        exact ⟨Ai, ci, rfl, H5⟩
    case rest =>
      obtain ⟨Ai, ci, rfl, HI⟩ := hcut
      have hsx := HI.out.2.size
      have HRx := Lib.hid (H0.out.next (own_below H0.out.own HI.out.2) (GB.new HI.out.2) (H0.out.bel.trans (HI.out.2.mono H0.out.bel.size)))
      have z1 : wc.cell? ⟨w.heap.size, 1, none⟩ = some (S n) := (Lib.cell_of_heap HRx.out.box 1).trans (HBX.out 1)
      have hx95 : (n == [95]) = true := by simp [HN.out]
      have hx95b : (n != [95]) = false := by simp [HN.out]
      have hrel := Lib.hid (relB_hole HRel.out HN.out)
      have hnB := Lib.hid (inner_names HI.out.1 (fun g e => (H0.out.own.lt g e).2))
      have z3 : wc.cell? ⟨w.heap.size, 3, none⟩ = some (.slice (some ⟨Bk, O, none⟩) 1 c) := (Lib.cell_of_heap HRx.out.box 3).trans (HBX.out 3)
      have f0 := (HRx.out.bel.cell (p := ⟨Bk, _, none⟩) hbB).trans d0
      have f1 := (HRx.out.bel.cell (p := ⟨Bk, _, none⟩) hbB).trans d1
      have f2 := (HRx.out.bel.cell (p := ⟨Bk, _, none⟩) hbB).trans d2
      have f3 := (HRx.out.bel.cell (p := ⟨Bk, _, none⟩) hbB).trans d3
      have HIH := Lib.hid (IH.out a _ wc out (B ++ [n]) B' _ Ai ci (by omega) hf hT HRx.out.bel HRx.out.own hnB.out hrel.out (by omega))
      go_wp2_with fail
      refine HIH.out.mono ?_
      rintro e w9 ⟨v9, rfl, hown9, hg9, hb9⟩
      have H9 := Lib.hid (HRx.out.next hown9 hg9 hb9)
      clear hown9 hg9 hb9
      go_wp2_with fail
      go_ret
      exact ⟨_, rfl, H9.out.own, H9.out.gb, H9.out.bel⟩

set_option maxRecDepth 100000 in
set_option maxHeartbeats 4000000 in
theorem rfree_b1n (w0 : World) (m : Nat) (ih : RFreeUpto w0 m) (k p : Int) (n : List UInt8) (hk : k = 7 ∨ k = 8) (hn95 : n ≠ [95]) (a : Lfc.Raw) (hm : Lfc.Raw.sizes [a] ≤ m) (hf : Lfc.Raw.forms [a] = true) (v : Value) (w : World) (out B B' : List (List UInt8)) (vl : Value) (Ab : Option Addr) (cb : Nat) (hv : TreeV w0 (.node k n p [a]) v) (hb0 : Below w0.heap.size w0 w) (hown : w.ownsRow w0.heap.size 9 1 vl out.length (nameCells out)) (hB : NamesB w vl Ab B') (hR : RelB B' B) (hl : out.length + B'.length + Lfc.Raw.sizes [a] + 1 ≤ 1000000000) :
    Calls Tryd.prog 65 #[vl, v, .slice Ab B'.length cb] w fun e w' => ∃ vl', e = .returned vl' ∧ w'.ownsRow w0.heap.size 9 1 vl' (Lfc.Raw.fr B (.node k n p [a]) out).length (nameCells (Lfc.Raw.fr B (.node k n p [a]) out)) ∧ GB w vl w' vl' ∧ Below w0.heap.size w0 w' := by
  have HE : Lfc.Raw.fr B (.node k n p [a]) out = Lfc.Raw.fr (B ++ [n]) a out := by
    rw [Lfc.Raw.fr, if_neg (by omega), if_neg (by omega), if_pos hk, Lfc.Raw.frB]
  rw [HE]
  clear HE
  obtain ⟨A, c, rfl, hc, hA⟩ := hv.open_
  simp only [Lfc.Raw.sizes, Lfc.Raw.forms, Bool.and_true, Bool.and_eq_true, Nat.add_zero, List.length_cons, List.length_nil, Nat.zero_add, Nat.reduceAdd] at *
  have IH := Lib.hid ih
  have HRel := Lib.hid hR
  have HN := Lib.hid hn95
  clear hn95
  obtain ⟨y0, hi, hz0, hz1', hz2'⟩ := info_string
  obtain ⟨Bk, O, k1, n1, p1, us, B1, c1, rfl, hbB, ht, d0, d1, d2, d3, hcu, hB1, hT⟩ := hA.at_ (i := 0) (by simp)
  simp only [List.getElem_cons_zero, Nat.zero_mul, Nat.add_zero] at hT ht d0 d1 d2 d3
  clear ht hB1 hA
  obtain ⟨wa, hwa⟩ : ∃ wa, w.alloc (.cells #[.int .i64 k, S n, .int .i64 p, .slice (some ⟨Bk, O, none⟩) 1 c] 42) = wa := ⟨_, rfl⟩
  have ba : Below w.heap.size w wa := by rw [← hwa]; exact (Below.refl _ _).alloc (Nat.le_refl _) _
  have qa : wa.heap[w.heap.size]? = some (.cells #[.int .i64 k, S n, .int .i64 p, .slice (some ⟨Bk, O, none⟩) 1 c] 42 (0, 0)) := by rw [← hwa]; exact heap_alloc_new _ _
  have h0 : RS w0 w vl w.heap.size #[.int .i64 k, S n, .int .i64 p, .slice (some ⟨Bk, O, none⟩) 1 c] B' Ab out wa vl := ⟨own_below hown ba, GB.new ba, hb0.trans (ba.mono hb0.size), qa, fun e => by have := (hown.lt _ e).2; omega, hB.gb (GB.new ba)⟩
  obtain ⟨x0, x1, x2, x3⟩ := cells4 qa
  have H0 := Lib.hid h0
  obtain ⟨bx, hbx⟩ : ∃ bx, #[.int .i64 k, S n, .int .i64 p, .slice (some ⟨Bk, O, none⟩) 1 c] = bx := ⟨_, rfl⟩
  have HBX : Hid (∀ j : Nat, bx[j]? = (#[Value.int .i64 k, S n, .int .i64 p, .slice (some ⟨Bk, O, none⟩) 1 c])[j]?) := Lib.hid (by rw [← hbx]; intro j; rfl)
  rw [hbx] at H0
  obtain ⟨Al, cl, rfl⟩ := own_form hown
  clear h0 qa ba hbx hv ih hR hB hown hb0
  rcases hk with rfl | rfl
  all_goals
    go_enter Tryd.func65, Tryd.ntmps65
    go_upto_region 1 with fail
    clear hwa
    go_upto_region 14 with fail
    go_cut [7] (fun s7 wx => ∃ (Ai : Option Addr) (ci : Nat), s7 = .slice Ai B'.length ci ∧ Hid (wx.ownsRow wa.heap.size 9 1 (.slice Ai B'.length ci) B'.length (nameCells B') ∧ Below wa.heap.size wa wx))
    case first =>
      by_cases hB0 : B' = []
      · subst hB0
        simp only [List.length_nil] at *
        rcases Ab with _ | Ab
        · go_wp2_with fail
          go_meet
          exact ⟨none, 0, rfl, Lib.hid ⟨own_nil _ _ _ _, Below.refl _ _⟩⟩
        · go_wp2_with fail
          go_meet
          exact ⟨none, 0, rfl, Lib.hid ⟨own_nil _ _ _ _, Below.refl _ _⟩⟩
      · obtain ⟨bb, ob, rfl, hbb, _, hcs⟩ := H0.out.names (List.length_pos_iff.2 hB0)
        have hca : CellsAt wa bb ob (nameCells B') := names_cells hcs
        have hlm0 : 0 + B'.length ≤ maxLen := by unfold maxLen; omega
        have hl0 : (0 + B'.length) * 16 ≤ 140737488355328 := by omega
        clear hB0 hcs
        go_wp2_with (at_builtin; refine wpList_append_own_at _ rfl _ _ 38 rfl wa.heap.size 9 y0 (S []) 1 16 Tryd.underlying38 hi hz0 hz1' hz2' rfl (by decide) _ _ _ rfl (own_nil _ _ _ _) ⟨bb, ob, none⟩ B'.length cb (nameCells B') rfl (by simp [nameCells]) (cellsAdd2 hca) names_ones hlm0 hl0 (Nat.le_refl _) ?_)
        intro v' w5 hown5 hg5 _ _
        obtain ⟨Ai, ci, rfl⟩ := own_form hown5
        have hb5 : Below wa.heap.size wa w5 := ⟨hg5.os, hg5.tape, hg5.output, hg5.size, fun k hk => hg5.block k hk (by simp [Value.ownBlock])⟩
        have H5 := Lib.hid (And.intro hown5 hb5)
        clear hown5 hg5 hb5
        go_wp2_with fail
        go_meet
        exact ⟨Ai, ci, rfl, H5⟩
    case rest =>
      obtain ⟨Ai, ci, rfl, HI⟩ := hcut
      have hsx := HI.out.2.size
      have HRx := Lib.hid (H0.out.next (own_below H0.out.own HI.out.2) (GB.new HI.out.2) (H0.out.bel.trans (HI.out.2.mono H0.out.bel.size)))
      have z1 : wc.cell? ⟨w.heap.size, 1, none⟩ = some (S n) := (Lib.cell_of_heap HRx.out.box 1).trans (HBX.out 1)
      have hx95 : (n == [95]) = false := by simpa using HN.out
      have hx95b : (n != [95]) = true := by simpa using HN.out
      have hrel := Lib.hid (relB_name HRel.out n)
      have hlm1 : B'.length + 1 ≤ maxLen := by unfold maxLen; omega
      have hl1 : (B'.length + 1) * 16 ≤ 140737488355328 := by omega
      go_wp2_with (at_builtin; refine wpList_append_own_at _ rfl _ _ 38 rfl wa.heap.size 9 y0 (S []) 1 16 Tryd.underlying38 hi hz0 hz1' hz2' rfl (by decide) _ _ _ rfl (HI.out.1.alloc _) ⟨wc.heap.size, 0, none⟩ 1 1 [S n] rfl rfl (cell_one_new _ _ _) (by intro u hu; simp at hu; subst hu; rfl) hlm1 hl1 (alloc_le hsx) ?_)
      intro v' w5 hown5 hg5 _ _
      obtain ⟨A5, c5, rfl⟩ := own_form hown5
      have hb5 : Below wa.heap.size wa w5 := (HI.out.2.alloc hsx _).grown hg5 (alloc_le hsx) (own_block_ge HI.out.1)
      have hown5' : w5.ownsRow wa.heap.size 9 1 (.slice A5 (B' ++ [n]).length c5) (B' ++ [n]).length (nameCells (B' ++ [n])) := by
        have e : nameCells (B' ++ [n]) = nameCells B' ++ [S n] := by simp [nameCells]
        rw [e, List.length_append]; exact hown5
      have hnB := Lib.hid (inner_names hown5' (fun g e => (H0.out.own.lt g e).2))
      have HR5 := Lib.hid (H0.out.next (own_below H0.out.own hb5) (GB.new hb5) (H0.out.bel.trans (hb5.mono H0.out.bel.size)))
      have hlen5 : (B' ++ [n]).length = B'.length + 1 := by simp
      have HL5 := Lib.hid hlen5
      clear hown5 hg5 hb5 hown5' hlen5 z1
      have z3 : w5.cell? ⟨w.heap.size, 3, none⟩ = some (.slice (some ⟨Bk, O, none⟩) 1 c) := (Lib.cell_of_heap HR5.out.box 3).trans (HBX.out 3)
      have f0 := (HR5.out.bel.cell (p := ⟨Bk, _, none⟩) hbB).trans d0
      have f1 := (HR5.out.bel.cell (p := ⟨Bk, _, none⟩) hbB).trans d1
      have f2 := (HR5.out.bel.cell (p := ⟨Bk, _, none⟩) hbB).trans d2
      have f3 := (HR5.out.bel.cell (p := ⟨Bk, _, none⟩) hbB).trans d3
      have HIH := Lib.hid (IH.out a _ w5 out (B ++ [n]) (B' ++ [n]) _ A5 c5 (by omega) hf hT HR5.out.bel HR5.out.own hnB.out hrel.out (by rw [HL5.out]; omega))
      rw [HL5.out] at HIH
      go_wp2_with fail
      refine HIH.out.mono ?_
      rintro e w9 ⟨v9, rfl, hown9, hg9, hb9⟩
      have H9 := Lib.hid (HR5.out.next hown9 hg9 hb9)
      clear hown9 hg9 hb9
      go_wp2_with fail
      go_ret
      exact ⟨_, rfl, H9.out.own, H9.out.gb, H9.out.bel⟩

set_option maxRecDepth 100000 in
set_option maxHeartbeats 4000000 in
theorem rfree_b2h (w0 : World) (m : Nat) (ih : RFreeUpto w0 m) (k p : Int) (n : List UInt8) (hk : k = 7 ∨ k = 8) (hn95 : n = [95]) (a a' : Lfc.Raw) (hm : Lfc.Raw.sizes [a, a'] ≤ m) (hf : Lfc.Raw.forms [a, a'] = true) (v : Value) (w : World) (out B B' : List (List UInt8)) (vl : Value) (Ab : Option Addr) (cb : Nat) (hv : TreeV w0 (.node k n p [a, a']) v) (hb0 : Below w0.heap.size w0 w) (hown : w.ownsRow w0.heap.size 9 1 vl out.length (nameCells out)) (hB : NamesB w vl Ab B') (hR : RelB B' B) (hl : out.length + B'.length + Lfc.Raw.sizes [a, a'] + 1 ≤ 1000000000) :
    Calls Tryd.prog 65 #[vl, v, .slice Ab B'.length cb] w fun e w' => ∃ vl', e = .returned vl' ∧ w'.ownsRow w0.heap.size 9 1 vl' (Lfc.Raw.fr B (.node k n p [a, a']) out).length (nameCells (Lfc.Raw.fr B (.node k n p [a, a']) out)) ∧ GB w vl w' vl' ∧ Below w0.heap.size w0 w' := by
  have HE : Lfc.Raw.fr B (.node k n p [a, a']) out = Lfc.Raw.fr (B ++ [n]) a' (Lfc.Raw.fr B a out) := by
    rw [Lfc.Raw.fr, if_neg (by omega), if_neg (by omega), if_pos hk, Lfc.Raw.frB]
  rw [HE]
  clear HE
  obtain ⟨A, c, rfl, hc, hA⟩ := hv.open_
  simp only [Lfc.Raw.sizes, Lfc.Raw.forms, Bool.and_true, Bool.and_eq_true, Nat.add_zero, List.length_cons, List.length_nil, Nat.zero_add, Nat.reduceAdd] at *
  have IH := Lib.hid ih
  have HRel := Lib.hid hR
  have HN := Lib.hid hn95
  clear hn95
  obtain ⟨y0, hi, hz0, hz1', hz2'⟩ := info_string
  obtain ⟨hfa, hfa'⟩ := hf
  have hfl := Lfc.fr_len a B out
  obtain ⟨Bk, O, k1, n1, p1, us, B1, c1, rfl, hbB, ht, d0, d1, d2, d3, hcu, hB1, hT⟩ := hA.at_ (i := 0) (by simp)
  obtain ⟨B2', O', k2, n2, p2, ys, B2, c2, hBO, hb', ht', e0, e1, e2, e3, hcu', hB2, hT'⟩ := hA.at_ (i := 1) (by simp)
  simp only [List.getElem_cons_zero, List.getElem_cons_succ, Nat.zero_mul, Nat.one_mul, Nat.add_zero] at hT ht d0 d1 d2 d3 hT' ht' e0 e1 e2 e3
  cases hBO
  clear ht hB1 hA ht' hB2 hb'
  obtain ⟨wa, hwa⟩ : ∃ wa, w.alloc (.cells #[.int .i64 k, S n, .int .i64 p, .slice (some ⟨Bk, O, none⟩) 2 c] 42) = wa := ⟨_, rfl⟩
  have ba : Below w.heap.size w wa := by rw [← hwa]; exact (Below.refl _ _).alloc (Nat.le_refl _) _
  have qa : wa.heap[w.heap.size]? = some (.cells #[.int .i64 k, S n, .int .i64 p, .slice (some ⟨Bk, O, none⟩) 2 c] 42 (0, 0)) := by rw [← hwa]; exact heap_alloc_new _ _
  have h0 : RS w0 w vl w.heap.size #[.int .i64 k, S n, .int .i64 p, .slice (some ⟨Bk, O, none⟩) 2 c] B' Ab out wa vl := ⟨own_below hown ba, GB.new ba, hb0.trans (ba.mono hb0.size), qa, fun e => by have := (hown.lt _ e).2; omega, hB.gb (GB.new ba)⟩
  obtain ⟨x0, x1, x2, x3⟩ := cells4 qa
  have H0 := Lib.hid h0
  obtain ⟨bx, hbx⟩ : ∃ bx, #[.int .i64 k, S n, .int .i64 p, .slice (some ⟨Bk, O, none⟩) 2 c] = bx := ⟨_, rfl⟩
  have HBX : Hid (∀ j : Nat, bx[j]? = (#[Value.int .i64 k, S n, .int .i64 p, .slice (some ⟨Bk, O, none⟩) 2 c])[j]?) := Lib.hid (by rw [← hbx]; intro j; rfl)
  rw [hbx] at H0
  obtain ⟨Al, cl, rfl⟩ := own_form hown
  clear h0 qa ba hbx hv ih hR hB hown hb0
  rcases hk with rfl | rfl
  all_goals
    go_enter Tryd.func65, Tryd.ntmps65
    go_upto_region 1 with fail
    clear hwa
    have g0 := (H0.out.bel.cell (p := ⟨Bk, _, none⟩) hbB).trans d0
    have g1 := (H0.out.bel.cell (p := ⟨Bk, _, none⟩) hbB).trans d1
    have g2 := (H0.out.bel.cell (p := ⟨Bk, _, none⟩) hbB).trans d2
    have g3 := (H0.out.bel.cell (p := ⟨Bk, _, none⟩) hbB).trans d3
    have HI1 := Lib.hid (IH.out a _ wa out B B' _ Ab cb (by omega) hfa hT H0.out.bel H0.out.own H0.out.names HRel.out (by omega))
    go_wp2_with fail
    refine HI1.out.mono ?_
    rintro e w2 ⟨v2, rfl, hown2, hg2, hb2⟩
    obtain ⟨A2, c2', rfl⟩ := own_form hown2
    have H2 := Lib.hid (H0.out.next hown2 hg2 hb2)
    clear hown2 hg2 hb2 x0 x1 x2 x3 g0 g1 g2 g3
    go_upto_region 14 with fail
    go_cut [7] (fun s7 wx => ∃ (Ai : Option Addr) (ci : Nat), s7 = .slice Ai B'.length ci ∧ Hid (wx.ownsRow w2.heap.size 9 1 (.slice Ai B'.length ci) B'.length (nameCells B') ∧ Below w2.heap.size w2 wx))
    case first =>
      by_cases hB0 : B' = []
      · subst hB0
        simp only [List.length_nil] at *
        rcases Ab with _ | Ab
        · go_wp2_with fail
          go_meet
          exact ⟨none, 0, rfl, Lib.hid ⟨own_nil _ _ _ _, Below.refl _ _⟩⟩
        · go_wp2_with fail
          go_meet
          exact ⟨none, 0, rfl, Lib.hid ⟨own_nil _ _ _ _, Below.refl _ _⟩⟩
      · obtain ⟨bb, ob, rfl, hbb, _, hcs⟩ := H2.out.names (List.length_pos_iff.2 hB0)
        have hca : CellsAt w2 bb ob (nameCells B') := names_cells hcs
        have hlm0 : 0 + B'.length ≤ maxLen := by unfold maxLen; omega
        have hl0 : (0 + B'.length) * 16 ≤ 140737488355328 := by omega
        clear hB0 hcs
        go_wp2_with (at_builtin; refine wpList_append_own_at _ rfl _ _ 38 rfl w2.heap.size 9 y0 (S []) 1 16 Tryd.underlying38 hi hz0 hz1' hz2' rfl (by decide) _ _ _ rfl (own_nil _ _ _ _) ⟨bb, ob, none⟩ B'.length cb (nameCells B') rfl (by simp [nameCells]) (cellsAdd2 hca) names_ones hlm0 hl0 (Nat.le_refl _) ?_)
        intro v' w5 hown5 hg5 _ _
        obtain ⟨Ai, ci, rfl⟩ := own_form hown5
        have hb5 : Below w2.heap.size w2 w5 := ⟨hg5.os, hg5.tape, hg5.output, hg5.size, fun k hk => hg5.block k hk (by simp [Value.ownBlock])⟩
        have H5 := Lib.hid (And.intro hown5 hb5)
        clear hown5 hg5 hb5
        go_wp2_with fail
        go_meet
        exact ⟨Ai, ci, rfl, H5⟩
    case rest =>
      obtain ⟨Ai, ci, rfl, HI⟩ := hcut
      have hsx := HI.out.2.size
      have HRx := Lib.hid (H2.out.next (own_below H2.out.own HI.out.2) (GB.new HI.out.2) (H2.out.bel.trans (HI.out.2.mono H2.out.bel.size)))
      have z1 : wc.cell? ⟨w.heap.size, 1, none⟩ = some (S n) := (Lib.cell_of_heap HRx.out.box 1).trans (HBX.out 1)
      have hx95 : (n == [95]) = true := by simp [HN.out]
      have hx95b : (n != [95]) = false := by simp [HN.out]
      have hrel := Lib.hid (relB_hole HRel.out HN.out)
      have hnB := Lib.hid (inner_names HI.out.1 (fun g e => (H2.out.own.lt g e).2))
      have z3 : wc.cell? ⟨w.heap.size, 3, none⟩ = some (.slice (some ⟨Bk, O, none⟩) 2 c) := (Lib.cell_of_heap HRx.out.box 3).trans (HBX.out 3)
      have f0 := (HRx.out.bel.cell (p := ⟨Bk, _, none⟩) hbB).trans e0
      have f1 := (HRx.out.bel.cell (p := ⟨Bk, _, none⟩) hbB).trans e1
      have f2 := (HRx.out.bel.cell (p := ⟨Bk, _, none⟩) hbB).trans e2
      have f3 := (HRx.out.bel.cell (p := ⟨Bk, _, none⟩) hbB).trans e3
      have HIH := Lib.hid (IH.out a' _ wc (Lfc.Raw.fr B a out) (B ++ [n]) B' _ Ai ci (by omega) hfa' hT' HRx.out.bel HRx.out.own hnB.out hrel.out (by omega))
      go_wp2_with fail
      refine HIH.out.mono ?_
      rintro e w9 ⟨v9, rfl, hown9, hg9, hb9⟩
      have H9 := Lib.hid (HRx.out.next hown9 hg9 hb9)
      clear hown9 hg9 hb9
      go_wp2_with fail
      go_ret
      exact ⟨_, rfl, H9.out.own, H9.out.gb, H9.out.bel⟩

set_option maxRecDepth 100000 in
set_option maxHeartbeats 4000000 in
theorem rfree_b2n (w0 : World) (m : Nat) (ih : RFreeUpto w0 m) (k p : Int) (n : List UInt8) (hk : k = 7 ∨ k = 8) (hn95 : n ≠ [95]) (a a' : Lfc.Raw) (hm : Lfc.Raw.sizes [a, a'] ≤ m) (hf : Lfc.Raw.forms [a, a'] = true) (v : Value) (w : World) (out B B' : List (List UInt8)) (vl : Value) (Ab : Option Addr) (cb : Nat) (hv : TreeV w0 (.node k n p [a, a']) v) (hb0 : Below w0.heap.size w0 w) (hown : w.ownsRow w0.heap.size 9 1 vl out.length (nameCells out)) (hB : NamesB w vl Ab B') (hR : RelB B' B) (hl : out.length + B'.length + Lfc.Raw.sizes [a, a'] + 1 ≤ 1000000000) :
    Calls Tryd.prog 65 #[vl, v, .slice Ab B'.length cb] w fun e w' => ∃ vl', e = .returned vl' ∧ w'.ownsRow w0.heap.size 9 1 vl' (Lfc.Raw.fr B (.node k n p [a, a']) out).length (nameCells (Lfc.Raw.fr B (.node k n p [a, a']) out)) ∧ GB w vl w' vl' ∧ Below w0.heap.size w0 w' := by
  have HE : Lfc.Raw.fr B (.node k n p [a, a']) out = Lfc.Raw.fr (B ++ [n]) a' (Lfc.Raw.fr B a out) := by
    rw [Lfc.Raw.fr, if_neg (by omega), if_neg (by omega), if_pos hk, Lfc.Raw.frB]
  rw [HE]
  clear HE
  obtain ⟨A, c, rfl, hc, hA⟩ := hv.open_
  simp only [Lfc.Raw.sizes, Lfc.Raw.forms, Bool.and_true, Bool.and_eq_true, Nat.add_zero, List.length_cons, List.length_nil, Nat.zero_add, Nat.reduceAdd] at *
  have IH := Lib.hid ih
  have HRel := Lib.hid hR
  have HN := Lib.hid hn95
  clear hn95
  obtain ⟨y0, hi, hz0, hz1', hz2'⟩ := info_string
  obtain ⟨hfa, hfa'⟩ := hf
  have hfl := Lfc.fr_len a B out
  obtain ⟨Bk, O, k1, n1, p1, us, B1, c1, rfl, hbB, ht, d0, d1, d2, d3, hcu, hB1, hT⟩ := hA.at_ (i := 0) (by simp)
  obtain ⟨B2', O', k2, n2, p2, ys, B2, c2, hBO, hb', ht', e0, e1, e2, e3, hcu', hB2, hT'⟩ := hA.at_ (i := 1) (by simp)
  simp only [List.getElem_cons_zero, List.getElem_cons_succ, Nat.zero_mul, Nat.one_mul, Nat.add_zero] at hT ht d0 d1 d2 d3 hT' ht' e0 e1 e2 e3
  cases hBO
  clear ht hB1 hA ht' hB2 hb'
  obtain ⟨wa, hwa⟩ : ∃ wa, w.alloc (.cells #[.int .i64 k, S n, .int .i64 p, .slice (some ⟨Bk, O, none⟩) 2 c] 42) = wa := ⟨_, rfl⟩
  have ba : Below w.heap.size w wa := by rw [← hwa]; exact (Below.refl _ _).alloc (Nat.le_refl _) _
  have qa : wa.heap[w.heap.size]? = some (.cells #[.int .i64 k, S n, .int .i64 p, .slice (some ⟨Bk, O, none⟩) 2 c] 42 (0, 0)) := by rw [← hwa]; exact heap_alloc_new _ _
  have h0 : RS w0 w vl w.heap.size #[.int .i64 k, S n, .int .i64 p, .slice (some ⟨Bk, O, none⟩) 2 c] B' Ab out wa vl := ⟨own_below hown ba, GB.new ba, hb0.trans (ba.mono hb0.size), qa, fun e => by have := (hown.lt _ e).2; omega, hB.gb (GB.new ba)⟩
  obtain ⟨x0, x1, x2, x3⟩ := cells4 qa
  have H0 := Lib.hid h0
  obtain ⟨bx, hbx⟩ : ∃ bx, #[.int .i64 k, S n, .int .i64 p, .slice (some ⟨Bk, O, none⟩) 2 c] = bx := ⟨_, rfl⟩
  have HBX : Hid (∀ j : Nat, bx[j]? = (#[Value.int .i64 k, S n, .int .i64 p, .slice (some ⟨Bk, O, none⟩) 2 c])[j]?) := Lib.hid (by rw [← hbx]; intro j; rfl)
  rw [hbx] at H0
  obtain ⟨Al, cl, rfl⟩ := own_form hown
  clear h0 qa ba hbx hv ih hR hB hown hb0
  rcases hk with rfl | rfl
  all_goals
    go_enter Tryd.func65, Tryd.ntmps65
    go_upto_region 1 with fail
    clear hwa
    have g0 := (H0.out.bel.cell (p := ⟨Bk, _, none⟩) hbB).trans d0
    have g1 := (H0.out.bel.cell (p := ⟨Bk, _, none⟩) hbB).trans d1
    have g2 := (H0.out.bel.cell (p := ⟨Bk, _, none⟩) hbB).trans d2
    have g3 := (H0.out.bel.cell (p := ⟨Bk, _, none⟩) hbB).trans d3
    have HI1 := Lib.hid (IH.out a _ wa out B B' _ Ab cb (by omega) hfa hT H0.out.bel H0.out.own H0.out.names HRel.out (by omega))
    go_wp2_with fail
    refine HI1.out.mono ?_
    rintro e w2 ⟨v2, rfl, hown2, hg2, hb2⟩
    obtain ⟨A2, c2', rfl⟩ := own_form hown2
    have H2 := Lib.hid (H0.out.next hown2 hg2 hb2)
    clear hown2 hg2 hb2 x0 x1 x2 x3 g0 g1 g2 g3
    go_upto_region 14 with fail
    go_cut [7] (fun s7 wx => ∃ (Ai : Option Addr) (ci : Nat), s7 = .slice Ai B'.length ci ∧ Hid (wx.ownsRow w2.heap.size 9 1 (.slice Ai B'.length ci) B'.length (nameCells B') ∧ Below w2.heap.size w2 wx))
    case first =>
      by_cases hB0 : B' = []
      · subst hB0
        simp only [List.length_nil] at *
        rcases Ab with _ | Ab
        · go_wp2_with fail
          go_meet
          exact ⟨none, 0, rfl, Lib.hid ⟨own_nil _ _ _ _, Below.refl _ _⟩⟩
        · go_wp2_with fail
          go_meet
          exact ⟨none, 0, rfl, Lib.hid ⟨own_nil _ _ _ _, Below.refl _ _⟩⟩
      · obtain ⟨bb, ob, rfl, hbb, _, hcs⟩ := H2.out.names (List.length_pos_iff.2 hB0)
        have hca : CellsAt w2 bb ob (nameCells B') := names_cells hcs
        have hlm0 : 0 + B'.length ≤ maxLen := by unfold maxLen; omega
        have hl0 : (0 + B'.length) * 16 ≤ 140737488355328 := by omega
        clear hB0 hcs
        go_wp2_with (at_builtin; refine wpList_append_own_at _ rfl _ _ 38 rfl w2.heap.size 9 y0 (S []) 1 16 Tryd.underlying38 hi hz0 hz1' hz2' rfl (by decide) _ _ _ rfl (own_nil _ _ _ _) ⟨bb, ob, none⟩ B'.length cb (nameCells B') rfl (by simp [nameCells]) (cellsAdd2 hca) names_ones hlm0 hl0 (Nat.le_refl _) ?_)
        intro v' w5 hown5 hg5 _ _
        obtain ⟨Ai, ci, rfl⟩ := own_form hown5
        have hb5 : Below w2.heap.size w2 w5 := ⟨hg5.os, hg5.tape, hg5.output, hg5.size, fun k hk => hg5.block k hk (by simp [Value.ownBlock])⟩
        have H5 := Lib.hid (And.intro hown5 hb5)
        clear hown5 hg5 hb5
        go_wp2_with fail
        go_meet
        exact ⟨Ai, ci, rfl, H5⟩
    case rest =>
      obtain ⟨Ai, ci, rfl, HI⟩ := hcut
      have hsx := HI.out.2.size
      have HRx := Lib.hid (H2.out.next (own_below H2.out.own HI.out.2) (GB.new HI.out.2) (H2.out.bel.trans (HI.out.2.mono H2.out.bel.size)))
      have z1 : wc.cell? ⟨w.heap.size, 1, none⟩ = some (S n) := (Lib.cell_of_heap HRx.out.box 1).trans (HBX.out 1)
      have hx95 : (n == [95]) = false := by simpa using HN.out
      have hx95b : (n != [95]) = true := by simpa using HN.out
      have hrel := Lib.hid (relB_name HRel.out n)
      have hlm1 : B'.length + 1 ≤ maxLen := by unfold maxLen; omega
      have hl1 : (B'.length + 1) * 16 ≤ 140737488355328 := by omega
      go_wp2_with (at_builtin; refine wpList_append_own_at _ rfl _ _ 38 rfl w2.heap.size 9 y0 (S []) 1 16 Tryd.underlying38 hi hz0 hz1' hz2' rfl (by decide) _ _ _ rfl (HI.out.1.alloc _) ⟨wc.heap.size, 0, none⟩ 1 1 [S n] rfl rfl (cell_one_new _ _ _) (by intro u hu; simp at hu; subst hu; rfl) hlm1 hl1 (alloc_le hsx) ?_)
      intro v' w5 hown5 hg5 _ _
      obtain ⟨A5, c5, rfl⟩ := own_form hown5
      have hb5 : Below w2.heap.size w2 w5 := (HI.out.2.alloc hsx _).grown hg5 (alloc_le hsx) (own_block_ge HI.out.1)
      have hown5' : w5.ownsRow w2.heap.size 9 1 (.slice A5 (B' ++ [n]).length c5) (B' ++ [n]).length (nameCells (B' ++ [n])) := by
        have e : nameCells (B' ++ [n]) = nameCells B' ++ [S n] := by simp [nameCells]
        rw [e, List.length_append]; exact hown5
      have hnB := Lib.hid (inner_names hown5' (fun g e => (H2.out.own.lt g e).2))
      have HR5 := Lib.hid (H2.out.next (own_below H2.out.own hb5) (GB.new hb5) (H2.out.bel.trans (hb5.mono H2.out.bel.size)))
      have hlen5 : (B' ++ [n]).length = B'.length + 1 := by simp
      have HL5 := Lib.hid hlen5
      clear hown5 hg5 hb5 hown5' hlen5 z1
      have z3 : w5.cell? ⟨w.heap.size, 3, none⟩ = some (.slice (some ⟨Bk, O, none⟩) 2 c) := (Lib.cell_of_heap HR5.out.box 3).trans (HBX.out 3)
      have f0 := (HR5.out.bel.cell (p := ⟨Bk, _, none⟩) hbB).trans e0
      have f1 := (HR5.out.bel.cell (p := ⟨Bk, _, none⟩) hbB).trans e1
      have f2 := (HR5.out.bel.cell (p := ⟨Bk, _, none⟩) hbB).trans e2
      have f3 := (HR5.out.bel.cell (p := ⟨Bk, _, none⟩) hbB).trans e3
      have HIH := Lib.hid (IH.out a' _ w5 (Lfc.Raw.fr B a out) (B ++ [n]) (B' ++ [n]) _ A5 c5 (by omega) hfa' hT' HR5.out.bel HR5.out.own hnB.out hrel.out (by rw [HL5.out]; omega))
      rw [HL5.out] at HIH
      go_wp2_with fail
      refine HIH.out.mono ?_
      rintro e w9 ⟨v9, rfl, hown9, hg9, hb9⟩
      have H9 := Lib.hid (HR5.out.next hown9 hg9 hb9)
      clear hown9 hg9 hb9
      go_wp2_with fail
      go_ret
      exact ⟨_, rfl, H9.out.own, H9.out.gb, H9.out.bel⟩
end Go.Proofs.YtmdhkcefbkdkbaaDoor
