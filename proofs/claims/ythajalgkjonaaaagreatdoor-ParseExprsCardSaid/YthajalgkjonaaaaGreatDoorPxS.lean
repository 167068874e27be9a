/- Parts of the proof that no input makes the law false: PaFm2, PaWr, PaWt, ShelfI. -/
import Derived.Deep.WholeRow
import Derived.Laws.EntriesVeiled
import Derived.Shelf.Strings.Builder1
import Derived.Shelf.Strings.Builder2
import Derived.Shelf.Strings.OnBuilder
import Derived.Shelf.Small.Strs
import Derived.Shelf.Strings.BuilderF
import Derived.Shelf.Strings.BuilderK
import Derived.Shelf.Strings.Builder2Cap
import Derived.Shelf.Strconv.Itoa0
import Derived.Shelf.Strconv.Itoa1
import Derived.Shelf.LaysM
import Derived.Shelf.Strconv.Itoa2
import Derived.Shelf.Strconv.Itoa3
import Derived.Shelf.Strings.Search1
import Derived.Shelf.Strings.Prefix
import Derived.Shelf.Strings.BuilderCap
import Derived.Shelf.Slices.Turned
import Derived.Ground.Names2Prog
import Derived.Shelf.Slices.Clone
import Derived.Test.YthajalgkjonaaaaGreatDoorShelf
import Derived.Test.YthajalgkjonaaaaGreatDoorPxD
import Derived.Test.YthajalgkjonaaaaGreatDoorPxG
import Derived.Test.YthajalgkjonaaaaGreatDoorPxL
import Derived.Test.YthajalgkjonaaaaGreatDoorPxP
import Derived.Test.YthajalgkjonaaaaGreatDoorPxQ
import Derived.Test.YthajalgkjonaaaaGreatDoorPxR
set_option linter.unusedVariables false
set_option linter.unusedSimpArgs false
namespace Lfc
def wfTs : List Raw → Int
 | [] => 0
 | t :: r => if t.wf ≠ 0 then t.wf else wfTs r
def wfIts (ops : List Op) : List Itm → Int
 | [] => 0
 | x :: r => if x.formedP = false then 1 else if wfTs x.trees ≠ 0 then wfTs x.trees else if x.kind = 3 then (if (added ops x.op).2 ≠ 0 then (added ops x.op).2 else wfIts (added ops x.op).1 r) else wfIts ops r
def wfItems (l : List Itm) : Int := if 512 < l.length then 7 else wfIts [] l
end Lfc
namespace Go.Proofs.YthajalgkjonaaaaGreatDoor
open Go.RowKit
theorem TreesAt.toP {w : World} {A : Option Addr} {ts : List Lfc.Raw} (h : TreesAt w A ts) : TreesAtP (fun _ => True) w A ts := fun hne => by
 obtain ⟨b, o, hA, hlt, ht⟩ := h hne
 exact ⟨b, o, hA, hlt, trivial, TreesO.toP (fun _ _ => trivial) _ _ _ ht⟩
theorem rowp_trees {q : Nat → Prop} {w : World} {base c : Nat} {A : Option Addr} {xs : List Value} {ts : List Lfc.Raw} (h : w.ownsRow base 46 4 (.slice A ts.length c) ts.length xs) (hr : RowP q w ts xs) : TreesAt w A ts := fun hne => by
 rcases h.2 with ⟨_, h0⟩ | ⟨g, cap, cur, hv, hbg, hg, _⟩
 ·exact absurd (List.length_eq_zero_iff.1 h0) hne
 ·have hv' := hv
  injection hv' with e1 _ e3
  subst e1 e3
  exact ⟨g, 0, rfl, lt_of_block hg, TreesP.toC ts g 0 (hr.lie (own_cells h))⟩
theorem TreesAt.row {w : World} {A : Option Addr} {ts : List Lfc.Raw} (h : TreesAt w A ts) : ∃ ys, RowP (fun b => b < w.heap.size) w ts ys ∧ ys.length = ts.length * 4 ∧ (∀ u ∈ ys, u.oneCell' = true) ∧ ∀ W, Below w.heap.size w W → ts.length ≠ 0 → ∃ a, A = some a ∧ ∀ j u, ys[j]? = some u → W.cell? (a.add j) = some u := by
 by_cases e : ts = []
 ·subst e
  exact ⟨[], by rw [RowP], rfl, by simp, fun W _ h => absurd rfl h⟩
 ·obtain ⟨b, o, hA, hb, hT⟩ := h e
  obtain ⟨xs, hr, hc⟩ := (TreesO.toP (q := fun b => b < w.heap.size) (fun _ h => h) _ _ _ hT).row
  refine ⟨xs, hr, by have := hr.len; omega, hr.ones, fun W hW _ => ⟨_, hA, cellsAdd fun j u hj => ?_⟩⟩
  exact (hW.cell (p := ⟨b, _, none⟩) hb).trans (hc j u hj)
theorem bnd_info : ∃ i, Tryz.prog.info? 72 = some i ∧ i.zero = some (.agg #[S [], .int .i64 0, S [], .int .i64 0, .slice none 0 0]) ∧ i.size = 5 ∧ i.bytes = 72 := by
 obtain ⟨i0, hi, hz0, hz1, hz2⟩ := info_parts (show (Tryz.prog.info? 72).map (fun i => (i.zero, i.size, i.bytes)) = some (some (.agg #[S [], .int .i64 0, S [], .int .i64 0, .slice none 0 0]), 5, 72) by kernel_rfl)
 exact ⟨i0, hi, hz0, hz1, hz2⟩
set_option maxRecDepth 100000 in
set_option maxHeartbeats 2000000 in
theorem bclone_nil (A : Option Addr) (c : Nat) (w : World) : Calls Tryz.prog 99 #[.slice A 0 c] w fun e w' => ∃ A' c', e = .returned (.slice A' 0 c') ∧ w'.ownsRow w.heap.size 72 5 (.slice A' 0 c') 0 [] ∧ Below w.heap.size w w' := by
 obtain ⟨i0, hi, hz0, hz1, hz2⟩ := bnd_info
 rcases A with _ | A
 ·have hnil : ∀ W : World, (binOp .eql 35 (.slice none 0 c) (.slice none 0 0)).run Tryz.prog W = .ok (.bool true) W := fun _ => rfl
  go_enter Tryz.func99, Tryz.ntmps99
  go_wp2_with fail
  go_ret
  exact ⟨none, 0, rfl, own_nil _ _ _ _, Below.refl _ _⟩
 ·have hown0 : (w.alloc (.cells #[] 72)).ownsRow w.heap.size 72 5 (.slice (some ⟨w.heap.size, 0, none⟩) 0 0) 0 [] :=
   ⟨rfl, .inr ⟨w.heap.size, 0, #[], rfl, Nat.le_refl _, heap_alloc_new _ _, Nat.le_refl _, by unfold maxLen; omega, rfl, rfl⟩⟩
  have HOWN := Lib.hid hown0
  have b1 : Below w.heap.size w (w.alloc (.cells #[] 72)) := (Below.refl _ _).alloc (Nat.le_refl _) _
  have hnil : ∀ W : World, (binOp .eql 35 (.slice (some A) 0 c) (.slice none 0 0)).run Tryz.prog W = .ok (.bool false) W := fun _ => rfl
  clear hown0
  go_enter Tryz.func99, Tryz.ntmps99
  go_wp2_with (at_builtin; refine wpList_append_own_any _ rfl _ _ 35 rfl w.heap.size 72 i0 (.agg #[S [], .int .i64 0, S [], .int .i64 0, .slice none 0 0]) 5 72 Tryz.underlying35 hi hz0 hz1 hz2 rfl (by decide) _ _ _ rfl HOWN.out (some A) 0 c [] rfl rfl (fun h => absurd rfl h) (by simp) (by decide) (by decide) (by simp) ?_)
  intro v' w2 hown2 hg2 _
  obtain ⟨A2, c2, rfl⟩ := own_form hown2
  have HO2 := Lib.hid hown2
  have b2 : Below w.heap.size w w2 := b1.grown hg2 (by simp) (own_block_ge HOWN.out)
  clear hown2 hg2
  go_wp2_with fail
  go_ret
  exact ⟨A2, c2, rfl, by simpa using HO2.out, b2⟩
set_option maxRecDepth 100000 in
set_option maxHeartbeats 4000000 in
theorem trees_leaf (x : Lfc.Itm) (s : IS) (w : World) (hv : ItV w x s) (hx : x.Sm) (h0 : x.som = []) (h1 : x.params = []) : Calls Tryz.prog 47 #[.agg (itCells x s)] w fun e w' => (∃ A c, e = .returned (.slice A x.trees.length c) ∧ TreesAt w' A x.trees) ∧ Below w.heap.size w w' := by
 obtain ⟨ir, hri, hrz0, hrz1, hrz2⟩ := raw_info
 obtain ⟨ib, hbi, hbz0, hbz1, hbz2⟩ := bnd_info
 have hty := hx.ty
 have hva := hx.va
 have HT := Lib.hid hv.ty.1
 have HV := Lib.hid hv.va.1
 have HX : Hid (x.trees = x.type ++ x.value) := Lib.hid (by simp [Lfc.Itm.trees, h0, h1])
 rw [HX.out]
 clear hx hv HX
 obtain ⟨kind, pos, name, type, value, ⟨on, of, op⟩, som, params, blocks, fams, signs, orders, ⟨lk, la, lp⟩, ⟨rk, ra, rp⟩, rel, count⟩ := x
 simp only at h0 h1 hty hva HT HV ⊢
 subst h0 h1
 simp only [itCells, Lfc.Ord.k, Lfc.Ord.a, Lfc.Ord.ps, List.length_nil] at HT HV ⊢
 obtain ⟨w1, hw1⟩ : ∃ w1, w.alloc (.cells #[.int .i64 kind, .int .i64 (pos : Int), S name, .slice s.ty.1 type.length s.ty.2, .slice s.va.1 value.length s.va.2, S on, .int .i64 of, .int .i64 op, .slice s.so.1 0 s.so.2, .slice s.pa.1 0 s.pa.2, .slice s.bl.1 blocks.length s.bl.2, .slice s.fa.1 fams.length s.fa.2, .slice s.si.1 signs.length s.si.2, .slice s.od.1 orders.length s.od.2, .int .i64 lk, .int .i64 la, .slice s.le.1 lp.length s.le.2, .int .i64 rk, .int .i64 ra, .slice s.ri.1 rp.length s.ri.2, .int .i64 rel, .int .i64 count] 42) = w1 := ⟨_, rfl⟩
 have b1 : Below w.heap.size w w1 := by rw [← hw1]; exact (Below.refl _ _).alloc (Nat.le_refl _) _
 have q1 : w1.heap[w.heap.size]? = some (.cells #[.int .i64 kind, .int .i64 (pos : Int), S name, .slice s.ty.1 type.length s.ty.2, .slice s.va.1 value.length s.va.2, S on, .int .i64 of, .int .i64 op, .slice s.so.1 0 s.so.2, .slice s.pa.1 0 s.pa.2, .slice s.bl.1 blocks.length s.bl.2, .slice s.fa.1 fams.length s.fa.2, .slice s.si.1 signs.length s.si.2, .slice s.od.1 orders.length s.od.2, .int .i64 lk, .int .i64 la, .slice s.le.1 lp.length s.le.2, .int .i64 rk, .int .i64 ra, .slice s.ri.1 rp.length s.ri.2, .int .i64 rel, .int .i64 count] 42 (0, 0)) := by rw [← hw1]; exact heap_alloc_new _ _
 have y0 := Lib.cell_of_heap q1 0
 have y1 := Lib.cell_of_heap q1 1
 have y2 := Lib.cell_of_heap q1 2
 have y3 := Lib.cell_of_heap q1 3
 have y4 := Lib.cell_of_heap q1 4
 have y5 := Lib.cell_of_heap q1 5
 have y6 := Lib.cell_of_heap q1 6
 have y7 := Lib.cell_of_heap q1 7
 have y8 := Lib.cell_of_heap q1 8
 have y9 := Lib.cell_of_heap q1 9
 have y10 := Lib.cell_of_heap q1 10
 have y11 := Lib.cell_of_heap q1 11
 have y12 := Lib.cell_of_heap q1 12
 have y13 := Lib.cell_of_heap q1 13
 have y14 := Lib.cell_of_heap q1 14
 have y15 := Lib.cell_of_heap q1 15
 have y16 := Lib.cell_of_heap q1 16
 have y17 := Lib.cell_of_heap q1 17
 have y18 := Lib.cell_of_heap q1 18
 have y19 := Lib.cell_of_heap q1 19
 have y20 := Lib.cell_of_heap q1 20
 have y21 := Lib.cell_of_heap q1 21
 simp at y0 y1 y2 y3 y4 y5 y6 y7 y8 y9 y10 y11 y12 y13 y14 y15 y16 y17 y18 y19 y20 y21
 have hld := it_load q1 rfl
 clear q1
 obtain ⟨ys, hyr, hyl, hyo, hyc⟩ := (HV.out.below b1).row
 have HYR := Lib.hid hyr
 have HYC := Lib.hid hyc
 have CT := Lib.hid (fun W (hb : Below w1.heap.size w1 W) => sclone_any (fun _ => True) type s.ty.1 s.ty.2 W (by omega) ((HT.out.below (b1.trans (hb.mono b1.size))).toP))
 have CT0 := Lib.hid (CT.out w1.drew (Below.refl _ _).drew)
 have HTL : Hid ((type ++ value).length = type.length + value.length) := Lib.hid (by simp)
 have HLM : Hid (type.length + value.length ≤ maxLen ∧ (type.length + value.length) * 56 ≤ 140737488355328) := Lib.hid ⟨by unfold maxLen; omega, by omega⟩
 have HYL := Lib.hid hyl
 rw [HTL.out]
 clear hyr hyc CT hyl
 go_enter Tryz.func47, Tryz.ntmps47
 go_upto_region 1 with fail
 clear hw1
 go_region_law (first
  | (go_simp; go_at_call 98; refine CT0.out.mono ?_; rintro e w2 ⟨A2, c2, xs, rfl, ho2, hr2, b2'⟩; have b2 := ((Below.refl w1.heap.size w1).drew).trans b2'; have t4 := (b2.cell (p := ⟨w.heap.size, 4, none⟩) (lt_of_cell' y4)).trans y4; have t8 := (b2.cell (p := ⟨w.heap.size, 8, none⟩) (lt_of_cell' y8)).trans y8; have t9 := (b2.cell (p := ⟨w.heap.size, 9, none⟩) (lt_of_cell' y9)).trans y9; have s2 := b2.size)
  | (refine step_append_own_any _ (by rfl) _ _ 32 (by rfl) w1.heap.size 46 ir (.agg #[.int .i64 0, S [], .int .i64 0, .slice none 0 0]) 4 56 Tryz.underlying32 hri hrz0 hrz1 hrz2 rfl (by decide) _ _ _ (by rfl) ho2.out s.va.1 value.length s.va.2 ys (by rfl) HYL.out (HYC.out _ b2) hyo HLM.out.1 HLM.out.2 s2 ?_; intro v3 w3 hown3 hg3 hat3; obtain ⟨A3, c3, rfl⟩ := own_form hown3))
 all_goals
  have b3 : Below w1.heap.size w1 w3 := b2.grown hg3 s2 (own_block_ge ho2.out)
  have HR3 : Hid (TreesAt w3 A3 (type ++ value)) := Lib.hid (rowp_trees (by rw [HTL.out]; exact hown3) (RowP.append (q := fun _ => True) (HYR.out.keep (fun b hb hlt => b3.block b hlt) b3.size (fun _ _ _ => trivial)) (hr2.out.keep (fun b hb _ => hg3.block b (by have := b2.size; have := hb.2; omega) (fun e => by have := own_block_ge ho2.out b e.symm; have := hb.2; omega)) hg3.size (fun _ _ h => trivial))))
  have u8 := (b3.cell (p := ⟨w.heap.size, 8, none⟩) (lt_of_cell' y8)).trans y8
  have u9 := (b3.cell (p := ⟨w.heap.size, 9, none⟩) (lt_of_cell' y9)).trans y9
  have CB := Lib.hid (bclone_nil s.so.1 s.so.2 w3.drew)
  have s3 := b3.size
  clear hown3 hg3 hat3 t4 t8 t9 ho2 hr2 b2
  go_upto_region 2 with fail
  go_region_law (first
   | (go_simp; go_at_call 99; refine CB.out.mono ?_; rintro e w4 ⟨A4, c4, rfl, ho4, b4'⟩; have b4 := ((Below.refl w3.heap.size w3).drew).trans b4'; have t9 := (b4.cell (p := ⟨w.heap.size, 9, none⟩) (lt_of_cell' u9)).trans u9; have s4 := b4.size)
   | (refine step_append_own_any _ (by rfl) _ _ 35 (by rfl) w3.heap.size 72 ib (.agg #[S [], .int .i64 0, S [], .int .i64 0, .slice none 0 0]) 5 72 Tryz.underlying35 hbi hbz0 hbz1 hbz2 rfl (by decide) _ _ _ (by rfl) ho4 s.pa.1 0 s.pa.2 [] (by rfl) rfl (fun h => absurd rfl h) (by simp) (by decide) (by decide) s4 ?_; intro v5 w5 hown5 hg5 hat5; obtain ⟨A5, c5, rfl⟩ := own_form hown5))
  all_goals
   have b5 : Below w3.heap.size w3 w5 := b4.grown hg5 s4 (own_block_ge ho4)
   have HR5 := Lib.hid (HR3.out.below b5)
   have HB5 := Lib.hid (b1.trans ((b3.trans (b5.mono s3)).mono b1.size))
   clear hown5 hg5 hat5 t9 ho4 b4
   go_wp2_with fail
   try simp only [Act.put, List.getElem_toArray, List.getElem_cons_zero, List.getElem_cons_succ, List.setIfInBounds_toArray, List.set_cons_zero, List.set_cons_succ]
   go_loopw [3, 19] (fun v i wr => v = .slice A3 (type.length + value.length) c3 ∧ i = .int .i64 0 ∧ wr = w5) (fun _ _ _ => 0)
   case atStart => exact ⟨rfl, rfl, rfl⟩
   case round =>
    obtain ⟨rfl, rfl, rfl⟩ := hrel
    go_wp2_with fail
    go_ret
    exact ⟨⟨A3, c3, rfl, HR5.out⟩, HB5.out⟩
theorem itRow_at : ∀ (l : List (Lfc.Itm × IS)) (k : Nat) (h : k < l.length) (j : Nat), j < 22 → (itRow l)[k * 22 + j]? = (itCells l[k].1 l[k].2)[j]?
 | [], k, h, j, _ => absurd h (by simp)
 | y :: r, 0, h, j, hj => by
  have : (itRow (y :: r)) = (itCells y.1 y.2).toList ++ itRow r := by simp [itRow]
  rw [this, List.getElem?_append_left (by simpa [itCells] using (by omega : 0 * 22 + j < 22))]
  simp
 | y :: r, k + 1, h, j, hj => by
  have : (itRow (y :: r)) = (itCells y.1 y.2).toList ++ itRow r := by simp [itRow]
  rw [this, List.getElem?_append_right (by simp [itCells]; omega)]
  have h22 : (itCells y.1 y.2).toList.length = 22 := rfl
  rw [h22, show (k + 1) * 22 + j - 22 = k * 22 + j by omega, itRow_at r k (by simpa using h) j hj]
  simp
theorem ItsV.below {w w' : World} {A : Option Addr} {xs : List (Lfc.Itm × IS)} (h : ItsV w A xs) (hb : Below w.heap.size w w') : ItsV w' A xs := fun hne => by
 obtain ⟨b, o, hA, hlt, hc, hi⟩ := h hne
 exact ⟨b, o, hA, Nat.lt_of_lt_of_le hlt hb.size, fun j u hj => (hb.cell (p := ⟨b, _, none⟩) hlt).trans (hc j u hj), fun y hy => (hi y hy).below hb⟩
theorem wpList_it_new {ops : Array Oper} {rest : List Oper} {o : Oper} {a : Act} {w : World} {Q : Exit → Act → World → Prop} {x y : Operand} {z cs : Array Value} (ho : o.op = .store 42 x y) (hx : a.eval x = .pointer (some ⟨w.heap.size, 0, none⟩)) (hy : a.eval y = .agg cs) (hw : Region.wanted o (yielded ops a.tmps) = true)
  (hz : z.size = 22) (hs : cs.size = 22) (h1 : cs.all (·.oneCell') = true) (h : wpList Tryz.prog ops Q rest (a.put o.dst undef) (w.alloc (.cells cs 42))) : wpList Tryz.prog ops Q (o :: rest) a (w.alloc (.cells z 42)) := by
 refine wpList_step fun K hK => ?_
 rw [if_pos hw]
 have hl : (Instr.storeAt 42 (.pointer (some ⟨w.heap.size, 0, none⟩)) (.agg cs)).run Tryz.prog (w.alloc (.cells z 42)) = .ok () (w.alloc (.cells cs 42)) := by
  simp only [Instr.storeAt, Instr.sureAddr, Sem.run_bind, Sem.run_pure, Result.andThen]
  rw [run_storeVar_row _ _ 42 42 z cs (heap_alloc_new w _) (by rw [hs]; kernel_rfl) (by omega) h1, World.setRow_alloc_new]
 unfold Oper.wp execOp
 simp only [ho, hx, hy, Sem.run_bind, Sem.run_pure, Result.andThen_ok, hl]
 exact hK _ _ h
set_option maxRecDepth 100000 in
set_option maxHeartbeats 8000000 in
theorem wellFormed_of (l : List (Lfc.Itm × IS)) (A : Option Addr) (c : Nat) (w : World) (hl : l.length ≤ 1000000) (hA : ItsV w A l) (hsm : ∀ y ∈ l, y.1.Sm)
  (hF : ∀ y ∈ l, ∀ W, ItV W y.1 y.2 → Calls Tryz.prog 46 #[.agg (itCells y.1 y.2)] W fun e w' => e = .returned (.bool y.1.formedP) ∧ Below W.heap.size W w')
  (hT : ∀ y ∈ l, ∀ W, ItV W y.1 y.2 → Calls Tryz.prog 47 #[.agg (itCells y.1 y.2)] W fun e w' => (∃ A c, e = .returned (.slice A y.1.trees.length c) ∧ TreesAt w' A y.1.trees) ∧ Below W.heap.size W w') :
  Calls Tryz.prog 26 #[.slice A l.length c] w fun e w' => e = .returned (.int .i64 (Lfc.wfItems (l.map Prod.fst))) ∧ Below w.heap.size w w' := by
 have HA := Lib.hid hA
 have HSM := Lib.hid hsm
 have HF := Lib.hid hF
 have HT := Lib.hid hT
 clear hA hsm hF hT
 by_cases h512 : 512 < l.length
 ·have hd : decide ((l.length : Int) > 512) = true := decide_eq_true (by omega)
  have HR : Hid (Lfc.wfItems (l.map Prod.fst) = 7) := Lib.hid (by unfold Lfc.wfItems; rw [List.length_map, if_pos h512])
  rw [HR.out]
  clear h512
  go_enter Tryz.func26, Tryz.ntmps26
  go_wp2_with fail
  go_ret
  exact ⟨rfl, Below.refl _ _⟩
 obtain ⟨R, hR⟩ : ∃ R, Lfc.wfItems (l.map Prod.fst) = R := ⟨_, rfl⟩
 have HR : Hid (Lfc.wfIts [] (l.map Prod.fst) = R) := Lib.hid (by rw [← hR]; unfold Lfc.wfItems; rw [List.length_map, if_neg h512])
 rw [hR]
 have hd : decide ((l.length : Int) > 512) = false := decide_eq_false (by omega)
 clear hR
 go_enter Tryz.func26, Tryz.ntmps26
 go_wp2_with fail
 go_loopw [3, 15] (fun v i wr => ∃ (k : Nat) (ops : List Lfc.Op) (B : Option Addr) (g : Nat), k ≤ l.length ∧ i = .int .i64 k ∧ v = .slice B ops.length g ∧ ops.length ≤ k ∧ Hid (OpsAt wr B ops) ∧ Hid (Lfc.wfIts ops ((l.drop k).map Prod.fst) = R) ∧ Below w.heap.size w wr) (fun _ i _ => l.length - (intOf i).toNat)
 case atStart => exact ⟨0, [], none, 0, by omega, rfl, rfl, by simp, Lib.hid ⟨fun x hx => by simp at hx, fun h => absurd rfl h⟩, Lib.hid (by simpa using HR.out), Below.refl _ _⟩
 case round =>
  clear HR
  obtain ⟨k, ops, B, g, hk, rfl, rfl, hol, HO, HM, hbw⟩ := hrel
  by_cases hlt : k < l.length
  ·have hmem := List.getElem_mem hlt
   obtain ⟨b, o, rfl, hb, hc, hi⟩ := HA.out (by intro e; rw [e] at hlt; simp at hlt)
   have hcell : ∀ j u, (itCells l[k].1 l[k].2)[j]? = some u → wr.cell? ⟨b, o + k * 22 + j, none⟩ = some u := fun j u hj => by
    have hj22 : j < 22 := (Array.getElem?_eq_some_iff.1 hj).1
    have h1 := hc (k * 22 + j) u (by rw [itRow_at l k hlt j hj22]; exact hj)
    rw [← Nat.add_assoc] at h1
    exact (hbw.cell (p := ⟨b, _, none⟩) hb).trans h1
   have hld := it_loadC hcell rfl
   have hone := itCells_one l[k].1 l[k].2
   have HIT := Lib.hid ((hi _ hmem).below hbw)
   have SM := Lib.hid (HSM.out _ hmem)
   have HF1 := Lib.hid (HF.out _ hmem)
   have HT1 := Lib.hid (HT.out _ hmem)
   have hm := HM.out
   rw [List.drop_eq_getElem_cons hlt, List.map_cons, Lfc.wfIts] at hm
   clear hc hi hmem hcell
   generalize hy : l[k] = y at *
   clear hy
   obtain ⟨x, s⟩ := y
   simp only at hld hone HIT SM HF1 HT1 hm
   generalize hfp : x.formedP = p at *
   generalize htr : x.trees = ts at *
   have htl : ts.length ≤ 1000000 := by
    rw [← htr]
    have h1 := SM.out.ty
    have h2 := SM.out.va
    have h3 := SM.out.so
    have h4 := SM.out.pa
    simp only [Lfc.Itm.trees, List.length_append, List.length_map]
    omega
   have HTS : Hid (∀ t ∈ ts, t.size ≤ 1000000) := Lib.hid (by rw [← htr]; exact SM.out.trs)
   obtain ⟨kind, pos, name, type, value, ⟨on, of, op⟩, som, params, blocks, fams, signs, orders, ⟨lk, la, lp⟩, ⟨rk, ra, rp⟩, rel, count⟩ := x
   simp only [itCells, Lfc.Ord.k, Lfc.Ord.a, Lfc.Ord.ps] at hld hone hm HF1 HT1
   have hon := HIT.out.opn
   simp only at hon
   have HON := Lib.hid hone
   obtain ⟨w5, hw5⟩ : ∃ w5, wr.alloc (.cells #[.int .i64 kind, .int .i64 (pos : Int), S name, .slice s.ty.1 type.length s.ty.2, .slice s.va.1 value.length s.va.2, S on, .int .i64 of, .int .i64 op, .slice s.so.1 som.length s.so.2, .slice s.pa.1 params.length s.pa.2, .slice s.bl.1 blocks.length s.bl.2, .slice s.fa.1 fams.length s.fa.2, .slice s.si.1 signs.length s.si.2, .slice s.od.1 orders.length s.od.2, .int .i64 lk, .int .i64 la, .slice s.le.1 lp.length s.le.2, .int .i64 rk, .int .i64 ra, .slice s.ri.1 rp.length s.ri.2, .int .i64 rel, .int .i64 count] 42) = w5 := ⟨_, rfl⟩
   have b5 : Below wr.heap.size wr w5 := by rw [← hw5]; exact (Below.refl _ _).alloc (Nat.le_refl _) _
   have q5 : w5.heap[wr.heap.size]? = some (.cells #[.int .i64 kind, .int .i64 (pos : Int), S name, .slice s.ty.1 type.length s.ty.2, .slice s.va.1 value.length s.va.2, S on, .int .i64 of, .int .i64 op, .slice s.so.1 som.length s.so.2, .slice s.pa.1 params.length s.pa.2, .slice s.bl.1 blocks.length s.bl.2, .slice s.fa.1 fams.length s.fa.2, .slice s.si.1 signs.length s.si.2, .slice s.od.1 orders.length s.od.2, .int .i64 lk, .int .i64 la, .slice s.le.1 lp.length s.le.2, .int .i64 rk, .int .i64 ra, .slice s.ri.1 rp.length s.ri.2, .int .i64 rel, .int .i64 count] 42 (0, 0)) := by rw [← hw5]; exact heap_alloc_new _ _
   have HQ5 := Lib.hid q5
   have CF := Lib.hid (HF1.out w5 (HIT.out.below b5))
   have HM := Lib.hid hm
   clear hfp htr HF1 hm q5 hone
   have hi0 : (0 : Int) ≤ (k : Int) := Int.natCast_nonneg _
   have hi1 : (k : Int) < (l.length : Int) := by omega
   go_upto_region 6 with fail
   go_upto_region 7 with (first | (refine wpList_it (by rfl) (by rfl) (by rfl) hld ?_) | (refine wpList_it_new (by rfl) (by rfl) (by rfl) (by rfl) (by rfl) (by rfl) HON.out ?_; rw [hw5]))
   clear hld hw5
   have hld := it_load HQ5.out rfl
   cases p
   ·have HR1 : Hid (1 = R) := Lib.hid (by have := HM.out; rwa [if_pos rfl] at this)
    as_aux_lemma =>
     go_wp2_with (first | (refine wpList_it (by rfl) (by rfl) (by rfl) hld ?_) | (go_at_call 46; refine CF.out.mono ?_; rintro e w6 ⟨rfl, b6⟩))
     go_ret
     exact ⟨ret_int HR1.out, hbw.trans ((b5.trans (b6.mono b5.size)).mono hbw.size)⟩
   as_aux_lemma =>
    go_upto_region 9 with (first | (refine wpList_it (by rfl) (by rfl) (by rfl) hld ?_) | (go_at_call 46; refine CF.out.mono ?_; rintro e w6 ⟨rfl, b6⟩))
    clear hld
    have b56 := b5.trans (b6.mono b5.size)
    have HQ6 := Lib.hid ((b6.block _ (lt_of_block HQ5.out)).trans HQ5.out)
    have HM := Lib.hid (show (if Lfc.wfTs ts ≠ 0 then Lfc.wfTs ts else if kind = 3 then (if (Lfc.added ops ⟨on, of, op⟩).2 ≠ 0 then (Lfc.added ops ⟨on, of, op⟩).2 else Lfc.wfIts (Lfc.added ops ⟨on, of, op⟩).1 ((l.drop (k + 1)).map Prod.fst)) else Lfc.wfIts ops ((l.drop (k + 1)).map Prod.fst)) = R by have := HM.out; rwa [if_neg (by simp)] at this)
    have CT := Lib.hid (HT1.out w6 (HIT.out.below b56))
    have hld := it_load HQ6.out rfl
    clear HT1 CF HQ5
    go_upto_block 10 with (first | (refine wpList_it (by rfl) (by rfl) (by rfl) hld ?_) | (go_at_call 47; refine CT.out.mono ?_; rintro e w7 ⟨⟨A7, c7, rfl, ht7⟩, b7⟩))
    have b57 := b56.trans (b7.mono b56.size)
    have HQ7 := Lib.hid ((b7.block _ (lt_of_block HQ6.out)).trans HQ6.out)
    have HT7 := Lib.hid ht7
    clear ht7 CT HQ6 hld
    go_loopw [25] (fun i wr => ∃ j : Nat, j ≤ ts.length ∧ i = .int .i64 j ∧ Hid (Lfc.wfTs (ts.drop j) = Lfc.wfTs ts) ∧ Below w7.heap.size w7 wr) (fun i _ => ts.length - (intOf i).toNat)
    case atStart => exact ⟨0, by omega, rfl, Lib.hid (by simp), Below.refl _ _⟩
    case round =>
     obtain ⟨j, hj, rfl, HJ, hbq⟩ := hrel
     by_cases hjt : j < ts.length
     ·obtain ⟨b2, o2, tk, tn, tp, us, D, gg, rfl, hb2, htn, e0, e1, e2, e3, _, _, hTV⟩ := (HT7.out.below hbq).at_ hjt
      have hsz := HTS.out _ (List.getElem_mem hjt)
      have HJ2 := HJ.out
      rw [List.drop_eq_getElem_cons hjt, Lfc.wfTs] at HJ2
      have hj0 : (0 : Int) ≤ (j : Int) := Int.natCast_nonneg _
      have hj1 : (j : Int) < (ts.length : Int) := by omega
      obtain ⟨w8, hw8⟩ : ∃ w8, wr.alloc (.cells #[.int .i64 tk, S tn, .int .i64 tp, .slice D us.length gg] 46) = w8 := ⟨_, rfl⟩
      have b8 : Below wr.heap.size wr w8 := by rw [← hw8]; exact (Below.refl _ _).alloc (Nat.le_refl _) _
      have q8 : w8.heap[wr.heap.size]? = some (.cells #[.int .i64 tk, S tn, .int .i64 tp, .slice D us.length gg] 46 (0, 0)) := by rw [← hw8]; exact heap_alloc_new _ _
      have CW := Lib.hid (wf_any ts[j] _ w8 (by omega) (hTV.below b8))
      have z0 := Lib.cell_of_heap q8 0
      have z1 := Lib.cell_of_heap q8 1
      have z2 := Lib.cell_of_heap q8 2
      have z3 := Lib.cell_of_heap q8 3
      simp at z0 z1 z2 z3
      generalize htw : ts[j].wf = f at *
      have HJ2 := Lib.hid HJ2
      have B8 := Lib.hid (hbq.trans (b8.mono hbq.size))
      clear hTV htn htw q8 b8
      by_cases hf : f = 0
      ·subst hf
       have HN : Hid (Lfc.wfTs (ts.drop (j + 1)) = Lfc.wfTs ts) := Lib.hid (by have := HJ2.out; rwa [if_neg (by simp)] at this)
       as_aux_lemma =>
        go_upto_region 12 with fail
        clear hw8 e0 e1 e2 e3
        go_wp2_with (go_at_call 48; refine CW.out.mono ?_; rintro e w9 ⟨rfl, b9⟩)
        go_roundw
        case rel => exact ⟨j + 1, by omega, by go_num, HN, B8.out.trans (b9.mono B8.out.size)⟩
        case measure => simp [intOf]; omega
      ·have hf2 : (f != 0) = true := by simpa using hf
       have HFR : Hid (f = R) := Lib.hid (by
        have h1 := HJ2.out
        rw [if_pos hf] at h1
        have h2 := HM.out
        rw [← h1, if_pos hf] at h2
        exact h2)
       clear hf
       as_aux_lemma =>
        go_upto_region 12 with fail
        clear hw8 e0 e1 e2 e3
        go_wp2_with (go_at_call 48; refine CW.out.mono ?_; rintro e w9 ⟨rfl, b9⟩)
        go_ret
        exact ⟨ret_int HFR.out, hbw.trans ((b57.trans ((B8.out.trans (b9.mono B8.out.size)).mono b57.size)).mono hbw.size)⟩
     ·have HTZ : Hid (Lfc.wfTs ts = 0) := Lib.hid (by have := HJ.out; rw [List.drop_of_length_le (by omega)] at this; rw [← this]; rfl)
      have HM2 : Hid ((if kind = 3 then (if (Lfc.added ops ⟨on, of, op⟩).2 ≠ 0 then (Lfc.added ops ⟨on, of, op⟩).2 else Lfc.wfIts (Lfc.added ops ⟨on, of, op⟩).1 ((l.drop (k + 1)).map Prod.fst)) else Lfc.wfIts ops ((l.drop (k + 1)).map Prod.fst)) = R) := Lib.hid (by have := HM.out; rwa [if_neg (by rw [HTZ.out]; simp)] at this)
      have hq7 := (hbq.block _ (lt_of_block HQ7.out)).trans HQ7.out
      have y0 := Lib.cell_of_heap hq7 0
      have y5 := Lib.cell_of_heap hq7 5
      have y6 := Lib.cell_of_heap hq7 6
      have y7 := Lib.cell_of_heap hq7 7
      simp at y0 y5 y6 y7
      have bq := b57.trans (hbq.mono b57.size)
      clear hq7 HTZ HM HJ
      by_cases h3 : kind = 3
      ·subst h3
       have HM3 := HM2.out
       rw [if_pos rfl] at HM3
       have CA := Lib.hid (opAdd_any ops ⟨on, of, op⟩ B g wr (by omega) hon (HO.out.below bq))
       unfold opV AddPost at CA
       have HLA := Lfc.added_len ops ⟨on, of, op⟩
       generalize Lfc.added ops ⟨on, of, op⟩ = z at *
       obtain ⟨zo, ze⟩ := z
       simp only at CA HM3 HLA
       have HM3 := Lib.hid HM3
       by_cases hz : ze = 0
       ·subst hz
        have HN := Lib.hid (show Lfc.wfIts zo ((l.drop (k + 1)).map Prod.fst) = R by have := HM3.out; rwa [if_neg (by simp)] at this)
        as_aux_lemma =>
         go_wp2_with (go_at_call 49; refine CA.out.mono ?_; rintro e w9 ⟨⟨A9, c9, rfl, ho9⟩, b9⟩)
         go_roundw
         case rel => exact ⟨k + 1, zo, A9, c9, by omega, by go_num, rfl, by omega, Lib.hid ho9, HN, hbw.trans ((bq.trans (b9.mono bq.size)).mono hbw.size)⟩
         case measure => simp [intOf]; omega
       ·have hz2 : (ze != 0) = true := by simpa using hz
        have HZR : Hid (ze = R) := Lib.hid (by have := HM3.out; rwa [if_pos hz] at this)
        clear hz
        as_aux_lemma =>
         go_wp2_with (go_at_call 49; refine CA.out.mono ?_; rintro e w9 ⟨⟨A9, c9, rfl, ho9⟩, b9⟩)
         go_ret
         exact ⟨ret_int HZR.out, hbw.trans ((bq.trans (b9.mono bq.size)).mono hbw.size)⟩
      ·have h32 : (kind == 3) = false := by simpa using h3
       have HN := Lib.hid (show Lfc.wfIts ops ((l.drop (k + 1)).map Prod.fst) = R by have := HM2.out; rwa [if_neg h3] at this)
       clear h3
       as_aux_lemma =>
        go_wp2_with fail
        go_roundw
        case rel => exact ⟨k + 1, ops, B, g, by omega, by go_num, rfl, by omega, Lib.hid (HO.out.below bq), HN, hbw.trans (bq.mono hbw.size)⟩
        case measure => simp [intOf]; omega
  ·have HZ : Hid (0 = R) := Lib.hid (by have := HM.out; rw [List.drop_of_length_le (by omega)] at this; rw [← this]; rfl)
   go_wp2_with fail
   go_ret
   exact ⟨ret_int HZ.out, hbw⟩
end Go.Proofs.YthajalgkjonaaaaGreatDoor
namespace Go.Proofs.YthajalgkjonaaaaGreatDoor
open Go.RowKit
structure Kp (E E' : Nat → Prop) (w w' : World) : Prop where
 os : w'.os = w.os
 tape : w'.tape = w.tape
 output : w'.output = w.output
 size : w.heap.size ≤ w'.heap.size
 keep : ∀ b, b < w.heap.size → ¬ E b → w'.heap[b]? = w.heap[b]?
 out : ∀ b, b < w.heap.size → ¬ E b → ¬ E' b
theorem Kp.refl (E : Nat → Prop) (w : World) : Kp E E w w := ⟨rfl, rfl, rfl, Nat.le_refl _, fun _ _ _ => rfl, fun _ _ h => h⟩
theorem Kp.trans {E E' E'' : Nat → Prop} {w w' w'' : World} (h : Kp E E' w w') (h' : Kp E' E'' w' w'') : Kp E E'' w w'' :=
 ⟨h'.os.trans h.os, h'.tape.trans h.tape, h'.output.trans h.output, Nat.le_trans h.size h'.size, fun b hb he => (h'.keep b (Nat.lt_of_lt_of_le hb h.size) (h.out b hb he)).trans (h.keep b hb he), fun b hb he => h'.out b (Nat.lt_of_lt_of_le hb h.size) (h.out b hb he)⟩
theorem Kp.of_below {E : Nat → Prop} {w w' : World} (h : Below w.heap.size w w') : Kp E E w w' := ⟨h.os, h.tape, h.output, h.size, fun b hb _ => h.block b hb, fun _ _ h => h⟩
def WE (Wr : Nat) (A B : Option Addr) (b : Nat) : Prop := b = Wr ∨ (∃ a, A = some a ∧ a.block = b) ∨ ∃ a, B = some a ∧ a.block = b
structure WrI (Wr : Nat) (W : World) (A : Option Addr) (c : Nat) (B : Option Addr) (d : Nat) (ws qs : List (List UInt8)) : Prop where
 blk : W.heap[Wr]? = some (.cells #[.slice A ws.length c, .slice B qs.length d] 81 (0, 0))
 own : W.ownsRow (Wr + 1) 9 1 (.slice A ws.length c) ws.length (ws.map S)
 qwn : W.ownsRow (Wr + 1) 9 1 (.slice B qs.length d) qs.length (qs.map S)
 dis : ∀ a a', A = some a → B = some a' → a.block ≠ a'.block
def WrR (Wr : Nat) (A B : Option Addr) (w : World) (ws qs : List (List UInt8)) (w' : World) : Prop := ∃ A' c' B' d', WrI Wr w' A' c' B' d' ws qs ∧ Kp (WE Wr A B) (WE Wr A' B') w w'
def WrA (Wr : Nat) (A B : Option Addr) (d : Nat) (w : World) (ws qs : List (List UInt8)) (w' : World) : Prop := ∃ A' c', WrI Wr w' A' c' B d ws qs ∧ Kp (WE Wr A B) (WE Wr A' B) w w'
theorem WrA.toR {Wr : Nat} {A B : Option Addr} {d : Nat} {w w' : World} {ws qs : List (List UInt8)} (h : WrA Wr A B d w ws qs w') : WrR Wr A B w ws qs w' := by
 obtain ⟨A', c', h1, h2⟩ := h
 exact ⟨A', c', B, d, h1, h2⟩
theorem WrI.lt {Wr : Nat} {W : World} {A B : Option Addr} {c d : Nat} {ws qs : List (List UInt8)} (h : WrI Wr W A c B d ws qs) : Wr < W.heap.size := lt_of_block h.blk
theorem WrI.own_type {Wr : Nat} {W : World} {A B : Option Addr} {c d : Nat} {ws qs : List (List UInt8)} (h : WrI Wr W A c B d ws qs) : (∀ a, A = some a → Wr < a.block ∧ ∃ cs, W.heap[a.block]? = some (.cells cs 9 (0, 0))) ∧ ∀ a, B = some a → Wr < a.block ∧ ∃ cs, W.heap[a.block]? = some (.cells cs 9 (0, 0)) := by
 have main : ∀ (X : Option Addr) (n x : Nat) (xs : List Value), W.ownsRow (Wr + 1) 9 1 (.slice X n x) n xs → ∀ a, X = some a → Wr < a.block ∧ ∃ cs, W.heap[a.block]? = some (.cells cs 9 (0, 0)) := by
  intro X n x xs hown a ha
  rcases hown.2 with ⟨e, _⟩ | ⟨g, cap, cur, e, hbg, hg, _⟩
  ·rw [ha] at e; cases e
  ·rw [ha] at e
   injection e with e1 _ _
   injection e1 with e1
   subst e1
   exact ⟨by simp only; omega, _, hg⟩
 exact ⟨main _ _ _ _ h.own, main _ _ _ _ h.qwn⟩
theorem WrI.not_E {Wr k : Nat} {W : World} {A B : Option Addr} {c d : Nat} {ws qs : List (List UInt8)} (h : WrI Wr W A c B d ws qs) {cs : Array Value} {t : TypeId} {f : Nat × Nat} (hk : W.heap[k]? = some (.cells cs t f)) (h1 : t ≠ 81) (h2 : t ≠ 9) : ¬ WE Wr A B k := by
 obtain ⟨hA, hB⟩ := h.own_type
 rintro (rfl | ⟨a, ha, rfl⟩ | ⟨a, ha, rfl⟩)
 ·rw [h.blk] at hk; cases hk; exact h1 rfl
 ·obtain ⟨_, cs', e⟩ := hA a ha; rw [e] at hk; cases hk; exact h2 rfl
 ·obtain ⟨_, cs', e⟩ := hB a ha; rw [e] at hk; cases hk; exact h2 rfl
theorem WrI.not_lt {Wr k : Nat} {W : World} {A B : Option Addr} {c d : Nat} {ws qs : List (List UInt8)} (h : WrI Wr W A c B d ws qs) (hk : k < Wr) : ¬ WE Wr A B k := by
 obtain ⟨hA, hB⟩ := h.own_type
 rintro (rfl | ⟨a, ha, rfl⟩ | ⟨a, ha, rfl⟩)
 ·omega
 ·have := (hA a ha).1; omega
 ·have := (hB a ha).1; omega
theorem WrI.not_new {Wr k : Nat} {W : World} {A B : Option Addr} {c d : Nat} {ws qs : List (List UInt8)} (h : WrI Wr W A c B d ws qs) (hk : W.heap.size ≤ k) : ¬ WE Wr A B k := by
 obtain ⟨hA, hB⟩ := h.own_type
 rintro (rfl | ⟨a, ha, rfl⟩ | ⟨a, ha, rfl⟩)
 ·have := h.lt; omega
 ·obtain ⟨_, cs', e⟩ := hA a ha; have := lt_of_block e; omega
 ·obtain ⟨_, cs', e⟩ := hB a ha; have := lt_of_block e; omega
theorem WrI.below {Wr : Nat} {W W' : World} {A B : Option Addr} {c d : Nat} {ws qs : List (List UInt8)} (h : WrI Wr W A c B d ws qs) (hb : Below W.heap.size W W') : WrI Wr W' A c B d ws qs := by
 have hg : W.grownBy W' none := ⟨hb.os, hb.tape, hb.output, hb.size, fun k hk _ => hb.block k hk⟩
 exact ⟨(hb.block _ h.lt).trans h.blk, h.own.kept hg (by cases (Value.slice A ws.length c).ownBlock <;> simp), h.qwn.kept hg (by cases (Value.slice B qs.length d).ownBlock <;> simp), h.dis⟩
theorem Kp.below_of {Wr : Nat} {w w' : World} {A B : Option Addr} {c d : Nat} {ws qs : List (List UInt8)} {E' : Nat → Prop} (k : Kp (WE Wr A B) E' w w') (h : WrI Wr w A c B d ws qs) {lo : Nat} (hlo : lo ≤ Wr) : Below lo w w' :=
 ⟨k.os, k.tape, k.output, k.size, fun b hb => k.keep b (by have := h.lt; omega) (h.not_lt (by omega))⟩
theorem str_info : ∃ i, Tryz.prog.info? 9 = some i ∧ i.zero = some (S []) ∧ i.size = 1 ∧ i.bytes = 16 := by
 obtain ⟨i0, hi, hz0, hz1, hz2⟩ := info_parts (show (Tryz.prog.info? 9).map (fun i => (i.zero, i.size, i.bytes)) = some (some (S []), 1, 16) by kernel_rfl)
 exact ⟨i0, hi, hz0, hz1, hz2⟩
theorem strs_row {w : World} {X : Option Addr} {xs : List (List UInt8)} (hx : StrsAt w X xs) : xs.length ≠ 0 → ∃ a, X = some a ∧ ∀ j u, (xs.map S)[j]? = some u → w.cell? (a.add j) = some u := fun hne => by
 obtain ⟨b, o, hA, hlt, hc⟩ := hx (by intro e; rw [e] at hne; exact hne rfl)
 refine ⟨_, hA, fun j u hj => ?_⟩
 rw [List.getElem?_map, Option.map_eq_some_iff] at hj
 obtain ⟨s, hs, rfl⟩ := hj
 obtain ⟨hlt, rfl⟩ := List.getElem?_eq_some_iff.1 hs
 have := hc j hlt
 rw [show (⟨b, o, none⟩ : Addr).add j = ⟨b, o + j, none⟩ by unfold Addr.add; split <;> simp_all]
 exact this
theorem strs_one (xs : List (List UInt8)) : ∀ u ∈ xs.map S, u.oneCell' = true := fun u hu => by
 obtain ⟨s, _, rfl⟩ := List.mem_map.1 hu
 rfl
theorem WrI.push {Wr : Nat} {w w2 : World} {A B A2 : Option Addr} {c d c2 : Nat} {ws qs xs : List (List UInt8)} (h : WrI Wr w A c B d ws qs) (hown : w2.ownsRow (Wr + 1) 9 1 (.slice A2 (ws.length + xs.length) c2) (ws.length + xs.length) (ws.map S ++ xs.map S)) (hg : w.grownBy w2 (Value.slice A ws.length c).ownBlock)
  (hat : (Value.slice A2 (ws.length + xs.length) c2).ownBlock = (Value.slice A ws.length c).ownBlock ∨ (Value.slice A2 (ws.length + xs.length) c2).ownBlock = some w.heap.size) :
  w2.heap[Wr]? = some (.cells #[.slice A ws.length c, .slice B qs.length d] 81 (0, 0)) ∧ WrA Wr A B d w (ws ++ xs) qs (w2.setCell ⟨Wr, 0, none⟩ (.slice A2 (ws.length + xs.length) c2)) := by
 have hs := hg.size
 have hl := h.lt
 obtain ⟨tA, tB⟩ := h.own_type
 have hAne : (Value.slice A ws.length c).ownBlock ≠ some Wr := fun e => by have := (h.own.lt _ e).1; omega
 have q1 : w2.heap[Wr]? = some (.cells #[.slice A ws.length c, .slice B qs.length d] 81 (0, 0)) := (hg.block Wr hl (fun e => hAne e.symm)).trans h.blk
 have o4 : Oth Wr w2 (w2.setCell ⟨Wr, 0, none⟩ (.slice A2 (ws.length + xs.length) c2)) := Oth.set _ _
 have hA2 : ∀ a, A2 = some a → a.block ≠ Wr ∧ (some a.block = (Value.slice A ws.length c).ownBlock ∨ a.block = w.heap.size) := fun a ha => by
  subst ha
  refine ⟨fun e => by have := (hown.lt a.block rfl).1; omega, ?_⟩
  rcases hat with e | e
  ·exact .inl e
  ·exact .inr (Option.some.inj e)
 have hAo : ∀ b, some b = (Value.slice A ws.length c).ownBlock → ∃ a, A = some a ∧ a.block = b := fun b hb => by
  rcases A with _ | a
  ·cases hb
  ·exact ⟨a, rfl, (Option.some.inj hb).symm⟩
 refine ⟨q1, A2, c2, ⟨?_, ?_, ?_, ?_⟩, ?_⟩
 ·simp [World.setCell, Array.getElem?_modify, q1]
 ·have := hown.kept o4 (Or.inr (fun e => by have := (hown.lt _ e).1; omega))
  simpa using this
 ·have q := h.qwn.kept hg (by
   rcases B with _ | a'
   ·exact .inl rfl
   ·refine .inr fun e => ?_
    obtain ⟨a, ha, hb⟩ := hAo a'.block e
    exact h.dis a a' ha rfl hb)
  exact q.kept o4 (Or.inr (fun e => by have := (q.lt _ e).1; omega))
 ·intro a a' ha ha'
  rcases (hA2 a ha).2 with e | e
  ·obtain ⟨a0, h0, h1⟩ := hAo _ e
   rw [← h1]
   exact h.dis a0 a' h0 ha'
  ·obtain ⟨_, cs, hc⟩ := tB a' ha'
   have := lt_of_block hc
   omega
 ·refine ⟨o4.os.trans hg.os, o4.tape.trans hg.tape, o4.output.trans hg.output, Nat.le_trans hs o4.size, fun b hb he => ?_, fun b hb he => ?_⟩
  ·rw [o4.block b (by omega) (fun e => he (.inl (Option.some.inj e))), hg.block b hb (fun e => by
    obtain ⟨a, ha, hab⟩ := hAo b e
    exact he (.inr (.inl ⟨a, ha, hab⟩)))]
  ·rintro (rfl | ⟨a, ha, rfl⟩ | ⟨a, ha, rfl⟩)
   ·exact he (.inl rfl)
   ·rcases (hA2 a ha).2 with e | e
    ·obtain ⟨a0, h0, h1⟩ := hAo _ e
     exact he (.inr (.inl ⟨a0, h0, h1⟩))
    ·omega
   ·exact he (.inr (.inr ⟨a, ha, rfl⟩))
theorem WrR.then {Wr : Nat} {A B A1 B1 : Option Addr} {w w1 w2 : World} {ws qs : List (List UInt8)} (k : Kp (WE Wr A B) (WE Wr A1 B1) w w1) (h : WrR Wr A1 B1 w1 ws qs w2) : WrR Wr A B w ws qs w2 := by
 obtain ⟨A', c', B', d', hi, hk⟩ := h
 exact ⟨A', c', B', d', hi, k.trans hk⟩
theorem WrA.then {Wr : Nat} {A B A1 : Option Addr} {d : Nat} {w w1 w2 : World} {ws qs : List (List UInt8)} (k : Kp (WE Wr A B) (WE Wr A1 B) w w1) (h : WrA Wr A1 B d w1 ws qs w2) : WrA Wr A B d w ws qs w2 := by
 obtain ⟨A', c', hi, hk⟩ := h
 exact ⟨A', c', hi, k.trans hk⟩
set_option maxRecDepth 100000 in
set_option maxHeartbeats 2000000 in
theorem wadd_any {Wr : Nat} {w : World} {A B : Option Addr} {c d : Nat} {ws qs : List (List UInt8)} (h : WrI Wr w A c B d ws qs) (X : Option Addr) (cx : Nat) (xs : List (List UInt8)) (hx : StrsAt w X xs) (hl : ws.length + xs.length ≤ 1000000000) :
  Calls Tryz.prog 50 #[.pointer (some ⟨Wr, 0, none⟩), .slice X xs.length cx] w fun e w' => e = .returned (.tuple #[]) ∧ WrA Wr A B d w (ws ++ xs) qs w' := by
 obtain ⟨i0, hi, hz0, hz1, hz2⟩ := str_info
 have HW := Lib.hid h
 have HX := Lib.hid hx
 have x0 := Lib.cell_of_heap h.blk 0
 simp at x0
 have hlt := h.lt
 have HLM : Hid (ws.length + xs.length ≤ maxLen ∧ (ws.length + xs.length) * 16 ≤ 140737488355328) := Lib.hid ⟨by unfold maxLen; omega, by omega⟩
 clear h hx
 go_enter Tryz.func50, Tryz.ntmps50
 go_wp2_with (at_builtin; refine wpList_append_own_any _ rfl _ _ 36 rfl (Wr + 1) 9 i0 (S []) 1 16 Tryz.underlying36 hi hz0 hz1 hz2 rfl (by decide) _ _ _ rfl HW.out.own X xs.length cx (xs.map S) rfl (by simp) (strs_row HX.out) (strs_one xs) HLM.out.1 HLM.out.2 hlt ?_)
 intro v' w2 hown2 hg2 hat2
 obtain ⟨A2, c2, rfl⟩ := own_form hown2
 obtain ⟨q1, hr⟩ := HW.out.push hown2 hg2 hat2
 have y0 := Lib.cell_of_heap q1 0
 have f0 := Lib.frozen_of_heap q1 0
 simp at y0
 have HR := Lib.hid hr
 clear hown2 hg2 hat2 hr q1
 go_wp2_with fail
 go_end0
 exact ⟨rfl, HR.out⟩
theorem strs_new (w : World) (l : List (List UInt8)) : StrsAt (w.alloc (.cells (l.map S).toArray 9)) (some ⟨w.heap.size, 0, none⟩) l := fun hne => by
 have q := heap_alloc_new w (.cells (l.map S).toArray 9)
 refine ⟨_, _, rfl, lt_of_block q, fun i hi => ?_⟩
 rw [Nat.zero_add, Lib.cell_of_heap q i]
 simp [hi]
theorem wadd_new {Wr : Nat} {w : World} {A B : Option Addr} {c d : Nat} {ws qs : List (List UInt8)} (h : WrI Wr w A c B d ws qs) (xs : List (List UInt8)) (hl : ws.length + xs.length ≤ 1000000000) :
  Calls Tryz.prog 50 #[.pointer (some ⟨Wr, 0, none⟩), .slice (some ⟨w.heap.size, 0, none⟩) xs.length xs.length] (w.alloc (.cells (xs.map S).toArray 9)) fun e w' => e = .returned (.tuple #[]) ∧ WrA Wr A B d w (ws ++ xs) qs w' := by
 have b : Below w.heap.size w (w.alloc (.cells (xs.map S).toArray 9)) := (Below.refl _ _).alloc (Nat.le_refl _) _
 exact (wadd_any (h.below b) _ _ xs (strs_new w xs) hl).mono fun e w' hh => ⟨hh.1, WrA.then (Kp.of_below b) hh.2⟩
theorem Bld.keep {B b : Nat} {l : List UInt8} {w w' : World} (h : Bld B b l w) (hk : ∀ (k : Nat) (c : Array Value) (t : TypeId) (f : Nat × Nat), w.heap[k]? = some (Obj.cells c t f) → t = 5 ∨ t = 78 → w'.heap[k]? = w.heap[k]?) : Bld B b l w' := by
 have main : ∀ p, Lib.BuilderAtF 78 5 B b p (Lib.byteCells l) w → Lib.BuilderAtF 78 5 B b p (Lib.byteCells l) w' := by
  rintro p ⟨hB, v, hb, hown, hne⟩
  refine ⟨hB, v, (hk _ _ _ _ hb (.inr rfl)).trans hb, ⟨hown.1, ?_⟩, hne⟩
  rcases hown.2 with e | ⟨g, cap, cur, fz, e, hbg, hg, r⟩
  ·exact .inl e
  ·exact .inr ⟨g, cap, cur, fz, e, hbg, (hk _ _ _ _ hg (.inl rfl)).trans hg, r⟩
 rcases h with h | h
 ·exact .inl (main _ h)
 ·exact .inr (main _ h)
end Go.Proofs.YthajalgkjonaaaaGreatDoor
namespace Go.Proofs.YthajalgkjonaaaaGreatDoor
open Go.RowKit
theorem WrI.names {Wr : Nat} {w : World} {A B : Option Addr} {c d : Nat} {ws qs : List (List UInt8)} (h : WrI Wr w A c B d ws qs) : NamesAt w B qs := fun hne => by
 rcases h.qwn.2 with ⟨_, h0⟩ | ⟨g, cap, cur, hv, hbg, hg, _⟩
 ·omega
 ·have hv' := hv
  injection hv' with e1 _ e3
  subst e1 e3
  refine ⟨g, 0, rfl, lt_of_block hg, fun k hk => ?_⟩
  have := h.qwn.cells (g := g) rfl k (S qs[k]) (by simp [hk])
  rw [show (⟨g, 0, none⟩ : Addr).add k = ⟨g, 0 + k, none⟩ by unfold Addr.add; split <;> simp_all] at this
  exact this
set_option maxRecDepth 100000 in
set_option maxHeartbeats 4000000 in
theorem wtree_any {Wr : Nat} {w : World} {A B : Option Addr} {c d : Nat} {ws qs : List (List UInt8)} (h : WrI Wr w A c B d ws qs) (t : Lfc.Raw) (v : Value) (hv : TreeV w t v) (ht : t.size ≤ 1000000) (hl : ws.length ≤ 900000000) (hq : qs.length ≤ 1000000) :
  Calls Tryz.prog 51 #[.pointer (some ⟨Wr, 0, none⟩), v] w fun e w' => e = .returned (.tuple #[]) ∧ WrA Wr A B d w (ws ++ [t.fmt qs]) qs w' := by
 have hlt := h.lt
 obtain ⟨⟨k, n, p, us⟩, rfl⟩ : ∃ t', t = t' := ⟨t, rfl⟩
 obtain ⟨D, g, rfl, hg, hD⟩ := hv.open_
 obtain ⟨w1, hw1⟩ : ∃ w1, w.alloc (.cells #[.int .i64 k, S n, .int .i64 p, .slice D us.length g] 46) = w1 := ⟨_, rfl⟩
 have b1 : Below w.heap.size w w1 := by rw [← hw1]; exact (Below.refl _ _).alloc (Nat.le_refl _) _
 have q1 : w1.heap[w.heap.size]? = some (.cells #[.int .i64 k, S n, .int .i64 p, .slice D us.length g] 46 (0, 0)) := by rw [← hw1]; exact heap_alloc_new _ _
 have h1 := h.below b1
 have CF := Lib.hid (fun W (hb : Below w1.heap.size w1 W) => format_any (.node k n p us) _ qs B d W (by omega) (hv.below (b1.trans (hb.mono b1.size))) (by omega) (h1.below hb).names)
 have SC : Hid (∀ W, Below w1.heap.size w1 W → (W.cell? ⟨w.heap.size, 0, none⟩ = some (.int .i64 k) ∧ W.cell? ⟨w.heap.size, 1, none⟩ = some (S n) ∧ W.cell? ⟨w.heap.size, 2, none⟩ = some (.int .i64 p) ∧ W.cell? ⟨w.heap.size, 3, none⟩ = some (.slice D us.length g)) ∧ W.cell? ⟨Wr, 1, none⟩ = some (.slice B qs.length d)) := Lib.hid fun W hb => by
  have e := (hb.block _ (lt_of_block q1)).trans q1
  exact ⟨⟨Lib.cell_of_heap e 0, Lib.cell_of_heap e 1, Lib.cell_of_heap e 2, Lib.cell_of_heap e 3⟩, Lib.cell_of_heap ((hb.block _ h1.lt).trans h1.blk) 1⟩
 have HW := Lib.hid h1
 have B1 := Lib.hid b1
 have Q1 := Lib.hid q1
 generalize (Lfc.Raw.node k n p us).fmt qs = T at *
 clear h h1 hv b1 hD q1
 go_enter Tryz.func51, Tryz.ntmps51
 go_upto_region 1 with fail
 clear hw1
 refine wp_region_held_drew (S := fun W => (W.cell? ⟨w.heap.size, 0, none⟩ = some (.int .i64 k) ∧ W.cell? ⟨w.heap.size, 1, none⟩ = some (S n) ∧ W.cell? ⟨w.heap.size, 2, none⟩ = some (.int .i64 p) ∧ W.cell? ⟨w.heap.size, 3, none⟩ = some (.slice D us.length g)) ∧ W.cell? ⟨Wr, 1, none⟩ = some (.slice B qs.length d)) (by kernel_rfl) (SC.out _ (Below.refl _ _).drew) (fun hHeld => ?_)
 refine tk 0 ?_
 refine tk 1 ?_
 refine tk 2 ?_
 refine tk 3 ?_
 refine tk 4 ?_
 refine tk 5 ?_
 refine wpAnyH_ready (rs := [6]) (by kernel_rfl) (by simp) (AllReadyH.cons rfl (fun K hK => ?_) AllReadyH.nil)
 go_simp
 go_at_call 109
 refine (CF.out _ (Below.refl _ _).drew).mono ?_
 rintro e w2 ⟨rfl, b2⟩
 have b2' : Below w1.heap.size w1 w2 := ((Below.refl _ _).drew).trans b2
 refine hK.out _ _ ?_ (fun hHeld => ?_)
 ·exact SC.out _ b2'
 clear hK K
 refine nrm ?_
 have h2 := HW.out.below b2'
 have H2 := Lib.hid h2
 have HQ := Lib.hid ((b2'.block _ (lt_of_block Q1.out)).trans Q1.out)
 have CA := Lib.hid (wadd_new h2 [T] (by simp; omega))
 have K2 := Lib.hid (Kp.of_below (E := WE Wr A B) (B1.out.trans (b2'.mono B1.out.size)))
 have SA : Hid (∀ o, Below w1.heap.size w1 (w2.alloc o)) := Lib.hid fun o => b2'.alloc b2'.size o
 refine wpAnyH_ready (rs := [7]) (by kernel_rfl) (by simp) (AllReadyH.cons rfl (fun K hK => ?_) AllReadyH.nil)
 go_simp
 refine hK.out _ _ ?_ (fun hHeld => ?_)
 ·exact SC.out _ (SA.out _)
 clear hK K b2 b2' h2
 refine nrm ?_
 refine wpAnyH_ready (rs := [8]) (by kernel_rfl) (by simp) (AllReadyH.cons rfl (fun K hK => ?_) AllReadyH.nil)
 go_simp
 go_at_call 50
 refine CA.out.mono ?_
 rintro e w3 ⟨rfl, hr⟩
 have HR := Lib.hid hr
 obtain ⟨A3, c3, h3, k3⟩ := hr
 have hq2 : w2.heap[w.heap.size]? = some (.cells #[.int .i64 k, S n, .int .i64 p, .slice D us.length g] 46 (0, 0)) := HQ.out
 have hq3 := (k3.keep _ (lt_of_block hq2) (H2.out.not_E hq2 (by decide) (by decide))).trans hq2
 refine hK.out _ _ ?_ (fun hHeld => ?_)
 ·exact ⟨⟨Lib.cell_of_heap hq3 0, Lib.cell_of_heap hq3 1, Lib.cell_of_heap hq3 2, Lib.cell_of_heap hq3 3⟩, Lib.cell_of_heap h3.blk 1⟩
 clear hK K h3 k3 hq2 hq3
 refine wpAnyH_done (by kernel_rfl) ?_ _
 go_wp2_with fail
 go_end0
 exact ⟨rfl, WrA.then K2.out HR.out⟩
end Go.Proofs.YthajalgkjonaaaaGreatDoor
namespace Go.Proofs
open Go.Shelf
open Go.Lib in
open Go.Lib in
open Go.Lib in
open Go.Lib in
open Go.RowKit Go.Sort Go.Lib in
open Go.RowKit Go.Sort Go.Lib in
open Go.RowKit Go.Sort Go.Lib in
open Go.RowKit Go.Sort Go.Lib in
open Go.RowKit Go.Sort Go.Lib in
open Go.RowKit Go.Sort Go.Lib in
def Tryz.lays171_ren : Go.Shelf.Ren := ⟨fun | 171 => 52 | 243 => 110 | 246 => 164 | 283 => 188 | 284 => 189 | 285 => 190 | 286 => 191 | 129 => 198 | 317 => 197 | 318 => 199 | 319 => 200 | 320 => 201 | 337 => 202 | 338 => 203 | n => n, fun | 3 => 3 | 9 => 9 | 2 => 2 | 4 => 4 | 171 => 213 | 0 => 0 | 53 => 106 | 37 => 68 | 5 => 5 | 173 => 216 | 212 => 223 | 51 => 224 | 20 => 20 | 213 => 225 | 46 => 226 | 232 => 229 | 233 => 230 | n => n, fun | 17 => 3 | 18 => 4 | 19 => 5 | n => n⟩
theorem Tryz.lays171 : Go.Proofs.Lays.n171 Tryz.prog Tryz.lays171_ren := {
 mixed := by kernel_rfl
 f129 := Tryz.func198.trans (congrArg some (by kernel_rfl))
 f171 := Tryz.func52.trans (congrArg some (by kernel_rfl))
 f243 := Tryz.func110.trans (congrArg some (by kernel_rfl))
 f246 := Tryz.func164.trans (congrArg some (by kernel_rfl))
 f283 := Tryz.func188.trans (congrArg some (by kernel_rfl))
 f284 := Tryz.func189.trans (congrArg some (by kernel_rfl))
 f285 := Tryz.func190.trans (congrArg some (by kernel_rfl))
 f286 := Tryz.func191.trans (congrArg some (by kernel_rfl))
 f317 := Tryz.func197.trans (congrArg some (by kernel_rfl))
 f318 := Tryz.func199.trans (congrArg some (by kernel_rfl))
 f319 := Tryz.func200.trans (congrArg some (by kernel_rfl))
 f320 := Tryz.func201.trans (congrArg some (by kernel_rfl))
 f337 := Tryz.func202.trans (congrArg some (by kernel_rfl))
 f338 := Tryz.func203.trans (congrArg some (by kernel_rfl))
 t0 := Tryz.underlying0
 a0 := Tryz.isAgg0
 z0 := Tryz.sizeOf0
 v0 := Tryz.zeroValue0
 t2 := Tryz.underlying2
 a2 := Tryz.isAgg2
 z2 := Tryz.sizeOf2
 v2 := Tryz.zeroValue2
 t3 := Tryz.underlying3
 a3 := Tryz.isAgg3
 z3 := Tryz.sizeOf3
 v3 := Tryz.zeroValue3
 t4 := Tryz.underlying4
 a4 := Tryz.isAgg4
 z4 := Tryz.sizeOf4
 v4 := Tryz.zeroValue4
 t5 := Tryz.underlying5
 a5 := Tryz.isAgg5
 z5 := Tryz.sizeOf5
 v5 := Tryz.zeroValue5
 t9 := Tryz.underlying9
 a9 := Tryz.isAgg9
 z9 := Tryz.sizeOf9
 v9 := Tryz.zeroValue9
 t20 := Tryz.underlying20
 a20 := Tryz.isAgg20
 z20 := Tryz.sizeOf20
 v20 := Tryz.zeroValue20
 t37 := Tryz.underlying68
 a37 := Tryz.isAgg68
 z37 := Tryz.sizeOf68
 v37 := Tryz.zeroValue68
 t46 := Tryz.underlying226
 a46 := Tryz.isAgg226
 z46 := Tryz.sizeOf226
 v46 := Tryz.zeroValue226
 t51 := Tryz.underlying224
 a51 := Tryz.isAgg224
 z51 := Tryz.sizeOf224
 v51 := Tryz.zeroValue224
 t53 := Tryz.underlying106
 a53 := Tryz.isAgg106
 z53 := Tryz.sizeOf106
 v53 := Tryz.zeroValue106
 t171 := Tryz.underlying213
 a171 := Tryz.isAgg213
 z171 := Tryz.sizeOf213
 v171 := Tryz.zeroValue213
 t173 := Tryz.underlying216
 a173 := Tryz.isAgg216
 z173 := Tryz.sizeOf216
 v173 := Tryz.zeroValue216
 t212 := Tryz.underlying223
 a212 := Tryz.isAgg223
 z212 := Tryz.sizeOf223
 v212 := Tryz.zeroValue223
 t213 := Tryz.underlying225
 a213 := Tryz.isAgg225
 z213 := Tryz.sizeOf225
 t232 := Tryz.underlying229
 a232 := Tryz.isAgg229
 z232 := Tryz.sizeOf229
 v232 := Tryz.zeroValue229
 t233 := Tryz.underlying230
 a233 := Tryz.isAgg230
 z233 := Tryz.sizeOf230
 v233 := Tryz.zeroValue230
 g17 := by kernel_rfl
 g18 := by kernel_rfl
 g19 := by kernel_rfl }
open Go.RowKit Go.Sort Go.Lib in
theorem Tryz.strconv_Itoa_small (i : Nat) (hi : i < 100) (w : World) :
  Calls Tryz.prog 52 #[.int .i64 i] w fun e w' => e = .returned (.string ⟨(Lib.decDigits i).toArray⟩) ∧ w' = w := Any.strconv_Itoa_small Tryz.lays171 i hi w
end Go.Proofs
