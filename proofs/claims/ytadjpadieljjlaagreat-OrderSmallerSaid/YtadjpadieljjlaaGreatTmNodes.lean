/- The iterator nodes of the terms: its contract, whatever the loop does. -/
import Derived.RangeFuncNested
import Derived.RangeFuncBound
import Derived.RangeFuncCalls
import Derived.RangeFuncLeaves
import Derived.Shelf.Abstract
import Derived.Shelf.RegionOpen
import Derived.WalkKit
import Derived.OwnWalkIn
import Derived.TacticsInMore
import Derived.LoopNIn
import Derived.LoopIn
import Derived.Test.YtadjpadieljjlaaGreatTmKind
import Derived.Test.YtadjpadieljjlaaGreatTmNodesP
set_option linter.unusedVariables false
set_option linter.unusedSimpArgs false
namespace Go.Proofs.YtadjpadieljjlaaGreat
open Go.RowKit Go.Shelf
attribute [local go_sem] Oper.semAt_some

/-- What a round of a loop over nodes keeps: all below n1, and the cells from n0 on. -/
def KpT (n1 n0 : Nat) (A B : World) : Prop := Below n1 A B ∧ ∀ (b : Nat) (o : Obj), n0 ≤ b → A.heap[b]? = some o → o.isCells = true → B.heap[b]? = some o
theorem KpT.refl (n1 n0 : Nat) (W : World) : KpT n1 n0 W W := ⟨Below.refl _ _, fun _ _ _ h _ => h⟩
theorem KpT.trans {n1 n0 : Nat} {A B C : World} (h : KpT n1 n0 A B) (k : KpT n1 n0 B C) : KpT n1 n0 A C := ⟨h.1.trans k.1, fun b o hb ho hc => k.2 b o hb (h.2 b o hb ho hc) hc⟩
theorem KpT.alloc {n1 n0 : Nat} (W : World) (o : Obj) (h : n1 ≤ W.heap.size) : KpT n1 n0 W (W.alloc o) := ⟨(Below.refl _ _).alloc h _, fun b o' _ hb _ => (Below.heap_alloc W o b (Array.getElem?_eq_some_iff.1 hb).1).trans hb⟩
theorem KpT.setCell {n1 n0 : Nat} (W : World) (b : Nat) (v : Value) (h1 : n1 ≤ b) (h0 : b < n0) : KpT n1 n0 W (W.setCell ⟨b, 0, none⟩ v) :=
  ⟨(Below.refl n1 W).setCell (p := ⟨b, 0, none⟩) h1 _, fun k o hk ho _ => ((grownBy_setCell' W b v).block k (Array.getElem?_eq_some_iff.1 ho).1 (fun e => by cases e; omega)).trans ho⟩
theorem KpT.putObj {n1 n0 : Nat} {w : World} (hn : n1 ≤ w.heap.size) (W : World) (l : Nat) (o o' : Obj) (hl : w.heap.size ≤ l) (h : W.heap[l]? = some o) (hc : o.isCells = false) (hw : o.isWalk = false) : KpT n1 n0 W (W.putObj l o') :=
  ⟨belowK_b hn W l o o' hl h hc hw, fun b o2 hb ho hc2 => ((grownBy_putObj' W l o').block b (Array.getElem?_eq_some_iff.1 ho).1 (fun e => by cases e; rw [h] at ho; cases ho; rw [hc] at hc2; cases hc2)).trans ho⟩
theorem KpT.boxed {n1 n0 : Nat} {A B : World} (h : KpT n1 n0 A B) {b : Nat} {t : TypeId} {v : Value} (hb : n0 ≤ b) (hx : Boxed A b t v) : Boxed B b t v := h.2 b _ hb hx rfl

/-- A node in memory. -/
structure TN where
  d : Nat
  t : Lfc.Raw
  A : Option Addr
  c : Nat
def TN.v (x : TN) : Value := .agg #[.int .i64 x.t.kind, S x.t.name, .int .i64 x.t.pos, .slice x.A x.t.args.length x.c]
/-- The nodes of T. -/
abbrev TNs (T : Lfc.Raw) : Type := { x : TN // (x.d, x.t) ∈ T.nodes 0 }
def TNs.encs {T : Lfc.Raw} (x : TNs T) : Array Value := #[.int .i64 (x.1.d : Int), x.1.v]
def TNs.ns {T : Lfc.Raw} (xs : List (TNs T)) : List (Nat × Lfc.Raw) := xs.map fun x => (x.1.d, x.1.t)
theorem TNs.ns_app {T : Lfc.Raw} (a b : List (TNs T)) : TNs.ns (a ++ b) = TNs.ns a ++ TNs.ns b := List.map_append ..
theorem TNs.ns_one {T : Lfc.Raw} (x : TNs T) : TNs.ns [x] = [(x.1.d, x.1.t)] := rfl
theorem TNs.ns_len {T : Lfc.Raw} (a : List (TNs T)) : a.length = (TNs.ns a).length := (List.length_map ..).symm

theorem enters_walk : ∀ args w, (callFunc 126 args).run Tryz.prog w = .ok (.enter 126 args) w := enters_of Tryz.func126 (by kernel_rfl) rfl
theorem wide_room (k : Nat) : Fence.wide.depth.isSome = true → 1 ≤ k := fun h => by cases h
theorem abides_alloc {β : Type} {B : Nat} {J : β → World → Prop} (h : AbidesFrom B J) {s : β} {W : World} (o : Obj) (hs : J s W) : J s (W.alloc o) := h s W _ none hs (World.grownBy_alloc W o none) (fun r e => by cases e)
theorem yield_any {m : Nat} (m' : Nat) {P : Program} {l : Nat} {args : Array Value} {W : World} {R : Ending → World → Prop} (h : YieldAt Fence.wide m P l args W R) : YieldAt Fence.wide m' P l args W R := by
  obtain ⟨fn, tmps, assign, body, hy, hR⟩ := h
  exact ⟨fn, tmps, assign, body, hy, ⟨hR.1, fun c cs _ => hR.2 c cs (fun d h => by cases h)⟩⟩

set_option maxRecDepth 100000 in
set_option maxHeartbeats 4000000 in
theorem nodesWalk_in (T : Lfc.Raw) (N l n0 B1 B2 : Nat) (w1 : World) (hN : N ≤ 1000000000) (hB1 : n0 ≤ B1) (hB2 : n0 ≤ B2) (h10 : w1.heap.size ≤ n0)
    (J Jx : List (TNs T) → World → Prop) (hJ : ∀ s W o, J s W → J s (W.alloc o))
    (hY : ∀ k pre x W, J pre W → pre.length < N → YieldAt Fence.wide k Tryz.prog l (TNs.encs x) W fun e W' =>
      (e = .returned (.bool true) ∧ J (pre ++ [x]) W' ∧ KpT w1.heap.size n0 W W') ∨ (e = .returned (.bool false) ∧ Jx (pre ++ [x]) W')) (m : Nat) :
    ∀ (t : Lfc.Raw) (d k : Nat) (dI : Int) (v : Value) (pre : List (TNs T)) (W : World), dI = (d : Int) → t.size ≤ m → (∀ y ∈ t.nodes d, y ∈ T.nodes 0) → TreeV w1 t v → Below w1.heap.size w1 W →
      Boxed W B1 160 (.func (.yield l) #[] #[]) → Boxed W B2 97 (.func (.func 126) #[] #[.pointer (some ⟨B1, 0, none⟩), .pointer (some ⟨B2, 0, none⟩)]) →
      J pre W → pre.length + t.size ≤ N → d + t.size ≤ 2000000000 →
      CallsIn Fence.wide k Tryz.prog 126 #[v, .int .i64 dI, .pointer (some ⟨B1, 0, none⟩), .pointer (some ⟨B2, 0, none⟩)] W fun e W' =>
        (e = .returned (.bool true) ∧ ∃ xs, TNs.ns xs = t.nodes d ∧ J (pre ++ xs) W' ∧ KpT w1.heap.size n0 W W') ∨ (e = .returned (.bool false) ∧ ∃ q, TNs.ns q <+: t.nodes d ∧ Jx (pre ++ q) W') := by
  induction m with
  | zero => intro t d k dI v pre W _ h; have := t.size_pos; omega
  | succ m ih =>
    intro t d k dI v pre W hdI hsz hsub hv hb bx1 bx2 hJp hlen hd
    subst hdI
    obtain ⟨kd, nm, ps, ts⟩ := t
    obtain ⟨A, c, rfl, hc, hA⟩ := hv.open_
    have hsz' := hsz
    have hlen' := hlen
    have hd' := hd
    simp only [Lfc.Raw.size] at hsz' hlen' hd'
    have hln := Lfc.Raw.sizes_len ts
    have he := enters_walk
    have hself : (d, Lfc.Raw.node kd nm ps ts) ∈ T.nodes 0 := hsub _ (by rw [Lfc.Raw.nodes]; exact List.mem_cons_self ..)
    obtain ⟨W0, hW0⟩ : ∃ W0, W.alloc (.cells #[.int .i64 kd, S nm, .int .i64 ps, .slice A ts.length c] 51) = W0 := ⟨_, rfl⟩
    have bxt : W0.heap[W.heap.size]? = some (.cells #[.int .i64 kd, S nm, .int .i64 ps, .slice A ts.length c] 51) := by rw [← hW0]; exact World.alloc_heap_new W _
    have K0 : KpT w1.heap.size n0 W W0 := by rw [← hW0]; exact KpT.alloc _ _ hb.size
    have hG : n0 ≤ W.heap.size := Nat.le_trans hB1 (Nat.le_of_lt bx1.lt)
    obtain ⟨x0, hx0⟩ : ∃ x0 : TNs T, x0 = ⟨⟨d, .node kd nm ps ts, A, c⟩, hself⟩ := ⟨_, rfl⟩
    have hns0 : TNs.ns [x0] = [(d, Lfc.Raw.node kd nm ps ts)] := by rw [hx0]; rfl
    have hx0e : TNs.encs x0 = #[.int .i64 (d : Int), .agg #[.int .i64 kd, S nm, .int .i64 ps, .slice A ts.length c]] := by rw [hx0]; rfl
    have hy0 := hY (k - 1) pre x0 W0 (by rw [← hW0]; exact hJ _ _ _ hJp) (by omega)
    rw [hx0e] at hy0
    have hc1 := (K0.boxed hB1 bx1).cell
    have hq0 := Lib.cell_of_heap bxt 0
    have hq1 := Lib.cell_of_heap bxt 1
    have hq2 := Lib.cell_of_heap bxt 2
    have hq3 := Lib.cell_of_heap bxt 3
    obtain ⟨fn, tmps, assign, body, hy, hR⟩ := hy0
    have IH := Lib.hid ih
    have HJ := Lib.hid hJ
    have HS := Lib.hid (fun j h y hy => hsub y (Lfc.nodes_mem d kd ps nm ts j h y hy))
    have HA := Lib.hid hA
    have HB := Lib.hid (hb.trans K0.1)
    have HT := Lib.hid bxt
    have HB1 := Lib.hid (K0.boxed hB1 bx1)
    have HB2 := Lib.hid (K0.boxed hB2 bx2)
    have HK0 := Lib.hid K0
    clear ih hY hJ hsub hv hx0 hx0e bx1 bx2 hb K0 bxt hself
    refine callsIn_of_wp Tryz.func126 rfl trivial ?_ rfl
    simp only [Tryz.ntmps126, List.size_toArray, List.length_cons, List.length_nil, Nat.reduceAdd, Nat.reduceSub, Array.replicate_succ, Array.replicate_zero, List.push_toArray, List.append_toArray, List.nil_append, List.cons_append]
    gi_wp2
    generalize W.heap.size = G at *
    refine ⟨wide_room _, hR.mono ?_⟩
    rintro e W2 (⟨rfl, hJ2, k2⟩ | ⟨rfl, hJx2⟩)
    · have bt2 := k2.2 G _ hG HT.out rfl
      have g0 := Lib.cell_of_heap bt2 0
      have g3 := Lib.cell_of_heap bt2 3
      have HK2 := Lib.hid (HK0.out.trans k2)
      have HT2 := Lib.hid bt2
      have HC1 := Lib.hid (k2.boxed hB1 HB1.out)
      have HC2 := Lib.hid (k2.boxed hB2 HB2.out)
      have HBW := Lib.hid (HB.out.trans k2.1)
      clear hR hy hc1 hq0 hq1 hq2 hq3 bt2 k2 hW0
      gi_wp2
      gi_loopw [18] (fun i wr => ∃ (j : Nat) (xs : List (TNs T)), j ≤ ts.length ∧ i = .int .i64 j ∧ TNs.ns xs = Lfc.Raw.nodesL d kd 0 (ts.take j) ∧ Hid (J (pre ++ [x0] ++ xs) wr) ∧ Hid (KpT w1.heap.size n0 W2 wr)) (fun i _ => ts.length - (intOf i).toNat)
      case atStart => exact ⟨0, [], by omega, rfl, by simp [TNs.ns, Lfc.Raw.nodesL], Lib.hid (by simpa using hJ2), Lib.hid (KpT.refl _ _ _)⟩
      case round =>
        obtain ⟨j, xs, hj, rfl, hxs, HJr, HKr⟩ := hrel
        have HBr := Lib.hid (HBW.out.trans HKr.out.1)
        have bxr := HKr.out.2 G _ hG HT2.out rfl
        by_cases hlt : j < ts.length
        · obtain ⟨b, o, k1, n1, p1, us, D1, c1, rfl, hbb, ht, f0, f1, f2, f3, hcu, hD1, hT⟩ := HA.out.at_ hlt
          have hmem := Lfc.Raw.sizes_mem ts ts[j] (List.getElem_mem _)
          have htk := Lfc.nodesL_take d kd ts j hlt
          have r0 := (HBr.out.cell (p := ⟨b, o + j * 4, none⟩) hbb).trans f0
          have r1 := (HBr.out.cell (p := ⟨b, o + j * 4 + 1, none⟩) hbb).trans f1
          have r2 := (HBr.out.cell (p := ⟨b, o + j * 4 + 2, none⟩) hbb).trans f2
          have r3 := (HBr.out.cell (p := ⟨b, o + j * 4 + 3, none⟩) hbb).trans f3
          obtain ⟨W5, hW5⟩ : ∃ W5, wr.alloc (.cells #[.int .i64 k1, S n1, .int .i64 p1, .slice D1 us.length c1] 51) = W5 := ⟨_, rfl⟩
          have K5 : KpT w1.heap.size n0 wr W5 := by rw [← hW5]; exact KpT.alloc _ _ HBr.out.size
          have bx5 := K5.2 G _ hG bxr rfl
          have g50 := Lib.cell_of_heap bx5 0
          have hn5 : W5.heap[wr.heap.size]? = some (.cells #[.int .i64 k1, S n1, .int .i64 p1, .slice D1 us.length c1] 51) := by rw [← hW5]; exact World.alloc_heap_new wr _
          have y0 := Lib.cell_of_heap hn5 0
          have y1 := Lib.cell_of_heap hn5 1
          have y2 := Lib.cell_of_heap hn5 2
          have y3 := Lib.cell_of_heap hn5 3
          have hc2 := (K5.boxed hB2 (HKr.out.boxed hB2 HC2.out)).cell
          have hlx : xs.length + ts[j].size ≤ Lfc.Raw.sizes ts := by
            rw [TNs.ns_len, hxs, Lfc.nodesL_size]
            exact Lfc.sizesTake ts j hlt
          have hu1 : Lfc.under kd j ≤ 1 := by unfold Lfc.under; split <;> omega
          have CALL := Lib.hid (fun (u : Nat) (dI : Int) (kk : Nat) (hu : u = Lfc.under kd j) (hd1 : dI = ((d + u : Nat) : Int)) => IH.out ts[j] (d + u) kk dI _ (pre ++ [x0] ++ xs) W5 hd1 (by omega) (by rw [hu]; exact HS.out j hlt) hT (HBr.out.trans K5.1) (K5.boxed hB1 (HKr.out.boxed hB1 HC1.out)) (K5.boxed hB2 (HKr.out.boxed hB2 HC2.out)) (by rw [← hW5]; exact HJ.out _ _ _ HJr.out) (by simp only [List.length_append, List.length_cons, List.length_nil]; omega) (by omega))
          have HTK := Lib.hid htk
          have HPRE := Lib.hid (Lfc.nodesL_pre d kd ts (j + 1))
          clear htk hT ht hD1 hn5 bx5 bxr hmem hlx hu1
          by_cases hk3 : kd = 3
          · subst hk3
            have HU : Hid (1 = Lfc.under 3 j) := Lib.hid (by simp [Lfc.under])
            gi_wp2
            refine ⟨trivial, wide_room _, (CALL.out 1 _ _ HU.out (by simp)).mono ?_⟩
            rintro e W6 (⟨rfl, ys, hys, hJ6, k6⟩ | ⟨rfl, q, hq, hx6⟩)
            · have HYS := Lib.hid hys
              have HJ6 := Lib.hid hJ6
              have HK6 := Lib.hid (HKr.out.trans (K5.trans k6))
              clear hys hJ6 k6
              gi_wp2
              go_roundw
              case rel =>
                exact ⟨j + 1, xs ++ ys, by omega, by go_num, by rw [TNs.ns_app, hxs, HYS.out, HTK.out, HU.out], Lib.hid (by simpa [List.append_assoc] using HJ6.out), HK6⟩
              case measure => simp [intOf]; omega
            · have HQ := Lib.hid hq
              have HX6 := Lib.hid hx6
              clear hq hx6
              gi_wp2
              go_ret
              refine .inr ⟨rfl, [x0] ++ xs ++ q, ?_, by simpa [List.append_assoc] using HX6.out⟩
              rw [TNs.ns_app, TNs.ns_app, hns0, hxs, Lfc.Raw.nodes]
              refine List.IsPrefix.trans ?_ ((List.prefix_append_right_inj [_]).2 HPRE.out)
              rw [HTK.out, List.append_assoc]
              refine (List.prefix_append_right_inj _).2 ((List.prefix_append_right_inj _).2 ?_)
              rw [← HU.out]
              exact HQ.out
          · have hk3f : (kd == 3) = false := by simpa using hk3
            by_cases hk2 : kd = 2
            · subst hk2
              by_cases hj1 : j = 1
              · have HU : Hid (1 = Lfc.under 2 j) := Lib.hid (by simp [Lfc.under, hj1])
                have hj1t : ((j : Int) == 1) = true := by simp; omega
                clear hj1
                gi_wp2
                refine ⟨trivial, wide_room _, (CALL.out 1 _ _ HU.out (by simp)).mono ?_⟩
                rintro e W6 (⟨rfl, ys, hys, hJ6, k6⟩ | ⟨rfl, q, hq, hx6⟩)
                · have HYS := Lib.hid hys
                  have HJ6 := Lib.hid hJ6
                  have HK6 := Lib.hid (HKr.out.trans (K5.trans k6))
                  clear hys hJ6 k6
                  gi_wp2
                  go_roundw
                  case rel =>
                    exact ⟨j + 1, xs ++ ys, by omega, by go_num, by rw [TNs.ns_app, hxs, HYS.out, HTK.out, HU.out], Lib.hid (by simpa [List.append_assoc] using HJ6.out), HK6⟩
                  case measure => simp [intOf]; omega
                · have HQ := Lib.hid hq
                  have HX6 := Lib.hid hx6
                  clear hq hx6
                  gi_wp2
                  go_ret
                  refine .inr ⟨rfl, [x0] ++ xs ++ q, ?_, by simpa [List.append_assoc] using HX6.out⟩
                  rw [TNs.ns_app, TNs.ns_app, hns0, hxs, Lfc.Raw.nodes]
                  refine List.IsPrefix.trans ?_ ((List.prefix_append_right_inj [_]).2 HPRE.out)
                  rw [HTK.out, List.append_assoc]
                  refine (List.prefix_append_right_inj _).2 ((List.prefix_append_right_inj _).2 ?_)
                  rw [← HU.out]
                  exact HQ.out
              · have HU : Hid (0 = Lfc.under 2 j) := Lib.hid (by simp [Lfc.under, hj1])
                have hj1f : ((j : Int) == 1) = false := by rw [beq_eq_false_iff_ne]; omega
                clear hj1
                gi_wp2
                refine ⟨trivial, wide_room _, (CALL.out 0 _ _ HU.out (by simp)).mono ?_⟩
                rintro e W6 (⟨rfl, ys, hys, hJ6, k6⟩ | ⟨rfl, q, hq, hx6⟩)
                · have HYS := Lib.hid hys
                  have HJ6 := Lib.hid hJ6
                  have HK6 := Lib.hid (HKr.out.trans (K5.trans k6))
                  clear hys hJ6 k6
                  gi_wp2
                  go_roundw
                  case rel =>
                    exact ⟨j + 1, xs ++ ys, by omega, by go_num, by rw [TNs.ns_app, hxs, HYS.out, HTK.out, HU.out], Lib.hid (by simpa [List.append_assoc] using HJ6.out), HK6⟩
                  case measure => simp [intOf]; omega
                · have HQ := Lib.hid hq
                  have HX6 := Lib.hid hx6
                  clear hq hx6
                  gi_wp2
                  go_ret
                  refine .inr ⟨rfl, [x0] ++ xs ++ q, ?_, by simpa [List.append_assoc] using HX6.out⟩
                  rw [TNs.ns_app, TNs.ns_app, hns0, hxs, Lfc.Raw.nodes]
                  refine List.IsPrefix.trans ?_ ((List.prefix_append_right_inj [_]).2 HPRE.out)
                  rw [HTK.out, List.append_assoc]
                  refine (List.prefix_append_right_inj _).2 ((List.prefix_append_right_inj _).2 ?_)
                  rw [← HU.out]
                  exact HQ.out
            · have hk2f : (kd == 2) = false := by simpa using hk2
              have HU : Hid (0 = Lfc.under kd j) := Lib.hid (by simp [Lfc.under, hk3, hk2])
              gi_wp2
              refine ⟨trivial, wide_room _, (CALL.out 0 _ _ HU.out (by simp)).mono ?_⟩
              rintro e W6 (⟨rfl, ys, hys, hJ6, k6⟩ | ⟨rfl, q, hq, hx6⟩)
              · have HYS := Lib.hid hys
                have HJ6 := Lib.hid hJ6
                have HK6 := Lib.hid (HKr.out.trans (K5.trans k6))
                clear hys hJ6 k6
                gi_wp2
                go_roundw
                case rel =>
                  exact ⟨j + 1, xs ++ ys, by omega, by go_num, by rw [TNs.ns_app, hxs, HYS.out, HTK.out, HU.out], Lib.hid (by simpa [List.append_assoc] using HJ6.out), HK6⟩
                case measure => simp [intOf]; omega
              · have HQ := Lib.hid hq
                have HX6 := Lib.hid hx6
                clear hq hx6
                gi_wp2
                go_ret
                refine .inr ⟨rfl, [x0] ++ xs ++ q, ?_, by simpa [List.append_assoc] using HX6.out⟩
                rw [TNs.ns_app, TNs.ns_app, hns0, hxs, Lfc.Raw.nodes]
                refine List.IsPrefix.trans ?_ ((List.prefix_append_right_inj [_]).2 HPRE.out)
                rw [HTK.out, List.append_assoc]
                refine (List.prefix_append_right_inj _).2 ((List.prefix_append_right_inj _).2 ?_)
                rw [← HU.out]
                exact HQ.out
        · obtain rfl : j = ts.length := by omega
          have HXS := Lib.hid hxs
          have HKK := Lib.hid (HK2.out.trans HKr.out)
          clear hxs
          gi_wp2
          go_ret
          refine .inl ⟨rfl, [x0] ++ xs, ?_, by simpa [List.append_assoc] using HJr.out, HKK.out⟩
          rw [TNs.ns_app, hns0, HXS.out, List.take_length, Lfc.Raw.nodes]
          rfl
    · gi_wp2
      go_ret
      exact .inr ⟨rfl, [x0], by rw [hns0, Lfc.Raw.nodes]; exact ⟨_, rfl⟩, hJx2⟩

theorem enters_nodes1 : ∀ args w, (callFunc 125 args).run Tryz.prog w = .ok (.enter 125 args) w := enters_of Tryz.func125 (by kernel_rfl) rfl

set_option maxRecDepth 100000 in
set_option maxHeartbeats 2000000 in
theorem nodes_stops (n : Nat) (T : Lfc.Raw) (k p : Int) (nm : List UInt8) (ts : List Lfc.Raw) (A : Option Addr) (c B : Nat) (w1 w : World) (hT : T = .node k nm p ts) (hsz : T.size ≤ 1000000000)
    (hB : w.heap[B]? = some (.cells #[.int .i64 k, S nm, .int .i64 p, .slice A ts.length c] 51)) (hb : Below w1.heap.size w1 w) (hv : TreeV w1 T (.agg #[.int .i64 k, S nm, .int .i64 p, .slice A ts.length c])) :
    SeqStopsK Fence.wide n Tryz.prog 125 #[.pointer (some ⟨B, 0, none⟩)] (TNs.encs (T := T)) (KpT w1.heap.size w.heap.size) (fun xs => TNs.ns xs = T.nodes 0) (fun q => TNs.ns q <+: T.nodes 0) T.size w := by
  intro l J Jx W hW hJ hJx hY h0
  have he := enters_walk
  have hBlt := (Array.getElem?_eq_some_iff.1 hB).1
  obtain ⟨Wy, hWy⟩ : ∃ Wy, W.alloc (.cells #[.func (.yield l) #[] #[]] 160) = Wy := ⟨_, rfl⟩
  obtain ⟨Wz, hWz⟩ : ∃ Wz, Wy.alloc (.cells #[.func (.func 126) #[] #[.pointer (some ⟨W.heap.size, 0, none⟩), .pointer (some ⟨Wy.heap.size, 0, none⟩)]] 97) = Wz := ⟨_, rfl⟩
  have byy : Boxed Wy W.heap.size 160 (.func (.yield l) #[] #[]) := by rw [← hWy]; exact Boxed.new W _ _
  have byz : Boxed Wz W.heap.size 160 (.func (.yield l) #[] #[]) := by rw [← hWz]; exact byy.alloc _
  have bzz : Boxed Wz Wy.heap.size 97 (.func (.func 126) #[] #[.pointer (some ⟨W.heap.size, 0, none⟩), .pointer (some ⟨Wy.heap.size, 0, none⟩)]) := by rw [← hWz]; exact Boxed.new Wy _ _
  have hys : W.heap.size + 1 ≤ Wy.heap.size := by rw [← hWy]; simp
  have hJz : J [] Wz := by rw [← hWz, ← hWy]; exact abides_alloc hJ _ (abides_alloc hJ _ h0)
  have hWz2 : Below w1.heap.size w1 Wz := by rw [← hWz, ← hWy]; exact ((hb.trans (hW.mono hb.size)).alloc (Nat.le_trans hb.size hW.size) _).alloc (by simp; exact Nat.le_succ_of_le (Nat.le_trans hb.size hW.size)) _
  have hbz : Wz.heap[B]? = some (.cells #[.int .i64 k, S nm, .int .i64 p, .slice A ts.length c] 51) := by
    have e1 : W.heap[B]? = _ := (hW.block B hBlt).trans hB
    have e2 := (Below.heap_alloc W (.cells #[.func (.yield l) #[] #[]] 160) B (Array.getElem?_eq_some_iff.1 e1).1).trans e1
    rw [hWy] at e2
    have e3 := (Below.heap_alloc Wy (.cells #[.func (.func 126) #[] #[.pointer (some ⟨W.heap.size, 0, none⟩), .pointer (some ⟨Wy.heap.size, 0, none⟩)]] 97) B (Array.getElem?_eq_some_iff.1 e2).1).trans e2
    rw [hWz] at e3
    exact e3
  have q0 := Lib.cell_of_heap hbz 0
  have q1 := Lib.cell_of_heap hbz 1
  have q2 := Lib.cell_of_heap hbz 2
  have q3 := Lib.cell_of_heap hbz 3
  have hz := bzz.cell
  have CALL := Lib.hid (fun kk => nodesWalk_in T T.size l w.heap.size W.heap.size Wy.heap.size w1 hsz hW.size (by have := hW.size; omega) hb.size J Jx (fun s W o h => abides_alloc hJ o h) (fun kk pre x W hJp hlen => yield_any kk (hY pre x W hJp hlen)) T.size T 0 kk 0 _ [] Wz rfl (Nat.le_refl _) (fun y hy => hy) hv hWz2 byz bzz hJz (by simp) (by omega))
  clear hY hJ hJx hv hT
  refine callsIn_of_wp Tryz.func125 rfl trivial ?_ rfl
  simp only [Tryz.ntmps125, List.size_toArray, List.length_cons, List.length_nil, Nat.reduceAdd, Nat.reduceSub, Array.replicate_succ, Array.replicate_zero, List.push_toArray, List.append_toArray, List.nil_append, List.cons_append]
  gi_wp2
  refine ⟨trivial, wide_room _, (CALL.out _).mono ?_⟩
  rintro e W6 (⟨rfl, ys, hys, hJ6, k6⟩ | ⟨rfl, q, hq, hx6⟩)
  · have HYS := Lib.hid hys
    have HJ6 := Lib.hid hJ6
    clear hys hJ6 k6
    gi_wp2
    go_end0
    exact ⟨⟨_, rfl⟩, .inl ⟨ys, HYS.out, by simpa using HJ6.out⟩⟩
  · have HQ := Lib.hid hq
    have HX6 := Lib.hid hx6
    clear hq hx6
    gi_wp2
    go_end0
    exact ⟨⟨_, rfl⟩, .inr ⟨q, HQ.out, by simpa using HX6.out⟩⟩

set_option maxHeartbeats 1000000 in
theorem nodes_any (v : Value) (k p : Int) (nm : List UInt8) (l c : Nat) (A : Option Addr) (w : World) (hv : v = .agg #[.int .i64 k, S nm, .int .i64 p, .slice A l c]) :
    Calls Tryz.prog 116 #[v] w fun e w' => e = .returned (.func (.func 125) #[] #[.pointer (some ⟨w.heap.size, 0, none⟩)]) ∧ w' = w.alloc (.cells #[.int .i64 k, S nm, .int .i64 p, .slice A l c] 51) := by
  subst hv
  go_enter Tryz.func116, Tryz.ntmps116
  go_wp2_with fail
  go_ret
  exact ⟨rfl, rfl⟩
end Go.Proofs.YtadjpadieljjlaaGreat
