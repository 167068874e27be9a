/- The small thing that must work: display.Text and display.Fresh at some inputs. -/
import Derived.Test.YtlcikiiijelpjaaDoorDkText
set_option linter.unusedVariables false
set_option linter.unusedSimpArgs false
namespace Go.Proofs.YtlcikiiijelpjaaDoor
open Go.RowKit Go.Maps Go.WideMaps

theorem results_tm {fn : Func} {p : Tmp} (h : fn.results = #[.cell p 31]) (tmps : Array Value) (w : World) (g : Nat) (v0 v1 v2 v3 : Value) (hp : tmps.getD p undef = .pointer (some ⟨g, 0, none⟩)) (hg : w.heap[g]? = some (.cells #[v0, v1, v2, v3] 31 (0, 0))) :
    (results fn tmps).run Tryd.prog w = .ok (.agg #[v0, v1, v2, v3]) w := by
  have hs : (Tryd.prog.info? 31).map (·.size) = some 4 := by kernel_rfl
  exact results_cell_row h tmps w g _ _ _ _ hp hg Tryd.underlying31 rfl hs
theorem enters_v : ∀ args w, (callFunc 9 args).run Tryd.prog w = .ok (.enter 9 args) w := enters_of Tryd.func9 (by kernel_rfl) rfl

set_option maxRecDepth 100000 in
set_option maxHeartbeats 1000000 in
theorem awakeV_any (i : Int) (w : World) :
    Calls Tryd.prog 9 #[.int .i64 i] w fun e w' => e = .returned (.agg #[.int .i64 5, S [], .int .i64 i, .slice none 0 0]) ∧ Below w.heap.size w w' := by
  go_enter Tryd.func9, Tryd.ntmps9
  go_wp2_with fail
  refine bodyPost_ret (results_tm rfl _ _ _ _ _ _ _ rfl (heap_alloc_new _ _)) rfl ?_
  exact ⟨rfl, (Below.refl _ _).alloc (Nat.le_refl _) _⟩

def ds0 : List DVal := [⟨[110, 97, 116], 1, [], 0, none, 0, 0, 0⟩, ⟨[43], 1, [], 0, none, 0, 0, 0⟩]
def os0 : List OVal := [⟨[43], 4, 10⟩]
def T0 : Lfc.Raw := .node 3 [121] 0 [.node 4 [43] 0 [.node 5 [] 0 [], .node 5 [] 1 []]]
def u0 : List (List UInt8) := [[110, 97, 116], [43], [43], [121]]
theorem dec1 : Lib.decDigits 1 = [49] := by rw [Lib.decDigits_one (by omega)]; rfl
theorem dec2 : Lib.decDigits 2 = [50] := by rw [Lib.decDigits_one (by omega)]; rfl
theorem first_y : Lfc.FirstFree (Lfc.hintOf [121]) u0 [121, 49] := by
  have h : Lfc.hintOf [121] = [121] := by decide
  rw [h]
  refine ⟨1, by simp [Lfc.nmN, dec1], by decide, fun j hj => ?_⟩
  obtain rfl : j = 0 := by omega
  decide
theorem first_x : Lfc.FirstFree (Lfc.hintOf []) [] [120] := by
  have h : Lfc.hintOf [] = [120] := by decide
  rw [h]
  exact ⟨0, rfl, by decide, fun j hj => by omega⟩
theorem first_a : Lfc.FirstFree (Lfc.hintOf [97]) [[97], [97, 49]] [97, 50] := by
  have h : Lfc.hintOf [97] = [97] := by decide
  rw [h]
  refine ⟨2, by simp [Lfc.nmN, dec2], by decide, fun j hj => ?_⟩
  rcases (by omega : j = 0 ∨ j = 1) with rfl | rfl
  · decide
  · simp [Lfc.nmN, dec1]
theorem T0_wf : T0.twf = 0 := by decide
theorem T0_sc : ¬ (1 : Int) < Lfc.scopeN (T0.nodes 0) := by decide
theorem V0_wf : (Lfc.Raw.node 5 [] 0 []).twf = 0 := by decide
theorem V0_sc : (0 : Int) < Lfc.scopeN ((Lfc.Raw.node 5 [] 0 []).nodes 0) := by decide
theorem T0_pos : ∀ y ∈ T0.nodes 0, -1000000000 ≤ y.2.pos ∧ y.2.pos ≤ 1000000000 := by
  intro y hy
  simp [T0, Lfc.Raw.nodes, Lfc.Raw.nodesL] at hy
  rcases hy with rfl | rfl | rfl | rfl <;> simp [Lfc.Raw.pos]
theorem V0_pos : ∀ y ∈ (Lfc.Raw.node 5 [] 0 []).nodes 0, -1000000000 ≤ y.2.pos ∧ y.2.pos ≤ 1000000000 := by
  intro y hy
  simp [Lfc.Raw.nodes, Lfc.Raw.nodesL] at hy
  subst hy
  simp [Lfc.Raw.pos]
theorem names0 : NamesOK (ds0.map DVal.n ++ os0.map OVal.n) [[121]] := fun k hk => by
  obtain rfl : k = 0 := by simp at hk; exact hk
  refine ⟨by simp, ?_, by simp [ds0, os0], by simp⟩
  show Lfc.isName [121] = true
  decide

/-- The term of awake, at its cells. -/
theorem T0_at {W : World} {g8 g4 : Nat} (h8 : W.heap[g8]? = some (.cells #[.int .i64 5, S [], .int .i64 0, .slice none 0 0, .int .i64 5, S [], .int .i64 1, .slice none 0 0] 31 (0, 0)))
    (h4 : W.heap[g4]? = some (.cells #[.int .i64 4, S [43], .int .i64 0, .slice (some ⟨g8, 0, none⟩) 2 2] 31 (0, 0))) :
    TreeV W T0 (.agg #[.int .i64 3, S [121], .int .i64 0, .slice (some ⟨g4, 0, none⟩) 1 1]) := by
  have v0 : ∀ i : Int, TreeC W (.node 5 [] i []) (.int .i64 5) (S []) (.int .i64 i) (.slice none 0 0) := fun i => by
    rw [TreeC]; exact ⟨rfl, rfl, by simp, rfl, none, 0, rfl, by simp, fun h => absurd rfl h⟩
  refine TreeV.mk (ts := [.node 4 [43] 0 [.node 5 [] 0 [], .node 5 [] 1 []]]) (by simp) (by simp) fun _ => ⟨g4, 0, rfl, lt_of_block h4, ?_⟩
  rw [TreesO]
  refine ⟨⟨_, _, _, _, Lib.cell_of_heap h4 0, Lib.cell_of_heap h4 1, Lib.cell_of_heap h4 2, Lib.cell_of_heap h4 3, ?_⟩, by rw [TreesO]; trivial⟩
  rw [TreeC]
  refine ⟨rfl, rfl, by simp, rfl, some ⟨g8, 0, none⟩, 2, rfl, by simp, fun _ => ⟨g8, 0, rfl, lt_of_block h8, ?_⟩⟩
  rw [TreesO]
  refine ⟨⟨_, _, _, _, Lib.cell_of_heap h8 0, Lib.cell_of_heap h8 1, Lib.cell_of_heap h8 2, Lib.cell_of_heap h8 3, v0 0⟩, ?_⟩
  rw [TreesO]
  exact ⟨⟨_, _, _, _, Lib.cell_of_heap h8 4, Lib.cell_of_heap h8 5, Lib.cell_of_heap h8 6, Lib.cell_of_heap h8 7, v0 1⟩, by rw [TreesO]; trivial⟩

/-- What the writer makes of that term. -/
theorem T0_term {W0 W : World} {g8 g4 : Nat} (M1 M2 N1 N2 : Nat) (A : Option Addr) (c : Nat) (hb : Below W0.heap.size W0 W) (h8 : W0.heap[g8]? = some (.cells #[.int .i64 5, S [], .int .i64 0, .slice none 0 0, .int .i64 5, S [], .int .i64 1, .slice none 0 0] 31 (0, 0)))
    (h4 : W0.heap[g4]? = some (.cells #[.int .i64 4, S [43], .int .i64 0, .slice (some ⟨g8, 0, none⟩) 2 2] 31 (0, 0)))
    (m1 : VMap zD W M1 N1 (gD ds0)) (m2 : VMap zO W M2 N2 (gO os0)) (hN : NamesAt W A u0) (hc : 4 ≤ c) :
    Calls Tryd.prog 20 #[.agg #[.map (some M1), .map (some M2), .bool false], .agg #[.int .i64 3, S [121], .int .i64 0, .slice (some ⟨g4, 0, none⟩) 1 1], .slice A 4 c] W fun e w' => e = .returned (S [40, 91, 121, 49, 93, 32, 40, 121, 49, 32, 43, 32, 121, 41, 41]) ∧ Below W.heap.size W w' := by
  have k8 := (hb.block _ (lt_of_block h8)).trans h8
  have k4 := (hb.block _ (lt_of_block h4)).trans h4
  refine dLam_any M1 M2 [121] [121, 49] [40, 121, 49, 32, 43, 32, 121, 41] 0 4 0 [43] 2 2 (some ⟨g8, 0, none⟩) g4 0 1 u0 A c (by omega) (by decide) (by decide) (by decide) (by decide) (by decide) hc W hN first_y (lt_of_block k4)
    (Lib.cell_of_heap k4 0) (Lib.cell_of_heap k4 1) (Lib.cell_of_heap k4 2) (Lib.cell_of_heap k4 3) ?_
  intro W1 U' c' hb1 hN1 hc1
  refine dTermC_any M1 M2 [43] [40, 121, 49, 32, 43, 32, 121, 41] 0 (some ⟨g8, 0, none⟩) U' 2 2 5 c' W1 ?_
  intro W2 hb2
  have hb12 := hb1.trans (hb2.mono hb1.size)
  have k8' := (hb12.block _ (lt_of_block k8)).trans k8
  refine dInfix_any ds0 os0 M1 M2 N1 N2 [43] ⟨[43], 1, [], 0, none, 0, 0, 0⟩ ⟨[43], 4, 10⟩ (by decide) rfl rfl rfl (by decide) 5 5 0 1 [] [] [121, 49] [121] 0 0 0 0 none none U' 5 c' g8 0 2 (by omega) (by decide) (by decide) W2
    (m1.below hb12) (m2.below hb12) (lt_of_block k8') (Lib.cell_of_heap k8' 0) (Lib.cell_of_heap k8' 1) (Lib.cell_of_heap k8' 2) (Lib.cell_of_heap k8' 3) (Lib.cell_of_heap k8' 4) (Lib.cell_of_heap k8' 5) (Lib.cell_of_heap k8' 6) (Lib.cell_of_heap k8' 7) ?_ ?_
  · intro W3 hb3
    exact dVar_any M1 M2 0 (u0 ++ [[121, 49]]) none U' 0 c' W3 (by decide) (by decide) ((hN1.below hb2).below hb3)
  · intro W3 hb3
    exact dVar_any M1 M2 1 (u0 ++ [[121, 49]]) none U' 0 c' W3 (by decide) (by decide) ((hN1.below hb2).below hb3)

set_option maxRecDepth 100000 in
set_option maxHeartbeats 8000000 in
theorem dAwake_any (w : World) : Calls Tryd.prog 4 #[] w fun e w' => e = .returned (.bool true) ∧ Below w.heap.size w w' := by
  have he := enters_v
  have HV := Lib.hid awakeV_any
  obtain ⟨W1, hW1⟩ : ∃ W1, w.alloc (.cells #[S [110, 97, 116], .int .i64 1, S [], .int .i64 0, .slice none 0 0, .int .i64 0, S [43], .int .i64 1, S [], .int .i64 0, .slice none 0 0, .int .i64 0] 33) = W1 := ⟨_, rfl⟩
  obtain ⟨W2, hW2⟩ : ∃ W2, W1.alloc (.cells #[S [43], .int .i64 4, .int .i64 10] 36) = W2 := ⟨_, rfl⟩
  have b1 : Below w.heap.size w W1 := by rw [← hW1]; exact (Below.refl _ _).alloc (Nat.le_refl _) _
  have b12 : Below W1.heap.size W1 W2 := by rw [← hW2]; exact (Below.refl _ _).alloc (Nat.le_refl _) _
  have q1 : W1.heap[w.heap.size]? = some (.cells #[S [110, 97, 116], .int .i64 1, S [], .int .i64 0, .slice none 0 0, .int .i64 0, S [43], .int .i64 1, S [], .int .i64 0, .slice none 0 0, .int .i64 0] 33 (0, 0)) := by rw [← hW1]; exact heap_alloc_new _ _
  have q2 : W2.heap[W1.heap.size]? = some (.cells #[S [43], .int .i64 4, .int .i64 10] 36 (0, 0)) := by rw [← hW2]; exact heap_alloc_new _ _
  have Q1 := Lib.hid ((b12.block _ (lt_of_block q1)).trans q1)
  have Q2 := Lib.hid q2
  have B2 := Lib.hid (b1.trans (b12.mono b1.size))
  have l1 := lt_of_block q1
  have l2 := lt_of_block q2
  clear b1 b12 q1 q2
  go_enter Tryd.func4, Tryd.ntmps4
  go_wp2_with fail
  refine (HV.out 0 _).mono ?_
  rintro e w3 ⟨rfl, b3⟩
  go_wp2_with fail
  refine (HV.out 1 _).mono ?_
  rintro e w4 ⟨rfl, b4⟩
  have b24 : Below W2.heap.size W2 w4 := b3.trans (b4.mono b3.size)
  obtain ⟨W5, hW5⟩ : ∃ W5, w4.alloc (.cells #[.int .i64 5, S [], .int .i64 0, .slice none 0 0, .int .i64 5, S [], .int .i64 1, .slice none 0 0] 31) = W5 := ⟨_, rfl⟩
  obtain ⟨W6, hW6⟩ : ∃ W6, W5.alloc (.cells #[.int .i64 4, S [43], .int .i64 0, .slice (some ⟨w4.heap.size, 0, none⟩) 2 2] 31) = W6 := ⟨_, rfl⟩
  obtain ⟨W7, hW7⟩ : ∃ W7, W6.alloc (.cells #[.int .i64 3, S [121], .int .i64 0, .slice (some ⟨W5.heap.size, 0, none⟩) 1 1] 31) = W7 := ⟨_, rfl⟩
  obtain ⟨W8, hW8⟩ : ∃ W8, W7.alloc (.cells #[S [121]] 9) = W8 := ⟨_, rfl⟩
  have c45 : Below w4.heap.size w4 W5 := by rw [← hW5]; exact (Below.refl _ _).alloc (Nat.le_refl _) _
  have c56 : Below W5.heap.size W5 W6 := by rw [← hW6]; exact (Below.refl _ _).alloc (Nat.le_refl _) _
  have c67 : Below W6.heap.size W6 W7 := by rw [← hW7]; exact (Below.refl _ _).alloc (Nat.le_refl _) _
  have c78 : Below W7.heap.size W7 W8 := by rw [← hW8]; exact (Below.refl _ _).alloc (Nat.le_refl _) _
  have q5 : W5.heap[w4.heap.size]? = some (.cells #[.int .i64 5, S [], .int .i64 0, .slice none 0 0, .int .i64 5, S [], .int .i64 1, .slice none 0 0] 31 (0, 0)) := by rw [← hW5]; exact heap_alloc_new _ _
  have q6 : W6.heap[W5.heap.size]? = some (.cells #[.int .i64 4, S [43], .int .i64 0, .slice (some ⟨w4.heap.size, 0, none⟩) 2 2] 31 (0, 0)) := by rw [← hW6]; exact heap_alloc_new _ _
  have q7 : W7.heap[W6.heap.size]? = some (.cells #[.int .i64 3, S [121], .int .i64 0, .slice (some ⟨W5.heap.size, 0, none⟩) 1 1] 31 (0, 0)) := by rw [← hW7]; exact heap_alloc_new _ _
  have q8 : W8.heap[W7.heap.size]? = some (.cells #[S [121]] 9 (0, 0)) := by rw [← hW8]; exact heap_alloc_new _ _
  have s24 := b24.size
  have s5 := lt_of_block q5
  have s6 := lt_of_block q6
  have s7 := lt_of_block q7
  have s8 := lt_of_block q8
  have z45 := c45.size
  have z56 := c56.size
  have z67 := c67.size
  have z78 := c78.size
  have b28 : Below W2.heap.size W2 W8 := b24.trans ((c45.trans ((c56.trans ((c67.trans (c78.mono z67)).mono z56)).mono z45)).mono s24)
  have p5 := (c78.block _ (by omega)).trans ((c67.block _ (by omega)).trans ((c56.block _ s5).trans q5))
  have p6 := (c78.block _ (by omega)).trans ((c67.block _ s6).trans q6)
  have p7 := (c78.block _ s7).trans q7
  obtain ⟨t0, t1, t2, t3⟩ := cells4d p7
  have D1 : ∀ W, Below W2.heap.size W2 W → DeclsAt W (some ⟨w.heap.size, 0, none⟩) ds0 := fun W hW _ => ⟨w.heap.size, 0, rfl, by have := hW.size; omega, fun i hi => by
    have q := (hW.block _ (by omega)).trans Q1.out
    rcases (by simp [ds0] at hi; omega : i = 0 ∨ i = 1) with rfl | rfl
    · exact ⟨Lib.cell_of_heap q 0, Lib.cell_of_heap q 1, Lib.cell_of_heap q 2, Lib.cell_of_heap q 3, Lib.cell_of_heap q 4, Lib.cell_of_heap q 5⟩
    · exact ⟨Lib.cell_of_heap q 6, Lib.cell_of_heap q 7, Lib.cell_of_heap q 8, Lib.cell_of_heap q 9, Lib.cell_of_heap q 10, Lib.cell_of_heap q 11⟩⟩
  have D2 : ∀ W, Below W2.heap.size W2 W → OValsAt W (some ⟨W1.heap.size, 0, none⟩) os0 := fun W hW _ => ⟨W1.heap.size, 0, rfl, by have := hW.size; omega, fun i hi => by
    have q := (hW.block _ (by omega)).trans Q2.out
    obtain rfl : i = 0 := by simp [os0] at hi; exact hi
    exact ⟨Lib.cell_of_heap q 0, Lib.cell_of_heap q 1, Lib.cell_of_heap q 2⟩⟩
  have N8 : NamesAt W8 (some ⟨W7.heap.size, 0, none⟩) [[121]] := fun _ => ⟨W7.heap.size, 0, rfl, s8, fun k hk => by
    obtain rfl : k = 0 := by simp at hk; exact hk
    exact Lib.cell_of_heap q8 0⟩
  have hdn : ∀ d ∈ ds0, d.n.length ≤ 1000000 := by decide
  have hon : ∀ d ∈ os0, d.n.length ≤ 1000000 := by decide
  have TX := Lib.hid (show Calls Tryd.prog 10 #[.slice (some ⟨w.heap.size, 0, none⟩) 2 2, .slice (some ⟨W1.heap.size, 0, none⟩) 1 1, .slice (some ⟨W7.heap.size, 0, none⟩) 1 1, .agg #[.int .i64 3, S [121], .int .i64 0, .slice (some ⟨W5.heap.size, 0, none⟩) 1 1], .bool false] W8 fun e w' => e = .returned (.tuple #[S [40, 91, 121, 49, 93, 32, 40, 121, 49, 32, 43, 32, 121, 41, 41], .int .i64 0]) ∧ Below W8.heap.size W8 w' from
    dText_ok ds0 os0 [[121]] T0 _ _ _ 2 1 1 _ W8 (by decide) (by decide) (by decide) (by decide) hdn hon (D1 _ b28) (D2 _ b28) N8 names0 (T0_at p5 p6) (by decide) T0_wf T0_pos T0_sc (by decide) (by decide) _
      (fun W M1 M2 N1 N2 A c hb m1 m2 hN hc => T0_term M1 M2 N1 N2 A c hb p5 p6 m1 m2 hN hc))
  have B28 := Lib.hid b28
  clear b3 b4 b24 c45 c56 c67 c78 q5 q6 q7 q8 p5 p6 N8 b28
  have HD1 := Lib.hid D1
  have HD2 := Lib.hid D2
  clear D1 D2
  go_wp2_with fail
  refine TX.out.mono ?_
  rintro e w9 ⟨rfl, b9⟩
  have b29 := Lib.hid (B28.out.trans (b9.mono B28.out.size))
  go_wp2_with fail
  refine (HV.out 0 _).mono ?_
  rintro e w10 ⟨rfl, b10⟩
  have b210 := Lib.hid (b29.out.trans (b10.mono b29.out.size))
  have V10 : TreeV w10 (.node 5 [] 0 []) (.agg #[.int .i64 5, S [], .int .i64 0, .slice none 0 0]) := TreeV.mk (ts := []) (by simp) (by simp) (fun h => absurd rfl h)
  have TY := Lib.hid (show Calls Tryd.prog 10 #[.slice (some ⟨w.heap.size, 0, none⟩) 2 2, .slice (some ⟨W1.heap.size, 0, none⟩) 1 1, .slice none 0 0, .agg #[.int .i64 5, S [], .int .i64 0, .slice none 0 0], .bool false] w10 fun e w' => e = .returned (.tuple #[S [], .int .i64 3]) ∧ Below w10.heap.size w10 w' from
    dText_scope ds0 os0 [] (.node 5 [] 0 []) _ _ _ 2 1 0 _ w10 (by decide) (by decide) (by decide) (by decide) hdn hon (HD1.out _ b210.out) (HD2.out _ b210.out) (fun h => by simp at h) (fun k hk => by simp at hk) V10 (by decide) V0_wf V0_pos V0_sc)
  clear b9 b10 V10
  go_wp2_with fail
  refine TY.out.mono ?_
  rintro e w11 ⟨rfl, b11⟩
  have b211 := Lib.hid (b210.out.trans (b11.mono b210.out.size))
  clear b11
  have F1 := Lib.hid (dFresh_any [] [] none 0 w11 (by decide) (by decide) (fun h => by simp at h))
  go_wp2_with fail
  refine F1.out.mono ?_
  rintro e w12 ⟨⟨s1, rfl, f1⟩, hw12⟩
  obtain rfl := hw12
  obtain rfl := (f1.unique first_x).symm
  clear f1
  obtain ⟨W13, hW13⟩ : ∃ W13, w11.alloc (.cells #[S [97], S [97, 49]] 9) = W13 := ⟨_, rfl⟩
  have b13 : Below w11.heap.size w11 W13 := by rw [← hW13]; exact (Below.refl _ _).alloc (Nat.le_refl _) _
  have q13 : W13.heap[w11.heap.size]? = some (.cells #[S [97], S [97, 49]] 9 (0, 0)) := by rw [← hW13]; exact heap_alloc_new _ _
  have N13 : NamesAt W13 (some ⟨w11.heap.size, 0, none⟩) [[97], [97, 49]] := fun _ => ⟨w11.heap.size, 0, rfl, lt_of_block q13, fun k hk => by
    rcases (by simp at hk; omega : k = 0 ∨ k = 1) with rfl | rfl
    · exact Lib.cell_of_heap q13 0
    · exact Lib.cell_of_heap q13 1⟩
  have F2 := Lib.hid (dFresh_any [97] [[97], [97, 49]] (some ⟨w11.heap.size, 0, none⟩) 2 W13 (by decide) (by decide) N13)
  have B13 := Lib.hid (b211.out.trans (b13.mono b211.out.size))
  clear b13 q13 N13
  go_wp2_with fail
  refine F2.out.mono ?_
  rintro e w14 ⟨⟨s2, rfl, f2⟩, hw14⟩
  obtain rfl := hw14
  obtain rfl := (f2.unique first_a).symm
  clear f2
  go_wp2_with fail
  go_ret
  exact ⟨rfl, B2.out.trans (B13.out.mono B2.out.size)⟩
end Go.Proofs.YtlcikiiijelpjaaDoor
