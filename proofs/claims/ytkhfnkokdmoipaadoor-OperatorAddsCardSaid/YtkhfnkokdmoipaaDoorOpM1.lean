/- Parts of the proof: OpJoin, OpUn, OpBin. -/
import Derived.Test.YtkhfnkokdmoipaaDoorOpClone
import Derived.Test.YtkhfnkokdmoipaaDoorOpLow2
import Derived.IntWalk
/- Contracts of operator.apply, lfcheckref03.app and operator.join. -/
set_option linter.unusedVariables false
set_option linter.unusedSimpArgs false
namespace Go.Proofs.YtkhfnkokdmoipaaDoor
open Go.RowKit Go.Maps Go.WideMaps

theorem treesAtP_two' {q : Nat → Prop} {W : World} {g : Nat} {t t' : Lfc.Raw} {v0 v1 v2 v3 u0 u1 u2 u3 : Value} {ty : TypeId} (ht : TreeP q W t v0 v1 v2 v3) (ht' : TreeP q W t' u0 u1 u2 u3) (hq : q g) (hg : W.heap[g]? = some (.cells #[v0, v1, v2, v3, u0, u1, u2, u3] ty (0, 0))) : TreesAtP q W (some ⟨g, 0, none⟩) [t, t'] := fun _ =>
  ⟨g, 0, rfl, lt_of_block hg, hq, ((RowP.one ht').append (RowP.one ht)).lie (fun j u hj => by
    rw [Nat.zero_add]
    match j with
    | 0 => simp at hj; subst hj; exact Lib.cell_of_heap hg 0
    | 1 => simp at hj; subst hj; exact Lib.cell_of_heap hg 1
    | 2 => simp at hj; subst hj; exact Lib.cell_of_heap hg 2
    | 3 => simp at hj; subst hj; exact Lib.cell_of_heap hg 3
    | 4 => simp at hj; subst hj; exact Lib.cell_of_heap hg 4
    | 5 => simp at hj; subst hj; exact Lib.cell_of_heap hg 5
    | 6 => simp at hj; subst hj; exact Lib.cell_of_heap hg 6
    | 7 => simp at hj; subst hj; exact Lib.cell_of_heap hg 7
    | j + 8 => simp at hj)⟩

set_option maxRecDepth 100000 in
set_option maxHeartbeats 2000000 in
theorem apply_any (f a : Lfc.Raw) (v1 v2 : Value) (w : World) (q : Nat → Prop) (h1 : TreeVP q w f v1) (h2 : TreeVP q w a v2) :
    Calls Tryd.prog 53 #[v1, v2] w fun e w' => (∃ v', e = .returned v' ∧ TreeVP (fun b => q b ∨ w.heap.size ≤ b) w' (Lfc.appT f a) v') ∧ Below w.heap.size w w' := by
  obtain ⟨k1, n1, p1, us1, A1, c1, rfl, rfl, t1⟩ := h1.parts4
  obtain ⟨k2, n2, p2, us2, A2, c2, rfl, rfl, t2⟩ := h2.parts4
  obtain ⟨wa, hwa⟩ : ∃ wa, ((w.alloc (.cells #[.int .i64 k1, S n1, .int .i64 p1, .slice A1 us1.length c1] 39)).alloc (.cells #[.int .i64 k2, S n2, .int .i64 p2, .slice A2 us2.length c2] 39)).alloc (.cells #[.int .i64 0, S [], .int .i64 0, .slice none 0 0] 39) = wa := ⟨_, rfl⟩
  have hn := fun (W : World) (o : Obj) (k : Nat) (h : k = W.heap.size) => (h ▸ heap_alloc_new W o : (W.alloc o).heap[k]? = some o)
  have q0 : wa.heap[w.heap.size]? = some (.cells #[.int .i64 k1, S n1, .int .i64 p1, .slice A1 us1.length c1] 39 (0, 0)) := by rw [← hwa]; exact heap_alloc_old _ _ _ _ (heap_alloc_old _ _ _ _ (heap_alloc_new _ _))
  have q1 : wa.heap[w.heap.size + 1]? = some (.cells #[.int .i64 k2, S n2, .int .i64 p2, .slice A2 us2.length c2] 39 (0, 0)) := by rw [← hwa]; exact heap_alloc_old _ _ _ _ (hn _ _ _ (by simp))
  have q2 : wa.heap[w.heap.size + 1 + 1]? = some (.cells #[.int .i64 0, S [], .int .i64 0, .slice none 0 0] 39 (0, 0)) := by rw [← hwa]; exact hn _ _ _ (by simp)
  have ba : Below w.heap.size w wa := by rw [← hwa]; exact (((Below.refl _ _).alloc (Nat.le_refl _) _).alloc (by simp) _).alloc (by simp; omega) _
  have hsa := eq2 (show wa.heap.size = w.heap.size + 3 by rw [← hwa]; simp)
  obtain ⟨wb, hwb⟩ : ∃ wb, wa.alloc (.cells #[.int .i64 k1, S n1, .int .i64 p1, .slice A1 us1.length c1, .int .i64 k2, S n2, .int .i64 p2, .slice A2 us2.length c2] 39) = wb := ⟨_, rfl⟩
  have bb : Below wa.heap.size wa wb := by rw [← hwb]; exact (Below.refl _ _).alloc (Nat.le_refl _) _
  have qb : wb.heap[wa.heap.size]? = some (.cells #[.int .i64 k1, S n1, .int .i64 p1, .slice A1 us1.length c1, .int .i64 k2, S n2, .int .i64 p2, .slice A2 us2.length c2] 39 (0, 0)) := by rw [← hwb]; exact heap_alloc_new _ _
  obtain ⟨s1, s2, s3, s4, g1, g2, g3, g4, ⟨y0, y1, y2, y3⟩, ⟨f0, f1, f2, f3⟩, hq, ho⟩ := put4 ((bb.block _ (lt_of_block q2)).trans q2) (.int .i64 5) (S []) (.int .i64 p1) (.slice (some ⟨wa.heap.size, 0, none⟩) 2 2)
  obtain ⟨x0, x1, x2, x3⟩ := cells4 q0
  obtain ⟨z0, z1, z2, z3⟩ := cells4 q1
  have HQ := Lib.hid hq
  have HO := Lib.hid ho
  have QB := Lib.hid qb
  have BB := Lib.hid bb
  have BA := Lib.hid ba
  have T1 := Lib.hid t1
  have T2 := Lib.hid t2
  clear hq ho qb bb ba q0 q1 q2 t1 t2 h1 h2 hn
  go_enter Tryd.func53, Tryd.ntmps53
  go_upto_region 1 with fail
  clear hwa
  go_wp2_with fail
  refine bodyPost_ret (results_raw rfl _ _ _ _ _ _ _ rfl HQ.out) rfl ?_
  have hsb := BB.out.size
  have hs4 := HO.out.size
  have kp : ∀ b, b < w.heap.size → s4.heap[b]? = w.heap[b]? := fun b hb => (HO.out.block b (by omega) (fun e => by have := Option.some.inj e; omega)).trans ((BB.out.block b (by omega)).trans (BA.out.block b hb))
  refine ⟨⟨_, rfl, TreeVP.mk (ts := [.node k1 n1 p1 us1, .node k2 n2 p2 us2]) (by simp) (by simp) ?_⟩, Oth.below (BA.out.trans (BB.out.mono (by omega))) HO.out (by omega) (by omega)⟩
  exact treesAtP_two' (TreeP.keep (fun b _ hlt => kp b hlt) (by omega) (fun b _ hb => .inl hb) _ _ _ _ _ T1.out) (TreeP.keep (fun b _ hlt => kp b hlt) (by omega) (fun b _ hb => .inl hb) _ _ _ _ _ T2.out) (.inr (by omega)) (HO.out.heap QB.out (by omega))

set_option maxRecDepth 100000 in
set_option maxHeartbeats 2000000 in
theorem rApp_any (f a : Lfc.Raw) (v1 v2 : Value) (w : World) (q : Nat → Prop) (h1 : TreeVP q w f v1) (h2 : TreeVP q w a v2) :
    Calls Tryd.prog 57 #[v1, v2] w fun e w' => (∃ v', e = .returned v' ∧ TreeVP (fun b => q b ∨ w.heap.size ≤ b) w' (Lfc.appT f a) v') ∧ Below w.heap.size w w' := by
  obtain ⟨k1, n1, p1, us1, A1, c1, rfl, rfl, t1⟩ := h1.parts4
  obtain ⟨k2, n2, p2, us2, A2, c2, rfl, rfl, t2⟩ := h2.parts4
  obtain ⟨wa, hwa⟩ : ∃ wa, ((w.alloc (.cells #[.int .i64 k1, S n1, .int .i64 p1, .slice A1 us1.length c1] 39)).alloc (.cells #[.int .i64 k2, S n2, .int .i64 p2, .slice A2 us2.length c2] 39)).alloc (.cells #[.int .i64 0, S [], .int .i64 0, .slice none 0 0] 39) = wa := ⟨_, rfl⟩
  have hn := fun (W : World) (o : Obj) (k : Nat) (h : k = W.heap.size) => (h ▸ heap_alloc_new W o : (W.alloc o).heap[k]? = some o)
  have q0 : wa.heap[w.heap.size]? = some (.cells #[.int .i64 k1, S n1, .int .i64 p1, .slice A1 us1.length c1] 39 (0, 0)) := by rw [← hwa]; exact heap_alloc_old _ _ _ _ (heap_alloc_old _ _ _ _ (heap_alloc_new _ _))
  have q1 : wa.heap[w.heap.size + 1]? = some (.cells #[.int .i64 k2, S n2, .int .i64 p2, .slice A2 us2.length c2] 39 (0, 0)) := by rw [← hwa]; exact heap_alloc_old _ _ _ _ (hn _ _ _ (by simp))
  have q2 : wa.heap[w.heap.size + 1 + 1]? = some (.cells #[.int .i64 0, S [], .int .i64 0, .slice none 0 0] 39 (0, 0)) := by rw [← hwa]; exact hn _ _ _ (by simp)
  have ba : Below w.heap.size w wa := by rw [← hwa]; exact (((Below.refl _ _).alloc (Nat.le_refl _) _).alloc (by simp) _).alloc (by simp; omega) _
  have hsa := eq2 (show wa.heap.size = w.heap.size + 3 by rw [← hwa]; simp)
  obtain ⟨wb, hwb⟩ : ∃ wb, wa.alloc (.cells #[.int .i64 k1, S n1, .int .i64 p1, .slice A1 us1.length c1, .int .i64 k2, S n2, .int .i64 p2, .slice A2 us2.length c2] 39) = wb := ⟨_, rfl⟩
  have bb : Below wa.heap.size wa wb := by rw [← hwb]; exact (Below.refl _ _).alloc (Nat.le_refl _) _
  have qb : wb.heap[wa.heap.size]? = some (.cells #[.int .i64 k1, S n1, .int .i64 p1, .slice A1 us1.length c1, .int .i64 k2, S n2, .int .i64 p2, .slice A2 us2.length c2] 39 (0, 0)) := by rw [← hwb]; exact heap_alloc_new _ _
  obtain ⟨s1, s2, s3, s4, g1, g2, g3, g4, ⟨y0, y1, y2, y3⟩, ⟨f0, f1, f2, f3⟩, hq, ho⟩ := put4 ((bb.block _ (lt_of_block q2)).trans q2) (.int .i64 5) (S []) (.int .i64 p1) (.slice (some ⟨wa.heap.size, 0, none⟩) 2 2)
  obtain ⟨x0, x1, x2, x3⟩ := cells4 q0
  obtain ⟨z0, z1, z2, z3⟩ := cells4 q1
  have HQ := Lib.hid hq
  have HO := Lib.hid ho
  have QB := Lib.hid qb
  have BB := Lib.hid bb
  have BA := Lib.hid ba
  have T1 := Lib.hid t1
  have T2 := Lib.hid t2
  clear hq ho qb bb ba q0 q1 q2 t1 t2 h1 h2 hn
  go_enter Tryd.func57, Tryd.ntmps57
  go_upto_region 1 with fail
  clear hwa
  go_wp2_with fail
  refine bodyPost_ret (results_raw rfl _ _ _ _ _ _ _ rfl HQ.out) rfl ?_
  have hsb := BB.out.size
  have hs4 := HO.out.size
  have kp : ∀ b, b < w.heap.size → s4.heap[b]? = w.heap[b]? := fun b hb => (HO.out.block b (by omega) (fun e => by have := Option.some.inj e; omega)).trans ((BB.out.block b (by omega)).trans (BA.out.block b hb))
  refine ⟨⟨_, rfl, TreeVP.mk (ts := [.node k1 n1 p1 us1, .node k2 n2 p2 us2]) (by simp) (by simp) ?_⟩, Oth.below (BA.out.trans (BB.out.mono (by omega))) HO.out (by omega) (by omega)⟩
  exact treesAtP_two' (TreeP.keep (fun b _ hlt => kp b hlt) (by omega) (fun b _ hb => .inl hb) _ _ _ _ _ T1.out) (TreeP.keep (fun b _ hlt => kp b hlt) (by omega) (fun b _ hb => .inl hb) _ _ _ _ _ T2.out) (.inr (by omega)) (HO.out.heap QB.out (by omega))

set_option maxRecDepth 100000 in
set_option maxHeartbeats 4000000 in
theorem join_any (o a b : Lfc.Raw) (v1 v2 v3 : Value) (w : World) (q : Nat → Prop) (hsz : o.size ≤ 100000000) (h1 : TreeVP q w o v1) (h2 : TreeVP q w a v2) (h3 : TreeVP q w b v3) :
    Calls Tryd.prog 68 #[v1, v2, v3] w fun e w' => (∃ v', e = .returned v' ∧ TreeVP (fun b => q b ∨ w.heap.size ≤ b) w' (Lfc.joinT o a b) v') ∧ Below w.heap.size w w' := by
  obtain ⟨k1, n1, p1, us1, A1, c1, rfl, rfl, t1⟩ := h1.parts4
  obtain ⟨k2, n2, p2, us2, A2, c2, rfl, rfl, t2⟩ := h2.parts4
  obtain ⟨k3, n3, p3, us3, A3, c3, rfl, rfl, t3⟩ := h3.parts4
  obtain ⟨wa, hwa⟩ : ∃ wa, (((w.alloc (.cells #[.int .i64 k1, S n1, .int .i64 p1, .slice A1 us1.length c1] 39)).alloc (.cells #[.int .i64 k2, S n2, .int .i64 p2, .slice A2 us2.length c2] 39)).alloc (.cells #[.int .i64 k3, S n3, .int .i64 p3, .slice A3 us3.length c3] 39)).alloc (.cells #[.int .i64 0, S [], .int .i64 0, .slice none 0 0] 39) = wa := ⟨_, rfl⟩
  have hn := fun (W : World) (o : Obj) (k : Nat) (h : k = W.heap.size) => (h ▸ heap_alloc_new W o : (W.alloc o).heap[k]? = some o)
  have q1 : wa.heap[w.heap.size]? = some (.cells #[.int .i64 k1, S n1, .int .i64 p1, .slice A1 us1.length c1] 39 (0, 0)) := by rw [← hwa]; exact heap_alloc_old _ _ _ _ (heap_alloc_old _ _ _ _ (heap_alloc_old _ _ _ _ (heap_alloc_new _ _)))
  have q2 : wa.heap[w.heap.size + 1]? = some (.cells #[.int .i64 k2, S n2, .int .i64 p2, .slice A2 us2.length c2] 39 (0, 0)) := by rw [← hwa]; exact heap_alloc_old _ _ _ _ (heap_alloc_old _ _ _ _ (hn _ _ _ (by simp)))
  have q3 : wa.heap[w.heap.size + 1 + 1]? = some (.cells #[.int .i64 k3, S n3, .int .i64 p3, .slice A3 us3.length c3] 39 (0, 0)) := by rw [← hwa]; exact heap_alloc_old _ _ _ _ (hn _ _ _ (by simp))
  have q4 : wa.heap[w.heap.size + 1 + 1 + 1]? = some (.cells #[.int .i64 0, S [], .int .i64 0, .slice none 0 0] 39 (0, 0)) := by rw [← hwa]; exact hn _ _ _ (by simp)
  have ba : Below w.heap.size w wa := by rw [← hwa]; exact ((((Below.refl _ _).alloc (Nat.le_refl _) _).alloc (by simp) _).alloc (by simp; omega) _).alloc (by simp; omega) _
  have hsa := eq2 (show wa.heap.size = w.heap.size + 4 by rw [← hwa]; simp)
  obtain ⟨x0, x1, x2, x3⟩ := cells4 q1
  obtain ⟨z0, z1, z2, z3⟩ := cells4 q2
  obtain ⟨u0, u1, u2, u3⟩ := cells4 q3
  have Q1 := Lib.hid q1
  have Q2 := Lib.hid q2
  have Q3 := Lib.hid q3
  have Q4 := Lib.hid q4
  have BA := Lib.hid ba
  have T1 := Lib.hid t1
  have T2 := Lib.hid t2
  have T3 := Lib.hid t3
  clear q1 q2 q3 q4 ba t1 t2 t3 h1 h2 h3 hn
  by_cases hr : n1 = [45, 62]
  · subst hr
    obtain ⟨wb, hwb⟩ : ∃ wb, wa.alloc (.cells #[.int .i64 k2, S n2, .int .i64 p2, .slice A2 us2.length c2, .int .i64 k3, S n3, .int .i64 p3, .slice A3 us3.length c3] 39) = wb := ⟨_, rfl⟩
    have bb : Below wa.heap.size wa wb := by rw [← hwb]; exact (Below.refl _ _).alloc (Nat.le_refl _) _
    have qb : wb.heap[wa.heap.size]? = some (.cells #[.int .i64 k2, S n2, .int .i64 p2, .slice A2 us2.length c2, .int .i64 k3, S n3, .int .i64 p3, .slice A3 us3.length c3] 39 (0, 0)) := by rw [← hwb]; exact heap_alloc_new _ _
    obtain ⟨s1, s2, s3, s4, g1, g2, g3, g4, ⟨y0, y1, y2, y3⟩, ⟨f0, f1, f2, f3⟩, hq, ho⟩ := put4 ((bb.block _ (lt_of_block Q4.out)).trans Q4.out) (.int .i64 6) (S []) (.int .i64 p1) (.slice (some ⟨wa.heap.size, 0, none⟩) 2 2)
    have HQ := Lib.hid hq
    have HO := Lib.hid ho
    have QB := Lib.hid qb
    have BB := Lib.hid bb
    clear hq ho qb bb
    go_enter Tryd.func68, Tryd.ntmps68
    go_upto_region 1 with fail
    clear hwa
    go_wp2_with fail
    refine bodyPost_ret (results_raw rfl _ _ _ _ _ _ _ rfl HQ.out) rfl ?_
    have hsb := BB.out.size
    have hs4 := HO.out.size
    have kp : ∀ b, b < w.heap.size → s4.heap[b]? = w.heap[b]? := fun b hb => (HO.out.block b (by omega) (fun e => by have := Option.some.inj e; omega)).trans ((BB.out.block b (by omega)).trans (BA.out.block b hb))
    refine ⟨⟨_, rfl, ?_⟩, Oth.below (BA.out.trans (BB.out.mono (by omega))) HO.out (by omega) (by omega)⟩
    rw [show Lfc.joinT (.node k1 [45, 62] p1 us1) (.node k2 n2 p2 us2) (.node k3 n3 p3 us3) = .node 6 [] p1 [.node k2 n2 p2 us2, .node k3 n3 p3 us3] from rfl]
    refine TreeVP.mk (ts := [.node k2 n2 p2 us2, .node k3 n3 p3 us3]) (by simp) (by simp) ?_
    exact treesAtP_two' (TreeP.keep (fun b _ hlt => kp b hlt) (by omega) (fun b _ hb => .inl hb) _ _ _ _ _ T2.out) (TreeP.keep (fun b _ hlt => kp b hlt) (by omega) (fun b _ hb => .inl hb) _ _ _ _ _ T3.out) (.inr (by omega)) (HO.out.heap QB.out (by omega))
  by_cases hl : n1 = [60, 45]
  · subst hl
    obtain ⟨wb, hwb⟩ : ∃ wb, wa.alloc (.cells #[.int .i64 k3, S n3, .int .i64 p3, .slice A3 us3.length c3, .int .i64 k2, S n2, .int .i64 p2, .slice A2 us2.length c2] 39) = wb := ⟨_, rfl⟩
    have bb : Below wa.heap.size wa wb := by rw [← hwb]; exact (Below.refl _ _).alloc (Nat.le_refl _) _
    have qb : wb.heap[wa.heap.size]? = some (.cells #[.int .i64 k3, S n3, .int .i64 p3, .slice A3 us3.length c3, .int .i64 k2, S n2, .int .i64 p2, .slice A2 us2.length c2] 39 (0, 0)) := by rw [← hwb]; exact heap_alloc_new _ _
    obtain ⟨s1, s2, s3, s4, g1, g2, g3, g4, ⟨y0, y1, y2, y3⟩, ⟨f0, f1, f2, f3⟩, hq, ho⟩ := put4 ((bb.block _ (lt_of_block Q4.out)).trans Q4.out) (.int .i64 6) (S []) (.int .i64 p1) (.slice (some ⟨wa.heap.size, 0, none⟩) 2 2)
    have HQ := Lib.hid hq
    have HO := Lib.hid ho
    have QB := Lib.hid qb
    have BB := Lib.hid bb
    clear hq ho qb bb
    go_enter Tryd.func68, Tryd.ntmps68
    go_upto_region 1 with fail
    clear hwa
    go_wp2_with fail
    refine bodyPost_ret (results_raw rfl _ _ _ _ _ _ _ rfl HQ.out) rfl ?_
    have hsb := BB.out.size
    have hs4 := HO.out.size
    have kp : ∀ b, b < w.heap.size → s4.heap[b]? = w.heap[b]? := fun b hb => (HO.out.block b (by omega) (fun e => by have := Option.some.inj e; omega)).trans ((BB.out.block b (by omega)).trans (BA.out.block b hb))
    refine ⟨⟨_, rfl, ?_⟩, Oth.below (BA.out.trans (BB.out.mono (by omega))) HO.out (by omega) (by omega)⟩
    rw [show Lfc.joinT (.node k1 [60, 45] p1 us1) (.node k2 n2 p2 us2) (.node k3 n3 p3 us3) = .node 6 [] p1 [.node k3 n3 p3 us3, .node k2 n2 p2 us2] from rfl]
    refine TreeVP.mk (ts := [.node k3 n3 p3 us3, .node k2 n2 p2 us2]) (by simp) (by simp) ?_
    exact treesAtP_two' (TreeP.keep (fun b _ hlt => kp b hlt) (by omega) (fun b _ hb => .inl hb) _ _ _ _ _ T3.out) (TreeP.keep (fun b _ hlt => kp b hlt) (by omega) (fun b _ hb => .inl hb) _ _ _ _ _ T2.out) (.inr (by omega)) (HO.out.heap QB.out (by omega))
  have hr2 : (n1 == [45, 62]) = false := by simpa using hr
  have hl2 : (n1 == [60, 45]) = false := by simpa using hl
  have HJ : Hid (Lfc.joinT (.node k1 n1 p1 us1) (.node k2 n2 p2 us2) (.node k3 n3 p3 us3) = Lfc.appT (Lfc.appT (.node k1 n1 p1 us1) (.node k2 n2 p2 us2)) (.node k3 n3 p3 us3)) := Lib.hid (by
    unfold Lfc.joinT
    rw [if_neg (show ¬ (Lfc.Raw.node k1 n1 p1 us1).name = Lfc.arrR from hr), if_neg (show ¬ (Lfc.Raw.node k1 n1 p1 us1).name = Lfc.arrL from hl)])
  have P : ∀ W, Below wa.heap.size wa W → ∀ t v0 v1 v2 v3, TreeP q w t v0 v1 v2 v3 → TreeP (fun b => (q b ∧ b < w.heap.size) ∨ wa.heap.size ≤ b) W t v0 v1 v2 v3 := fun W hb t v0 v1 v2 v3 ht =>
    TreeP.keep (fun b _ hlt => (hb.block b (by omega)).trans (BA.out.block b hlt)) (by have := hb.size; omega) (fun b hlt hb => .inl ⟨hb, hlt⟩) _ _ _ _ _ ht
  have K : ∀ (W W' : World) (t : Lfc.Raw) (v : Value) (c : Nat), wa.heap.size ≤ c → Below W.heap.size W W' → TreeVP (fun b => ((q b ∧ b < w.heap.size) ∨ wa.heap.size ≤ b) ∨ c ≤ b) W t v → TreeVP (fun b => (q b ∧ b < w.heap.size) ∨ wa.heap.size ≤ b) W' t v := fun W W' t v c hc hb ht => by
    obtain ⟨v0, v1, v2, v3, rfl, h⟩ := ht
    exact ⟨v0, v1, v2, v3, rfl, TreeP.keep (fun b _ hlt => hb.block b hlt) hb.size (fun b _ hb => by rcases hb with hb | hb; exact hb; exact .inr (by omega)) _ _ _ _ _ h⟩
  have F := Lib.hid (fun W (hb : Below wa.heap.size wa W) => show (W.cell? ⟨w.heap.size, 0, none⟩ = some (.int .i64 k1) ∧ W.cell? ⟨w.heap.size, 1, none⟩ = some (S n1) ∧ W.cell? ⟨w.heap.size, 2, none⟩ = some (.int .i64 p1) ∧ W.cell? ⟨w.heap.size, 3, none⟩ = some (.slice A1 us1.length c1)) ∧ (W.cell? ⟨w.heap.size + 1, 0, none⟩ = some (.int .i64 k2) ∧ W.cell? ⟨w.heap.size + 1, 1, none⟩ = some (S n2) ∧ W.cell? ⟨w.heap.size + 1, 2, none⟩ = some (.int .i64 p2) ∧ W.cell? ⟨w.heap.size + 1, 3, none⟩ = some (.slice A2 us2.length c2)) ∧ (W.cell? ⟨w.heap.size + 1 + 1, 0, none⟩ = some (.int .i64 k3) ∧ W.cell? ⟨w.heap.size + 1 + 1, 1, none⟩ = some (S n3) ∧ W.cell? ⟨w.heap.size + 1 + 1, 2, none⟩ = some (.int .i64 p3) ∧ W.cell? ⟨w.heap.size + 1 + 1, 3, none⟩ = some (.slice A3 us3.length c3)) from ⟨cells4 ((hb.block _ (lt_of_block Q1.out)).trans Q1.out), cells4 ((hb.block _ (lt_of_block Q2.out)).trans Q2.out), cells4 ((hb.block _ (lt_of_block Q3.out)).trans Q3.out)⟩)
  have G0 : Below wa.heap.size wa wa.drew := (Below.refl _ _).drew
  have aa : ∀ W W', Below wa.heap.size wa W → Below W.heap.size W W' → Below wa.heap.size wa W' := fun W W' h h' => h.trans (h'.mono h.size)
  have PP := Lib.hid P
  have KK := Lib.hid K
  clear P K hr hl
  rw [HJ.out]
  go_enter Tryd.func68, Tryd.ntmps68
  go_upto_region 1 with fail
  clear hwa
  go_wp2_with fail
  go_region_held3 (fun W => (W.cell? ⟨w.heap.size, 0, none⟩ = some (.int .i64 k1) ∧ W.cell? ⟨w.heap.size, 1, none⟩ = some (S n1) ∧ W.cell? ⟨w.heap.size, 2, none⟩ = some (.int .i64 p1) ∧ W.cell? ⟨w.heap.size, 3, none⟩ = some (.slice A1 us1.length c1)) ∧ (W.cell? ⟨w.heap.size + 1, 0, none⟩ = some (.int .i64 k2) ∧ W.cell? ⟨w.heap.size + 1, 1, none⟩ = some (S n2) ∧ W.cell? ⟨w.heap.size + 1, 2, none⟩ = some (.int .i64 p2) ∧ W.cell? ⟨w.heap.size + 1, 3, none⟩ = some (.slice A2 us2.length c2)) ∧ (W.cell? ⟨w.heap.size + 1 + 1, 0, none⟩ = some (.int .i64 k3) ∧ W.cell? ⟨w.heap.size + 1 + 1, 1, none⟩ = some (S n3) ∧ W.cell? ⟨w.heap.size + 1 + 1, 2, none⟩ = some (.int .i64 p3) ∧ W.cell? ⟨w.heap.size + 1 + 1, 3, none⟩ = some (.slice A3 us3.length c3)))
    (first | exact F.out _ G0 | exact F.out _ hb5 | exact F.out _ hb6 | exact F.out _ hb7 | exact ⟨cells4 (HO.out.heap ((hb7.block _ (lt_of_block Q1.out)).trans Q1.out) (by omega)), cells4 (HO.out.heap ((hb7.block _ (lt_of_block Q2.out)).trans Q2.out) (by omega)), cells4 (HO.out.heap ((hb7.block _ (lt_of_block Q3.out)).trans Q3.out) (by omega))⟩)
    (first
      | (go_at_call 31; refine (clone_any 100000000 (Nat.le_refl _) (.node k1 n1 p1 us1) _ _ _ hsz ⟨_, _, _, _, rfl, PP.out _ G0 _ _ _ _ _ T1.out⟩).mono ?_; rintro e w5 ⟨⟨v5, rfl, hv5⟩, hb5'⟩; have hb5 := aa _ _ G0 hb5'; have V5 := Lib.hid (KK.out w5 w5 _ _ _ G0.size (Below.refl _ _) hv5); clear hv5)
      | (go_at_call 53; refine (apply_any _ (.node k2 n2 p2 us2) _ _ w5 _ V5.out ⟨_, _, _, _, rfl, PP.out _ hb5 _ _ _ _ _ T2.out⟩).mono ?_; rintro e w6 ⟨⟨v6, rfl, hv6⟩, hb6'⟩; have hb6 := aa _ _ hb5 hb6'; have V6 := Lib.hid (KK.out w6 w6 _ _ _ hb5.size (Below.refl _ _) hv6); clear hv6)
      | (go_at_call 53; refine (apply_any _ (.node k3 n3 p3 us3) _ _ w6 _ V6.out ⟨_, _, _, _, rfl, PP.out _ hb6 _ _ _ _ _ T3.out⟩).mono ?_; rintro e w7 ⟨⟨v7, rfl, hv7⟩, hb7'⟩; have hb7 := aa _ _ hb6 hb7'; obtain ⟨k7, n7, p7, us7, A7, c7, ht7, rfl, hp7⟩ := hv7.parts4; have V7 := Lib.hid (And.intro ht7 hp7); obtain ⟨s1, s2, s3, s4, g1, g2, g3, g4, ⟨y0, y1, y2, y3⟩, ⟨f0, f1, f2, f3⟩, hq, ho⟩ := put4 ((hb7.block _ (lt_of_block Q4.out)).trans Q4.out) (.int .i64 k7) (S n7) (.int .i64 p7) (.slice A7 us7.length c7); have HO := Lib.hid ho; have HQ := Lib.hid hq; clear hv7 hp7 ht7 hq ho))
  all_goals
    go_wp2_with fail
    refine bodyPost_ret (results_raw rfl _ _ _ _ _ _ _ rfl HQ.out) rfl ?_
    have hs7 := hb7.size
    have hs6 := hb6.size
    have hs4 := HO.out.size
    refine ⟨⟨_, rfl, _, _, _, _, rfl, ?_⟩, Oth.below (BA.out.trans (hb7.mono (by omega))) HO.out (by omega) (by omega)⟩
    refine TreeP.keep (fun b hb hlt => HO.out.block b hlt (fun e => by have := Option.some.inj e; rcases hb with (hb | hb) | hb <;> omega)) hs4 (fun b _ hb => by rcases hb with (hb | hb) | hb; exact .inl hb.1; exact .inr (by omega); exact .inr (by omega)) _ _ _ _ _ V7.out.2
end Go.Proofs.YtkhfnkokdmoipaaDoor

/- The resolver's unary. -/
set_option linter.unusedVariables false
set_option linter.unusedSimpArgs false
namespace Go.Proofs.YtkhfnkokdmoipaaDoor
open Go.RowKit Go.Maps Go.WideMaps

/-- A part is resolved. -/
def ResOk (F : Prop) (w0 w : World) (Rb Mb : Nat) (t : Lfc.Raw) (e : Ending) (w' : World) : Prop :=
  ∃ v, e = .returned (.tuple #[v, .bool true]) ∧ TreeVP (fun b => (b < w0.heap.size ∧ F) ∨ w.heap.size ≤ b) w' t v ∧ Oth Rb w w' ∧ ∃ bad : Int, w'.heap[Rb]? = some (.cells #[.map (some Mb), .int .i64 bad] 68 (0, 0))
/-- A part is refused. -/
def ResErr (w : World) (Rb Mb : Nat) (k : Int) (e : Ending) (w' : World) : Prop :=
  e = .returned (.tuple #[.agg #[.int .i64 0, S [], .int .i64 0, .slice none 0 0], .bool false]) ∧ Oth Rb w w' ∧ w'.heap[Rb]? = some (.cells #[.map (some Mb), .int .i64 k] 68 (0, 0))
def ResPost (F : Prop) (w0 w : World) (Rb Mb : Nat) (r : Except Int Lfc.Raw) (e : Ending) (w' : World) : Prop :=
  match r with
  | .ok t => ResOk F w0 w Rb Mb t e w'
  | .error k => ResErr w Rb Mb k e w'
/-- Operands whose trees are not too large. -/
def Small (F : Prop) (s : List Lfc.Opd) : Prop := ∀ x ∈ s, x.tree.size ≤ 100000000 ∧ (x.tree.args = [] ∨ F)
theorem TreeV.leafP {q : Nat → Prop} {w : World} {k p : Int} {n : List UInt8} {v : Value} (h : TreeV w (.node k n p []) v) : TreeVP q w (.node k n p []) v := by
  obtain ⟨v0, v1, v2, v3, e, hp⟩ := TreeV.toP (q := fun _ => True) (fun _ _ => trivial) h
  refine ⟨v0, v1, v2, v3, e, ?_⟩
  rw [TreeP] at hp ⊢
  obtain ⟨h0, h1, hn, h2, A, c, h3, h4, _⟩ := hp
  exact ⟨h0, h1, hn, h2, A, c, h3, h4, fun hne => absurd rfl hne⟩
/-- F: the operands' trees may have blocks of their own. -/
theorem TreeV.toF {F : Prop} {w : World} {k p : Int} {n : List UInt8} {ts : List Lfc.Raw} {v : Value} (hF : ts = [] ∨ F) (h : TreeV w (.node k n p ts) v) : TreeVP (fun b => b < w.heap.size ∧ F) w (.node k n p ts) v := by
  rcases hF with rfl | hF
  · exact h.leafP
  · exact TreeV.toP (fun b hb => ⟨hb, hF⟩) h
def ResUpto (F : Prop) (w0 : World) (Rb Mb : Nat) (l : List Lfc.Op) (m : Nat) : Prop := ∀ (s : List Lfc.Opd) (A : Option Addr) (c : Nat) (w : World), s.length ≤ m → s.length ≤ 1000000 → s.length ≤ c → Small F s → OpdsAt w0 A s → EnvR w0 Rb Mb l w →
    Calls Tryd.prog 32 #[.pointer (some ⟨Rb, 0, none⟩), .slice A s.length c] w (ResPost F w0 w Rb Mb (Lfc.resP l m s))
theorem lt_of_cell' {w : World} {a : Addr} {v : Value} (h : w.cell? a = some v) : a.block < w.heap.size := by
  rcases Nat.lt_or_ge a.block w.heap.size with h1 | h1
  · exact h1
  · unfold World.cell? at h
    rw [Array.getElem?_eq_none h1] at h
    cases h
theorem oth_fin {w w1 w2 s4 : World} {Rb R : Nat} (h1 : Oth Rb w w1) (h2 : Below w1.heap.size w1 w2) (ho : Oth R w2 s4) (hR : w.heap.size ≤ R) (hRb : Rb < w.heap.size) {o : Obj} (hc : w1.heap[Rb]? = some o) : Oth Rb w s4 ∧ s4.heap[Rb]? = some o := by
  have hs := h1.size
  have hs2 := h2.size
  refine ⟨h1.of_new ?_, ho.heap ((h2.block _ (lt_of_block hc)).trans hc) (by omega)⟩
  exact Oth.below (h2.mono hs) ho hR (by omega)

set_option maxRecDepth 100000 in
set_option maxHeartbeats 4000000 in
theorem unary_any (F : Prop) (w0 : World) (Rb Mb : Nat) (l : List Lfc.Op) (m : Nat) (ih : ResUpto F w0 Rb Mb l m) (x : Lfc.Opd) (v : Value) (rest : List Lfc.Opd) (A : Option Addr) (c : Nat) (there : Bool) (w : World) (hx : x.tree.size ≤ 100000000 ∧ (x.tree.args = [] ∨ F)) (hv : OpdV w0 x v) (hm : rest.length ≤ m) (hl : rest.length ≤ 1000000) (hc : rest.length ≤ c) (hsm : Small F rest) (hr : OpdsAt w0 A rest) (h : EnvR w0 Rb Mb l w) :
    Calls Tryd.prog 54 #[.pointer (some ⟨Rb, 0, none⟩), v, .slice A rest.length c, .bool there] w (ResPost F w0 w Rb Mb (Lfc.unT (Lfc.resP l m) x.tree rest there)) := by
  obtain ⟨⟨k, n, p, ts⟩, cl⟩ := x
  obtain ⟨k', n', p', ts', B, cc, e, rfl, hT⟩ := hv
  cases e
  obtain ⟨hx, hF⟩ := hx
  obtain ⟨wa, hwa⟩ : ∃ wa, (w.alloc (.cells #[.int .i64 k, S n, .int .i64 p, .slice B ts.length cc, .bool cl] 42)).alloc (.cells #[.int .i64 0, S [], .int .i64 0, .slice none 0 0] 39) = wa := ⟨_, rfl⟩
  have ba : Below w.heap.size w wa := by rw [← hwa]; exact ((Below.refl _ _).alloc (Nat.le_refl _) _).alloc (by simp) _
  have qo : wa.heap[w.heap.size]? = some (.cells #[.int .i64 k, S n, .int .i64 p, .slice B ts.length cc, .bool cl] 42 (0, 0)) := by rw [← hwa]; exact heap_alloc_old _ _ _ _ (heap_alloc_new _ _)
  have qr : wa.heap[w.heap.size + 1]? = some (.cells #[.int .i64 0, S [], .int .i64 0, .slice none 0 0] 39 (0, 0)) := by
    rw [← hwa]
    have := heap_alloc_new (w.alloc (.cells #[.int .i64 k, S n, .int .i64 p, .slice B ts.length cc, .bool cl] 42)) (.cells #[.int .i64 0, S [], .int .i64 0, .slice none 0 0] 39)
    simpa using this
  have hsa := eq2 (show wa.heap.size = w.heap.size + 2 by rw [← hwa]; simp)
  have HE := Lib.hid (h.new ba)
  have hrb := h.lt
  have hrge := h.rge
  have hs0 := h.bel.size
  have BA := Lib.hid ba
  have QR := Lib.hid qr
  have QO := Lib.hid qo
  have HT := Lib.hid (TreeV.toF (F := F) hF hT)
  simp only at hx ⊢
  clear hT h ba qo qr hF
  cases there
  · have CF := Lib.hid (fail_any w0 Rb Mb l 21 wa HE.out)
    rw [show Lfc.unT (Lfc.resP l m) (.node k n p ts) rest false = .error 21 from rfl]
    unfold ResPost ResErr
    simp only
    clear ih
    go_enter Tryd.func54, Tryd.ntmps54
    go_upto_region 1 with fail
    clear hwa
    go_wp2_with fail
    refine CF.out.mono ?_
    rintro e w1 ⟨rfl, hc1, o1⟩
    obtain ⟨s1, s2, s3, s4, g1, g2, g3, g4, ⟨y0, y1, y2, y3⟩, ⟨f0, f1, f2, f3⟩, hq, ho⟩ := put4 (o1.heap QR.out (by omega)) (.int .i64 0) (S []) (.int .i64 0) (.slice none 0 0)
    have HF := Lib.hid (oth_fin ((Oth.of_below BA.out).trans o1) (Below.refl _ _) ho (by omega) hrb hc1)
    have HQ := Lib.hid hq
    clear hq ho hc1 o1
    go_wp2_with fail
    refine bodyPost_ret (results_raw2 rfl _ _ _ _ _ _ _ rfl HQ.out) rfl ?_
    exact ⟨rfl, HF.out.1, HF.out.2⟩
  · have CR := Lib.hid (ih rest A c wa hm hl hc hsm hr HE.out)
    have hun : Lfc.unT (Lfc.resP l m) (.node k n p ts) rest true = (match Lfc.resP l m rest with | .error e => .error e | .ok t => .ok (Lfc.appT (.node k n p ts) t)) := rfl
    rw [hun]
    clear hun ih hr hsm
    cases hres : Lfc.resP l m rest with
    | error kk =>
      rw [hres] at CR
      simp only
      unfold ResPost ResErr at CR ⊢
      simp only at CR ⊢
      clear hres
      go_enter Tryd.func54, Tryd.ntmps54
      go_upto_region 1 with fail
      clear hwa
      go_wp2_with fail
      refine CR.out.mono ?_
      rintro e w1 ⟨rfl, o1, hc1⟩
      have hs1 := o1.size
      obtain ⟨w2, hw2⟩ : ∃ w2, w1.alloc (.cells #[.int .i64 0, S [], .int .i64 0, .slice none 0 0] 39) = w2 := ⟨_, rfl⟩
      have b2 : Below w1.heap.size w1 w2 := by rw [← hw2]; exact (Below.refl _ _).alloc (Nat.le_refl _) _
      have q2 : w2.heap[w1.heap.size]? = some (.cells #[.int .i64 0, S [], .int .i64 0, .slice none 0 0] 39 (0, 0)) := by rw [← hw2]; exact heap_alloc_new _ _
      have qr1 := o1.heap QR.out (by omega)
      obtain ⟨s1, s2, s3, s4, g1, g2, g3, g4, ⟨y0, y1, y2, y3⟩, ⟨f0, f1, f2, f3⟩, hq, ho⟩ := put4 ((b2.block _ (lt_of_block qr1)).trans qr1) (.int .i64 0) (S []) (.int .i64 0) (.slice none 0 0)
      obtain ⟨x0, x1, x2, x3⟩ := cells4 q2
      have HF := Lib.hid (oth_fin ((Oth.of_below BA.out).trans o1) b2 ho (by omega) hrb hc1)
      have HQ := Lib.hid hq
      have HW2 := Lib.hid hw2
      clear hq ho hc1 o1 b2 q2 qr1 hw2
      go_upto_region 4 with fail
      rw [HW2.out]
      go_wp2_with fail
      refine bodyPost_ret (results_raw2 rfl _ _ _ _ _ _ _ rfl HQ.out) rfl ?_
      exact ⟨rfl, HF.out.1, HF.out.2⟩
    | ok t =>
      rw [hres] at CR
      simp only
      unfold ResPost ResOk at CR ⊢
      simp only at CR ⊢
      clear hres
      go_enter Tryd.func54, Tryd.ntmps54
      go_upto_region 1 with fail
      clear hwa
      go_wp2_with fail
      refine CR.out.mono ?_
      rintro e w1 ⟨v1, rfl, ht1, o1, bad, hc1⟩
      obtain ⟨k1, n1, p1, us1, A1, c1, e1, rfl, tp1⟩ := ht1.parts4
      subst e1
      have hs1 := o1.size
      obtain ⟨w2, hw2⟩ : ∃ w2, w1.alloc (.cells #[.int .i64 k1, S n1, .int .i64 p1, .slice A1 us1.length c1] 39) = w2 := ⟨_, rfl⟩
      have b2 : Below w1.heap.size w1 w2 := by rw [← hw2]; exact (Below.refl _ _).alloc (Nat.le_refl _) _
      have q2 : w2.heap[w1.heap.size]? = some (.cells #[.int .i64 k1, S n1, .int .i64 p1, .slice A1 us1.length c1] 39 (0, 0)) := by rw [← hw2]; exact heap_alloc_new _ _
      have hs2 := b2.size
      have E1 := HE.out.oth o1 hc1
      have bel2 : Below w0.heap.size w0 w2 := E1.bel.trans (b2.mono E1.bel.size)
      have QR2 := Lib.hid ((b2.block _ (by omega)).trans (o1.heap QR.out (by omega)))
      have QO2 := Lib.hid ((b2.block _ (by omega)).trans (o1.heap QO.out (by omega)))
      have HT2 : Hid (TreeVP (fun b => (b < w0.heap.size ∧ F) ∨ wa.heap.size ≤ b) w2 (.node k n p ts) (.agg #[.int .i64 k, S n, .int .i64 p, .slice B ts.length cc])) := by
        obtain ⟨v0, v1, v2, v3, e, hp⟩ := HT.out
        exact Lib.hid ⟨v0, v1, v2, v3, e, TreeP.keep (fun b hb _ => bel2.block b hb.1) bel2.size (fun b _ hb => .inl hb) _ _ _ _ _ hp⟩
      have HU2 : Hid (TreeVP (fun b => (b < w0.heap.size ∧ F) ∨ wa.heap.size ≤ b) w2 (.node k1 n1 p1 us1) (.agg #[.int .i64 k1, S n1, .int .i64 p1, .slice A1 us1.length c1])) :=
        Lib.hid ⟨_, _, _, _, rfl, TreeP.keep (fun b _ hlt => b2.block b hlt) b2.size (fun b _ hb => hb) _ _ _ _ _ tp1⟩
      have FC : Hid (∀ W, Below w2.heap.size w2 W → (W.cell? ⟨w.heap.size, 0, none⟩ = some (.int .i64 k) ∧ W.cell? ⟨w.heap.size, 1, none⟩ = some (S n) ∧ W.cell? ⟨w.heap.size, 2, none⟩ = some (.int .i64 p) ∧ W.cell? ⟨w.heap.size, 3, none⟩ = some (.slice B ts.length cc)) ∧ (W.cell? ⟨w1.heap.size, 0, none⟩ = some (.int .i64 k1) ∧ W.cell? ⟨w1.heap.size, 1, none⟩ = some (S n1) ∧ W.cell? ⟨w1.heap.size, 2, none⟩ = some (.int .i64 p1) ∧ W.cell? ⟨w1.heap.size, 3, none⟩ = some (.slice A1 us1.length c1))) := Lib.hid (fun W hb => by
        have e := (hb.block _ (lt_of_block QO2.out)).trans QO2.out
        exact ⟨⟨Lib.cell_of_heap e 0, Lib.cell_of_heap e 1, Lib.cell_of_heap e 2, Lib.cell_of_heap e 3⟩, cells4 ((hb.block _ (lt_of_block q2)).trans q2)⟩)
      have OW := Lib.hid ((Oth.of_below BA.out).trans o1)
      have HC1 := Lib.hid hc1
      have B2 := Lib.hid b2
      have HW2 := Lib.hid hw2
      have G0 : Below w2.heap.size w2 w2.drew := (Below.refl _ _).drew
      have aa : ∀ W W', Below w2.heap.size w2 W → Below W.heap.size W W' → Below w2.heap.size w2 W' := fun W W' h h' => h.trans (h'.mono h.size)
      have kp : Hid (∀ W W' t v c, wa.heap.size ≤ c → Below W.heap.size W W' → TreeVP (fun b => ((b < w0.heap.size ∧ F) ∨ wa.heap.size ≤ b) ∨ c ≤ b) W t v → TreeVP (fun b => (b < w0.heap.size ∧ F) ∨ wa.heap.size ≤ b) W' t v) := Lib.hid (fun W W' t v c hc hb ht => by
        obtain ⟨v0, v1, v2, v3, rfl, h⟩ := ht
        exact ⟨v0, v1, v2, v3, rfl, TreeP.keep (fun b _ hlt => hb.block b hlt) hb.size (fun b _ hb => by rcases hb with hb | hb; exact hb; exact .inr (by omega)) _ _ _ _ _ h⟩)
      have kp0 : Hid (∀ W' t v, Below w2.heap.size w2 W' → TreeVP (fun b => (b < w0.heap.size ∧ F) ∨ wa.heap.size ≤ b) w2 t v → TreeVP (fun b => (b < w0.heap.size ∧ F) ∨ wa.heap.size ≤ b) W' t v) := Lib.hid (fun W' t v hb ht => by
        obtain ⟨v0, v1, v2, v3, rfl, h⟩ := ht
        exact ⟨v0, v1, v2, v3, rfl, TreeP.keep (fun b _ hlt => hb.block b hlt) hb.size (fun b _ hb => hb) _ _ _ _ _ h⟩)
      clear hc1 o1 b2 q2 hw2 E1 bel2 ht1 tp1
      go_upto_region 4 with fail
      rw [HW2.out]
      go_wp2_with fail
      go_region_held3 (fun W => (W.cell? ⟨w.heap.size, 0, none⟩ = some (.int .i64 k) ∧ W.cell? ⟨w.heap.size, 1, none⟩ = some (S n) ∧ W.cell? ⟨w.heap.size, 2, none⟩ = some (.int .i64 p) ∧ W.cell? ⟨w.heap.size, 3, none⟩ = some (.slice B ts.length cc)) ∧ (W.cell? ⟨w1.heap.size, 0, none⟩ = some (.int .i64 k1) ∧ W.cell? ⟨w1.heap.size, 1, none⟩ = some (S n1) ∧ W.cell? ⟨w1.heap.size, 2, none⟩ = some (.int .i64 p1) ∧ W.cell? ⟨w1.heap.size, 3, none⟩ = some (.slice A1 us1.length c1)))
        (first | exact FC.out _ G0 | exact FC.out _ hb5 | exact FC.out _ hb6 | exact FS)
        (first
          | (go_at_call 31; refine (clone_any 100000000 (Nat.le_refl _) (.node k n p ts) _ _ _ hx (kp0.out _ _ _ G0 HT2.out)).mono ?_; rintro e w5 ⟨⟨v5, rfl, hv5⟩, hb5'⟩; have hb5 := aa _ _ G0 hb5'; have V5 := Lib.hid (kp.out w5 w5 _ _ _ (by have := G0.size; omega) (Below.refl _ _) hv5); clear hv5)
          | (go_at_call 53; refine (apply_any _ (.node k1 n1 p1 us1) _ _ w5 _ V5.out (kp0.out _ _ _ hb5 HU2.out)).mono ?_; rintro e w6 ⟨⟨v6, rfl, hv6⟩, hb6'⟩; have hb6 := aa _ _ hb5 hb6'; obtain ⟨k7, n7, p7, us7, A7, c7, ht7, rfl, hp7⟩ := hv6.parts4; have V7 := Lib.hid (And.intro ht7 hp7); obtain ⟨s1, s2, s3, s4, g1, g2, g3, g4, ⟨y0, y1, y2, y3⟩, ⟨f0, f1, f2, f3⟩, hq, ho⟩ := put4 ((hb6.block _ (lt_of_block QR2.out)).trans QR2.out) (.int .i64 k7) (S n7) (.int .i64 p7) (.slice A7 us7.length c7); have FS := (show (s4.cell? ⟨w.heap.size, 0, none⟩ = some (.int .i64 k) ∧ s4.cell? ⟨w.heap.size, 1, none⟩ = some (S n) ∧ s4.cell? ⟨w.heap.size, 2, none⟩ = some (.int .i64 p) ∧ s4.cell? ⟨w.heap.size, 3, none⟩ = some (.slice B ts.length cc)) ∧ (s4.cell? ⟨w1.heap.size, 0, none⟩ = some (.int .i64 k1) ∧ s4.cell? ⟨w1.heap.size, 1, none⟩ = some (S n1) ∧ s4.cell? ⟨w1.heap.size, 2, none⟩ = some (.int .i64 p1) ∧ s4.cell? ⟨w1.heap.size, 3, none⟩ = some (.slice A1 us1.length c1)) from by
            have e6 := FC.out _ hb6
            have hz6 := hb6.size
            have hz2 := B2.out.size
            have cc1 : ∀ j, s4.cell? ⟨w.heap.size, j, none⟩ = w6.cell? ⟨w.heap.size, j, none⟩ := fun j => ho.cell (p := ⟨w.heap.size, j, none⟩) (by simp only; omega) (by simp only; omega)
            have cc2 : ∀ j, s4.cell? ⟨w1.heap.size, j, none⟩ = w6.cell? ⟨w1.heap.size, j, none⟩ := fun j => ho.cell (p := ⟨w1.heap.size, j, none⟩) (by have := lt_of_cell' (FC.out w2 (Below.refl _ _)).2.1; simp only at this ⊢; omega) (by simp only; omega)
            exact ⟨⟨(cc1 0).trans e6.1.1, (cc1 1).trans e6.1.2.1, (cc1 2).trans e6.1.2.2.1, (cc1 3).trans e6.1.2.2.2⟩, ⟨(cc2 0).trans e6.2.1, (cc2 1).trans e6.2.2.1, (cc2 2).trans e6.2.2.2.1, (cc2 3).trans e6.2.2.2.2⟩⟩); have HO := Lib.hid ho; have HQ := Lib.hid hq; clear hv6 hp7 ht7 hq ho))
      all_goals
        go_wp2_with fail
        refine bodyPost_ret (results_raw2 rfl _ _ _ _ _ _ _ rfl HQ.out) rfl ?_
        have hz5 := hb5.size
        have hz6 := hb6.size
        have hf := oth_fin OW.out (B2.out.trans (hb6.mono B2.out.size)) HO.out (by omega) hrb HC1.out
        refine ⟨_, rfl, ⟨_, _, _, _, rfl, ?_⟩, hf.1, _, hf.2⟩
        refine TreeP.keep (fun b hb hlt => HO.out.block b hlt (fun e => by have := Option.some.inj e; rcases hb with (hb | hb) | hb <;> omega)) HO.out.size (fun b _ hb => by rcases hb with (hb | hb) | hb; exact .inl hb; exact .inr (by omega); exact .inr (by omega)) _ _ _ _ _ V7.out.2
end Go.Proofs.YtkhfnkokdmoipaaDoor

/- The resolver's binary. -/
set_option linter.unusedVariables false
set_option linter.unusedSimpArgs false
namespace Lfc
def prep (p : List Raw) (r : Except Int (List Raw)) : Except Int (List Raw) :=
  match r with
  | .error e => .error e
  | .ok ts => .ok (p ++ ts)
theorem prep_nil (r : Except Int (List Raw)) : prep [] r = r := by cases r <;> rfl
theorem allOk_err {g : List Opd → Except Int Raw} {x : List Opd} {r : List (List Opd)} {k : Int} (h : g x = .error k) (p : List Raw) : prep p (allOk g (x :: r)) = .error k := by
  rw [allOk, h]; rfl
theorem allOk_ok {g : List Opd → Except Int Raw} {x : List Opd} {r : List (List Opd)} {t : Raw} (h : g x = .ok t) (p : List Raw) : prep p (allOk g (x :: r)) = prep (p ++ [t]) (allOk g r) := by
  rw [allOk, h]
  cases allOk g r <;> simp [prep]
end Lfc
namespace Go.Proofs.YtkhfnkokdmoipaaDoor
open Go.RowKit Go.Maps Go.WideMaps

/-- A slice of places. -/
def NatsAt (Rb : Nat) (w : World) (A : Option Addr) (l : List Nat) : Prop := ∃ b o, A = some ⟨b, o, none⟩ ∧ b < w.heap.size ∧ b ≠ Rb ∧ ∀ i (h : i < l.length), w.cell? ⟨b, o + i, none⟩ = some (.int .i64 (l[i] : Int))
theorem NatsAt.oth {Rb : Nat} {w w' : World} {A : Option Addr} {l : List Nat} (h : NatsAt Rb w A l) (ho : Oth Rb w w') : NatsAt Rb w' A l := by
  obtain ⟨b, o, hA, hb, hn, hc⟩ := h
  exact ⟨b, o, hA, Nat.lt_of_lt_of_le hb ho.size, hn, fun i hi => (ho.cell (p := ⟨b, _, none⟩) hb hn).trans (hc i hi)⟩
theorem NatsAt.of_own {Rb : Nat} {w : World} {base : Nat} {A : Option Addr} {c : Nat} {l : List Nat} (hne : 0 < l.length) (hRb : Rb < base) (h : w.ownsRow base 3 1 (.slice A l.length c) l.length (natCells l)) : NatsAt Rb w A l := by
  rcases h.2 with ⟨_, h0⟩ | ⟨g, cap, cur, hv, hbg, hg, _⟩
  · omega
  · have hv' := hv
    injection hv with e1 _ e3
    subst e1 e3
    refine ⟨g, 0, rfl, lt_of_block hg, by omega, fun i hi => ?_⟩
    rw [Nat.zero_add, h.cellAt i (by omega)]
    simp [natCells, hi]

set_option maxRecDepth 100000 in
set_option maxHeartbeats 2000000 in
theorem iclone_any (Rb : Nat) (l : List Nat) (A : Option Addr) (c : Nat) (w : World) (hl : l.length ≤ 1000000000) (h : NatsAt Rb w A l) :
    Calls Tryd.prog 67 #[.slice A l.length c] w fun e w' => ∃ A' c', e = .returned (.slice A' l.length c') ∧ Hid (w'.ownsRow w.heap.size 3 1 (.slice A' l.length c') l.length (natCells l)) ∧ Below w.heap.size w w' := by
  obtain ⟨i0, hi, hz0, hz1, hz2⟩ := info_int
  obtain ⟨b, o, rfl, hb, _, hc⟩ := h
  have hx : (natCells l).length = l.length * 1 := by simp [natCells]
  have hone : ∀ u ∈ natCells l, u.oneCell' = true := fun u hu => by
    simp [natCells] at hu
    obtain ⟨i, _, rfl⟩ := hu
    rfl
  have hlm : 0 + l.length ≤ maxLen := by unfold maxLen; omega
  have hl8 : (0 + l.length) * 8 ≤ 140737488355328 := by omega
  have hown0 : (w.alloc (.cells #[] 3)).ownsRow w.heap.size 3 1 (.slice (some ⟨w.heap.size, 0, none⟩) 0 0) 0 [] :=
    ⟨rfl, .inr ⟨w.heap.size, 0, #[], rfl, Nat.le_refl _, heap_alloc_new _ _, Nat.le_refl _, by unfold maxLen; omega, rfl, rfl⟩⟩
  have hc2 : ∀ j u, (natCells l)[j]? = some u → (w.alloc (.cells #[] 3)).cell? ((⟨b, o, none⟩ : Addr).add j) = some u := fun j u hj => by
    rw [Go.WideShapes.add_plain, World.cell?_of_block (Lib.alloc_old w _ _ hb)]
    have hjl : j < l.length := by
      rcases Nat.lt_or_ge j l.length with h1 | h1
      · exact h1
      · rw [List.getElem?_eq_none (by simp [natCells]; omega)] at hj; cases hj
    simp [natCells, hjl] at hj
    rw [hc j hjl, ← hj]
  have HOWN := Lib.hid hown0
  have HC2 := Lib.hid hc2
  have b1 : Below w.heap.size w (w.alloc (.cells #[] 3)) := (Below.refl _ _).alloc (Nat.le_refl _) _
  have hnil : ∀ W : World, (binOp .eql 22 (.slice (some ⟨b, o, none⟩) l.length c) (.slice none 0 0)).run Tryd.prog W = .ok (.bool false) W := fun _ => rfl
  clear hc hown0 hc2
  go_enter Tryd.func67, Tryd.ntmps67
  go_wp2_with (at_builtin; refine wpList_append_own_at _ rfl _ _ 22 rfl w.heap.size 3 i0 (.int .i64 0) 1 8 Tryd.underlying22 hi hz0 hz1 hz2 rfl (by decide) _ _ _ rfl HOWN.out ⟨b, o, none⟩ l.length c (natCells l) rfl hx HC2.out hone hlm hl8 (by simp) ?_)
  intro v' w2 hown2 hg2 _ _
  obtain ⟨A2, c2, rfl⟩ := own_form hown2
  have HO2 := Lib.hid hown2
  have b2 : Below w.heap.size w w2 := b1.grown hg2 (by simp) (own_block_ge HOWN.out)
  clear hown2 hg2
  go_wp2_with fail
  go_ret
  exact ⟨A2, c2, rfl, by simpa using HO2, b2⟩

/-- The loop of binary that resolves the parts. -/
structure BinI (F : Prop) (w0 w wa : World) (Rb Mb : Nat) (E : List Nat) (vE : Value) (parts : List Lfc.Raw) (vp : Value) (xs : List Value) (wr : World) : Prop where
  oth : Oth Rb wa wr
  env : ∃ bad : Int, wr.heap[Rb]? = some (.cells #[.map (some Mb), .int .i64 bad] 68 (0, 0))
  ends : wr.ownsRow wa.heap.size 3 1 vE E.length (natCells E)
  own : wr.ownsRow wa.heap.size 39 4 vp parts.length xs
  row : RowP (fun b => (b < w0.heap.size ∧ F) ∨ (wa.heap.size ≤ b ∧ some b ≠ vp.ownBlock)) wr parts xs
theorem rest_of {s : List Lfc.Opd} {E : List Nat} {b i : Nat} (h : i < E.length) : Lfc.segs s b (E.drop i) = (s.take E[i]).drop b :: Lfc.segs s (E[i] + 1) (E.drop (i + 1)) := by
  rw [List.drop_eq_getElem_cons h, Lfc.segs]

theorem own_types {w : World} {b b' : Nat} {e e' : TypeId} {k k' n n' : Nat} {v v' : Value} {xs xs' : List Value} (h : w.ownsRow b e k v n xs) (h' : w.ownsRow b' e' k' v' n' xs') (hne : e ≠ e') : v.ownBlock = none ∨ v.ownBlock ≠ v'.ownBlock := by
  rcases h.2 with ⟨rfl, _⟩ | ⟨g, cap, cur, rfl, _, hg, _⟩
  · exact .inl rfl
  · refine .inr ?_
    rcases h'.2 with ⟨rfl, _⟩ | ⟨g', cap', cur', rfl, _, hg', _⟩
    · simp [Value.ownBlock]
    · simp only [Value.ownBlock, ne_eq, Option.some.injEq]
      intro e1
      subst e1
      rw [hg] at hg'
      cases hg'
      exact hne rfl
theorem own_oth {w w' : World} {Rb base : Nat} {e : TypeId} {k n : Nat} {v : Value} {xs : List Value} (h : w.ownsRow base e k v n xs) (hR : Rb < base) (ho : Oth Rb w w') : w'.ownsRow base e k v n xs :=
  h.kept ho (Or.inr (fun e1 => by have := (h.lt _ e1).1; omega))
/-- A resolved part is put behind the others. -/
theorem bin_push {F : Prop} {w0 w wa wr w5 w8 : World} {Rb Mb : Nat} {E : List Nat} {vE : Value} {parts : List Lfc.Raw} {Ap : Option Addr} {cp : Nat} {xs : List Value} {t : Lfc.Raw} {v0 v1 v2 v3 v8 : Value} (hRa : Rb < wa.heap.size) (h0a : w0.heap.size ≤ wa.heap.size) (h0 : w0.heap.size ≤ Rb)
    (HI : BinI F w0 w wa Rb Mb E vE parts (.slice Ap parts.length cp) xs wr) (o5 : Oth Rb wr w5) (he5 : ∃ bad : Int, w5.heap[Rb]? = some (.cells #[.map (some Mb), .int .i64 bad] 68 (0, 0))) (ht : TreeP (fun b => (b < w0.heap.size ∧ F) ∨ wr.heap.size ≤ b) w5 t v0 v1 v2 v3)
    (hown : w8.ownsRow wa.heap.size 39 4 v8 (parts.length + 1) (xs ++ [v0, v1, v2, v3])) (hg : ((w5.alloc (.cells #[v0, v1, v2, v3] 39)).alloc (.cells #[v0, v1, v2, v3] 39)).grownBy w8 (Value.slice Ap parts.length cp).ownBlock)
    (hloc : v8.ownBlock = (Value.slice Ap parts.length cp).ownBlock ∨ v8.ownBlock = some (w5.heap.size + 1 + 1)) : BinI F w0 w wa Rb Mb E vE (parts ++ [t]) v8 (xs ++ [v0, v1, v2, v3]) w8 := by
  have hs5 := o5.size
  have hsr := HI.oth.size
  have hs8 : w5.heap.size + 2 ≤ w8.heap.size := by have := hg.size; simpa using this
  have hvl : ∀ b, (Value.slice Ap parts.length cp).ownBlock = some b → wa.heap.size ≤ b ∧ b < wr.heap.size := fun b hb => HI.own.lt b hb
  have k58 : ∀ b, b < w5.heap.size → some b ≠ (Value.slice Ap parts.length cp).ownBlock → w8.heap[b]? = w5.heap[b]? := fun b hb hn => by
    rw [hg.block b (by simp; omega) hn, Lib.alloc_old _ _ _ (by simp; omega), Lib.alloc_old _ _ _ hb]
  have b58 : Below wa.heap.size w5 w8 := ⟨hg.os, hg.tape, hg.output, by omega, fun b hb => k58 b (by omega) (fun e => by have := hvl b e.symm; omega)⟩
  obtain ⟨bad, hb5⟩ := he5
  have ends5 := own_oth HI.ends hRa o5
  have own5 := own_oth HI.own hRa o5
  refine ⟨(HI.oth.trans o5).of_new b58, ⟨bad, (b58.block _ hRa).trans hb5⟩, ?_, by rw [List.length_append]; exact hown, ?_⟩
  · exact ((ends5.alloc _).alloc _).kept hg (own_types ends5 own5 (by decide))
  · refine RowP.append (RowP.one ?_) ?_
    · refine TreeP.keep (fun b hb hlt => k58 b hlt (fun e => ?_)) (by omega) (fun b hlt hb => ?_) _ _ _ _ _ ht
      · have := hvl b e.symm
        rcases hb with hb | hb <;> omega
      · rcases hb with hb | hb
        · exact .inl hb
        · refine .inr ⟨by omega, fun e => ?_⟩
          rcases hloc with h | h
          · have := hvl b (h.symm.trans e.symm); omega
          · have := Option.some.inj (e.trans h); omega
    · refine RowP.keep (fun b hb hlt => ?_) (by omega) (fun b hlt hb => ?_) HI.row
      · rcases hb with hb | hb
        · exact (b58.block b (by omega)).trans (o5.block b hlt (fun e => by have := Option.some.inj e; omega))
        · exact (k58 b (by omega) hb.2).trans (o5.block b hlt (fun e => by have := Option.some.inj e; omega))
      · rcases hb with hb | hb
        · exact .inl hb
        · refine .inr ⟨hb.1, fun e => ?_⟩
          rcases hloc with h | h
          · exact hb.2 (e.trans h)
          · have := Option.some.inj (e.trans h); omega
/-- A part of the operands, as a slice. -/
theorem slice_opds {w0 : World} {b0 o0 c bg e : Nat} {s : List Lfc.Opd} (h1 : bg ≤ e) (h2 : e ≤ s.length) (hc : s.length ≤ c) (hs : OpdsAt w0 (some ⟨b0, o0, none⟩) s) : ∃ A3 c3, (∀ W : World, (Instr.sliceAt 28 (.slice (some ⟨b0, o0, none⟩) s.length c) (some (.int .i64 (bg : Int))) (some (.int .i64 (e : Int))) none).run Tryd.prog W = .ok (.slice A3 ((s.take e).drop bg).length c3) W) ∧ OpdsAt w0 A3 ((s.take e).drop bg) ∧ ((s.take e).drop bg).length ≤ c3 := by
  have hl : ((s.take e).drop bg).length = e - bg := by rw [List.length_drop, List.length_take]; omega
  refine ⟨if c = bg then some ⟨b0, o0, none⟩ else some ⟨b0, o0 + bg * 5, none⟩, c - bg, fun W => ?_, ?_, by omega⟩
  · have hsz : (sizeOf (Tryd.prog.elem 28)).run Tryd.prog W = .ok 5 W := by kernel_rfl
    rw [run_sliceAt_slice _ _ _ _ _ _ (by kernel_rfl), run_slice_lh _ _ _ _ _ (by kernel_rfl) .i64 .i64 (bg : Int) (e : Int) (by omega) (by omega) (by omega), hsz]
    simp only [Result.andThen, sliced, Int.toNat_natCast, Option.map_some, Go.WideShapes.add_plain, hl]
  · by_cases hcb : c = bg
    · intro hne
      exact absurd (List.length_eq_zero_iff.1 (by omega)) hne
    · rw [if_neg hcb]
      exact hs.part bg e

/-- The loops of binary that join the parts: the variable out at O. -/
structure JoinI (F : Prop) (w0 wa : World) (Rb Mb O : Nat) (parts : List Lfc.Raw) (vp : Value) (xs : List Value) (t : Lfc.Raw) (k p : Int) (n : List UInt8) (us : List Lfc.Raw) (A : Option Addr) (c : Nat) (wr : World) : Prop where
  oth : Oth Rb wa wr
  env : ∃ bad : Int, wr.heap[Rb]? = some (.cells #[.map (some Mb), .int .i64 bad] 68 (0, 0))
  oge : wa.heap.size ≤ O
  own : wr.ownsRow wa.heap.size 39 4 vp parts.length xs
  one : vp.ownBlock ≠ some O
  row : RowP (fun b => (b < w0.heap.size ∧ F) ∨ (wa.heap.size ≤ b ∧ b ≠ O)) wr parts xs
  out : wr.heap[O]? = some (.cells #[.int .i64 k, S n, .int .i64 p, .slice A us.length c] 39 (0, 0))
  tree : TreeP (fun b => (b < w0.heap.size ∧ F) ∨ (wa.heap.size ≤ b ∧ b ≠ O)) wr t (.int .i64 k) (S n) (.int .i64 p) (.slice A us.length c)
theorem JoinI.next {F : Prop} {w0 wa wr w5 s4 : World} {Rb Mb O : Nat} {parts : List Lfc.Raw} {vp : Value} {xs : List Value} {t t5 : Lfc.Raw} {k p k5 p5 : Int} {n n5 : List UInt8} {us us5 : List Lfc.Raw} {A A5 : Option Addr} {c c5 : Nat} (hRa : Rb < wa.heap.size) (h0 : w0.heap.size ≤ wa.heap.size)
    (h : JoinI F w0 wa Rb Mb O parts vp xs t k p n us A c wr) (b5 : Below wr.heap.size wr w5) (h5 : TreeP (fun b => ((b < w0.heap.size ∧ F) ∨ (wa.heap.size ≤ b ∧ b ≠ O)) ∨ wr.heap.size ≤ b) w5 t5 (.int .i64 k5) (S n5) (.int .i64 p5) (.slice A5 us5.length c5))
    (hq : s4.heap[O]? = some (.cells #[.int .i64 k5, S n5, .int .i64 p5, .slice A5 us5.length c5] 39 (0, 0))) (ho : Oth O w5 s4) : JoinI F w0 wa Rb Mb O parts vp xs t5 k5 p5 n5 us5 A5 c5 s4 := by
  have hO := lt_of_block h.out
  have hs5 := b5.size
  have hs4 := ho.size
  have hsr := h.oth.size
  have hge := h.oge
  obtain ⟨bad, hb⟩ := h.env
  have kk : ∀ b, b < wr.heap.size → b ≠ O → s4.heap[b]? = wr.heap[b]? := fun b hb hn => (ho.block b (by omega) (fun e => hn (Option.some.inj e))).trans (b5.block b hb)
  refine ⟨h.oth.of_new (Oth.below (b5.mono hsr) ho hge (by omega)), ⟨bad, (kk Rb (lt_of_block hb) (by omega)).trans hb⟩, hge, ?_, h.one, ?_, hq, ?_⟩
  · exact (own_below h.own b5).kept ho (Or.inr h.one)
  · exact h.row.keep (fun b hb hlt => kk b hlt (by rcases hb with hb | hb; omega; exact hb.2)) (by omega) (fun _ _ h => h)
  · refine TreeP.keep (fun b hb hlt => ho.block b hlt (fun e => ?_)) hs4 (fun b _ hb => ?_) _ _ _ _ _ h5
    · have := Option.some.inj e
      rcases hb with (hb | hb) | hb
      · omega
      · exact hb.2 this
      · omega
    · rcases hb with hb | hb
      · exact hb
      · exact .inr ⟨by omega, by omega⟩
theorem join_start {F : Prop} {w0 w wa wr : World} {Rb Mb : Nat} {E : List Nat} {vE : Value} {parts : List Lfc.Raw} {vp : Value} {xs : List Value} (h : BinI F w0 w wa Rb Mb E vE parts vp xs wr) {t : Lfc.Raw} {k p : Int} {n : List UInt8} {us : List Lfc.Raw} {A : Option Addr} {c : Nat} (ht : TreeP (fun b => (b < w0.heap.size ∧ F) ∨ (wa.heap.size ≤ b ∧ some b ≠ vp.ownBlock)) wr t (.int .i64 k) (S n) (.int .i64 p) (.slice A us.length c)) :
    JoinI F w0 wa Rb Mb wr.heap.size parts vp xs t k p n us A c (wr.alloc (.cells #[.int .i64 k, S n, .int .i64 p, .slice A us.length c] 39)) := by
  have ba : Below wr.heap.size wr (wr.alloc (.cells #[.int .i64 k, S n, .int .i64 p, .slice A us.length c] 39)) := (Below.refl _ _).alloc (Nat.le_refl _) _
  obtain ⟨bad, hb⟩ := h.env
  refine ⟨h.oth.of_new (ba.mono h.oth.size), ⟨bad, (ba.block _ (lt_of_block hb)).trans hb⟩, h.oth.size, own_below h.own ba, fun e => by have := (h.own.lt _ e).2; omega, ?_, heap_alloc_new _ _, ?_⟩
  · exact h.row.keep (fun b _ hlt => ba.block b hlt) ba.size (fun b hlt hb => by rcases hb with hb | hb; exact .inl hb; exact .inr ⟨hb.1, by omega⟩)
  · exact TreeP.keep (fun b _ hlt => ba.block b hlt) ba.size (fun b hlt hb => by rcases hb with hb | hb; exact .inl hb; exact .inr ⟨hb.1, by omega⟩) _ _ _ _ _ ht
theorem TreeP.node4 {q : Nat → Prop} {w : World} {t : Lfc.Raw} {v0 v1 v2 v3 : Value} (h : TreeP q w t v0 v1 v2 v3) : ∃ k n p us A c, t = .node k n p us ∧ v0 = .int .i64 k ∧ v1 = S n ∧ v2 = .int .i64 p ∧ v3 = .slice A us.length c := by
  obtain ⟨k, n, p, us⟩ := t
  rw [TreeP] at h
  obtain ⟨rfl, rfl, _, rfl, A, c, rfl, _⟩ := h
  exact ⟨k, n, p, us, A, c, rfl, rfl, rfl, rfl, rfl⟩
theorem joinR_step (z : Lfc.Raw) (ops parts : List Lfc.Raw) (j : Nat) (h1 : j < ops.length) (h2 : j < parts.length) : Lfc.joinR z (ops.drop j) (parts.drop j) = Lfc.joinT ops[j] parts[j] (Lfc.joinR z (ops.drop (j + 1)) (parts.drop (j + 1))) := by
  rw [List.drop_eq_getElem_cons h1, List.drop_eq_getElem_cons h2, Lfc.joinR]
theorem joinR_last (z : Lfc.Raw) (ops parts : List Lfc.Raw) (n : Nat) (h1 : ops.length = n) (h2 : parts.length = n + 1) : Lfc.joinR z (ops.drop n) (parts.drop n) = parts[n] := by
  rw [List.drop_eq_getElem_cons (show n < parts.length by omega), List.drop_of_length_le (show ops.length ≤ n by omega)]
  rfl
theorem joinL_step (t : Lfc.Raw) (ops parts : List Lfc.Raw) (j : Nat) (h1 : j < ops.length) (h2 : j + 1 < parts.length) : Lfc.joinL t ((ops.zip (parts.drop 1)).take (j + 1)) = Lfc.joinT ops[j] (Lfc.joinL t ((ops.zip (parts.drop 1)).take j)) parts[j + 1] := by
  have hl : j < (ops.zip (parts.drop 1)).length := by rw [List.length_zip, List.length_drop]; omega
  unfold Lfc.joinL
  rw [List.take_succ_eq_append_getElem hl, List.foldl_append]
  simp [Nat.add_comm]
theorem opTrees_get (s : List Lfc.Opd) (at_ : List Nat) (j : Nat) (h : j < at_.length) (hb : at_[j] < s.length) : (Lfc.opTrees s at_)[j]'(by simpa [Lfc.opTrees] using h) = s[at_[j]].tree := by
  simp [Lfc.opTrees, hb]

set_option maxRecDepth 100000 in
set_option maxHeartbeats 4000000 in
theorem binary_any (F : Prop) (w0 : World) (Rb Mb : Nat) (l : List Lfc.Op) (m : Nat) (ih : ResUpto F w0 Rb Mb l m) (s : List Lfc.Opd) (A : Option Addr) (c : Nat) (at_ : List Nat) (Aa : Option Addr) (ca : Nat) (fix : Int) (w : World) (hm : s.length ≤ m + 1) (hl : s.length ≤ 1000000) (hc : s.length ≤ c) (hsm : Small F s) (hs : OpdsAt w0 A s) (hpl : Lfc.Places s.length at_) (hne : 0 < at_.length) (hat : NatsAt Rb w Aa at_) (h : EnvR w0 Rb Mb l w) :
    Calls Tryd.prog 55 #[.pointer (some ⟨Rb, 0, none⟩), .slice A s.length c, .slice Aa at_.length ca, .int .i64 fix] w (ResPost F w0 w Rb Mb (Lfc.binT (Lfc.resP l m) s at_ fix)) := by
  have hspos : 0 < s.length := by have := hpl.2 _ (List.getElem_mem hne); omega
  obtain ⟨b0, o0, rfl, hb0, _⟩ := hs (by intro e; rw [e] at hspos; simp at hspos)
  obtain ⟨wa, hwa⟩ : ∃ wa, w.alloc (.cells #[.int .i64 0, S [], .int .i64 0, .slice none 0 0] 39) = wa := ⟨_, rfl⟩
  have ba : Below w.heap.size w wa := by rw [← hwa]; exact (Below.refl _ _).alloc (Nat.le_refl _) _
  have qr : wa.heap[w.heap.size]? = some (.cells #[.int .i64 0, S [], .int .i64 0, .slice none 0 0] 39 (0, 0)) := by rw [← hwa]; exact heap_alloc_new _ _
  have hsa := eq2 (show wa.heap.size = w.heap.size + 1 by rw [← hwa]; simp)
  obtain ⟨i0, hi, hz0, hz1, hz2⟩ := info_int
  have hatl := Lfc.places_len hpl
  have HE := Lib.hid (h.new ba)
  have hrb := h.lt
  have hrge := h.rge
  have hs0 := h.bel.size
  have BA := Lib.hid ba
  have QR := Lib.hid qr
  have HAT := Lib.hid (hat.oth (Oth.of_below ba))
  have HS := Lib.hid hs
  have HPL := Lib.hid hpl
  have IH := Lib.hid ih
  have HSM := Lib.hid hsm
  have CI := Lib.hid (iclone_any Rb at_ Aa ca wa (by omega) HAT.out)
  clear h ba qr hat hs hpl ih hsm
  go_enter Tryd.func55, Tryd.ntmps55
  go_upto_region 1 with fail
  clear hwa
  go_wp2_with fail
  refine CI.out.mono ?_
  rintro e w1 ⟨A1, c1, rfl, HO1, b1⟩
  have hs1 := b1.size
  have hlm : at_.length + 1 ≤ maxLen := by unfold maxLen; omega
  have hl8 : (at_.length + 1) * 8 ≤ 140737488355328 := by omega
  go_wp2_with (at_builtin; refine wpList_append_own_at _ rfl _ _ 22 rfl wa.heap.size 3 i0 (.int .i64 0) 1 8 Tryd.underlying22 hi hz0 hz1 hz2 rfl (by decide) _ _ _ rfl (HO1.out.alloc _) ⟨w1.heap.size, 0, none⟩ 1 1 [.int .i64 (s.length : Int)] rfl rfl (cell_one_new _ _ _) (by intro u hu; simp at hu; subst hu; rfl) hlm hl8 (alloc_le hs1) ?_)
  intro v2 w2 hown2 hg2 _ _
  obtain ⟨A2, c2, rfl⟩ := own_form hown2
  obtain ⟨E, hE⟩ : ∃ E, at_ ++ [s.length] = E := ⟨_, rfl⟩
  have hEl := eq2 (show E.length = at_.length + 1 by rw [← hE]; simp)
  have b2 : Below wa.heap.size wa w2 := (b1.trans (((Below.refl _ _).alloc (Nat.le_refl _) _).mono hs1)).grown hg2 (by simp; omega) (own_block_ge HO1.out)
  have I0 : Hid (BinI F w0 w wa Rb Mb E (.slice A2 E.length c2) [] (.slice none 0 0) [] w2) := by
    have e : natCells E = natCells at_ ++ [.int .i64 (s.length : Int)] := by rw [← hE]; simp [natCells]
    obtain ⟨bad, hcb⟩ := HE.out.cells
    refine Lib.hid ⟨Oth.of_below b2, ⟨bad, (b2.block _ (lt_of_block hcb)).trans hcb⟩, ?_, own_nil _ _ _ _, by rw [RowP]⟩
    rw [e, ← hE]
    simpa using hown2
  have HEE := Lib.hid hE
  have hEn : E.length = at_.length + 1 := by omega
  have hA2 : (Value.slice A2 (at_.length + 1) c2) = .slice A2 E.length c2 := by rw [hEn]
  have hEp : E.Pairwise (· < ·) := by
    rw [← hE, List.pairwise_append]
    exact ⟨HPL.out.1, by simp, fun a ha b hb => by simp at hb; subst hb; exact HPL.out.2 a ha⟩
  have hEle : ∀ x ∈ E, x ≤ s.length := fun x hx => by
    rw [← hE, List.mem_append] at hx
    rcases hx with hx | hx
    · exact Nat.le_of_lt (HPL.out.2 x hx)
    · simp at hx; omega
  have hE0 : ∀ (h : 0 < E.length), E[0] < s.length := fun h => by
    have : E[0] = at_[0] := by simp [← hE, hne]
    rw [this]
    exact HPL.out.2 _ (List.getElem_mem _)
  have HEP := Lib.hid hEp
  have HELE := Lib.hid hEle
  have HE0 := Lib.hid hE0
  clear hown2 hg2 hE hEp hEle hE0
  rw [hA2]
  clear hA2 hEn
  go_wp2_with fail
  go_loopw [10, 11, 28] (fun vp b i wr => ∃ (j bg : Nat) (parts : List Lfc.Raw) (Ap : Option Addr) (cp : Nat) (xs : List Value), i = .int .i64 j ∧ b = .int .i64 bg ∧ vp = .slice Ap parts.length cp ∧ j ≤ E.length ∧ (parts.length ≤ j ∧ j ≤ parts.length) ∧ bg ≤ s.length + 1 ∧ (1 ≤ bg ∨ j = 0) ∧ Hid (BinI F w0 w wa Rb Mb E (.slice A2 E.length c2) parts (.slice Ap parts.length cp) xs wr) ∧ Hid (Lfc.allOk (Lfc.resP l m) (Lfc.segs s 0 E) = Lfc.prep parts (Lfc.allOk (Lfc.resP l m) (Lfc.segs s bg (E.drop j)))) ∧ Hid (∀ x ∈ E.drop j, bg ≤ x ∧ x ≤ s.length)) (fun _ _ i _ => E.length - (intOf i).toNat)
  case atStart => exact ⟨0, 0, [], none, 0, [], rfl, rfl, rfl, Nat.zero_le _, ⟨Nat.le_refl _, Nat.le_refl _⟩, by omega, .inr rfl, I0, Lib.hid (by rw [Lfc.prep_nil]; rfl), Lib.hid (fun x hx => ⟨Nat.zero_le _, HELE.out x (List.mem_of_mem_drop hx)⟩)⟩
  case round =>
    obtain ⟨j, bg, parts, Ap, cp, xs, rfl, rfl, rfl, hj, hpj, hbg, hb1, HI, HA, HR⟩ := hrel
    by_cases hlt : j < E.length
    · obtain ⟨gE, capE, curE, hvE, hgEb, hgEh⟩ : ∃ g cap cur, A2 = some ⟨g, 0, none⟩ ∧ wa.heap.size ≤ g ∧ wr.heap[g]? = some (.cells cur 3 (0, 0)) := by
        rcases HI.out.ends.2 with ⟨_, h2⟩ | ⟨g, cap, cur, hv, hbg', hg, _⟩
        · omega
        · injection hv with e1 _ e3
          exact ⟨g, cap, cur, e1, hbg', hg⟩
      subst hvE
      have hce : wr.cell? ⟨gE, j, none⟩ = some (.int .i64 ((E[j] : Nat) : Int)) := by
        have := own_cells HI.out.ends j (.int .i64 ((E[j] : Nat) : Int)) (by simp [natCells, hlt])
        rwa [Nat.zero_add] at this
      have hrng := HR.out E[j] (by rw [List.drop_eq_getElem_cons hlt]; exact List.mem_cons_self)
      have hseg := rest_of (s := s) (b := bg) hlt
      have HSEG := Lib.hid hseg
      have HEJ : Hid (∀ (h : 0 < E.length), j = 0 → E[j] < s.length) := Lib.hid (fun h e => by subst e; exact HE0.out h)
      have HNX : Hid (∀ x ∈ E.drop (j + 1), E[j] + 1 ≤ x ∧ x ≤ s.length) := Lib.hid (fun x hx => ⟨by
        have := HEP.out
        rw [← List.take_append_drop j E, List.pairwise_append, List.drop_eq_getElem_cons hlt, List.pairwise_cons] at this
        exact this.2.1.1 x hx, HELE.out x (List.mem_of_mem_drop hx)⟩)
      clear hseg
      generalize E[j] = e at *
      have hi0 : (0 : Int) ≤ (j : Int) := Int.natCast_nonneg _
      have hi1 : (j : Int) < (E.length : Int) := by omega
      have k0 : (0 : Int) ≤ (bg : Int) := Int.natCast_nonneg _
      have k1 : (bg : Int) ≤ (e : Int) := by omega
      have k2 : (e : Int) ≤ (c : Int) := by omega
      obtain ⟨A3, c3, hsl, hA3, hc3⟩ := slice_opds (c := c) hrng.1 hrng.2 hc HS.out
      have hsl2 : ((s.take e).drop bg).length = e - bg := by rw [List.length_drop, List.length_take]; omega
      have hsub : ∀ x ∈ (s.take e).drop bg, x ∈ s := fun x hx => List.mem_of_mem_take (List.mem_of_mem_drop hx)
      obtain ⟨sg, hsg⟩ : ∃ sg, (s.take e).drop bg = sg := ⟨_, rfl⟩
      rw [hsg] at hsl hA3 hc3 hsl2 hsub HSEG
      have hlm1 : sg.length ≤ m := by
        rcases hb1 with h1 | h1
        · omega
        · have := HEJ.out (by omega) h1; omega
      obtain ⟨bad, hcb⟩ := HI.out.env
      have hrba : Rb < wa.heap.size := by omega
      have CR := Lib.hid (IH.out sg A3 c3 wr hlm1 (by omega) hc3 (fun x hx => HSM.out x (hsub x hx)) hA3 (HE.out.oth HI.out.oth hcb))
      have hqr : wr.heap[w.heap.size]? = some (.cells #[.int .i64 0, S [], .int .i64 0, .slice none 0 0] 39 (0, 0)) := HI.out.oth.heap QR.out (by omega)
      have HQR := Lib.hid hqr
      clear hsg hsl2 hsub hA3 hc3 hlm1 hcb hqr HEJ
      cases hres : Lfc.resP l m sg with
      | error kk =>
        rw [hres] at CR
        have HBIN : Hid (Lfc.binT (Lfc.resP l m) s at_ fix = .error kk) := Lib.hid (by
          have e1 := HA.out
          rw [HSEG.out, Lfc.allOk_err hres] at e1
          unfold Lfc.binT
          rw [HEE.out, e1])
        unfold ResPost ResErr at CR
        simp only at CR
        clear hres
        go_wp2_with fail
        refine CR.out.mono ?_
        rintro ee w5 ⟨rfl, o5, hc5⟩
        have hs5 := o5.size
        obtain ⟨w6, hw6⟩ : ∃ w6, w5.alloc (.cells #[.int .i64 0, S [], .int .i64 0, .slice none 0 0] 39) = w6 := ⟨_, rfl⟩
        have b6 : Below w5.heap.size w5 w6 := by rw [← hw6]; exact (Below.refl _ _).alloc (Nat.le_refl _) _
        have q6 : w6.heap[w5.heap.size]? = some (.cells #[.int .i64 0, S [], .int .i64 0, .slice none 0 0] 39 (0, 0)) := by rw [← hw6]; exact heap_alloc_new _ _
        have qr5 := o5.heap HQR.out (by omega)
        obtain ⟨s1, s2, s3, s4, g1, g2, g3, g4, ⟨y0, y1, y2, y3⟩, ⟨f0, f1, f2, f3⟩, hq, ho⟩ := put4 ((b6.block _ (lt_of_block qr5)).trans qr5) (.int .i64 0) (S []) (.int .i64 0) (.slice none 0 0)
        obtain ⟨x0, x1, x2, x3⟩ := cells4 q6
        have HF := Lib.hid (oth_fin ((Oth.of_below BA.out).trans (HI.out.oth.trans o5)) b6 ho (Nat.le_refl _) hrb hc5)
        have HQ := Lib.hid hq
        have HW6 := Lib.hid hw6
        clear hq ho hc5 o5 b6 q6 qr5 hw6 hsl hce
        go_upto_region 7 with fail
        rw [HW6.out]
        go_wp2_with fail
        refine bodyPost_ret (results_raw2 rfl _ _ _ _ _ _ _ rfl HQ.out) rfl ?_
        rw [HBIN.out]
        exact ⟨rfl, HF.out.1, HF.out.2⟩
      | ok t =>
        rw [hres] at CR
        have HA2 : Hid (Lfc.allOk (Lfc.resP l m) (Lfc.segs s 0 E) = Lfc.prep (parts ++ [t]) (Lfc.allOk (Lfc.resP l m) (Lfc.segs s (e + 1) (E.drop (j + 1))))) := Lib.hid (by
          have e1 := HA.out
          rw [HSEG.out, Lfc.allOk_ok hres] at e1
          exact e1)
        unfold ResPost ResOk at CR
        simp only at CR
        clear hres
        go_wp2_with fail
        refine CR.out.mono ?_
        rintro ee w5 ⟨v5, rfl, ht5, o5, he5⟩
        obtain ⟨k5, n5, p5, us5, A5, c5, e5, rfl, tp5⟩ := ht5.parts4
        have hs5 := o5.size
        obtain ⟨w6, hw6⟩ : ∃ w6, w5.alloc (.cells #[.int .i64 k5, S n5, .int .i64 p5, .slice A5 us5.length c5] 39) = w6 := ⟨_, rfl⟩
        have b6 : Below w5.heap.size w5 w6 := by rw [← hw6]; exact (Below.refl _ _).alloc (Nat.le_refl _) _
        have q6 : w6.heap[w5.heap.size]? = some (.cells #[.int .i64 k5, S n5, .int .i64 p5, .slice A5 us5.length c5] 39 (0, 0)) := by rw [← hw6]; exact heap_alloc_new _ _
        have h6s := eq2 (show w6.heap.size = w5.heap.size + 1 by rw [← hw6]; simp)
        obtain ⟨x0, x1, x2, x3⟩ := cells4 q6
        obtain ⟨j0, hj0, hy0, hy1, hy2⟩ := raw_info
        have HO6 : Hid (w6.ownsRow wa.heap.size 39 4 (.slice Ap parts.length cp) parts.length xs) := Lib.hid (own_below (own_oth HI.out.own hrba o5) b6)
        have HW6 := Lib.hid hw6
        have O5 := Lib.hid o5
        have E5 := Lib.hid he5
        have TP5 := Lib.hid tp5
        have hsr := HI.out.oth.size
        have hlm : parts.length + 1 ≤ maxLen := by unfold maxLen; omega
        have hl56 : (parts.length + 1) * 56 ≤ 140737488355328 := by omega
        have hone : ∀ u ∈ [Value.int .i64 k5, S n5, .int .i64 p5, .slice A5 us5.length c5], u.oneCell' = true := by intro u hu; simp at hu; rcases hu with rfl | rfl | rfl | rfl <;> rfl
        have h6b : wa.heap.size ≤ w6.heap.size := by omega
        clear ht5 o5 b6 q6 hw6 hsl he5 tp5 e5
        go_upto_region 7 with fail
        rw [HW6.out]
        go_wp2_with (at_builtin; refine wpList_append_own_at _ rfl _ _ 37 rfl wa.heap.size 39 j0 (.agg #[.int .i64 0, S [], .int .i64 0, .slice none 0 0]) 4 56 Tryd.underlying37 hj0 hy0 hy1 hy2 rfl (by decide) _ _ _ rfl (HO6.out.alloc _) ⟨w6.heap.size, 0, none⟩ 1 1 [.int .i64 k5, S n5, .int .i64 p5, .slice A5 us5.length c5] rfl rfl (fun j u h => cells_new w6 _ rfl [.int .i64 k5, S n5, .int .i64 p5, .slice A5 us5.length c5] 39 j u h) hone hlm hl56 (alloc_le h6b) ?_)
        intro v8 w8 hown8 hg8 _ hloc8
        obtain ⟨A8, c8, rfl⟩ := own_form hown8
        have HN : Hid (BinI F w0 w wa Rb Mb E (.slice (some ⟨gE, 0, none⟩) E.length c2) (parts ++ [t]) (.slice A8 (parts ++ [t]).length c8) (xs ++ [.int .i64 k5, S n5, .int .i64 p5, .slice A5 us5.length c5]) w8) := Lib.hid (by
          rw [← HW6.out] at hg8 hloc8
          have := bin_push hrba (by omega) hrge HI.out O5.out E5.out TP5.out hown8 hg8 (by simpa using hloc8)
          rwa [List.length_append])
        have HLN := Lib.hid (List.length_append : (parts ++ [t]).length = _)
        clear hown8 hg8 hloc8 x0 x1 x2 x3
        go_wp2_with fail
        go_roundw
        case rel =>
          refine ⟨j + 1, e + 1, parts ++ [t], A8, c8, _, by go_num, by go_num, by simp, by omega, by simp; omega, by omega, .inl (by omega), HN, HA2, HNX⟩
        case measure => simp [intOf]; omega
    · have hjE : j = E.length := by omega
      have HBIN : Hid (Lfc.binT (Lfc.resP l m) s at_ fix = .ok (Lfc.joined fix (Lfc.opTrees s at_) parts)) := Lib.hid (by
        have e1 := HA.out
        rw [hjE, List.drop_length] at e1
        unfold Lfc.binT
        rw [HEE.out, e1]
        simp [Lfc.prep, Lfc.segs, Lfc.allOk])
      have hpl2 : Hid (parts.length = at_.length + 1) := Lib.hid (by omega)
      have hrba : Rb < wa.heap.size := by omega
      have hplen1 : parts.length ≤ at_.length + 1 := by omega
      have hplen2 : at_.length + 1 ≤ parts.length := by omega
      obtain ⟨gp, capp, curp, hvp, hgpb, hgph⟩ : ∃ g cap cur, Ap = some ⟨g, 0, none⟩ ∧ wa.heap.size ≤ g ∧ wr.heap[g]? = some (.cells cur 39 (0, 0)) := by
        rcases HI.out.own.2 with ⟨_, h2⟩ | ⟨g, cap, cur, hv, hbg', hg, _⟩
        · omega
        · injection hv with e1 _ e3
          exact ⟨g, cap, cur, e1, hbg', hg⟩
      subst hvp
      clear hgph HA HR hjE
      by_cases hf : fix = 5
      · have HJN : Hid (Lfc.joined 5 (Lfc.opTrees s at_) parts = Lfc.joinR Lfc.rawZ (Lfc.opTrees s at_) parts) := Lib.hid rfl
        have hf2 : (fix == 5) = true := by simp [hf]
        subst hf
        obtain ⟨v0, v1, v2, v3, hx0, hx1, hx2, hx3, htp⟩ := HI.out.row.get at_.length (by omega)
        obtain ⟨k, n, p, us, Ao, co, hnd, rfl, rfl, rfl, rfl⟩ := htp.node4
        have hcat := own_cells HI.out.own
        have d0 := hcat _ _ hx0
        have d1 := hcat _ _ hx1
        have d2 := hcat _ _ hx2
        have d3 := hcat _ _ hx3
        simp only [Nat.zero_add] at d0 d1 d2 d3
        obtain ⟨w3, hw3⟩ : ∃ w3, wr.alloc (.cells #[.int .i64 k, S n, .int .i64 p, .slice Ao us.length co] 39) = w3 := ⟨_, rfl⟩
        have J0 : Hid (JoinI F w0 wa Rb Mb wr.heap.size parts (.slice (some ⟨gp, 0, none⟩) parts.length cp) xs parts[at_.length] k p n us Ao co w3) := by rw [← hw3]; exact Lib.hid (join_start HI.out htp)
        have HT0 : Hid (parts[at_.length] = Lfc.joinR Lfc.rawZ ((Lfc.opTrees s at_).drop at_.length) (parts.drop at_.length)) := Lib.hid (joinR_last _ _ _ _ (by simp [Lfc.opTrees]) hpl2.out).symm
        have HW3 := Lib.hid hw3
        have hna : (0 : Int) ≤ (at_.length : Int) := Int.natCast_nonneg _
        have hplen := hpl2.out
        generalize parts[at_.length] = t0 at *
        clear hx0 hx1 hx2 hx3 htp hcat hw3
        go_upto_region 14 with fail
        rw [HW3.out]
        clear d0 d1 d2 d3 hplen
        have hplen1 : parts.length ≤ at_.length + 1 := by have := hpl2.out; omega
        have hplen2 : at_.length + 1 ≤ parts.length := by have := hpl2.out; omega
        go_wp2_with fail
        generalize wr.heap.size = O at *
        go_loopw [17] (fun i wr => ∃ (j : Nat) (t : Lfc.Raw) (k p : Int) (n : List UInt8) (us : List Lfc.Raw) (Ao : Option Addr) (co : Nat), i = .int .i64 ((j : Int) - 1) ∧ j ≤ at_.length ∧ Hid (JoinI F w0 wa Rb Mb O parts (.slice (some ⟨gp, 0, none⟩) parts.length cp) xs t k p n us Ao co wr) ∧ Hid (t = Lfc.joinR Lfc.rawZ ((Lfc.opTrees s at_).drop j) (parts.drop j))) (fun i _ => (intOf i + 1).toNat)
        case atStart => exact ⟨at_.length, t0, k, p, n, us, Ao, co, rfl, Nat.le_refl _, J0, HT0⟩
        case round =>
          clear J0 HT0 HI HW3
          obtain ⟨j, t, k, p, n, us, Ao, co, rfl, hja, HJ, HT⟩ := hrel
          cases j with
          | zero =>
            have hz : (((0 : Nat) : Int) - 1) = -1 := by omega
            rw [hz]
            rw [List.drop_zero, List.drop_zero] at HT
            obtain ⟨x0, x1, x2, x3⟩ := cells4 HJ.out.out
            have qr := HJ.out.oth.heap QR.out (by omega)
            obtain ⟨s1, s2, s3, s4, g1, g2, g3, g4, ⟨y0, y1, y2, y3⟩, ⟨f0, f1, f2, f3⟩, hq, ho⟩ := put4 qr (.int .i64 k) (S n) (.int .i64 p) (.slice Ao us.length co)
            obtain ⟨bad, hcb⟩ := HJ.out.env
            have HF := Lib.hid (oth_fin ((Oth.of_below BA.out).trans HJ.out.oth) (Below.refl _ _) ho (Nat.le_refl _) hrb hcb)
            have HO := Lib.hid ho
            have HQ := Lib.hid hq
            clear hq ho hcb qr
            go_wp2_with fail
            refine bodyPost_ret (results_raw2 rfl _ _ _ _ _ _ _ rfl HQ.out) rfl ?_
            rw [HBIN.out, HJN.out, ← HT.out]
            refine ⟨_, rfl, ⟨_, _, _, _, rfl, ?_⟩, HF.out.1, _, HF.out.2⟩
            exact TreeP.keep (fun b hb hlt => HO.out.block b hlt (fun e => by have := Option.some.inj e; rcases hb with hb | hb; omega; have := hb.1; omega)) HO.out.size (fun b _ hb => by rcases hb with hb | hb; exact .inl hb; exact .inr (by have := hb.1; omega)) _ _ _ _ _ HJ.out.tree
          | succ j =>
            have hz : (((j + 1 : Nat) : Int) - 1) = (j : Int) := by omega
            rw [hz]
            have hjl : j < at_.length := by omega
            have hxl : at_[j] < s.length := HPL.out.2 _ (List.getElem_mem _)
            have HX := Lib.hid (opTrees_get s at_ j hjl hxl)
            obtain ⟨ba, oa, hAa, hba, _, hca⟩ := HAT.out.oth HJ.out.oth
            have hxc := hca j hjl
            have hsx := HSM.out s[at_[j]] (List.getElem_mem _)
            have bel : Below w0.heap.size w0 wr := Oth.below HE.out.bel HJ.out.oth hrge HE.out.bel.size
            obtain ⟨b0', o0', k1, n1, p1, us1, B1, c1, hA0, hb1', hnd, d0, d1, d2, d3, d4, hT1⟩ := (HS.out.below bel).at_ hxl
            cases hA0
            have hT0 : TreeVP (fun b => (b < w0.heap.size ∧ F) ∨ (wa.heap.size ≤ b ∧ b ≠ O)) wr s[at_[j]].tree (.agg #[.int .i64 k1, S n1, .int .i64 p1, .slice B1 us1.length c1]) := by
              obtain ⟨b0'', o0'', k1', n1', p1', us1', B1', c1', hA0', _, hnd', e0, e1, e2, e3, _, hT'⟩ := HS.out.at_ hxl
              cases hA0'
              have hb := fun (k : Nat) => bel.cell (p := ⟨b0, o0 + at_[j] * 5 + k, none⟩) hb0
              rw [hnd] at hnd'
              cases hnd'
              have hd3 := d3
              rw [hb 3, e3] at hd3
              cases hd3
              rw [hnd]
              obtain ⟨v0, v1, v2, v3, ev, hp⟩ := TreeV.toF (F := F) (by have := hsx.2; rw [hnd] at this; exact this) hT'
              exact ⟨v0, v1, v2, v3, ev, TreeP.keep (fun b hb _ => bel.block b hb.1) bel.size (fun b _ hb => .inl hb) _ _ _ _ _ hp⟩
            have HT0 := Lib.hid hT0
            subst hAa
            obtain ⟨v0, v1, v2, v3, hx0, hx1, hx2, hx3, htp⟩ := HJ.out.row.get (j) (by omega)
            obtain ⟨k2, n2, p2, us2, A2', c2', hnd2, rfl, rfl, rfl, rfl⟩ := htp.node4
            have hcat := own_cells HJ.out.own
            have q0 := hcat _ _ hx0
            have q1 := hcat _ _ hx1
            have q2 := hcat _ _ hx2
            have q3 := hcat _ _ hx3
            simp only [Nat.zero_add] at q0 q1 q2 q3
            have HP2 := Lib.hid htp
            obtain ⟨x0, x1, x2, x3⟩ := cells4 HJ.out.out
            have hi0 : (0 : Int) ≤ (j : Int) := Int.natCast_nonneg _
            have hi1 : (j : Int) < (at_.length : Int) := by omega
            have hi2 : (j : Int) < (parts.length : Int) := by omega
            have hi3 : (0 : Int) ≤ (at_[j] : Int) := Int.natCast_nonneg _
            have hi4 : (at_[j] : Int) < (s.length : Int) := by omega
            have HSTEP := Lib.hid (joinR_step Lfc.rawZ (Lfc.opTrees s at_) parts j (by simpa [Lfc.opTrees] using hjl) (by omega))
            clear hz hca hT0 hcat hx0 hx1 hx2 hx3 htp hnd hnd2 hT1 bel
            go_wp2_with fail
            refine wp_region_still_tail 13 (by kernel_rfl) (by kernel_rfl) ?_
            simp only [List.take_succ_cons, List.take_zero, List.drop_succ_cons, List.drop_zero]
            change wpStill Tryd.prog _ wr.drew _ _ _
            repeat still_step
            try refine wpStill_nil ?_
            change wpList _ _ _ _ _ wr.drew
            obtain ⟨wz, hwz⟩ : ∃ wz, wr.drew = wz := ⟨_, rfl⟩
            rw [hwz]
            have bz : Below wr.heap.size wr wz := by rw [← hwz]; exact (Below.refl _ _).drew
            have hzs := eq2 (show wz.heap.size = wr.heap.size by rw [← hwz]; rfl)
            have KP : ∀ t v0 v1 v2 v3, TreeP (fun b => (b < w0.heap.size ∧ F) ∨ (wa.heap.size ≤ b ∧ b ≠ O)) wr t v0 v1 v2 v3 → TreeVP (fun b => (b < w0.heap.size ∧ F) ∨ (wa.heap.size ≤ b ∧ b ≠ O)) wz t (.agg #[v0, v1, v2, v3]) := fun t v0 v1 v2 v3 h => ⟨v0, v1, v2, v3, rfl, TreeP.keep (fun b _ hlt => bz.block b hlt) bz.size (fun _ _ h => h) _ _ _ _ _ h⟩
            have HT0z : TreeVP (fun b => (b < w0.heap.size ∧ F) ∨ (wa.heap.size ≤ b ∧ b ≠ O)) wz s[at_[j]].tree (.agg #[.int .i64 k1, S n1, .int .i64 p1, .slice B1 us1.length c1]) := by
              obtain ⟨u0, u1, u2, u3, eu, hu⟩ := HT0.out
              cases eu
              exact KP _ _ _ _ _ hu
            have CJ := Lib.hid (join_any _ _ _ _ _ _ wz _ hsx.1 HT0z (KP _ _ _ _ _ HP2.out) (KP _ _ _ _ _ HJ.out.tree))
            clear hwz HT0z KP
            go_wp2_with fail
            refine CJ.out.mono ?_
            rintro ee w5 ⟨⟨v5, rfl, hv5⟩, hb5⟩
            obtain ⟨k5, n5, p5, us5, A5, c5, e5, rfl, tp5⟩ := hv5.parts4
            have b5 : Below wr.heap.size wr w5 := bz.trans (hb5.mono (by omega))
            have qo5 := (b5.block _ (lt_of_block HJ.out.out)).trans HJ.out.out
            obtain ⟨s1, s2, s3, s4, g1, g2, g3, g4, ⟨y0, y1, y2, y3⟩, ⟨f0, f1, f2, f3⟩, hq, ho⟩ := put4 qo5 (.int .i64 k5) (S n5) (.int .i64 p5) (.slice A5 us5.length c5)
            have tp5' : TreeP (fun b => ((b < w0.heap.size ∧ F) ∨ (wa.heap.size ≤ b ∧ b ≠ O)) ∨ wr.heap.size ≤ b) w5 _ _ _ _ _ := TreeP.keep (fun _ _ _ => rfl) (Nat.le_refl _) (fun b _ hb => by rcases hb with hb | hb; exact .inl hb; exact .inr (by omega)) _ _ _ _ _ tp5
            have HN := Lib.hid (HJ.out.next hrba (by omega) b5 tp5' hq ho)
            have HT2 : Hid (Lfc.joinT s[at_[j]].tree parts[j] t = Lfc.joinR Lfc.rawZ ((Lfc.opTrees s at_).drop j) (parts.drop j)) := Lib.hid (by rw [HSTEP.out, HX.out, HT.out])
            clear hq ho qo5 tp5 tp5' hv5 e5 b5
            go_wp2_with fail
            go_roundw
            case rel => exact ⟨j, _, _, _, _, _, _, _, rfl, by omega, HN, HT2⟩
            case measure => simp [intOf] <;> omega
      · have hf2 : (fix == 5) = false := by simpa using hf
        have HJN : Hid (Lfc.joined fix (Lfc.opTrees s at_) parts = Lfc.joinL (parts.getD 0 Lfc.rawZ) ((Lfc.opTrees s at_).zip (parts.drop 1))) := Lib.hid (if_neg hf)
        obtain ⟨v0, v1, v2, v3, hx0, hx1, hx2, hx3, htp⟩ := HI.out.row.get 0 (by omega)
        obtain ⟨k, n, p, us, Ao, co, hnd, rfl, rfl, rfl, rfl⟩ := htp.node4
        have hcat := own_cells HI.out.own
        have d0 := hcat _ _ hx0
        have d1 := hcat _ _ hx1
        have d2 := hcat _ _ hx2
        have d3 := hcat _ _ hx3
        simp only [Nat.zero_add, Nat.zero_mul] at d0 d1 d2 d3
        obtain ⟨w3, hw3⟩ : ∃ w3, wr.alloc (.cells #[.int .i64 k, S n, .int .i64 p, .slice Ao us.length co] 39) = w3 := ⟨_, rfl⟩
        have J0 : Hid (JoinI F w0 wa Rb Mb wr.heap.size parts (.slice (some ⟨gp, 0, none⟩) parts.length cp) xs parts[0] k p n us Ao co w3) := by rw [← hw3]; exact Lib.hid (join_start HI.out htp)
        have HT0 : Hid (parts[0] = Lfc.joinL (parts.getD 0 Lfc.rawZ) (((Lfc.opTrees s at_).zip (parts.drop 1)).take 0)) := Lib.hid (by
          have : 0 < parts.length := by omega
          simp [Lfc.joinL, this])
        have HW3 := Lib.hid hw3
        have hna : (0 : Int) < (parts.length : Int) := by omega
        generalize parts[0] = t0 at *
        generalize parts.getD 0 Lfc.rawZ = z0 at *
        clear hx0 hx1 hx2 hx3 htp hcat hw3
        go_upto_region 20 with fail
        rw [HW3.out]
        clear d0 d1 d2 d3
        go_wp2_with fail
        generalize wr.heap.size = O at *
        go_loopw [86] (fun i wr => ∃ (j : Nat) (t : Lfc.Raw) (k p : Int) (n : List UInt8) (us : List Lfc.Raw) (Ao : Option Addr) (co : Nat), i = .int .i64 j ∧ j ≤ at_.length ∧ Hid (JoinI F w0 wa Rb Mb O parts (.slice (some ⟨gp, 0, none⟩) parts.length cp) xs t k p n us Ao co wr) ∧ Hid (t = Lfc.joinL z0 (((Lfc.opTrees s at_).zip (parts.drop 1)).take j))) (fun i _ => at_.length - (intOf i).toNat)
        case atStart => exact ⟨0, t0, k, p, n, us, Ao, co, rfl, Nat.zero_le _, J0, HT0⟩
        case round =>
          clear J0 HT0 HI HW3
          obtain ⟨j, t, k, p, n, us, Ao, co, rfl, hja, HJ, HT⟩ := hrel
          by_cases hjl : j < at_.length
          · have HSTEP := Lib.hid (joinL_step z0 (Lfc.opTrees s at_) parts j (by simpa [Lfc.opTrees] using hjl) (by omega))
            have hxl : at_[j] < s.length := HPL.out.2 _ (List.getElem_mem _)
            have HX := Lib.hid (opTrees_get s at_ j hjl hxl)
            obtain ⟨ba, oa, hAa, hba, _, hca⟩ := HAT.out.oth HJ.out.oth
            have hxc := hca j hjl
            have hsx := HSM.out s[at_[j]] (List.getElem_mem _)
            have bel : Below w0.heap.size w0 wr := Oth.below HE.out.bel HJ.out.oth hrge HE.out.bel.size
            obtain ⟨b0', o0', k1, n1, p1, us1, B1, c1, hA0, hb1', hnd, d0, d1, d2, d3, d4, hT1⟩ := (HS.out.below bel).at_ hxl
            cases hA0
            have hT0 : TreeVP (fun b => (b < w0.heap.size ∧ F) ∨ (wa.heap.size ≤ b ∧ b ≠ O)) wr s[at_[j]].tree (.agg #[.int .i64 k1, S n1, .int .i64 p1, .slice B1 us1.length c1]) := by
              obtain ⟨b0'', o0'', k1', n1', p1', us1', B1', c1', hA0', _, hnd', e0, e1, e2, e3, _, hT'⟩ := HS.out.at_ hxl
              cases hA0'
              have hb := fun (k : Nat) => bel.cell (p := ⟨b0, o0 + at_[j] * 5 + k, none⟩) hb0
              rw [hnd] at hnd'
              cases hnd'
              have hd3 := d3
              rw [hb 3, e3] at hd3
              cases hd3
              rw [hnd]
              obtain ⟨v0, v1, v2, v3, ev, hp⟩ := TreeV.toF (F := F) (by have := hsx.2; rw [hnd] at this; exact this) hT'
              exact ⟨v0, v1, v2, v3, ev, TreeP.keep (fun b hb _ => bel.block b hb.1) bel.size (fun b _ hb => .inl hb) _ _ _ _ _ hp⟩
            have HT0 := Lib.hid hT0
            subst hAa
            obtain ⟨v0, v1, v2, v3, hx0, hx1, hx2, hx3, htp⟩ := HJ.out.row.get (j + 1) (by omega)
            obtain ⟨k2, n2, p2, us2, A2', c2', hnd2, rfl, rfl, rfl, rfl⟩ := htp.node4
            have hcat := own_cells HJ.out.own
            have q0 := hcat _ _ hx0
            have q1 := hcat _ _ hx1
            have q2 := hcat _ _ hx2
            have q3 := hcat _ _ hx3
            simp only [Nat.zero_add] at q0 q1 q2 q3
            have HP2 := Lib.hid htp
            obtain ⟨x0, x1, x2, x3⟩ := cells4 HJ.out.out
            have hi0 : (0 : Int) ≤ (j : Int) := Int.natCast_nonneg _
            have hi1 : (j : Int) < (at_.length : Int) := by omega
            have hi3 : (0 : Int) ≤ (at_[j] : Int) := Int.natCast_nonneg _
            have hi4 : (at_[j] : Int) < (s.length : Int) := by omega
            have hi5 : (0 : Int) ≤ (j : Int) + 1 := by omega
            have hi6 : (j : Int) + 1 < (parts.length : Int) := by omega
            have hi7 : IntKind.i64.wrap ((j : Int) + 1) = (j : Int) + 1 := IntWalk.i64_in _ (by omega)
            have hi8 : ((j : Int) + 1).toNat = j + 1 := by omega
            clear hca hT0 hcat hx0 hx1 hx2 hx3 htp hnd hnd2 hT1 bel
            go_wp2_with fail
            refine wp_region_still_tail 11 (by kernel_rfl) (by kernel_rfl) ?_
            simp only [List.take_succ_cons, List.take_zero, List.drop_succ_cons, List.drop_zero]
            change wpStill Tryd.prog _ wr.drew _ _ _
            repeat still_step
            try refine wpStill_nil ?_
            change wpList _ _ _ _ _ wr.drew
            obtain ⟨wz, hwz⟩ : ∃ wz, wr.drew = wz := ⟨_, rfl⟩
            rw [hwz]
            have bz : Below wr.heap.size wr wz := by rw [← hwz]; exact (Below.refl _ _).drew
            have hzs := eq2 (show wz.heap.size = wr.heap.size by rw [← hwz]; rfl)
            have KP : ∀ t v0 v1 v2 v3, TreeP (fun b => (b < w0.heap.size ∧ F) ∨ (wa.heap.size ≤ b ∧ b ≠ O)) wr t v0 v1 v2 v3 → TreeVP (fun b => (b < w0.heap.size ∧ F) ∨ (wa.heap.size ≤ b ∧ b ≠ O)) wz t (.agg #[v0, v1, v2, v3]) := fun t v0 v1 v2 v3 h => ⟨v0, v1, v2, v3, rfl, TreeP.keep (fun b _ hlt => bz.block b hlt) bz.size (fun _ _ h => h) _ _ _ _ _ h⟩
            have HT0z : TreeVP (fun b => (b < w0.heap.size ∧ F) ∨ (wa.heap.size ≤ b ∧ b ≠ O)) wz s[at_[j]].tree (.agg #[.int .i64 k1, S n1, .int .i64 p1, .slice B1 us1.length c1]) := by
              obtain ⟨u0, u1, u2, u3, eu, hu⟩ := HT0.out
              cases eu
              exact KP _ _ _ _ _ hu
            have CJ := Lib.hid (join_any _ _ _ _ _ _ wz _ hsx.1 HT0z (KP _ _ _ _ _ HJ.out.tree) (KP _ _ _ _ _ HP2.out))
            clear hwz HT0z KP
            go_wp2_with fail
            refine CJ.out.mono ?_
            rintro ee w5 ⟨⟨v5, rfl, hv5⟩, hb5⟩
            obtain ⟨k5, n5, p5, us5, A5, c5, e5, rfl, tp5⟩ := hv5.parts4
            have b5 : Below wr.heap.size wr w5 := bz.trans (hb5.mono (by omega))
            have qo5 := (b5.block _ (lt_of_block HJ.out.out)).trans HJ.out.out
            obtain ⟨s1, s2, s3, s4, g1, g2, g3, g4, ⟨y0, y1, y2, y3⟩, ⟨f0, f1, f2, f3⟩, hq, ho⟩ := put4 qo5 (.int .i64 k5) (S n5) (.int .i64 p5) (.slice A5 us5.length c5)
            have tp5' : TreeP (fun b => ((b < w0.heap.size ∧ F) ∨ (wa.heap.size ≤ b ∧ b ≠ O)) ∨ wr.heap.size ≤ b) w5 _ _ _ _ _ := TreeP.keep (fun _ _ _ => rfl) (Nat.le_refl _) (fun b _ hb => by rcases hb with hb | hb; exact .inl hb; exact .inr (by omega)) _ _ _ _ _ tp5
            have HN := Lib.hid (HJ.out.next hrba (by omega) b5 tp5' hq ho)
            clear hi7 hi8
            have HT2 : Hid (Lfc.joinT s[at_[j]].tree t parts[j + 1] = Lfc.joinL z0 (((Lfc.opTrees s at_).zip (parts.drop 1)).take (j + 1))) := Lib.hid (by rw [HSTEP.out, HX.out, HT.out])
            clear hq ho qo5 tp5 tp5' hv5 e5 b5
            go_wp2_with fail
            go_roundw
            case rel => exact ⟨j + 1, _, _, _, _, _, _, _, by go_num, by omega, HN, HT2⟩
            case measure => simp [intOf]; omega
          · have hje : j = at_.length := by omega
            have hzl : ((Lfc.opTrees s at_).zip (parts.drop 1)).length ≤ j := by rw [List.length_zip, List.length_drop]; simp [Lfc.opTrees]; omega
            rw [List.take_of_length_le hzl] at HT
            obtain ⟨x0, x1, x2, x3⟩ := cells4 HJ.out.out
            have qr := HJ.out.oth.heap QR.out (by omega)
            obtain ⟨s1, s2, s3, s4, g1, g2, g3, g4, ⟨y0, y1, y2, y3⟩, ⟨f0, f1, f2, f3⟩, hq, ho⟩ := put4 qr (.int .i64 k) (S n) (.int .i64 p) (.slice Ao us.length co)
            obtain ⟨bad, hcb⟩ := HJ.out.env
            have HF := Lib.hid (oth_fin ((Oth.of_below BA.out).trans HJ.out.oth) (Below.refl _ _) ho (Nat.le_refl _) hrb hcb)
            have HO := Lib.hid ho
            have HQ := Lib.hid hq
            clear hq ho hcb qr
            go_wp2_with fail
            refine bodyPost_ret (results_raw2 rfl _ _ _ _ _ _ _ rfl HQ.out) rfl ?_
            rw [HBIN.out, HJN.out, ← HT.out]
            refine ⟨_, rfl, ⟨_, _, _, _, rfl, ?_⟩, HF.out.1, _, HF.out.2⟩
            exact TreeP.keep (fun b hb hlt => HO.out.block b hlt (fun e => by have := Option.some.inj e; rcases hb with hb | hb; omega; have := hb.1; omega)) HO.out.size (fun b _ hb => by rcases hb with hb | hb; exact .inl hb; exact .inr (by have := hb.1; omega)) _ _ _ _ _ HJ.out.tree
end Go.Proofs.YtkhfnkokdmoipaaDoor
