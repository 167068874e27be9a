/- Contracts of Size and Depth of terms. -/
import Derived.Test.YtadjpadieljjlaaGreatTmNodes
set_option linter.unusedVariables false
set_option linter.unusedSimpArgs false
namespace Go.Proofs.YtadjpadieljjlaaGreat
open Go.RowKit Go.Shelf
attribute [local go_sem] Oper.semAt_some

theorem cell_new_t (W : World) (v : Value) (t : TypeId) : (W.alloc (.cells #[v] t)).cell? ⟨W.heap.size, 0, none⟩ = some v ∧ (W.alloc (.cells #[v] t)).frozen? ⟨W.heap.size, 0, none⟩ = false := ⟨(Boxed.new W t v).cell, (Boxed.new W t v).frozen⟩
theorem cell_alloc_t {W : World} {a : Addr} {v : Value} (o : Obj) (h : W.cell? a = some v) : (W.alloc o).cell? a = some v := cell_kept h (World.grownBy_alloc W o none) (fun r e => by cases e)
theorem frozen_alloc_t {W : World} {a : Addr} {v : Value} (o : Obj) (h : W.cell? a = some v) (hf : W.frozen? a = false) : (W.alloc o).frozen? a = false := (frozen_kept h (World.grownBy_alloc W o none) (fun r e => by cases e)).trans hf

set_option maxRecDepth 100000 in
set_option maxHeartbeats 4000000 in
theorem tSize_any (T : Lfc.Raw) (v : Value) (w : World) (hsz : T.size ≤ 1000000000) (hv : TreeV w T v) :
    Calls Tryz.prog 102 #[v] w fun e w' => e = .returned (.int .i64 (T.size : Int)) ∧ Below w.heap.size w w' := by
  obtain ⟨k, nm, p, ts⟩ := T
  obtain ⟨A, c, rfl, hc, hA⟩ := hv.open_
  refine (callsIn_wide (n := 3)).1 ?_
  refine callsIn_of_wp_marks Tryz.func102 rfl trivial ?_ rfl
  simp only [Tryz.ntmps102, List.size_toArray, List.length_cons, List.length_nil, Nat.reduceAdd, Nat.reduceSub, Array.replicate_succ, Array.replicate_zero, List.push_toArray, List.append_toArray, List.nil_append, List.cons_append]
  obtain ⟨wb, hwb⟩ : ∃ wb, (w.alloc (.cells #[.int .i64 k, S nm, .int .i64 p, .slice A ts.length c] 51)).alloc (.cells #[.int .i64 0] 3) = wb := ⟨_, rfl⟩
  obtain ⟨wc, hwc⟩ : ∃ wc, wb.alloc (.cells #[.int .i64 k, S nm, .int .i64 p, .slice A ts.length c] 51) = wc := ⟨_, rfl⟩
  have sb : w.heap.size + 2 ≤ wb.heap.size := by rw [← hwb]; simp
  have sc : wb.heap.size + 1 ≤ wc.heap.size := by rw [← hwc]; simp
  have bb : Below w.heap.size w wb := by rw [← hwb]; exact ((Below.refl _ _).alloc (Nat.le_refl _) _).alloc (by simp) _
  have bc : Below w.heap.size w wc := by rw [← hwc]; exact bb.alloc (by omega) _
  have nb := cell_new_t (w.alloc (.cells #[.int .i64 k, S nm, .int .i64 p, .slice A ts.length c] 51)) (.int .i64 0) 3
  rw [hwb, World.size_alloc] at nb
  have nc1 := cell_alloc_t (.cells #[.int .i64 k, S nm, .int .i64 p, .slice A ts.length c] 51) nb.1
  have nc2 := frozen_alloc_t (.cells #[.int .i64 k, S nm, .int .i64 p, .slice A ts.length c] 51) nb.1 nb.2
  rw [hwc] at nc1 nc2
  have htc : wc.heap[wb.heap.size]? = some (.cells #[.int .i64 k, S nm, .int .i64 p, .slice A ts.length c] 51) := by rw [← hwc]; exact World.alloc_heap_new wb _
  have NA := Lib.hid (nodes_any _ k p nm ts.length c A wb rfl)
  rw [hwc] at NA
  have HWB := Lib.hid hwb
  clear hwb nb
  gi_wp2
  rw [HWB.out]
  refine ⟨trivial, (callsIn_wide.2 NA.out).mono ?_⟩
  rintro e w' ⟨rfl, rfl⟩
  gi_wp2
  refine wpIn_rangeFunc_ownF rfl (by omega) (gf := 125) (lb := #[.pointer (some ⟨wb.heap.size, 0, none⟩)]) rfl trivial enters_nodes1
    (nodes_stops _ (.node k nm p ts) k p nm ts A c wb.heap.size w _ rfl hsz htc bc hv) (fun h k => h.trans k) (KpT.putObj bc.size) (Below.refl _ _) (fun _ => rfl)
    (fun pre W => (W.cell? ⟨w.heap.size + 1, 0, none⟩ = some (.int .i64 (pre.length : Int)) ∧ W.frozen? ⟨w.heap.size + 1, 0, none⟩ = false) ∧ Below w.heap.size w W)
    (fun _ _ _ => False)
    (OwnFrom.and (Own.from (fun s A B row hs hg hr => ⟨cell_kept hs.1 hg hr, (frozen_kept hs.1 hg hr).trans hs.2⟩) _) (ownFrom_below (Nat.le_refl _) bc.size))
    (fun _ _ _ _ _ hs _ _ => hs)
    ⟨⟨by simpa using nc1, nc2⟩, bc⟩
    (fun x => { tmps := #[.agg #[.int .i64 k, S nm, .int .i64 p, .slice A ts.length c], .pointer (some ⟨w.heap.size, 0, none⟩), .int .i64 0, .pointer (some ⟨w.heap.size + 1, 0, none⟩), .agg #[.int .i64 k, S nm, .int .i64 p, .slice A ts.length c], .func (.func 125) #[] #[.pointer (some ⟨wb.heap.size, 0, none⟩)], .int .i64 (x.1.d : Int), x.1.v, undef, undef, undef], defers := [] }) ?assign ?body ?done ?stop
  case assign =>
    intro l x W K hK
    gi_wp2
    simpa [TNs.encs] using hK
  case body =>
    rintro l pre x W ⟨⟨hc, hf⟩, hB⟩ hlen
    have hlt : pre.length + 1 ≤ 1000000000 := by omega
    gi_wp2
    refine ⟨KeepsOthers.setCell _ _ _, KpT.setCell _ _ _ (by omega) (by omega), ⟨?_, by rw [World.frozen?_setCell]; exact hf⟩, hB.setCell (p := ⟨w.heap.size + 1, 0, none⟩) (by simp only; omega) _⟩
    rw [World.cell?_setCell_same' _ _ _ (by rw [hc]; rfl)]
    simp
  case done =>
    rintro D ys W hD hys ⟨⟨hc, _⟩, hB⟩ hK
    gi_wp2
    refine ⟨by simp, .inl ⟨_, _, rfl, run_takeDeferred hK, ?_⟩⟩
    refine ⟨_, results_tmp rfl _ _ _, ?_, hB.trans (belowK_b (w := w) (Nat.le_refl _) W D _ _ (by omega) hK rfl rfl)⟩
    exact ret_int (by rw [TNs.ns_len, hys, Lfc.nodes_size])
  case stop =>
    rintro D c pre W _ _ h _
    exact h.elim

theorem t_sizes_take (ts : List Lfc.Raw) (k : Nat) (h : k < ts.length) : Lfc.Raw.sizes (ts.take (k + 1)) = Lfc.Raw.sizes (ts.take k) + ts[k].size := by
  rw [List.take_succ_eq_append_getElem h, Lfc.Raw.sizes_app]; simp [Lfc.Raw.sizes]
theorem t_depths_take (ts : List Lfc.Raw) (k : Nat) (h : k < ts.length) : Lfc.Raw.depths (ts.take (k + 1)) = max (Lfc.Raw.depths (ts.take k)) ts[k].depth := by
  rw [List.take_succ_eq_append_getElem h, Lfc.Raw.depths_app]; simp [Lfc.Raw.depths]
theorem t_sizes_take_le (ts : List Lfc.Raw) (k : Nat) : Lfc.Raw.sizes (ts.take k) ≤ Lfc.Raw.sizes ts := by
  have : Lfc.Raw.sizes ts = Lfc.Raw.sizes (ts.take k) + Lfc.Raw.sizes (ts.drop k) := by rw [← Lfc.Raw.sizes_app, List.take_append_drop]
  omega


theorem t_depths_le (l : List Lfc.Raw) : Lfc.Raw.depths l ≤ Lfc.Raw.sizes l := by
  induction l with
  | nil => simp [Lfc.Raw.depths, Lfc.Raw.sizes]
  | cons a r ih => have := Lfc.Raw.depth_le_size _ a (Nat.le_refl _); simp only [Lfc.Raw.depths, Lfc.Raw.sizes]; omega

set_option maxRecDepth 100000 in
set_option maxHeartbeats 1000000 in
theorem tDepth_any (m : Nat) : ∀ (t : Lfc.Raw) (v : Value) (w : World), t.size ≤ m → t.size ≤ 1000000000 → TreeV w t v →
    Calls Tryz.prog 103 #[v] w fun e w' => e = .returned (.int .i64 (t.depth : Int)) ∧ Below w.heap.size w w' := by
  induction m with
  | zero => intro t v w h _ _; have := t.size_pos; omega
  | succ m ih =>
    intro t v w hm hmax hv
    obtain ⟨kd, nm, ps, ts⟩ := t
    obtain ⟨A, c, rfl, hc, hA⟩ := hv.open_
    simp only [Lfc.Raw.size] at hm hmax
    simp only [Lfc.Raw.depth]
    have hlen := Lfc.Raw.sizes_len ts
    have IH := Lib.hid ih
    have b0 : Below w.heap.size w (w.alloc (.cells #[.int .i64 kd, S nm, .int .i64 ps, .slice A ts.length c] 51)) := (Below.refl _ _).alloc (Nat.le_refl _) _
    have HA := Lib.hid hA
    clear ih hA hv
    go_enter Tryz.func103, Tryz.ntmps103
    go_wp2_with fail
    go_loopw [3, 9] (fun n i wr => ∃ k : Nat, k ≤ ts.length ∧ i = .int .i64 k ∧ n = .int .i64 ((Lfc.Raw.depths (ts.take k) : Nat) : Int) ∧ Below w.heap.size w wr) (fun _ i _ => ts.length - (intOf i).toNat)
    case atStart => exact ⟨0, by omega, rfl, by simp [Lfc.Raw.depths], b0⟩
    case round =>
      obtain ⟨k, hk, rfl, rfl, hbw⟩ := hrel
      have hle := t_depths_le (ts.take k)
      have hle3 := t_sizes_take_le ts k
      by_cases hlt : k < ts.length
      · obtain ⟨b, o, k1, n1, p1, us, B, c1, rfl, hb, ht, c0', c1', c2', c3', hcu, hB, hT⟩ := (HA.out.below hbw).at_ hlt
        have hst := t_depths_take ts k hlt
        have hmem := Lfc.Raw.sizes_mem ts ts[k] (List.getElem_mem _)
        have hdz := Lfc.Raw.depth_le_size _ ts[k] (Nat.le_refl _)
        have HS := Lib.hid hst
        clear hB ht
        have b1 : Below wr.heap.size wr (wr.alloc (.cells #[.int .i64 k1, S n1, .int .i64 p1, .slice B us.length c1] 51)) := (Below.refl _ _).alloc (Nat.le_refl _) _
        have hT2 := hT.below b1
        generalize hZ : ts[k].depth = z at *
        generalize hY : Lfc.Raw.depths (ts.take k) = y at *
        have HZ := Lib.hid hZ
        clear hZ hst hY
        go_wp2_with fail
        refine (IH.out ts[k] _ _ (by omega) (by omega) hT2).mono ?_
        rintro e w1 ⟨rfl, hb1⟩
        rw [HZ.out]
        go_wp2_with fail
        go_roundw
        case rel => exact ⟨k + 1, by omega, by go_num, by rw [HS.out]; congr 1; omega, hbw.trans ((b1.mono hbw.size).trans (hb1.mono (Nat.le_trans hbw.size b1.size)))⟩
        case measure => simp [intOf]; omega
      · have hkl : k = ts.length := by omega
        have hd := t_depths_le ts
        go_wp2_with fail
        go_ret
        exact ⟨ret_int (by omega), hbw⟩

end Go.Proofs.YtadjpadieljjlaaGreat
