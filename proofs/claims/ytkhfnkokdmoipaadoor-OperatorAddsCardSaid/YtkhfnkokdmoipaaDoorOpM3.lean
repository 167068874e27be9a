/- Parts of the proof: OpA, OpA2, OpFn. -/
import Derived.Test.YtkhfnkokdmoipaaDoorOpMem
import Derived.Test.YtkhfnkokdmoipaaDoorNames
import Derived.Test.YtkhfnkokdmoipaaDoorOpMap
/- Contracts of operator.check, lfcheckref03.refuse. -/
set_option linter.unusedVariables false
set_option linter.unusedSimpArgs false
namespace Go.Proofs.YtkhfnkokdmoipaaDoor
open Go.RowKit Go.Maps Go.WideMaps

set_option maxRecDepth 100000 in
set_option maxHeartbeats 2000000 in
theorem check_any (o : Lfc.Op) (w : World) (hn : o.name.length ≤ 1000000) : Calls Tryd.prog 21 #[opV o] w fun e w' => e = .returned (.int .i64 o.bad) ∧ Below w.heap.size w w' := by
  obtain ⟨n, f, p⟩ := o
  unfold opV
  simp only at hn ⊢
  obtain ⟨z, hz⟩ : ∃ z, Lfc.Op.bad ⟨n, f, p⟩ = z := ⟨_, rfl⟩
  rw [hz]
  have HZ := Lib.hid hz
  have HN := Lib.hid (fun W => isName_any n W (by omega))
  have b1 : Below w.heap.size w (w.alloc (.cells #[S n, .int .i64 f, .int .i64 p] 36)) := (Below.refl _ _).alloc (Nat.le_refl _) _
  clear hz
  cases hq : Lfc.isName n
  · rw [hq] at HN
    have HQ := Lib.hid hq
    clear hq
    go_enter Tryd.func21, Tryd.ntmps21
    go_wp2_with fail
    refine (HN.out _).mono ?_
    rintro e w2 ⟨rfl, rfl⟩
    go_wp2_with fail
    go_ret
    exact ⟨ret_int (by rw [← HZ.out]; first | (simp [Lfc.Op.bad, HQ.out]; done) | (simp [Lfc.Op.bad, HQ.out]; rw [if_neg (by omega), if_neg (by omega)])), b1⟩
  · rw [hq] at HN
    have HQ := Lib.hid hq
    clear hq
    by_cases a1 : f < 1
    · have d0 : decide (f < 1) = true := by simpa using a1
      have Ha1 := Lib.hid a1
      go_enter Tryd.func21, Tryd.ntmps21
      go_wp2_with fail
      refine (HN.out _).mono ?_
      rintro e w2 ⟨rfl, rfl⟩
      go_wp2_with fail
      go_ret
      exact ⟨ret_int (by rw [← HZ.out]; first | (simp [Lfc.Op.bad, HQ.out, Ha1.out]; done) | (simp [Lfc.Op.bad, HQ.out, Ha1.out]; rw [if_neg (by omega), if_neg (by omega)])), b1⟩
    · have d0 : decide (f < 1) = false := by simpa using a1
      have Ha1 := Lib.hid a1
      have i0 : 1 ≤ f := by omega
      clear a1
      by_cases a2 : 5 < f
      · have d1 : decide (5 < f) = true := by simpa using a2
        have Ha2 := Lib.hid a2
        go_enter Tryd.func21, Tryd.ntmps21
        go_wp2_with fail
        refine (HN.out _).mono ?_
        rintro e w2 ⟨rfl, rfl⟩
        go_wp2_with fail
        go_ret
        exact ⟨ret_int (by rw [← HZ.out]; first | (simp [Lfc.Op.bad, HQ.out, Ha1.out, Ha2.out]; done) | (simp [Lfc.Op.bad, HQ.out, Ha1.out, Ha2.out]; rw [if_neg (by omega), if_neg (by omega)])), b1⟩
      · have d1 : decide (5 < f) = false := by simpa using a2
        have Ha2 := Lib.hid a2
        have i1 : f ≤ 5 := by omega
        clear a2
        by_cases a3 : p < 0
        · have d2 : decide (p < 0) = true := by simpa using a3
          have Ha3 := Lib.hid a3
          go_enter Tryd.func21, Tryd.ntmps21
          go_wp2_with fail
          refine (HN.out _).mono ?_
          rintro e w2 ⟨rfl, rfl⟩
          go_wp2_with fail
          go_ret
          exact ⟨ret_int (by rw [← HZ.out]; first | (simp [Lfc.Op.bad, HQ.out, Ha1.out, Ha2.out, Ha3.out]; done) | (simp [Lfc.Op.bad, HQ.out, Ha1.out, Ha2.out, Ha3.out]; rw [if_neg (by omega), if_neg (by omega)])), b1⟩
        · have d2 : decide (p < 0) = false := by simpa using a3
          have Ha3 := Lib.hid a3
          have i2 : 0 ≤ p := by omega
          clear a3
          by_cases a4 : 99 < p
          · have d3 : decide (99 < p) = true := by simpa using a4
            have Ha4 := Lib.hid a4
            go_enter Tryd.func21, Tryd.ntmps21
            go_wp2_with fail
            refine (HN.out _).mono ?_
            rintro e w2 ⟨rfl, rfl⟩
            go_wp2_with fail
            go_ret
            exact ⟨ret_int (by rw [← HZ.out]; first | (simp [Lfc.Op.bad, HQ.out, Ha1.out, Ha2.out, Ha3.out, Ha4.out]; done) | (simp [Lfc.Op.bad, HQ.out, Ha1.out, Ha2.out, Ha3.out, Ha4.out]; rw [if_neg (by omega), if_neg (by omega)])), b1⟩
          · have d3 : decide (99 < p) = false := by simpa using a4
            have Ha4 := Lib.hid a4
            have i3 : p ≤ 99 := by omega
            clear a4
            go_enter Tryd.func21, Tryd.ntmps21
            go_wp2_with fail
            refine (HN.out _).mono ?_
            rintro e w2 ⟨rfl, rfl⟩
            go_wp2_with fail
            go_ret
            exact ⟨ret_int (by rw [← HZ.out]; first | (simp [Lfc.Op.bad, HQ.out, Ha1.out, Ha2.out, Ha3.out, Ha4.out]; done) | (simp [Lfc.Op.bad, HQ.out, Ha1.out, Ha2.out, Ha3.out, Ha4.out]; rw [if_neg (by omega), if_neg (by omega)])), b1⟩

set_option maxRecDepth 100000 in
set_option maxHeartbeats 2000000 in
theorem refuse_any (o : Lfc.Op) (w : World) (hn : o.name.length ≤ 1000000) : Calls Tryd.prog 25 #[opV o] w fun e w' => e = .returned (.int .i64 o.bad) ∧ Below w.heap.size w w' := by
  obtain ⟨n, f, p⟩ := o
  unfold opV
  simp only at hn ⊢
  obtain ⟨z, hz⟩ : ∃ z, Lfc.Op.bad ⟨n, f, p⟩ = z := ⟨_, rfl⟩
  rw [hz]
  have HZ := Lib.hid hz
  have HN := Lib.hid (fun W => rIsName_any n W (by omega))
  have b1 : Below w.heap.size w (w.alloc (.cells #[S n, .int .i64 f, .int .i64 p] 36)) := (Below.refl _ _).alloc (Nat.le_refl _) _
  clear hz
  cases hq : Lfc.isName n
  · rw [hq] at HN
    have HQ := Lib.hid hq
    clear hq
    go_enter Tryd.func25, Tryd.ntmps25
    go_wp2_with fail
    refine (HN.out _).mono ?_
    rintro e w2 ⟨rfl, rfl⟩
    go_wp2_with fail
    go_ret
    exact ⟨ret_int (by rw [← HZ.out]; first | (simp [Lfc.Op.bad, HQ.out]; done) | (simp [Lfc.Op.bad, HQ.out]; rw [if_neg (by omega), if_neg (by omega)])), b1⟩
  · rw [hq] at HN
    have HQ := Lib.hid hq
    clear hq
    by_cases a1 : f < 1
    · have d0 : decide (f < 1) = true := by simpa using a1
      have Ha1 := Lib.hid a1
      go_enter Tryd.func25, Tryd.ntmps25
      go_wp2_with fail
      refine (HN.out _).mono ?_
      rintro e w2 ⟨rfl, rfl⟩
      go_wp2_with fail
      go_ret
      exact ⟨ret_int (by rw [← HZ.out]; first | (simp [Lfc.Op.bad, HQ.out, Ha1.out]; done) | (simp [Lfc.Op.bad, HQ.out, Ha1.out]; rw [if_neg (by omega), if_neg (by omega)])), b1⟩
    · have d0 : decide (f < 1) = false := by simpa using a1
      have Ha1 := Lib.hid a1
      have i0 : 1 ≤ f := by omega
      clear a1
      by_cases a2 : 5 < f
      · have d1 : decide (5 < f) = true := by simpa using a2
        have Ha2 := Lib.hid a2
        go_enter Tryd.func25, Tryd.ntmps25
        go_wp2_with fail
        refine (HN.out _).mono ?_
        rintro e w2 ⟨rfl, rfl⟩
        go_wp2_with fail
        go_ret
        exact ⟨ret_int (by rw [← HZ.out]; first | (simp [Lfc.Op.bad, HQ.out, Ha1.out, Ha2.out]; done) | (simp [Lfc.Op.bad, HQ.out, Ha1.out, Ha2.out]; rw [if_neg (by omega), if_neg (by omega)])), b1⟩
      · have d1 : decide (5 < f) = false := by simpa using a2
        have Ha2 := Lib.hid a2
        have i1 : f ≤ 5 := by omega
        clear a2
        by_cases a3 : p < 0
        · have d2 : decide (p < 0) = true := by simpa using a3
          have Ha3 := Lib.hid a3
          go_enter Tryd.func25, Tryd.ntmps25
          go_wp2_with fail
          refine (HN.out _).mono ?_
          rintro e w2 ⟨rfl, rfl⟩
          go_wp2_with fail
          go_ret
          exact ⟨ret_int (by rw [← HZ.out]; first | (simp [Lfc.Op.bad, HQ.out, Ha1.out, Ha2.out, Ha3.out]; done) | (simp [Lfc.Op.bad, HQ.out, Ha1.out, Ha2.out, Ha3.out]; rw [if_neg (by omega), if_neg (by omega)])), b1⟩
        · have d2 : decide (p < 0) = false := by simpa using a3
          have Ha3 := Lib.hid a3
          have i2 : 0 ≤ p := by omega
          clear a3
          by_cases a4 : 99 < p
          · have d3 : decide (99 < p) = true := by simpa using a4
            have Ha4 := Lib.hid a4
            go_enter Tryd.func25, Tryd.ntmps25
            go_wp2_with fail
            refine (HN.out _).mono ?_
            rintro e w2 ⟨rfl, rfl⟩
            go_wp2_with fail
            go_ret
            exact ⟨ret_int (by rw [← HZ.out]; first | (simp [Lfc.Op.bad, HQ.out, Ha1.out, Ha2.out, Ha3.out, Ha4.out]; done) | (simp [Lfc.Op.bad, HQ.out, Ha1.out, Ha2.out, Ha3.out, Ha4.out]; rw [if_neg (by omega), if_neg (by omega)])), b1⟩
          · have d3 : decide (99 < p) = false := by simpa using a4
            have Ha4 := Lib.hid a4
            have i3 : p ≤ 99 := by omega
            clear a4
            go_enter Tryd.func25, Tryd.ntmps25
            go_wp2_with fail
            refine (HN.out _).mono ?_
            rintro e w2 ⟨rfl, rfl⟩
            go_wp2_with fail
            go_ret
            exact ⟨ret_int (by rw [← HZ.out]; first | (simp [Lfc.Op.bad, HQ.out, Ha1.out, Ha2.out, Ha3.out, Ha4.out]; done) | (simp [Lfc.Op.bad, HQ.out, Ha1.out, Ha2.out, Ha3.out, Ha4.out]; rw [if_neg (by omega), if_neg (by omega)])), b1⟩

end Go.Proofs.YtkhfnkokdmoipaaDoor

/- The contract of operator.arrow. -/
set_option linter.unusedVariables false
set_option linter.unusedSimpArgs false
namespace Go.Proofs.YtkhfnkokdmoipaaDoor
open Go.RowKit Go.Maps Go.WideMaps

set_option maxRecDepth 100000 in
set_option maxHeartbeats 2000000 in
theorem arrow_any (x : Lfc.Opd) (v : Value) (w : World) (hl : x.tree.args.length ≤ 1000000000) (hv : OpdV w x v) : Calls Tryd.prog 29 #[v] w fun e w' => e = .returned (.bool x.arrow) ∧ Below w.heap.size w w' := by
  obtain ⟨⟨k, n, p, ts⟩, cl⟩ := x
  obtain ⟨k', n', p', ts', A, c, e, rfl, hT⟩ := hv
  cases e
  simp only [Lfc.Raw.args] at hl ⊢
  obtain ⟨z, hz⟩ : ∃ z, Lfc.Opd.arrow ⟨.node k n p ts, cl⟩ = z := ⟨_, rfl⟩
  rw [hz]
  have HZ := Lib.hid hz
  clear hT hz
  obtain ⟨w1, hw1⟩ : ∃ w1, (w.alloc (.cells #[.int .i64 k, S n, .int .i64 p, .slice A ts.length c, .bool cl] 42)).alloc (.cells #[.int .i64 k, S n, .int .i64 p, .slice A ts.length c] 39) = w1 := ⟨_, rfl⟩
  have b1 : Below w.heap.size w w1 := by rw [← hw1]; exact ((Below.refl _ _).alloc (Nat.le_refl _) _).alloc (by simp) _
  have qo : w1.heap[w.heap.size]? = some (.cells #[.int .i64 k, S n, .int .i64 p, .slice A ts.length c, .bool cl] 42 (0, 0)) := by rw [← hw1]; exact heap_alloc_old _ _ _ _ (heap_alloc_new _ _)
  have qt : w1.heap[w.heap.size + 1]? = some (.cells #[.int .i64 k, S n, .int .i64 p, .slice A ts.length c] 39 (0, 0)) := by
    rw [← hw1]
    have := heap_alloc_new (w.alloc (.cells #[.int .i64 k, S n, .int .i64 p, .slice A ts.length c, .bool cl] 42)) (.cells #[.int .i64 k, S n, .int .i64 p, .slice A ts.length c] 39)
    simpa using this
  have y4 : w1.cell? ⟨w.heap.size, 4, none⟩ = some (.bool cl) := Lib.cell_of_heap qo 4
  obtain ⟨x0, x1, x2, x3⟩ : w1.cell? ⟨w.heap.size + 1, 0, none⟩ = some (.int .i64 k) ∧ w1.cell? ⟨w.heap.size + 1, 1, none⟩ = some (S n) ∧ w1.cell? ⟨w.heap.size + 1, 2, none⟩ = some (.int .i64 p) ∧ w1.cell? ⟨w.heap.size + 1, 3, none⟩ = some (.slice A ts.length c) := ⟨Lib.cell_of_heap qt 0, Lib.cell_of_heap qt 1, Lib.cell_of_heap qt 2, Lib.cell_of_heap qt 3⟩
  clear qo qt
  cases cl
  · by_cases hk : k = 1
    · subst hk
      by_cases ht : ts.length = 0
      · have ht2 : ((ts.length : Int) == 0) = true := by simp [ht]
        have HT := Lib.hid ht
        clear ht
        by_cases hr : n = [45, 62]
        · subst hr
          go_enter Tryd.func29, Tryd.ntmps29
          go_upto_region 2 with fail
          clear hw1
          go_wp2_with fail
          go_ret
          exact ⟨by rw [← HZ.out]; simp [Lfc.Opd.arrow, Lfc.Raw.kind, Lfc.Raw.args, Lfc.Raw.name, Lfc.arrR, Lfc.arrL, HT.out], b1⟩
        · by_cases hl2 : n = [60, 45]
          · subst hl2
            go_enter Tryd.func29, Tryd.ntmps29
            go_upto_region 2 with fail
            clear hw1
            go_wp2_with fail
            go_ret
            exact ⟨by rw [← HZ.out]; simp [Lfc.Opd.arrow, Lfc.Raw.kind, Lfc.Raw.args, Lfc.Raw.name, Lfc.arrR, Lfc.arrL, HT.out], b1⟩
          · have hr2 : (n == [45, 62]) = false := by simpa using hr
            have hl3 : (n == [60, 45]) = false := by simpa using hl2
            have HR := Lib.hid hr
            have HL := Lib.hid hl2
            have hr3 : ¬ n.toArray = #[45, 62] := fun e => hr (by simpa using congrArg Array.toList e)
            have hl4 : ¬ n.toArray = #[60, 45] := fun e => hl2 (by simpa using congrArg Array.toList e)
            clear hr hl2
            go_enter Tryd.func29, Tryd.ntmps29
            go_upto_region 2 with fail
            clear hw1
            go_wp2_with fail
            go_ret
            exact ⟨by rw [← HZ.out]; simp [Lfc.Opd.arrow, Lfc.Raw.kind, Lfc.Raw.args, Lfc.Raw.name, Lfc.arrR, Lfc.arrL, HT.out, HR.out, HL.out], b1⟩
      · have ht2 : ((ts.length : Int) == 0) = false := by simp; intro e; exact ht (by simp [e])
        have HT := Lib.hid ht
        clear ht
        go_enter Tryd.func29, Tryd.ntmps29
        go_upto_region 2 with fail
        clear hw1
        go_wp2_with fail
        go_ret
        exact ⟨by rw [← HZ.out]; simp [Lfc.Opd.arrow, Lfc.Raw.kind, Lfc.Raw.args, Lfc.Raw.name, Lfc.arrR, Lfc.arrL, HT.out], b1⟩
    · have hk2 : (k == 1) = false := by simpa using hk
      have HK := Lib.hid hk
      clear hk
      go_enter Tryd.func29, Tryd.ntmps29
      go_upto_region 2 with fail
      clear hw1
      go_wp2_with fail
      go_ret
      exact ⟨by rw [← HZ.out]; simp [Lfc.Opd.arrow, Lfc.Raw.kind, Lfc.Raw.args, Lfc.Raw.name, Lfc.arrR, Lfc.arrL, HK.out], b1⟩
  · go_enter Tryd.func29, Tryd.ntmps29
    go_upto_region 2 with fail
    clear hw1
    go_wp2_with fail
    go_ret
    exact ⟨by rw [← HZ.out]; simp [Lfc.Opd.arrow, Lfc.Raw.kind, Lfc.Raw.args, Lfc.Raw.name, Lfc.arrR, Lfc.arrL], b1⟩
end Go.Proofs.YtkhfnkokdmoipaaDoor

/- Closures of Resolve and Add; slices.ContainsFunc with them. -/
set_option linter.unusedVariables false
set_option linter.unusedSimpArgs false
namespace Go.Proofs.YtkhfnkokdmoipaaDoor
open Go.RowKit Go.Maps Go.WideMaps

theorem enters_res1 : ∀ args w, (callFunc 26 args).run Tryd.prog w = .ok (.enter 26 args) w := enters_of Tryd.func26 (by kernel_rfl) rfl
theorem enters_res2 : ∀ args w, (callFunc 28 args).run Tryd.prog w = .ok (.enter 28 args) w := enters_of Tryd.func28 (by kernel_rfl) rfl
theorem enters_add1 : ∀ args w, (callFunc 23 args).run Tryd.prog w = .ok (.enter 23 args) w := enters_of Tryd.func23 (by kernel_rfl) rfl

set_option maxRecDepth 100000 in
set_option maxHeartbeats 2000000 in
theorem res1_any (o : Lfc.Op) (w : World) (hn : o.name.length ≤ 1000000) : Calls Tryd.prog 26 #[opV o] w fun e w' => e = .returned (.bool (decide (o.bad ≠ 0))) ∧ Below w.heap.size w w' := by
  have C1 := Lib.hid (fun W => check_any o W hn)
  have b1 : Below w.heap.size w (w.alloc (.cells #[S o.name, .int .i64 o.fix, .int .i64 o.prec] 36)) := (Below.refl _ _).alloc (Nat.le_refl _) _
  unfold opV at C1 ⊢
  generalize o.bad = z at *
  by_cases hz : z = 0
  · subst hz
    go_enter Tryd.func26, Tryd.ntmps26
    go_wp2_with fail
    refine (C1.out _).mono ?_
    rintro e w2 ⟨rfl, b2⟩
    go_wp2_with fail
    go_ret
    exact ⟨rfl, b1.trans (b2.mono b1.size)⟩
  · have hz2 : (z != 0) = true := by simpa using hz
    have HZ := Lib.hid hz
    clear hz
    go_enter Tryd.func26, Tryd.ntmps26
    go_wp2_with fail
    refine (C1.out _).mono ?_
    rintro e w2 ⟨rfl, b2⟩
    go_wp2_with fail
    go_ret
    exact ⟨by rw [decide_eq_true HZ.out]; rfl, b1.trans (b2.mono b1.size)⟩

set_option maxRecDepth 100000 in
set_option maxHeartbeats 2000000 in
theorem add1_any (o : Lfc.Op) (w : World) (B : Nat) (n : List UInt8) (hB : w.cell? ⟨B, 0, none⟩ = some (S n)) : Calls Tryd.prog 23 #[opV o, .pointer (some ⟨B, 0, none⟩)] w fun e w' => e = .returned (.bool (decide (o.name = n))) ∧ Below w.heap.size w w' := by
  obtain ⟨on, of, op⟩ := o
  unfold opV
  simp only
  have hBl : B < w.heap.size := by
    rcases Nat.lt_or_ge B w.heap.size with h1 | h1
    · exact h1
    · unfold World.cell? at hB; simp only at hB; rw [Array.getElem?_eq_none h1] at hB; cases hB
  obtain ⟨w1, hw1⟩ : ∃ w1, w.alloc (.cells #[S on, .int .i64 of, .int .i64 op] 36) = w1 := ⟨_, rfl⟩
  have b1 : Below w.heap.size w w1 := by rw [← hw1]; exact (Below.refl _ _).alloc (Nat.le_refl _) _
  have q1 : w1.heap[w.heap.size]? = some (.cells #[S on, .int .i64 of, .int .i64 op] 36 (0, 0)) := by rw [← hw1]; exact heap_alloc_new _ _
  have x0 := (cells3 q1).1
  have y0 := (b1.cell (p := ⟨B, 0, none⟩) hBl).trans hB
  clear q1 hB
  by_cases hn : on = n
  · have hn2 : (on == n) = true := by simp [hn]
    have HN := Lib.hid hn
    subst hn
    go_enter Tryd.func23, Tryd.ntmps23
    go_upto_region 1 with fail
    clear hw1
    go_wp2_with fail
    go_ret
    exact ⟨by simp, b1⟩
  · have hn2 : (on == n) = false := by simpa using hn
    have HN := Lib.hid hn
    clear hn
    go_enter Tryd.func23, Tryd.ntmps23
    go_upto_region 1 with fail
    clear hw1
    go_wp2_with fail
    go_ret
    exact ⟨by rw [decide_eq_false HN.out]; rfl, b1⟩

set_option maxRecDepth 100000 in
set_option maxHeartbeats 2000000 in
theorem res2_any (x : Lfc.Opd) (v : Value) (w : World) (B : Nat) (z : Int) (hx : x.tree.size ≤ 100000000) (hv : OpdV w x v) (hB : w.cell? ⟨B, 0, none⟩ = some (.int .i64 z)) : Calls Tryd.prog 28 #[v, .pointer (some ⟨B, 0, none⟩)] w fun e w' => e = .returned (.bool (!x.arrow && decide (x.tree.wf = z))) ∧ Below w.heap.size w w' := by
  have hBl : B < w.heap.size := by
    rcases Nat.lt_or_ge B w.heap.size with h1 | h1
    · exact h1
    · unfold World.cell? at hB; simp only at hB; rw [Array.getElem?_eq_none h1] at hB; cases hB
  obtain ⟨⟨k, n, p, ts⟩, cl⟩ := x
  obtain ⟨k', n', p', ts', A, c, e, rfl, hT⟩ := hv
  cases e
  simp only at hx ⊢
  have hlen := Lfc.Raw.sizes_len ts
  have hsz : ts.length ≤ 1000000000 := by simp only [Lfc.Raw.size] at hx; omega
  obtain ⟨w1, hw1⟩ : ∃ w1, w.alloc (.cells #[.int .i64 k, S n, .int .i64 p, .slice A ts.length c, .bool cl] 42) = w1 := ⟨_, rfl⟩
  have b1 : Below w.heap.size w w1 := by rw [← hw1]; exact (Below.refl _ _).alloc (Nat.le_refl _) _
  have q1 : w1.heap[w.heap.size]? = some (.cells #[.int .i64 k, S n, .int .i64 p, .slice A ts.length c, .bool cl] 42 (0, 0)) := by rw [← hw1]; exact heap_alloc_new _ _
  have y0 := (b1.cell (p := ⟨B, 0, none⟩) hBl).trans hB
  have hw1s := lt_of_block q1
  have SC : Hid (∀ W, Below w1.heap.size w1 W → (W.cell? ⟨w.heap.size, 0, none⟩ = some (.int .i64 k) ∧ W.cell? ⟨w.heap.size, 1, none⟩ = some (S n) ∧ W.cell? ⟨w.heap.size, 2, none⟩ = some (.int .i64 p) ∧ W.cell? ⟨w.heap.size, 3, none⟩ = some (.slice A ts.length c) ∧ W.cell? ⟨w.heap.size, 4, none⟩ = some (.bool cl)) ∧ W.cell? ⟨B, 0, none⟩ = some (.int .i64 z)) := Lib.hid (fun W hb => by
    have e := (hb.block _ hw1s).trans q1
    exact ⟨⟨Lib.cell_of_heap e 0, Lib.cell_of_heap e 1, Lib.cell_of_heap e 2, Lib.cell_of_heap e 3, Lib.cell_of_heap e 4⟩, (hb.cell (p := ⟨B, 0, none⟩) (by simp only; omega)).trans y0⟩)
  have CA := Lib.hid (fun W (hb : Below w1.heap.size w1 W) => arrow_any ⟨.node k n p ts, cl⟩ _ W hsz ⟨k, n, p, ts, A, c, rfl, rfl, hT.below (b1.trans (hb.mono b1.size))⟩)
  have CW := Lib.hid (fun W (hb : Below w1.heap.size w1 W) => wf_any (.node k n p ts) _ W (by omega) (hT.below (b1.trans (hb.mono b1.size))))
  have G0 : Below w1.heap.size w1 w1.drew := (Below.refl _ _).drew
  have aa : ∀ W W', Below w1.heap.size w1 W → Below W.heap.size W W' → Below w1.heap.size w1 W' := fun W W' h h' => h.trans (h'.mono h.size)
  generalize hf : (Lfc.Raw.node k n p ts).wf = f at *
  generalize ha : Lfc.Opd.arrow ⟨.node k n p ts, cl⟩ = a at *
  clear hf ha hT q1 y0 hB hx hlen
  have main : ∀ q : Bool, q = decide (f = z) → Calls Tryd.prog 28 #[.agg #[.int .i64 k, S n, .int .i64 p, .slice A ts.length c, .bool cl], .pointer (some ⟨B, 0, none⟩)] w fun e w' => e = .returned (.bool (!a && q)) ∧ Below w.heap.size w w' := fun q hq => by
    have hfz : (f == z) = q := by rw [hq]; by_cases h : f = z <;> simp [h]
    clear hq
    cases q <;> cases a
    · go_enter Tryd.func28, Tryd.ntmps28
      go_upto_region 1 with fail
      clear hw1
      go_region_held3 (fun W => (W.cell? ⟨w.heap.size, 0, none⟩ = some (.int .i64 k) ∧ W.cell? ⟨w.heap.size, 1, none⟩ = some (S n) ∧ W.cell? ⟨w.heap.size, 2, none⟩ = some (.int .i64 p) ∧ W.cell? ⟨w.heap.size, 3, none⟩ = some (.slice A ts.length c) ∧ W.cell? ⟨w.heap.size, 4, none⟩ = some (.bool cl)) ∧ W.cell? ⟨B, 0, none⟩ = some (.int .i64 z))
        (first | exact SC.out _ G0 | (refine SC.out _ ?_; assumption))
        (first
          | (go_at_call 29; ((with_reducible refine (CA.out _ ?_).mono ?_)); assumption; rintro e w5 ⟨rfl, hb5'⟩; have hb5 := aa _ _ (by assumption) hb5')
          | (go_at_call 30; ((with_reducible refine (CW.out _ ?_).mono ?_)); assumption; rintro e w6 ⟨rfl, hb6'⟩; have hb6 := aa _ _ (by assumption) hb6'))
      all_goals
        go_wp2_with fail
        go_ret
        exact ⟨rfl, b1.trans (hb6.mono b1.size)⟩
    · go_enter Tryd.func28, Tryd.ntmps28
      go_upto_region 1 with fail
      clear hw1
      obtain ⟨⟨x0, x1, x2, x3, x4⟩, _⟩ := SC.out w1 (Below.refl _ _)
      first | (go_region_law (go_simp; go_at_call 29; refine (CA.out _ G0).mono ?_; rintro e w5 ⟨rfl, hb5'⟩; have hb5 := aa _ _ G0 hb5')) | fail
      all_goals
        go_wp2_with fail
        go_ret
        exact ⟨rfl, b1.trans (hb5.mono b1.size)⟩
    · go_enter Tryd.func28, Tryd.ntmps28
      go_upto_region 1 with fail
      clear hw1
      go_region_held3 (fun W => (W.cell? ⟨w.heap.size, 0, none⟩ = some (.int .i64 k) ∧ W.cell? ⟨w.heap.size, 1, none⟩ = some (S n) ∧ W.cell? ⟨w.heap.size, 2, none⟩ = some (.int .i64 p) ∧ W.cell? ⟨w.heap.size, 3, none⟩ = some (.slice A ts.length c) ∧ W.cell? ⟨w.heap.size, 4, none⟩ = some (.bool cl)) ∧ W.cell? ⟨B, 0, none⟩ = some (.int .i64 z))
        (first | exact SC.out _ G0 | (refine SC.out _ ?_; assumption))
        (first
          | (go_at_call 29; ((with_reducible refine (CA.out _ ?_).mono ?_)); assumption; rintro e w5 ⟨rfl, hb5'⟩; have hb5 := aa _ _ (by assumption) hb5')
          | (go_at_call 30; ((with_reducible refine (CW.out _ ?_).mono ?_)); assumption; rintro e w6 ⟨rfl, hb6'⟩; have hb6 := aa _ _ (by assumption) hb6'))
      all_goals
        go_wp2_with fail
        go_ret
        exact ⟨rfl, b1.trans (hb6.mono b1.size)⟩
    · go_enter Tryd.func28, Tryd.ntmps28
      go_upto_region 1 with fail
      clear hw1
      obtain ⟨⟨x0, x1, x2, x3, x4⟩, _⟩ := SC.out w1 (Below.refl _ _)
      first | (go_region_law (go_simp; go_at_call 29; refine (CA.out _ G0).mono ?_; rintro e w5 ⟨rfl, hb5'⟩; have hb5 := aa _ _ G0 hb5')) | fail
      all_goals
        go_wp2_with fail
        go_ret
        exact ⟨rfl, b1.trans (hb5.mono b1.size)⟩
  exact main _ rfl

set_option maxRecDepth 100000 in
set_option maxHeartbeats 2000000 in
theorem index_res1 (l : List Lfc.Op) (A : Option Addr) (c : Nat) (w : World)  (hl : l.length ≤ 1000000000) (hA : OpsAt w A l)  :
    Calls Tryd.prog 41 #[.slice A l.length c, .func (.func 26) #[] #[]] w fun e w' => ∃ i : Int, e = .returned (.int .i64 i) ∧ decide (i ≥ 0) = l.any (fun x => decide (x.bad ≠ 0)) ∧ Below w.heap.size w w' := by
  have he := enters_res1
  have HA := Lib.hid hA

  have HANY : Hid (l.any (fun x => decide (x.bad ≠ 0)) = l.any (fun x => decide (x.bad ≠ 0))) := Lib.hid rfl
  obtain ⟨P, hP⟩ : ∃ P : Lfc.Op → Bool, P = fun x => decide (x.bad ≠ 0) := ⟨_, rfl⟩
  rw [← hP]
  have HP := Lib.hid hP
  clear hP hA HANY
  go_enter Tryd.func41, Tryd.ntmps41
  go_wp2_with fail
  go_loopw [8] (fun i wr => ∃ k : Nat, k ≤ l.length ∧ i = .int .i64 k ∧ Below w.heap.size w wr ∧ Hid ((l.take k).any P = false)) (fun i _ => l.length - (intOf i).toNat)
  case atStart => exact ⟨0, by omega, rfl, Below.refl _ _, Lib.hid (by simp)⟩
  case round =>
    obtain ⟨k, hk, rfl, hbw, HQ⟩ := hrel
    by_cases hlt : k < l.length
    · have HN : Hid ((l.take (k + 1)).any P = P l[k]) := Lib.hid (by rw [List.take_succ_eq_append_getElem hlt, List.any_append, HQ.out]; simp)
      obtain ⟨b, o, rfl, hb, hcs⟩ := HA.out.2 (by intro e; rw [e] at hlt; simp at hlt)
      obtain ⟨d0, d1, d2⟩ := hcs k hlt
      have e0 := (hbw.cell (p := ⟨b, _, none⟩) hb).trans d0
      have e1 := (hbw.cell (p := ⟨b, _, none⟩) hb).trans d1
      have e2 := (hbw.cell (p := ⟨b, _, none⟩) hb).trans d2
      clear hcs d0 d1 d2
      have CC := Lib.hid (res1_any l[k] wr (HA.out.1 _ (List.getElem_mem _)))
      unfold opV at CC
      have HPX : Hid (P l[k] = (fun x => decide (x.bad ≠ 0)) l[k]) := Lib.hid (by rw [HP.out])
      have hi0 : (0 : Int) ≤ (k : Int) := Int.natCast_nonneg _
      have hi1 : (k : Int) < (l.length : Int) := by omega
      have HM : Hid (P l[k] = true → l.any P = true) := Lib.hid (fun h => List.any_eq_true.2 ⟨l[k], List.getElem_mem _, h⟩)
      simp only at HPX
      rw [← HPX.out] at CC
      generalize hq : P l[k] = q at *
      clear hq HPX
      cases q
      · go_wp2_with fail
        refine CC.out.mono ?_
        rintro e w1 ⟨rfl, hb1⟩
        go_wp2_with fail
        go_roundw
        case rel => exact ⟨k + 1, by omega, by go_num, hbw.trans (hb1.mono hbw.size), HN⟩
        case measure => simp [intOf]; omega
      · have hany := HM.out rfl
        go_wp2_with fail
        refine CC.out.mono ?_
        rintro e w1 ⟨rfl, hb1⟩
        go_wp2_with fail
        go_ret
        exact ⟨k, rfl, by rw [hany]; simp, hbw.trans (hb1.mono hbw.size)⟩
    · have hany : l.any P = false := by have := HQ.out; rwa [List.take_of_length_le (by omega)] at this
      have HANY := Lib.hid hany
      clear hany
      go_wp2_with fail
      go_ret
      exact ⟨-1, rfl, by rw [HANY.out]; decide, hbw⟩

set_option maxRecDepth 100000 in
set_option maxHeartbeats 1000000 in
theorem contains_res1 (l : List Lfc.Op) (A : Option Addr) (c : Nat) (w : World)  (hl : l.length ≤ 1000000000) (hA : OpsAt w A l)  :
    Calls Tryd.prog 22 #[.slice A l.length c, .func (.func 26) #[] #[]] w fun e w' => e = .returned (.bool (l.any (fun x => decide (x.bad ≠ 0)))) ∧ Below w.heap.size w w' := by
  have IH := Lib.hid (index_res1 l A c w  hl hA )
  clear hA
  generalize l.any (fun x => decide (x.bad ≠ 0)) = q at *
  go_enter Tryd.func22, Tryd.ntmps22
  go_wp2_with fail
  refine IH.out.mono ?_
  rintro e w1 ⟨i, rfl, hi, hb1⟩
  have HI := Lib.hid hi
  clear hi
  go_wp2_with fail
  go_ret
  exact ⟨ret_bool HI.out, hb1⟩

set_option maxRecDepth 100000 in
set_option maxHeartbeats 2000000 in
theorem index_add1 (l : List Lfc.Op) (A : Option Addr) (c : Nat) (w : World) (B : Nat) (nm : List UInt8) (hl : l.length ≤ 1000000000) (hA : OpsAt w A l) (hB : w.cell? ⟨B, 0, none⟩ = some (S nm)) (hBl : B < w.heap.size) :
    Calls Tryd.prog 41 #[.slice A l.length c, .func (.func 23) #[] #[.pointer (some ⟨B, 0, none⟩)]] w fun e w' => ∃ i : Int, e = .returned (.int .i64 i) ∧ decide (i ≥ 0) = l.any (fun x => decide (x.name = nm)) ∧ Below w.heap.size w w' := by
  have he := enters_add1
  have HA := Lib.hid hA
  have HB := Lib.hid hB
  clear hB
  have HANY : Hid (l.any (fun x => decide (x.name = nm)) = l.any (fun x => decide (x.name = nm))) := Lib.hid rfl
  obtain ⟨P, hP⟩ : ∃ P : Lfc.Op → Bool, P = fun x => decide (x.name = nm) := ⟨_, rfl⟩
  rw [← hP]
  have HP := Lib.hid hP
  clear hP hA HANY
  go_enter Tryd.func41, Tryd.ntmps41
  go_wp2_with fail
  go_loopw [8] (fun i wr => ∃ k : Nat, k ≤ l.length ∧ i = .int .i64 k ∧ Below w.heap.size w wr ∧ Hid ((l.take k).any P = false)) (fun i _ => l.length - (intOf i).toNat)
  case atStart => exact ⟨0, by omega, rfl, Below.refl _ _, Lib.hid (by simp)⟩
  case round =>
    obtain ⟨k, hk, rfl, hbw, HQ⟩ := hrel
    by_cases hlt : k < l.length
    · have HN : Hid ((l.take (k + 1)).any P = P l[k]) := Lib.hid (by rw [List.take_succ_eq_append_getElem hlt, List.any_append, HQ.out]; simp)
      obtain ⟨b, o, rfl, hb, hcs⟩ := HA.out.2 (by intro e; rw [e] at hlt; simp at hlt)
      obtain ⟨d0, d1, d2⟩ := hcs k hlt
      have e0 := (hbw.cell (p := ⟨b, _, none⟩) hb).trans d0
      have e1 := (hbw.cell (p := ⟨b, _, none⟩) hb).trans d1
      have e2 := (hbw.cell (p := ⟨b, _, none⟩) hb).trans d2
      clear hcs d0 d1 d2
      have CC := Lib.hid (add1_any l[k] wr B nm ((hbw.cell (p := ⟨B, 0, none⟩) hBl).trans HB.out))
      unfold opV at CC
      have HPX : Hid (P l[k] = (fun x => decide (x.name = nm)) l[k]) := Lib.hid (by rw [HP.out])
      have hi0 : (0 : Int) ≤ (k : Int) := Int.natCast_nonneg _
      have hi1 : (k : Int) < (l.length : Int) := by omega
      have HM : Hid (P l[k] = true → l.any P = true) := Lib.hid (fun h => List.any_eq_true.2 ⟨l[k], List.getElem_mem _, h⟩)
      simp only at HPX
      rw [← HPX.out] at CC
      generalize hq : P l[k] = q at *
      clear hq HPX
      cases q
      · go_wp2_with fail
        refine CC.out.mono ?_
        rintro e w1 ⟨rfl, hb1⟩
        go_wp2_with fail
        go_roundw
        case rel => exact ⟨k + 1, by omega, by go_num, hbw.trans (hb1.mono hbw.size), HN⟩
        case measure => simp [intOf]; omega
      · have hany := HM.out rfl
        go_wp2_with fail
        refine CC.out.mono ?_
        rintro e w1 ⟨rfl, hb1⟩
        go_wp2_with fail
        go_ret
        exact ⟨k, rfl, by rw [hany]; simp, hbw.trans (hb1.mono hbw.size)⟩
    · have hany : l.any P = false := by have := HQ.out; rwa [List.take_of_length_le (by omega)] at this
      have HANY := Lib.hid hany
      clear hany
      go_wp2_with fail
      go_ret
      exact ⟨-1, rfl, by rw [HANY.out]; decide, hbw⟩

set_option maxRecDepth 100000 in
set_option maxHeartbeats 1000000 in
theorem contains_add1 (l : List Lfc.Op) (A : Option Addr) (c : Nat) (w : World) (B : Nat) (nm : List UInt8) (hl : l.length ≤ 1000000000) (hA : OpsAt w A l) (hB : w.cell? ⟨B, 0, none⟩ = some (S nm)) (hBl : B < w.heap.size) :
    Calls Tryd.prog 22 #[.slice A l.length c, .func (.func 23) #[] #[.pointer (some ⟨B, 0, none⟩)]] w fun e w' => e = .returned (.bool (l.any (fun x => decide (x.name = nm)))) ∧ Below w.heap.size w w' := by
  have IH := Lib.hid (index_add1 l A c w B nm hl hA hB hBl)
  clear hA
  generalize l.any (fun x => decide (x.name = nm)) = q at *
  go_enter Tryd.func22, Tryd.ntmps22
  go_wp2_with fail
  refine IH.out.mono ?_
  rintro e w1 ⟨i, rfl, hi, hb1⟩
  have HI := Lib.hid hi
  clear hi
  go_wp2_with fail
  go_ret
  exact ⟨ret_bool HI.out, hb1⟩

set_option maxRecDepth 100000 in
set_option maxHeartbeats 2000000 in
theorem index_res2 (l : List Lfc.Opd) (A : Option Addr) (c : Nat) (w : World) (B : Nat) (z : Int) (hl : l.length ≤ 1000000000) (hA : OpdsAt w A l) (hB : w.cell? ⟨B, 0, none⟩ = some (.int .i64 z)) (hBl : B < w.heap.size) (hsm : ∀ x ∈ l, x.tree.size ≤ 100000000) :
    Calls Tryd.prog 43 #[.slice A l.length c, .func (.func 28) #[] #[.pointer (some ⟨B, 0, none⟩)]] w fun e w' => ∃ i : Int, e = .returned (.int .i64 i) ∧ decide (i ≥ 0) = l.any (fun x => !x.arrow && decide (x.tree.wf = z)) ∧ Below w.heap.size w w' := by
  have he := enters_res2
  have HA := Lib.hid hA
  have HB := Lib.hid hB
  have HSM := Lib.hid hsm
  clear hB hsm
  have HANY : Hid (l.any (fun x => !x.arrow && decide (x.tree.wf = z)) = l.any (fun x => !x.arrow && decide (x.tree.wf = z))) := Lib.hid rfl
  obtain ⟨P, hP⟩ : ∃ P : Lfc.Opd → Bool, P = fun x => !x.arrow && decide (x.tree.wf = z) := ⟨_, rfl⟩
  rw [← hP]
  have HP := Lib.hid hP
  clear hP hA HANY
  go_enter Tryd.func43, Tryd.ntmps43
  go_wp2_with fail
  go_loopw [8] (fun i wr => ∃ k : Nat, k ≤ l.length ∧ i = .int .i64 k ∧ Below w.heap.size w wr ∧ Hid ((l.take k).any P = false)) (fun i _ => l.length - (intOf i).toNat)
  case atStart => exact ⟨0, by omega, rfl, Below.refl _ _, Lib.hid (by simp)⟩
  case round =>
    obtain ⟨k, hk, rfl, hbw, HQ⟩ := hrel
    by_cases hlt : k < l.length
    · have HN : Hid ((l.take (k + 1)).any P = P l[k]) := Lib.hid (by rw [List.take_succ_eq_append_getElem hlt, List.any_append, HQ.out]; simp)
      obtain ⟨b, o, kk, nn, pp, tt, BB, cc, rfl, hb, hnd, e0, e1, e2, e3, e4, hTT⟩ := (HA.out.below hbw).at_ hlt
      have CC := Lib.hid (res2_any l[k] _ wr B z (HSM.out _ (List.getElem_mem _)) ⟨kk, nn, pp, tt, BB, cc, hnd, rfl, hTT⟩ ((hbw.cell (p := ⟨B, 0, none⟩) hBl).trans HB.out))

      have HPX : Hid (P l[k] = (fun x => !x.arrow && decide (x.tree.wf = z)) l[k]) := Lib.hid (by rw [HP.out])
      have hi0 : (0 : Int) ≤ (k : Int) := Int.natCast_nonneg _
      have hi1 : (k : Int) < (l.length : Int) := by omega
      have HM : Hid (P l[k] = true → l.any P = true) := Lib.hid (fun h => List.any_eq_true.2 ⟨l[k], List.getElem_mem _, h⟩)
      simp only at HPX
      rw [← HPX.out] at CC
      generalize hq : P l[k] = q at *
      clear hq HPX
      cases q
      · go_wp2_with fail
        refine CC.out.mono ?_
        rintro e w1 ⟨rfl, hb1⟩
        go_wp2_with fail
        go_roundw
        case rel => exact ⟨k + 1, by omega, by go_num, hbw.trans (hb1.mono hbw.size), HN⟩
        case measure => simp [intOf]; omega
      · have hany := HM.out rfl
        go_wp2_with fail
        refine CC.out.mono ?_
        rintro e w1 ⟨rfl, hb1⟩
        go_wp2_with fail
        go_ret
        exact ⟨k, rfl, by rw [hany]; simp, hbw.trans (hb1.mono hbw.size)⟩
    · have hany : l.any P = false := by have := HQ.out; rwa [List.take_of_length_le (by omega)] at this
      have HANY := Lib.hid hany
      clear hany
      go_wp2_with fail
      go_ret
      exact ⟨-1, rfl, by rw [HANY.out]; decide, hbw⟩

set_option maxRecDepth 100000 in
set_option maxHeartbeats 1000000 in
theorem contains_res2 (l : List Lfc.Opd) (A : Option Addr) (c : Nat) (w : World) (B : Nat) (z : Int) (hl : l.length ≤ 1000000000) (hA : OpdsAt w A l) (hB : w.cell? ⟨B, 0, none⟩ = some (.int .i64 z)) (hBl : B < w.heap.size) (hsm : ∀ x ∈ l, x.tree.size ≤ 100000000) :
    Calls Tryd.prog 27 #[.slice A l.length c, .func (.func 28) #[] #[.pointer (some ⟨B, 0, none⟩)]] w fun e w' => e = .returned (.bool (l.any (fun x => !x.arrow && decide (x.tree.wf = z)))) ∧ Below w.heap.size w w' := by
  have IH := Lib.hid (index_res2 l A c w B z hl hA hB hBl hsm)
  clear hA
  generalize l.any (fun x => !x.arrow && decide (x.tree.wf = z)) = q at *
  go_enter Tryd.func27, Tryd.ntmps27
  go_wp2_with fail
  refine IH.out.mono ?_
  rintro e w1 ⟨i, rfl, hi, hb1⟩
  have HI := Lib.hid hi
  clear hi
  go_wp2_with fail
  go_ret
  exact ⟨ret_bool HI.out, hb1⟩

end Go.Proofs.YtkhfnkokdmoipaaDoor
