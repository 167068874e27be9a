/- Contracts of typed, kind, Depth. -/
import Derived.Test.YtadjpadieljjlaaGreatTmObj
set_option linter.unusedVariables false
set_option linter.unusedSimpArgs false
namespace Go.Proofs.YtadjpadieljjlaaGreat
open Go.RowKit

theorem len_two {α : Type} {l : List α} (h : l.length = 2) : ∃ a b, l = [a, b] := by
  match l, h with
  | [a, b], _ => exact ⟨a, b, rfl⟩
theorem tAtom_all (k p : Int) (n : List UInt8) (ts : List Lfc.Raw) (v : Value) (w : World) (hm : Lfc.Raw.sizes ts ≤ 1000000000) (hv : TreeV w (.node k n p ts) v) :
    Calls Tryz.prog 100 #[v] w fun e w' => e = .returned (.bool (Lfc.Raw.atm (.node k n p ts))) ∧ Below w.heap.size w w' :=
  tAtom_any 1000000000 (tObj_upto _ (Nat.le_refl _)) k p n ts v w hm (Nat.le_trans (Lfc.Raw.sizes_len ts) hm) hv

set_option maxRecDepth 100000 in
set_option maxHeartbeats 2000000 in
theorem tTyp_upto (m : Nat) (hmm : m ≤ 1000000000) : ∀ (t : Lfc.Raw) (v : Value) (w : World), t.size ≤ m → TreeV w t v →
    Calls Tryz.prog 90 #[v] w fun e w' => e = .returned (.bool t.typ) ∧ Below w.heap.size w w' := by
  induction m with
  | zero => intro t v w h _; have := t.size_pos; omega
  | succ m ih0 =>
    intro t v w hsz hv
    have ih := ih0 (by omega)
    clear ih0
    obtain ⟨k, n, p, ts⟩ := t
    obtain ⟨A, c, rfl, hc, hA⟩ := hv.open_
    have hsz' := hsz
    simp only [Lfc.Raw.size] at hsz'
    have hlen := Lfc.Raw.sizes_len ts
    have hlen1 : ts.length ≤ 1000000000 := by omega
    have hszs : Lfc.Raw.sizes ts ≤ m := by omega
    obtain ⟨w0, hw0⟩ : ∃ w0, w.alloc (.cells #[.int .i64 k, S n, .int .i64 p, .slice A ts.length c] 51) = w0 := ⟨_, rfl⟩
    have b0 : Below w.heap.size w w0 := by rw [← hw0]; exact (Below.refl _ _).alloc (Nat.le_refl _) _
    have s0 : w.heap.size < w0.heap.size := by rw [← hw0]; simp
    have hx0 : w0.cell? ⟨w.heap.size, 0, none⟩ = some (.int .i64 k) := by rw [← hw0]; simp
    have hx1 : w0.cell? ⟨w.heap.size, 1, none⟩ = some (S n) := by rw [← hw0]; simp
    have hx2 : w0.cell? ⟨w.heap.size, 2, none⟩ = some (.int .i64 p) := by rw [← hw0]; simp
    have hx3 : w0.cell? ⟨w.heap.size, 3, none⟩ = some (.slice A ts.length c) := by rw [← hw0]; simp
    have HV := Lib.hid (hv.below b0)
    have HA := Lib.hid (hA.below b0)
    have HB := Lib.hid b0
    have HC := Lib.hid (tAtom_all k p n ts _ w0 (by omega) HV.out)
    rw [Lfc.typ_node]
    clear hv hA b0
    cases hq : Lfc.Raw.atm (.node k n p ts)
    · rw [hq] at HC
      clear hq
      rw [Bool.false_or]
      by_cases hk2 : k = 2
      · subst hk2
        have HD := Lib.hid (fun W hb => tBound_any 2 p 2 n ts _ W (by omega) hlen1 (HV.out.below (w' := W) hb))
        cases hq2 : Lfc.tbound n p ts.length 2
        · rw [hq2] at HD
          go_enter Tryz.func90, Tryz.ntmps90
          go_wp2_with fail
          refine HC.out.mono ?_
          rintro e w1 ⟨rfl, hb1⟩
          have hy0 := (hb1.cell (p := ⟨w.heap.size, 0, none⟩) s0).trans hx0
          have hy1 := (hb1.cell (p := ⟨w.heap.size, 1, none⟩) s0).trans hx1
          have hy2 := (hb1.cell (p := ⟨w.heap.size, 2, none⟩) s0).trans hx2
          have hy3 := (hb1.cell (p := ⟨w.heap.size, 3, none⟩) s0).trans hx3
          go_wp2_with fail
          refine (HD.out _ hb1).mono ?_
          rintro e w2 ⟨rfl, hb2⟩
          have hs1 := hb1.size
          go_wp2_with fail
          go_ret
          exact ⟨rfl, HB.out.trans ((hb1.trans (hb2.mono hs1)).mono (by omega))⟩
        · rw [hq2] at HD
          have hl2 : ts.length = 2 := by
            have := hq2
            simp only [Lfc.tbound, Bool.and_eq_true, decide_eq_true_eq] at this
            exact this.1.2
          obtain ⟨a, b, rfl⟩ := len_two hl2
          have HO : Hid (Lfc.Raw.typs [a, b] = (a.typ && b.typ)) := Lib.hid (by simp [Lfc.Raw.typs])
          rw [HO.out]
          have ha : a.size ≤ m := by simp only [Lfc.Raw.sizes] at hszs; omega
          have hb : b.size ≤ m := by simp only [Lfc.Raw.sizes] at hszs; omega
          have IA := Lib.hid (fun v w => ih a v w ha)
          have IB := Lib.hid (fun v w => ih b v w hb)
          clear hq2 HO hl2 ih
          generalize hZ : a.typ = z at *
          generalize hY : b.typ = y at *
          clear hZ hY
          simp only [List.length_cons, List.length_nil, Nat.zero_add, Nat.reduceAdd] at hw0 hx3 HC HV HD
          go_enter Tryz.func90, Tryz.ntmps90
          go_wp2_with fail
          refine HC.out.mono ?_
          rintro e w1 ⟨rfl, hb1⟩
          have hy0 := (hb1.cell (p := ⟨w.heap.size, 0, none⟩) s0).trans hx0
          have hy1 := (hb1.cell (p := ⟨w.heap.size, 1, none⟩) s0).trans hx1
          have hy2 := (hb1.cell (p := ⟨w.heap.size, 2, none⟩) s0).trans hx2
          have hy3 := (hb1.cell (p := ⟨w.heap.size, 3, none⟩) s0).trans hx3
          have hs1 := hb1.size
          go_wp2_with fail
          refine (HD.out _ hb1).mono ?_
          rintro e w2 ⟨rfl, hb2⟩
          have s1 : w.heap.size < w1.heap.size := by omega
          have hz3 := (hb2.cell (p := ⟨w.heap.size, 3, none⟩) s1).trans hy3
          have hs2 := hb2.size
          have HA2 := Lib.hid ((HA.out.below hb1).below hb2)
          obtain ⟨b', o, k1, n1, p1, us, B1, c1, rfl, hb', ht, d0, d1, d2, d3, hcu, hB1, hT⟩ := HA2.out.at_ (i := 0) (by simp)
          simp only [Nat.zero_mul, Nat.add_zero] at d0 d1 d2 d3
          have HT := Lib.hid hT
          clear hT hB1 ht hy0 hy1 hy2 hy3
          go_wp2_with fail
          refine (IA.out _ _ HT.out).mono ?_
          rintro e w3 ⟨rfl, hb3⟩
          have hs3 := hb3.size
          have hz3 := (hb3.cell (p := ⟨w.heap.size, 3, none⟩) (by simp only; omega)).trans hz3
          obtain ⟨b'', o'', k2, n2, p2, us2, B2, c2, ho, hb'', ht2, f0, f1, f2, f3, hcu2, hB2, hT2⟩ := (HA2.out.below hb3).at_ (i := 1) (by simp)
          cases ho
          simp only [Nat.one_mul] at f0 f1 f2 f3
          have HT2 := Lib.hid hT2
          clear hT2 hB2 ht2
          cases z
          · go_wp2_with fail
            go_ret
            exact ⟨rfl, HB.out.trans ((hb1.trans ((hb2.trans (hb3.mono hs2)).mono hs1)).mono (by omega))⟩
          · go_wp2_with fail
            refine (IB.out _ _ HT2.out).mono ?_
            rintro e w4 ⟨rfl, hb4⟩
            cases y
            all_goals
              go_wp2_with fail
              go_ret
              exact ⟨rfl, HB.out.trans ((hb1.trans ((hb2.trans ((hb3.trans (hb4.mono hs3)).mono hs2)).mono hs1)).mono (by omega))⟩
      · have hk2f : (k == 2) = false := by simpa using hk2
        have HD : Hid (decide (k = 2) = false) := Lib.hid (decide_eq_false hk2)
        rw [HD.out]
        go_enter Tryz.func90, Tryz.ntmps90
        go_wp2_with fail
        refine HC.out.mono ?_
        rintro e w1 ⟨rfl, hb1⟩
        have hy0 := (hb1.cell (p := ⟨w.heap.size, 0, none⟩) s0).trans hx0
        go_wp2_with fail
        go_ret
        exact ⟨by simp, HB.out.trans (hb1.mono (by omega))⟩
    · rw [hq] at HC
      clear hq
      go_enter Tryz.func90, Tryz.ntmps90
      go_wp2_with fail
      refine HC.out.mono ?_
      rintro e w1 ⟨rfl, hb1⟩
      go_wp2_with fail
      go_ret
      exact ⟨rfl, HB.out.trans (hb1.mono (by omega))⟩

set_option maxRecDepth 100000 in
set_option maxHeartbeats 2000000 in
theorem tKnd_upto (m : Nat) (hmm : m ≤ 1000000000) : ∀ (t : Lfc.Raw) (v : Value) (w : World), t.size ≤ m → TreeV w t v →
    Calls Tryz.prog 91 #[v] w fun e w' => e = .returned (.bool t.knd) ∧ Below w.heap.size w w' := by
  induction m with
  | zero => intro t v w h _; have := t.size_pos; omega
  | succ m ih0 =>
    intro t v w hsz hv
    have ih := ih0 (by omega)
    clear ih0
    obtain ⟨k, n, p, ts⟩ := t
    have hn := hv.name_le
    obtain ⟨A, c, rfl, hc, hA⟩ := hv.open_
    have hsz' := hsz
    simp only [Lfc.Raw.size] at hsz'
    have hlen := Lfc.Raw.sizes_len ts
    have hlen1 : ts.length ≤ 1000000000 := by omega
    have hszs : Lfc.Raw.sizes ts ≤ m := by omega
    obtain ⟨w0, hw0⟩ : ∃ w0, w.alloc (.cells #[.int .i64 k, S n, .int .i64 p, .slice A ts.length c] 51) = w0 := ⟨_, rfl⟩
    have b0 : Below w.heap.size w w0 := by rw [← hw0]; exact (Below.refl _ _).alloc (Nat.le_refl _) _
    have s0 : w.heap.size < w0.heap.size := by rw [← hw0]; simp
    have hx0 : w0.cell? ⟨w.heap.size, 0, none⟩ = some (.int .i64 k) := by rw [← hw0]; simp
    have hx1 : w0.cell? ⟨w.heap.size, 1, none⟩ = some (S n) := by rw [← hw0]; simp
    have hx2 : w0.cell? ⟨w.heap.size, 2, none⟩ = some (.int .i64 p) := by rw [← hw0]; simp
    have hx3 : w0.cell? ⟨w.heap.size, 3, none⟩ = some (.slice A ts.length c) := by rw [← hw0]; simp
    have HV := Lib.hid (hv.below b0)
    have HA := Lib.hid (hA.below b0)
    have HB := Lib.hid b0
    rw [Lfc.Raw.knd]
    clear hv hA b0
    by_cases hk1 : k = 1
    · subst hk1
      rw [if_pos rfl]
      clear ih
      by_cases hn0 : n = []
      · subst hn0
        rw [decide_eq_true rfl]
        by_cases hp0 : p = 0
        · subst hp0
          by_cases hl0 : ts.length = 0
          · have hl1 : ((ts.length : Int) == 0) = true := by simp [hl0]
            have HD : Hid (decide (ts.length = 0) = true) := Lib.hid (decide_eq_true hl0)
            rw [HD.out]
            clear hl0
            go_enter Tryz.func91, Tryz.ntmps91
            go_wp2_with fail
            go_ret
            exact ⟨rfl, HB.out⟩
          · have hl1 : ((ts.length : Int) == 0) = false := by rw [beq_eq_false_iff_ne]; omega
            have HD : Hid (decide (ts.length = 0) = false) := Lib.hid (decide_eq_false hl0)
            rw [HD.out]
            clear hl0
            go_enter Tryz.func91, Tryz.ntmps91
            go_wp2_with fail
            go_ret
            exact ⟨rfl, HB.out⟩
        · have hp1 : (p == 0) = false := by simpa using hp0
          have HD : Hid (decide (p = 0) = false) := Lib.hid (decide_eq_false hp0)
          rw [HD.out]
          go_enter Tryz.func91, Tryz.ntmps91
          go_wp2_with fail
          go_ret
          exact ⟨rfl, HB.out⟩
      · have hn1 : (n == []) = false := by simpa using hn0
        have HD : Hid (decide (n = []) = false) := Lib.hid (decide_eq_false hn0)
        rw [HD.out]
        go_enter Tryz.func91, Tryz.ntmps91
        go_wp2_with fail
        go_ret
        exact ⟨by simp, HB.out⟩
    · have hk1f : (k == 1) = false := by simpa using hk1
      rw [if_neg hk1]
      by_cases hk2 : k = 2
      · subst hk2
        rw [decide_eq_true rfl, Bool.true_and]
        have HD := Lib.hid (tBound_any 2 p 2 n ts _ w0 (by omega) hlen1 HV.out)
        cases hq2 : Lfc.tbound n p ts.length 2
        · rw [hq2] at HD
          clear ih
          go_enter Tryz.func91, Tryz.ntmps91
          go_wp2_with fail
          refine HD.out.mono ?_
          rintro e w2 ⟨rfl, hb2⟩
          go_wp2_with fail
          go_ret
          exact ⟨rfl, HB.out.trans (hb2.mono (by omega))⟩
        · rw [hq2] at HD
          have hl2 : ts.length = 2 := by
            have := hq2
            simp only [Lfc.tbound, Bool.and_eq_true, decide_eq_true_eq] at this
            exact this.1.2
          obtain ⟨a, b, rfl⟩ := len_two hl2
          have HO : Hid (Lfc.Raw.knds [a, b] = (a.typ && b.knd)) := Lib.hid (by simp [Lfc.Raw.knds])
          rw [HO.out]
          have ha : a.size ≤ m := by simp only [Lfc.Raw.sizes] at hszs; omega
          have hb : b.size ≤ m := by simp only [Lfc.Raw.sizes] at hszs; omega
          have IA := Lib.hid (fun v w => tTyp_upto m (by omega) a v w ha)
          have IB := Lib.hid (fun v w => ih b v w hb)
          clear hq2 HO hl2 ih
          generalize hZ : a.typ = z at *
          generalize hY : b.knd = y at *
          clear hZ hY
          simp only [List.length_cons, List.length_nil, Nat.zero_add, Nat.reduceAdd] at hw0 hx3 HV HD
          go_enter Tryz.func91, Tryz.ntmps91
          go_wp2_with fail
          refine HD.out.mono ?_
          rintro e w2 ⟨rfl, hb2⟩
          have hz3 := (hb2.cell (p := ⟨w.heap.size, 3, none⟩) s0).trans hx3
          have hs2 := hb2.size
          have HA2 := Lib.hid (HA.out.below hb2)
          obtain ⟨b', o, k1, n1, p1, us, B1, c1, rfl, hb', ht, d0, d1, d2, d3, hcu, hB1, hT⟩ := HA2.out.at_ (i := 0) (by simp)
          simp only [Nat.zero_mul, Nat.add_zero] at d0 d1 d2 d3
          have HT := Lib.hid hT
          clear hT hB1 ht
          go_wp2_with fail
          refine (IA.out _ _ HT.out).mono ?_
          rintro e w3 ⟨rfl, hb3⟩
          have hs3 := hb3.size
          have hz3 := (hb3.cell (p := ⟨w.heap.size, 3, none⟩) (by simp only; omega)).trans hz3
          obtain ⟨b'', o'', k2, n2, p2, us2, B2, c2, ho, hb'', ht2, f0, f1, f2, f3, hcu2, hB2, hT2⟩ := (HA2.out.below hb3).at_ (i := 1) (by simp)
          cases ho
          simp only [Nat.one_mul] at f0 f1 f2 f3
          have HT2 := Lib.hid hT2
          clear hT2 hB2 ht2
          cases z
          · go_wp2_with fail
            go_ret
            exact ⟨rfl, HB.out.trans ((hb2.trans (hb3.mono hs2)).mono (by omega))⟩
          · go_wp2_with fail
            refine (IB.out _ _ HT2.out).mono ?_
            rintro e w4 ⟨rfl, hb4⟩
            cases y
            all_goals
              go_wp2_with fail
              go_ret
              exact ⟨rfl, HB.out.trans ((hb2.trans ((hb3.trans (hb4.mono hs3)).mono hs2)).mono (by omega))⟩
      · have hk2f : (k == 2) = false := by simpa using hk2
        have HD : Hid (decide (k = 2) = false) := Lib.hid (decide_eq_false hk2)
        rw [HD.out]
        clear ih
        go_enter Tryz.func91, Tryz.ntmps91
        go_wp2_with fail
        go_ret
        exact ⟨by simp, HB.out⟩
end Go.Proofs.YtadjpadieljjlaaGreat
