/- Contract of object. -/
import Derived.Test.YtadjpadieljjlaaGreatTmForm
set_option linter.unusedVariables false
set_option linter.unusedSimpArgs false
namespace Go.Proofs.YtadjpadieljjlaaGreat
open Go.RowKit

theorem Lfc.len_one {α : Type} {l : List α} (h : l.length = 1) : ∃ a, l = [a] := List.length_eq_one_iff.1 h

set_option maxRecDepth 100000 in
set_option maxHeartbeats 2000000 in
theorem tObj_upto (m : Nat) (hmm : m ≤ 1000000000) : ObjUpto m := by
  induction m with
  | zero => intro t v w h _; have := t.size_pos; omega
  | succ m ih0 =>
    intro t v w hsz hv
    have ih := ih0 (by omega)
    clear ih0
    obtain ⟨k, n, p, ts⟩ := t
    have hn := hv.name_le
    obtain ⟨A, c, rfl, hc, hA⟩ := hv.open_
    have hsz' := hsz
    simp only [Lfc.Raw.size] at hsz'
    have hlen := Lfc.Raw.sizes_len ts
    have hlen1 : ts.length ≤ 1000000000 := by omega
    have hszs : Lfc.Raw.sizes ts ≤ m := by omega
    obtain ⟨w0, hw0⟩ : ∃ w0, w.alloc (.cells #[.int .i64 k, S n, .int .i64 p, .slice A ts.length c] 51) = w0 := ⟨_, rfl⟩
    have b0 : Below w.heap.size w w0 := by rw [← hw0]; exact (Below.refl _ _).alloc (Nat.le_refl _) _
    have s0 : w.heap.size < w0.heap.size := by rw [← hw0]; simp
    have hx0 : w0.cell? ⟨w.heap.size, 0, none⟩ = some (.int .i64 k) := by rw [← hw0]; simp
    have hx1 : w0.cell? ⟨w.heap.size, 1, none⟩ = some (S n) := by rw [← hw0]; simp
    have hx2 : w0.cell? ⟨w.heap.size, 2, none⟩ = some (.int .i64 p) := by rw [← hw0]; simp
    have hx3 : w0.cell? ⟨w.heap.size, 3, none⟩ = some (.slice A ts.length c) := by rw [← hw0]; simp
    have HV := Lib.hid (hv.below b0)
    have HA := Lib.hid (hA.below b0)
    have HB := Lib.hid b0
    by_cases hk3 : k = 3
    · subst hk3
      have HR : Hid (Lfc.Raw.obj (.node 3 n p ts) = (Lfc.tbound n p ts.length 1 && Lfc.Raw.objs ts)) := Lib.hid (by rw [Lfc.Raw.obj, if_pos rfl])
      rw [HR.out]
      have HC := Lib.hid (tBound_any 3 p 1 n ts _ w0 (by omega) hlen1 HV.out)
      clear hv hA HR b0
      cases hq : Lfc.tbound n p ts.length 1
      · rw [hq] at HC
        go_enter Tryz.func70, Tryz.ntmps70
        go_wp2_with fail
        refine HC.out.mono ?_
        rintro e w1 ⟨rfl, hb1⟩
        go_wp2_with fail
        go_ret
        exact ⟨rfl, HB.out.trans (hb1.mono (by omega))⟩
      · rw [hq] at HC
        have hl1 : ts.length = 1 := by
          have := hq
          simp only [Lfc.tbound, Bool.and_eq_true, decide_eq_true_eq] at this
          exact this.1.2
        obtain ⟨a, rfl⟩ := Lfc.len_one hl1
        have HO : Hid (Lfc.Raw.objs [a] = a.obj) := Lib.hid (by simp [Lfc.Raw.objs])
        rw [HO.out]
        have ha : a.size ≤ m := by simp only [Lfc.Raw.sizes] at hszs; omega
        have IA := Lib.hid (fun v w => ih a v w ha)
        clear hq HO hl1 ih
        generalize hZ : a.obj = z at *
        clear hZ
        simp only [List.length_singleton] at hw0 hx3 HC HV
        go_enter Tryz.func70, Tryz.ntmps70
        go_wp2_with fail
        refine HC.out.mono ?_
        rintro e w1 ⟨rfl, hb1⟩
        have hy3 := (hb1.cell (p := ⟨w.heap.size, 3, none⟩) s0).trans hx3
        have hs1 := hb1.size
        obtain ⟨b, o, k1, n1, p1, us, B1, c1, rfl, hb, ht, d0, d1, d2, d3, hcu, hB1, hT⟩ := (HA.out.below hb1).at_ (i := 0) (by simp)
        simp only [Nat.zero_mul, Nat.add_zero] at d0 d1 d2 d3
        have HT := Lib.hid hT
        clear hT hB1 ht
        go_wp2_with fail
        refine (IA.out _ _ HT.out).mono ?_
        rintro e w2 ⟨rfl, hb2⟩
        cases z
        all_goals
          go_wp2_with fail
          go_ret
          exact ⟨rfl, HB.out.trans ((hb1.trans (hb2.mono hs1)).mono (by omega))⟩
    · have hk3f : (k == 3) = false := by simpa using hk3
      by_cases hk4 : k = 4
      · subst hk4
        have HR : Hid (Lfc.Raw.obj (.node 4 n p ts) = Lfc.Raw.atm (.node 4 n p ts)) := Lib.hid (by rw [Lfc.Raw.obj, if_neg (by decide), if_pos rfl]; simp [Lfc.Raw.atm])
        rw [HR.out]
        have HC := Lib.hid (tAtom_any m ih 4 p n ts _ w0 hszs hlen1 HV.out)
        clear hv hA HR b0 ih
        generalize Lfc.Raw.atm (.node 4 n p ts) = q at *
        go_enter Tryz.func70, Tryz.ntmps70
        go_wp2_with fail
        refine HC.out.mono ?_
        rintro e w1 ⟨rfl, hb1⟩
        go_wp2_with fail
        go_ret
        exact ⟨rfl, HB.out.trans (hb1.mono (by omega))⟩
      · have hk4f : (k == 4) = false := by simpa using hk4
        by_cases hk56 : k = 5 ∨ k = 6
        · have HC := Lib.hid (tAll_any m ih k p n ts _ w0 hszs hlen1 HV.out)
          have HR : Hid (Lfc.Raw.obj (.node k n p ts) = (decide (n = []) && decide (0 ≤ p) && (if k = 5 then decide (p ≤ 1048576) else decide (p < 2048)) && Lfc.Raw.objs ts)) := Lib.hid (by
            rw [Lfc.Raw.obj, if_neg hk3, if_neg hk4]
            rcases hk56 with rfl | rfl
            · rfl
            · rfl)
          rw [HR.out]
          clear hv hA HR b0 ih
          generalize Lfc.Raw.objs ts = r at *
          by_cases hn0 : n = []
          · subst hn0
            by_cases hp0 : 0 ≤ p
            · rw [decide_eq_true hp0]
              rcases hk56 with rfl | rfl
              · by_cases hp1 : p ≤ 1048576
                · have HD : Hid (decide (p ≤ 1048576) = true) := Lib.hid (decide_eq_true hp1)
                  rw [if_pos rfl, HD.out]
                  go_enter Tryz.func70, Tryz.ntmps70
                  go_wp2_with fail
                  refine HC.out.mono ?_
                  rintro e w1 ⟨rfl, hb1⟩
                  cases r
                  all_goals
                    go_wp2_with fail
                    go_ret
                    exact ⟨rfl, HB.out.trans (hb1.mono (by omega))⟩
                · have HD : Hid (decide (p ≤ 1048576) = false) := Lib.hid (decide_eq_false hp1)
                  rw [if_pos rfl, HD.out]
                  go_enter Tryz.func70, Tryz.ntmps70
                  go_wp2_with fail
                  go_ret
                  exact ⟨rfl, HB.out⟩
              · by_cases hp1 : p < 2048
                · have HD : Hid (decide (p < 2048) = true) := Lib.hid (decide_eq_true hp1)
                  rw [if_neg (by decide), HD.out]
                  go_enter Tryz.func70, Tryz.ntmps70
                  go_wp2_with fail
                  refine HC.out.mono ?_
                  rintro e w1 ⟨rfl, hb1⟩
                  cases r
                  all_goals
                    go_wp2_with fail
                    go_ret
                    exact ⟨rfl, HB.out.trans (hb1.mono (by omega))⟩
                · have HD : Hid (decide (p < 2048) = false) := Lib.hid (decide_eq_false hp1)
                  rw [if_neg (by decide), HD.out]
                  go_enter Tryz.func70, Tryz.ntmps70
                  go_wp2_with fail
                  go_ret
                  exact ⟨rfl, HB.out⟩
            · have HD : Hid (decide (0 ≤ p) = false) := Lib.hid (decide_eq_false hp0)
              rw [HD.out]
              rcases hk56 with rfl | rfl
              all_goals
                go_enter Tryz.func70, Tryz.ntmps70
                go_wp2_with fail
                go_ret
                exact ⟨rfl, HB.out⟩
          · have hn1 : (n == []) = false := by simpa using hn0
            have HD : Hid (decide (n = []) = false) := Lib.hid (decide_eq_false hn0)
            rw [HD.out]
            rcases hk56 with rfl | rfl
            all_goals
              go_enter Tryz.func70, Tryz.ntmps70
              go_wp2_with fail
              go_ret
              exact ⟨by simp, HB.out⟩
        · have hk5f : (k == 5) = false := by simp; omega
          have hk6f : (k == 6) = false := by simp; omega
          have HR : Hid (Lfc.Raw.obj (.node k n p ts) = false) := Lib.hid (by rw [Lfc.Raw.obj, if_neg hk3, if_neg hk4, if_neg (by omega), if_neg (by omega)])
          rw [HR.out]
          clear hv hA HR b0 ih
          go_enter Tryz.func70, Tryz.ntmps70
          go_wp2_with fail
          go_ret
          exact ⟨rfl, HB.out⟩
end Go.Proofs.YtadjpadieljjlaaGreat
