/- Contracts of WellFormed: the program's and the reference's. -/
import Derived.Test.YtkhfnkokdmoipaaDoorRawWf
import Derived.Deep.DeepCutAuto
import Derived.Deep.CutBlock
import Derived.RegionTactic
set_option linter.unusedVariables false
set_option linter.unusedSimpArgs false
namespace Go.Proofs.YtkhfnkokdmoipaaDoor
open Go.RowKit

set_option maxRecDepth 100000 in
set_option maxHeartbeats 2000000 in
theorem rForm_any (m : Nat) (hmm : m ≤ 1000000000) : ∀ (t : Lfc.Raw) (v : Value) (w : World), t.size ≤ m → TreeV w t v →
    Calls Tryd.prog 34 #[v] w fun e w' => e = .returned (.bool t.form) ∧ Below w.heap.size w w' := by
  induction m with
  | zero => intro t v w h _; have := t.size_pos; omega
  | succ m ih =>
    intro t v w hsz hv
    obtain ⟨kd, nm, ps, ts⟩ := t
    have hn := hv.name_le
    obtain ⟨A, c, rfl, hc, hA⟩ := hv.open_
    simp only [Lfc.Raw.size] at hsz
    have hlen := Lfc.Raw.sizes_len ts
    obtain ⟨w0, hw0⟩ : ∃ w0, w.alloc (.cells #[.int .i64 kd, S nm, .int .i64 ps, .slice A ts.length c] 39) = w0 := ⟨_, rfl⟩
    have b0 : Below w.heap.size w w0 := by rw [← hw0]; exact (Below.refl _ _).alloc (Nat.le_refl _) _
    have s0 : w.heap.size < w0.heap.size := by rw [← hw0]; simp
    have hx0 : w0.cell? ⟨w.heap.size, 0, none⟩ = some (.int .i64 kd) := by rw [← hw0]; simp
    have hx1 : w0.cell? ⟨w.heap.size, 1, none⟩ = some (S nm) := by rw [← hw0]; simp
    have hx3 : w0.cell? ⟨w.heap.size, 3, none⟩ = some (.slice A ts.length c) := by rw [← hw0]; simp
    have IH := Lib.hid (ih (by omega))
    have HA := Lib.hid (hA.below b0)
    have HN := Lib.hid (fun W => rIsName_any nm W (by omega))
    have HW0 := Lib.hid hw0
    rw [Lfc.Raw.form]
    clear ih hA hv hw0
    have HS := Lib.hid (forms_spec ts)
    have HF := Lib.hid (forms_false ts)
    generalize Lfc.Raw.forms ts = res at *
    generalize hfo : Lfc.formed kd nm ts.length = fo at *
    have HFO := Lib.hid hfo
    clear hfo
    go_enter Tryd.func34, Tryd.ntmps34
    go_upto_block 0 with fail
    rw [HW0.out]
    clear HW0
    generalize hG : w.heap.size = G at *
    have HGG := Lib.hid hG
    clear hG
    go_cut [3] (fun s3 wx => s3 = .bool fo ∧ wx = w0)
    case first =>
      clear IH HA HS HF
      have hk : (kd = 1 ∨ kd = 2) ∨ (kd = 3 ∨ kd = 4) ∨ (kd = 5 ∨ kd = 6 ∨ kd = 9) ∨ (kd = 7 ∨ kd = 8) ∨ (kd ≠ 1 ∧ kd ≠ 2 ∧ kd ≠ 3 ∧ kd ≠ 4 ∧ kd ≠ 5 ∧ kd ≠ 6 ∧ kd ≠ 7 ∧ kd ≠ 8 ∧ kd ≠ 9) := by omega
      rcases hk with hk | hk | hk | hk | hk
      · have e : fo = (Lfc.isName nm && decide (ts.length = 0)) := by rw [← HFO.out]; unfold Lfc.formed; rw [if_pos hk]
        generalize Lfc.isName nm = q at *
        obtain ⟨bm, g0, d0⟩ := lenCase0 ts.length
        rw [d0] at e
        clear HFO
        subst e
        clear d0
        rcases hk with rfl | rfl
        all_goals
          cases q
          all_goals
            cases bm
            all_goals
              go_wp2_with fail
              refine (HN.out _).mono ?_
              rintro e w1 ⟨rfl, rfl⟩
              go_wp2_with fail
              go_meet
              exact ⟨rfl, rfl⟩
      · have e : fo = (decide (nm = []) && decide (ts.length = 0)) := by rw [← HFO.out]; unfold Lfc.formed; rw [if_neg (by omega), if_pos hk]
        obtain ⟨bm, g0, d0⟩ := lenCase0 ts.length
        obtain ⟨q, g1, d1⟩ := nameCase nm []
        rw [d0, d1] at e
        clear HFO
        subst e
        clear d0 d1
        rcases hk with rfl | rfl
        all_goals
          cases q
          all_goals
            cases bm
            all_goals
              go_wp2_with fail
              go_meet
              exact ⟨rfl, rfl⟩
      · have e : fo = (decide (nm = []) && decide (ts.length = 2)) := by rw [← HFO.out]; unfold Lfc.formed; rw [if_neg (by omega), if_neg (by omega), if_pos hk]
        obtain ⟨bm, g0, d0⟩ := lenCase2 ts.length
        obtain ⟨q, g1, d1⟩ := nameCase nm []
        rw [d0, d1] at e
        clear HFO
        subst e
        clear d0 d1
        rcases hk with rfl | rfl | rfl
        all_goals
          cases q
          all_goals
            cases bm
            all_goals
              go_wp2_with fail
              go_meet
              exact ⟨rfl, rfl⟩
      · have e : fo = ((decide (nm = [95]) || Lfc.isName nm) && (decide (ts.length = 1) || decide (ts.length = 2))) := by rw [← HFO.out]; unfold Lfc.formed; rw [if_neg (by omega), if_neg (by omega), if_neg (by omega), if_pos hk, Bool.or_comm (Lfc.isName nm)]
        generalize Lfc.isName nm = q at *
        obtain ⟨bm, g0, d0⟩ := lenCase1 ts.length
        obtain ⟨bn, g1, d1⟩ := lenCase2 ts.length
        obtain ⟨r, g2, d2⟩ := nameCase nm [95]
        rw [d0, d1, d2] at e
        clear HFO
        subst e
        clear d0 d1 d2
        rcases hk with rfl | rfl
        all_goals
          cases r
          · cases q
            all_goals
              cases bm
              all_goals
                cases bn
                all_goals
                  go_wp2_with fail
                  refine (HN.out _).mono ?_
                  rintro e w1 ⟨rfl, rfl⟩
                  go_wp2_with fail
                  go_meet
                  exact ⟨rfl, rfl⟩
          · cases bm
            all_goals
              cases bn
              all_goals
                go_wp2_with fail
                go_meet
                exact ⟨rfl, rfl⟩
      · obtain ⟨h1, h2, h3, h4, h5, h6, h7, h8, h9⟩ := hk
        have e : fo = false := by rw [← HFO.out]; unfold Lfc.formed; rw [if_neg (by omega), if_neg (by omega), if_neg (by omega), if_neg (by omega)]
        clear HFO
        subst e
        have e1 : (kd == 1) = false := by simp [h1]
        have e2 : (kd == 2) = false := by simp [h2]
        have e3 : (kd == 3) = false := by simp [h3]
        have e4 : (kd == 4) = false := by simp [h4]
        have e5 : (kd == 5) = false := by simp [h5]
        have e6 : (kd == 6) = false := by simp [h6]
        have e7 : (kd == 7) = false := by simp [h7]
        have e8 : (kd == 8) = false := by simp [h8]
        have e9 : (kd == 9) = false := by simp [h9]
        clear h1 h2 h3 h4 h5 h6 h7 h8 h9
        go_wp2_with fail
        go_meet
        exact ⟨rfl, rfl⟩
    case rest =>
      obtain ⟨rfl, rfl⟩ := hcut
      clear HFO
      cases fo
      · go_wp2_with fail
        go_ret
        exact ⟨rfl, by rw [HGG.out]; exact b0⟩
      · go_wp2_with fail
        go_loopw [4] (fun i wr => ∃ k : Nat, k ≤ ts.length ∧ i = .int .i64 k ∧ Below wc.heap.size wc wr ∧ Hid (∀ j (h : j < ts.length), j < k → ts[j].form = true)) (fun i _ => ts.length - (intOf i).toNat)
        case atStart => exact ⟨0, by omega, rfl, Below.refl _ _, Lib.hid fun j _ hj => by omega⟩
        case round =>
          obtain ⟨k, hk, rfl, hbw, hp⟩ := hrel
          have hbx : wr.cell? ⟨G, 3, none⟩ = some (.slice A ts.length c) := (hbw.cell (p := ⟨G, 3, none⟩) s0).trans hx3
          by_cases hlt : k < ts.length
          · obtain ⟨b, o, k1, n1, p1, xs, B1, c1, rfl, hb, ht, d0, d1, d2, d3, hcu, hB, hT⟩ := (HA.out.below hbw).at_ hlt
            have hmem := Lfc.Raw.sizes_mem ts ts[k] (List.getElem_mem _)
            clear hB ht
            have hws := hbw.size
            cases hq : ts[k].form
            · have hres := HF.out k hlt hq
              subst hres
              have HQ := Lib.hid hq
              clear hq
              go_wp2_with fail
              refine (IH.out ts[k] _ _ (by omega) hT).mono ?_
              rintro e w1 ⟨rfl, hb1⟩
              rw [HQ.out]
              go_wp2_with fail
              go_ret
              exact ⟨rfl, by rw [HGG.out]; exact b0.trans ((hbw.mono (by omega)).trans (hb1.mono (by omega)))⟩
            · have HQ := Lib.hid hq
              clear hq
              go_wp2_with fail
              refine (IH.out ts[k] _ _ (by omega) hT).mono ?_
              rintro e w1 ⟨rfl, hb1⟩
              rw [HQ.out]
              go_wp2_with fail
              go_roundw
              case rel =>
                refine ⟨k + 1, by omega, by go_num, hbw.trans (hb1.mono hbw.size), Lib.hid fun j h hj => ?_⟩
                rcases Nat.lt_or_ge j k with h1 | h1
                · exact hp.out j h h1
                · obtain rfl : j = k := by omega
                  exact HQ.out
              case measure => simp [intOf]; omega
          · have hres := HS.out.2 fun j h => hp.out j h (by omega)
            subst hres
            go_wp2_with fail
            go_ret
            exact ⟨rfl, by rw [HGG.out]; exact b0.trans (hbw.mono (by omega))⟩
end Go.Proofs.YtkhfnkokdmoipaaDoor
