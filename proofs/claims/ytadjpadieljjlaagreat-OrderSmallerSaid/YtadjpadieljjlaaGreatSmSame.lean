/- The contract of Same of the reference 05. -/
import Derived.Test.YtadjpadieljjlaaGreatTmSame
import Derived.Deep.RegionHeld3
set_option linter.unusedVariables false
set_option linter.unusedSimpArgs false
namespace Go.Proofs.YtadjpadieljjlaaGreat
open Go.RowKit

theorem kept5 {w w1 : World} {p : Addr} {v : Value} (h : Below w.drew.heap.size w.drew w1) (hp : p.block < w.heap.size) (hv : w.cell? p = some v) : w1.cell? p = some v := (h.cell hp).trans hv

set_option maxRecDepth 100000 in
set_option maxHeartbeats 4000000 in
theorem sSame_upto (m : Nat) (hmm : m ≤ 1000000000) : ∀ (t u : Lfc.Raw) (v v' : Value) (w : World), t.size ≤ m → TreeV w t v → TreeV w u v' →
    Calls Tryz.prog 22 #[v, v'] w fun e w' => e = .returned (.bool (Lfc.Raw.tsm t u)) ∧ Below w.heap.size w w' := by
  induction m with
  | zero => intro t u v v' w h _ _; have := t.size_pos; omega
  | succ m ih =>
    intro t u v v' w hsz hv hv'
    obtain ⟨kd, nm, ps, ts⟩ := t
    obtain ⟨kd', nm', ps', us⟩ := u
    obtain ⟨A, c, rfl, hc, hA⟩ := hv.open_
    obtain ⟨A', c', rfl, hc', hA'⟩ := hv'.open_
    simp only [Lfc.Raw.size] at hsz
    have hlen := Lfc.Raw.sizes_len ts
    obtain ⟨w0, hw0⟩ : ∃ w0, (w.alloc (.cells #[.int .i64 kd, S nm, .int .i64 ps, .slice A ts.length c] 51)).alloc (.cells #[.int .i64 kd', S nm', .int .i64 ps', .slice A' us.length c'] 51) = w0 := ⟨_, rfl⟩
    have b0 : Below w.heap.size w w0 := by rw [← hw0]; exact ((Below.refl _ _).alloc (Nat.le_refl _) _).alloc (by simp) _
    have s0 : w.heap.size + 1 < w0.heap.size := by rw [← hw0]; simp
    have hx1 : w0.cell? ⟨w.heap.size, 3, none⟩ = some (.slice A ts.length c) := by rw [← hw0]; simp
    have hx2 : w0.cell? ⟨w.heap.size + 1, 3, none⟩ = some (.slice A' us.length c') := by
      rw [← hw0]
      have h := Lib.cell_of_heap (heap_alloc_new (w.alloc (.cells #[.int .i64 kd, S nm, .int .i64 ps, .slice A ts.length c] 51)) (.cells #[.int .i64 kd', S nm', .int .i64 ps', .slice A' us.length c'] 51)) 3
      rw [show (w.alloc (.cells #[.int .i64 kd, S nm, .int .i64 ps, .slice A ts.length c] 51)).heap.size = w.heap.size + 1 by simp] at h
      exact h
    have IH := Lib.hid (ih (by omega))
    have HA := Lib.hid (hA.below b0)
    have HA' := Lib.hid (hA'.below b0)
    have HX1 := Lib.hid hx1
    have HX2 := Lib.hid hx2
    have hsame : Lfc.Raw.tsm (.node kd nm ps ts) (.node kd' nm' ps' us) = (decide (kd = kd') && decide (ps = ps') && (decide (nm = nm') || decide (kd = 2) || decide (kd = 3)) && Lfc.Raw.tsms ts us) := by
      rw [Lfc.Raw.tsm]
    have HW0 := Lib.hid hw0
    clear ih hA hA' hv hv' hx1 hx2 hw0
    by_cases h1 : kd = kd' ∧ ps = ps' ∧ (nm = nm' ∨ kd = 2 ∨ kd = 3) ∧ ts.length = us.length
    · obtain ⟨h1, h2, h3, hl⟩ := h1
      have g1 : ((kd : Int) != kd') = false := by simp [h1]
      have g2 : ((ps : Int) != ps') = false := by simp [h2]
      have g3 : ((ts.length : Int) != (us.length : Int)) = false := by simp; omega
      have hps : (decide (nm = nm') || decide (kd = 2) || decide (kd = 3)) = true := by
        rcases h3 with h | h | h <;> simp [h]
      rw [hsame, decide_eq_true h1, decide_eq_true h2, hps, Bool.true_and, Bool.true_and, Bool.true_and]
      have HS := Lib.hid (tsms_spec ts us)
      have HF := Lib.hid (tsms_false ts us)
      have HL := Lib.hid hl
      generalize Lfc.Raw.tsms ts us = res at *
      have hat : ((kd != 2) = false) ∨ ((kd != 2) = true ∧ (kd != 3) = false) ∨ ((kd != 2) = true ∧ (kd != 3) = true ∧ (nm == nm') = true) := by
        by_cases e2 : kd = 2
        · exact .inl (by simp [e2])
        · by_cases e3 : kd = 3
          · exact .inr (.inl ⟨by simp [e2], by simp [e3]⟩)
          · rcases h3 with h | h | h
            · exact .inr (.inr ⟨by simp [e2], by simp [e3], by simp [h]⟩)
            · exact absurd h e2
            · exact absurd h e3
      clear hsame h1 h2 h3 hps hl
      rcases hat with g4 | ⟨g4, g5⟩ | ⟨g4, g5, g6⟩
      all_goals
        go_enter Tryz.func22, Tryz.ntmps22
        go_wp2_with fail
        rw [HW0.out]
        generalize hG : w.heap.size = G at *
        have HGG := Lib.hid hG
        clear hG
        go_loopw [5] (fun i wr => ∃ k : Nat, k ≤ ts.length ∧ i = .int .i64 k ∧ Below w0.heap.size w0 wr ∧ Hid (∀ j (h : j < ts.length) (h' : j < us.length), j < k → Lfc.Raw.tsm ts[j] us[j] = true)) (fun i _ => ts.length - (intOf i).toNat)
        case atStart => exact ⟨0, by omega, rfl, Below.refl _ _, Lib.hid fun j _ _ hj => by omega⟩
        case round =>
          obtain ⟨k, hk, rfl, hbw, hp⟩ := hrel
          have hbx1 : wr.cell? ⟨G, 3, none⟩ = some (.slice A ts.length c) := (hbw.cell (p := ⟨G, 3, none⟩) (by simp only; omega)).trans HX1.out
          by_cases hlt : k < ts.length
          · have hlt' : k < us.length := by have := HL.out; omega
            have hbx2 : wr.cell? ⟨G + 1, 3, none⟩ = some (.slice A' us.length c') := (hbw.cell (p := ⟨G + 1, 3, none⟩) s0).trans HX2.out
            obtain ⟨b, o, k1, n1, p1, xs, B, c1, rfl, hb, ht, d0, d1, d2, d3, hcu, hB, hT⟩ := (HA.out.below hbw).at_ hlt
            obtain ⟨b', o', k2, n2, p2, ys, B', c2, rfl, hb', ht', e0, e1, e2, e3, hcu', hB', hT'⟩ := (HA'.out.below hbw).at_ hlt'
            have hmem := Lfc.Raw.sizes_mem ts ts[k] (List.getElem_mem _)
            clear hB hB' ht ht'
            have hk0 : (0 : Int) ≤ (k : Int) := Int.natCast_nonneg _
            have hk1 : (k : Int) < (ts.length : Int) := by omega
            have hk2 : (k : Int) < (us.length : Int) := by omega
            have b1 : Below wr.heap.size wr wr.drew := (Below.refl _ _).drew
            have hws := hbw.size
            cases hq : Lfc.Raw.tsm ts[k] us[k]
            · have hres := HF.out k hlt hlt' hq
              subst hres
              have HQ := Lib.hid hq
              clear hq
              go_wp2_with fail
              go_region_held3 (fun w' => w'.cell? ⟨G, 3, none⟩ = some (.slice (some ⟨b, o, none⟩) ts.length c) ∧ w'.cell? ⟨G + 1, 3, none⟩ = some (.slice (some ⟨b', o', none⟩) us.length c') ∧
                  w'.cell? ⟨b, o + k * 4, none⟩ = some (.int .i64 k1) ∧ w'.cell? ⟨b, o + k * 4 + 1, none⟩ = some (S n1) ∧ w'.cell? ⟨b, o + k * 4 + 2, none⟩ = some (.int .i64 p1) ∧ w'.cell? ⟨b, o + k * 4 + 3, none⟩ = some (.slice B xs.length c1) ∧
                  w'.cell? ⟨b', o' + k * 4, none⟩ = some (.int .i64 k2) ∧ w'.cell? ⟨b', o' + k * 4 + 1, none⟩ = some (S n2) ∧ w'.cell? ⟨b', o' + k * 4 + 2, none⟩ = some (.int .i64 p2) ∧ w'.cell? ⟨b', o' + k * 4 + 3, none⟩ = some (.slice B' ys.length c2))
                (first | go_keep | exact ⟨kept5 hb1 (by simp only; omega) hbx1, kept5 hb1 (by simp only; omega) hbx2, kept5 hb1 hb d0, kept5 hb1 hb d1, kept5 hb1 hb d2, kept5 hb1 hb d3, kept5 hb1 hb' e0, kept5 hb1 hb' e1, kept5 hb1 hb' e2, kept5 hb1 hb' e3⟩)
                (first | (go_at_call 22; refine (IH.out ts[k] us[k] _ _ _ (by omega) (hT.below b1) (hT'.below b1)).mono ?_; rintro e w1 ⟨rfl, hb1⟩; rw [HQ.out]))
              go_wp2_with fail
              go_ret
              exact ⟨rfl, by rw [HGG.out]; exact b0.trans ((hbw.mono (by omega)).trans ((b1.trans hb1).mono (Nat.le_trans (by omega) hbw.size)))⟩
            · have HQ := Lib.hid hq
              clear hq
              go_wp2_with fail
              go_region_held3 (fun w' => w'.cell? ⟨G, 3, none⟩ = some (.slice (some ⟨b, o, none⟩) ts.length c) ∧ w'.cell? ⟨G + 1, 3, none⟩ = some (.slice (some ⟨b', o', none⟩) us.length c') ∧
                  w'.cell? ⟨b, o + k * 4, none⟩ = some (.int .i64 k1) ∧ w'.cell? ⟨b, o + k * 4 + 1, none⟩ = some (S n1) ∧ w'.cell? ⟨b, o + k * 4 + 2, none⟩ = some (.int .i64 p1) ∧ w'.cell? ⟨b, o + k * 4 + 3, none⟩ = some (.slice B xs.length c1) ∧
                  w'.cell? ⟨b', o' + k * 4, none⟩ = some (.int .i64 k2) ∧ w'.cell? ⟨b', o' + k * 4 + 1, none⟩ = some (S n2) ∧ w'.cell? ⟨b', o' + k * 4 + 2, none⟩ = some (.int .i64 p2) ∧ w'.cell? ⟨b', o' + k * 4 + 3, none⟩ = some (.slice B' ys.length c2))
                (first | go_keep | exact ⟨kept5 hb1 (by simp only; omega) hbx1, kept5 hb1 (by simp only; omega) hbx2, kept5 hb1 hb d0, kept5 hb1 hb d1, kept5 hb1 hb d2, kept5 hb1 hb d3, kept5 hb1 hb' e0, kept5 hb1 hb' e1, kept5 hb1 hb' e2, kept5 hb1 hb' e3⟩)
                (first | (go_at_call 22; refine (IH.out ts[k] us[k] _ _ _ (by omega) (hT.below b1) (hT'.below b1)).mono ?_; rintro e w1 ⟨rfl, hb1⟩; rw [HQ.out]))
              go_wp2_with fail
              go_roundw
              case rel =>
                refine ⟨k + 1, by omega, by go_num, hbw.trans ((b1.trans hb1).mono hbw.size), Lib.hid fun j h h' hj => ?_⟩
                rcases Nat.lt_or_ge j k with h1 | h1
                · exact hp.out j h h' h1
                · obtain rfl : j = k := by omega
                  exact HQ.out
              case measure => simp [intOf]; omega
          · have hres := HS.out.2 ⟨HL.out, fun j h h' => hp.out j h h' (by omega)⟩
            subst hres
            go_wp2_with fail
            go_ret
            exact ⟨rfl, by rw [HGG.out]; exact b0.trans (hbw.mono (by omega))⟩
    · rw [hsame]
      have HN := Lib.hid h1
      clear hsame h1
      by_cases c1 : kd = kd'
      · have g1 : ((kd : Int) != kd') = false := by simp [c1]
        by_cases c2 : ps = ps'
        · have g2 : ((ps : Int) != ps') = false := by simp [c2]
          by_cases c3 : ts.length = us.length
          · have g3 : ((ts.length : Int) != (us.length : Int)) = false := by simp; omega
            have c4 : ¬ (nm = nm' ∨ kd = 2 ∨ kd = 3) := fun h => HN.out ⟨c1, c2, h, c3⟩
            have g4 : (kd != 2) = true := by simp; exact fun h => c4 (.inr (.inl h))
            have g5 : (kd != 3) = true := by simp; exact fun h => c4 (.inr (.inr h))
            have g6 : (nm == nm') = false := by simp; exact fun h => c4 (.inl h)
            have e : (decide (kd = kd') && decide (ps = ps') && (decide (nm = nm') || decide (kd = 2) || decide (kd = 3)) && Lfc.Raw.tsms ts us) = false := by
              rw [show (decide (nm = nm') || decide (kd = 2) || decide (kd = 3)) = false by
                rw [decide_eq_false (fun h => c4 (.inl h)), decide_eq_false (fun h => c4 (.inr (.inl h))), decide_eq_false (fun h => c4 (.inr (.inr h)))]; rfl]
              simp
            rw [e]
            clear e c1 c2 c3 c4
            go_enter Tryz.func22, Tryz.ntmps22
            go_wp2_with fail
            rw [HW0.out]
            go_ret
            exact ⟨rfl, b0⟩
          · have g3 : ((ts.length : Int) != (us.length : Int)) = true := by simp; omega
            have e : (decide (kd = kd') && decide (ps = ps') && (decide (nm = nm') || decide (kd = 2) || decide (kd = 3)) && Lfc.Raw.tsms ts us) = false := by simp [tsms_len ts us c3]
            rw [e]
            clear e c1 c2 c3
            go_enter Tryz.func22, Tryz.ntmps22
            go_wp2_with fail
            rw [HW0.out]
            go_ret
            exact ⟨rfl, b0⟩
        · have g2 : ((ps : Int) != ps') = true := by simp [c2]
          have e : (decide (kd = kd') && decide (ps = ps') && (decide (nm = nm') || decide (kd = 2) || decide (kd = 3)) && Lfc.Raw.tsms ts us) = false := by simp [c2]
          rw [e]
          clear e c1 c2
          go_enter Tryz.func22, Tryz.ntmps22
          go_wp2_with fail
          rw [HW0.out]
          go_ret
          exact ⟨rfl, b0⟩
      · have g1 : ((kd : Int) != kd') = true := by simp [c1]
        have e : (decide (kd = kd') && decide (ps = ps') && (decide (nm = nm') || decide (kd = 2) || decide (kd = 3)) && Lfc.Raw.tsms ts us) = false := by simp [c1]
        rw [e]
        clear e c1
        go_enter Tryz.func22, Tryz.ntmps22
        go_wp2_with fail
        rw [HW0.out]
        go_ret
        exact ⟨rfl, b0⟩
end Go.Proofs.YtadjpadieljjlaaGreat
