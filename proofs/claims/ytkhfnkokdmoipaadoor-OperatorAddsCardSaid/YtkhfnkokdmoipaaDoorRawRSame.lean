/- The contract of the reference's Same. -/
import Derived.Test.YtkhfnkokdmoipaaDoorRawSame
set_option linter.unusedVariables false
set_option linter.unusedSimpArgs false
namespace Go.Proofs.YtkhfnkokdmoipaaDoor
open Go.RowKit

theorem kept {w w1 : World} {p : Addr} {v : Value} (h : Below w.drew.heap.size w.drew w1) (hp : p.block < w.heap.size) (hv : w.cell? p = some v) : w1.cell? p = some v := (h.cell hp).trans hv

set_option maxRecDepth 100000 in
set_option maxHeartbeats 2000000 in
theorem rSame_aux (at_ aa : Bool) (haa : aa = at_) (m : Nat) (hmm : m ≤ 1000000000) : ∀ (t u : Lfc.Raw) (v v' : Value) (w : World), t.size ≤ m → TreeV w t v → TreeV w u v' →
    Calls Tryd.prog 18 #[v, v', .bool at_] w fun e w' => e = .returned (.bool (Lfc.Raw.same aa t u)) ∧ Below w.heap.size w w' := by
  induction m with
  | zero => intro t u v v' w h _ _; have := t.size_pos; omega
  | succ m ih =>
    intro t u v v' w hsz hv hv'
    obtain ⟨kd, nm, ps, ts⟩ := t
    obtain ⟨kd', nm', ps', us⟩ := u
    obtain ⟨A, c, rfl, hc, hA⟩ := hv.open_
    obtain ⟨A', c', rfl, hc', hA'⟩ := hv'.open_
    simp only [Lfc.Raw.size] at hsz
    have hlen := Lfc.Raw.sizes_len ts
    obtain ⟨w0, hw0⟩ : ∃ w0, (w.alloc (.cells #[.int .i64 kd, S nm, .int .i64 ps, .slice A ts.length c] 39)).alloc (.cells #[.int .i64 kd', S nm', .int .i64 ps', .slice A' us.length c'] 39) = w0 := ⟨_, rfl⟩
    have b0 : Below w.heap.size w w0 := by rw [← hw0]; exact ((Below.refl _ _).alloc (Nat.le_refl _) _).alloc (by simp) _
    have s0 : w.heap.size + 1 < w0.heap.size := by rw [← hw0]; simp
    have hx1 : w0.cell? ⟨w.heap.size, 3, none⟩ = some (.slice A ts.length c) := by rw [← hw0]; simp
    have hx2 : w0.cell? ⟨w.heap.size + 1, 3, none⟩ = some (.slice A' us.length c') := by
      rw [← hw0]
      have := cells_new (w.alloc (.cells #[.int .i64 kd, S nm, .int .i64 ps, .slice A ts.length c] 39)) (w.heap.size + 1) (by simp) [.int .i64 kd', S nm', .int .i64 ps', .slice A' us.length c'] 39 3 _ rfl
      rw [addr_add] at this
      exact this
    have IH := Lib.hid (ih (by omega))
    have HA := Lib.hid (hA.below b0)
    have HA' := Lib.hid (hA'.below b0)
    have HX1 := Lib.hid hx1
    have HX2 := Lib.hid hx2
    have hsame : Lfc.Raw.same aa (.node kd nm ps ts) (.node kd' nm' ps' us) = (decide (kd = kd') && decide (nm = nm') && (!aa || decide (ps = ps')) && Lfc.Raw.sames aa ts us) := by
      rw [Lfc.Raw.same]
    have HW0 := Lib.hid hw0
    clear ih hA hA' hv hv' hx1 hx2 hw0
    by_cases h1 : kd = kd' ∧ nm = nm' ∧ (at_ = true → ps = ps') ∧ ts.length = us.length
    · obtain ⟨h1, h2, h3, hl⟩ := h1
      have g1 : ((kd : Int) != kd') = false := by simp [h1]
      have g2 : (nm == nm') = true := by simp [h2]
      have g3 : ((ts.length : Int) != (us.length : Int)) = false := by simp; omega
      have g4 : at_ = true → ((ps : Int) != ps') = false := fun h => by simp [h3 h]
      have hps : (!aa || decide (ps = ps')) = true := by
        cases aa
        · rfl
        · simp [h3 haa.symm]
      rw [hsame, decide_eq_true h1, decide_eq_true h2, hps, Bool.true_and, Bool.true_and, Bool.true_and]
      have HS := Lib.hid (sames_spec aa ts us)
      have HF := Lib.hid (sames_false aa ts us)
      have HL := Lib.hid hl
      generalize Lfc.Raw.sames aa ts us = res at *
      clear hsame h1 h2 h3 hps hl
      have HAA := Lib.hid haa
      clear haa
      have hat : at_ = false ∨ (at_ = true ∧ ((ps : Int) != ps') = false) := by
        cases at_
        · exact .inl rfl
        · exact .inr ⟨rfl, g4 rfl⟩
      clear g4
      rcases hat with rfl | ⟨rfl, g4⟩
      all_goals
        go_enter Tryd.func18, Tryd.ntmps18
        go_wp2_with fail
        rw [HW0.out]
        generalize hG : w.heap.size = G at *
        have HGG := Lib.hid hG
        clear hG
        go_loopw [7] (fun i wr => ∃ k : Nat, k ≤ ts.length ∧ i = .int .i64 k ∧ Below w0.heap.size w0 wr ∧ Hid (∀ j (h : j < ts.length) (h' : j < us.length), j < k → Lfc.Raw.same aa ts[j] us[j] = true)) (fun i _ => ts.length - (intOf i).toNat)
        case atStart => exact ⟨0, by omega, rfl, Below.refl _ _, Lib.hid fun j _ _ hj => by omega⟩
        case round =>
          obtain ⟨k, hk, rfl, hbw, hp⟩ := hrel
          have hbx1 : wr.cell? ⟨G, 3, none⟩ = some (.slice A ts.length c) := (hbw.cell (p := ⟨G, 3, none⟩) (by simp only; omega)).trans HX1.out
          by_cases hlt : k < ts.length
          · have hlt' : k < us.length := by have := HL.out; omega
            have hbx2 : wr.cell? ⟨G + 1, 3, none⟩ = some (.slice A' us.length c') := (hbw.cell (p := ⟨G + 1, 3, none⟩) s0).trans HX2.out
            obtain ⟨b, o, k1, n1, p1, xs, B, c1, rfl, hb, ht, d0, d1, d2, d3, hcu, hB, hT⟩ := (HA.out.below hbw).at_ hlt
            obtain ⟨b', o', k2, n2, p2, ys, B', c2, rfl, hb', ht', e0, e1, e2, e3, hcu', hB', hT'⟩ := (HA'.out.below hbw).at_ hlt'
            have hmem := Lfc.Raw.sizes_mem ts ts[k] (List.getElem_mem _)
            clear hB hB' ht ht'
            have hk0 : (0 : Int) ≤ (k : Int) := Int.natCast_nonneg _
            have hk1 : (k : Int) < (ts.length : Int) := by omega
            have hk2 : (k : Int) < (us.length : Int) := by omega
            have b1 : Below wr.heap.size wr wr.drew := (Below.refl _ _).drew
            have hws := hbw.size
            cases hq : Lfc.Raw.same aa ts[k] us[k]
            · have hres := HF.out k hlt hlt' hq
              subst hres
              have HQ := Lib.hid hq
              clear hq
              go_wp2_with fail
              go_region_held3 (fun w' => w'.cell? ⟨G, 3, none⟩ = some (.slice (some ⟨b, o, none⟩) ts.length c) ∧ w'.cell? ⟨G + 1, 3, none⟩ = some (.slice (some ⟨b', o', none⟩) us.length c') ∧
                  w'.cell? ⟨b, o + k * 4, none⟩ = some (.int .i64 k1) ∧ w'.cell? ⟨b, o + k * 4 + 1, none⟩ = some (S n1) ∧ w'.cell? ⟨b, o + k * 4 + 2, none⟩ = some (.int .i64 p1) ∧ w'.cell? ⟨b, o + k * 4 + 3, none⟩ = some (.slice B xs.length c1) ∧
                  w'.cell? ⟨b', o' + k * 4, none⟩ = some (.int .i64 k2) ∧ w'.cell? ⟨b', o' + k * 4 + 1, none⟩ = some (S n2) ∧ w'.cell? ⟨b', o' + k * 4 + 2, none⟩ = some (.int .i64 p2) ∧ w'.cell? ⟨b', o' + k * 4 + 3, none⟩ = some (.slice B' ys.length c2))
                (first | go_keep | exact ⟨kept hb1 (by simp only; omega) hbx1, kept hb1 (by simp only; omega) hbx2, kept hb1 hb d0, kept hb1 hb d1, kept hb1 hb d2, kept hb1 hb d3, kept hb1 hb' e0, kept hb1 hb' e1, kept hb1 hb' e2, kept hb1 hb' e3⟩)
                (first | (go_at_call 18; refine (IH.out ts[k] us[k] _ _ _ (by omega) (hT.below b1) (hT'.below b1)).mono ?_; rintro e w1 ⟨rfl, hb1⟩; rw [HQ.out]))
              go_wp2_with fail
              go_ret
              exact ⟨rfl, by rw [HGG.out]; exact b0.trans ((hbw.mono (by omega)).trans ((b1.trans hb1).mono (Nat.le_trans (by omega) hbw.size)))⟩
            · have HQ := Lib.hid hq
              clear hq
              go_wp2_with fail
              go_region_held3 (fun w' => w'.cell? ⟨G, 3, none⟩ = some (.slice (some ⟨b, o, none⟩) ts.length c) ∧ w'.cell? ⟨G + 1, 3, none⟩ = some (.slice (some ⟨b', o', none⟩) us.length c') ∧
                  w'.cell? ⟨b, o + k * 4, none⟩ = some (.int .i64 k1) ∧ w'.cell? ⟨b, o + k * 4 + 1, none⟩ = some (S n1) ∧ w'.cell? ⟨b, o + k * 4 + 2, none⟩ = some (.int .i64 p1) ∧ w'.cell? ⟨b, o + k * 4 + 3, none⟩ = some (.slice B xs.length c1) ∧
                  w'.cell? ⟨b', o' + k * 4, none⟩ = some (.int .i64 k2) ∧ w'.cell? ⟨b', o' + k * 4 + 1, none⟩ = some (S n2) ∧ w'.cell? ⟨b', o' + k * 4 + 2, none⟩ = some (.int .i64 p2) ∧ w'.cell? ⟨b', o' + k * 4 + 3, none⟩ = some (.slice B' ys.length c2))
                (first | go_keep | exact ⟨kept hb1 (by simp only; omega) hbx1, kept hb1 (by simp only; omega) hbx2, kept hb1 hb d0, kept hb1 hb d1, kept hb1 hb d2, kept hb1 hb d3, kept hb1 hb' e0, kept hb1 hb' e1, kept hb1 hb' e2, kept hb1 hb' e3⟩)
                (first | (go_at_call 18; refine (IH.out ts[k] us[k] _ _ _ (by omega) (hT.below b1) (hT'.below b1)).mono ?_; rintro e w1 ⟨rfl, hb1⟩; rw [HQ.out]))
              go_wp2_with fail
              go_roundw
              case rel =>
                refine ⟨k + 1, by omega, by go_num, hbw.trans ((b1.trans hb1).mono hbw.size), Lib.hid fun j h h' hj => ?_⟩
                rcases Nat.lt_or_ge j k with h1 | h1
                · exact hp.out j h h' h1
                · obtain rfl : j = k := by omega
                  exact HQ.out
              case measure => simp [intOf]; omega
          · have hres := HS.out.2 ⟨HL.out, fun j h h' => hp.out j h h' (by omega)⟩
            subst hres
            go_wp2_with fail
            go_ret
            exact ⟨rfl, by rw [HGG.out]; exact b0.trans (hbw.mono (by omega))⟩
    · rw [hsame]
      have HAA := Lib.hid haa
      have HN := Lib.hid h1
      clear hsame h1 haa
      by_cases c1 : kd = kd'
      · have g1 : ((kd : Int) != kd') = false := by simp [c1]
        by_cases c2 : nm = nm'
        · have g2 : (nm == nm') = true := by simp [c2]
          by_cases c3 : at_ = true ∧ ps ≠ ps'
          · obtain ⟨rfl, c3⟩ := c3
            have g4 : ((ps : Int) != ps') = true := by simp [c3]
            have e : (decide (kd = kd') && decide (nm = nm') && (!aa || decide (ps = ps')) && Lfc.Raw.sames aa ts us) = false := by simp [HAA.out, c3]
            rw [e]
            clear e c1 c2 c3
            go_enter Tryd.func18, Tryd.ntmps18
            go_wp2_with fail
            rw [HW0.out]
            go_ret
            exact ⟨rfl, b0⟩
          · have c4 : ts.length ≠ us.length := fun h => HN.out ⟨c1, c2, fun h' => Classical.byContradiction fun h'' => c3 ⟨h', h''⟩, h⟩
            have g3 : ((ts.length : Int) != (us.length : Int)) = true := by simp; omega
            have e : (decide (kd = kd') && decide (nm = nm') && (!aa || decide (ps = ps')) && Lfc.Raw.sames aa ts us) = false := by simp [sames_len aa ts us c4]
            rw [e]
            have hat : at_ = false ∨ (at_ = true ∧ ((ps : Int) != ps') = false) := by
              cases at_
              · exact .inl rfl
              · exact .inr ⟨rfl, by simpa using c3⟩
            clear e c1 c2 c3 c4
            rcases hat with rfl | ⟨rfl, g4⟩
            all_goals
              go_enter Tryd.func18, Tryd.ntmps18
              go_wp2_with fail
              rw [HW0.out]
              go_ret
              exact ⟨rfl, b0⟩
        · have g2 : (nm == nm') = false := by simp [c2]
          have e : (decide (kd = kd') && decide (nm = nm') && (!aa || decide (ps = ps')) && Lfc.Raw.sames aa ts us) = false := by simp [c2]
          rw [e]
          clear e c1 c2
          go_enter Tryd.func18, Tryd.ntmps18
          go_wp2_with fail
          rw [HW0.out]
          go_ret
          exact ⟨rfl, b0⟩
      · have g1 : ((kd : Int) != kd') = true := by simp [c1]
        have e : (decide (kd = kd') && decide (nm = nm') && (!aa || decide (ps = ps')) && Lfc.Raw.sames aa ts us) = false := by simp [c1]
        rw [e]
        clear e c1
        go_enter Tryd.func18, Tryd.ntmps18
        go_wp2_with fail
        rw [HW0.out]
        go_ret
        exact ⟨rfl, b0⟩

theorem rSame_any (at_ : Bool) (t u : Lfc.Raw) (v v' : Value) (w : World) (h : t.size ≤ 1000000000) (hv : TreeV w t v) (hv' : TreeV w u v') :
    Calls Tryd.prog 18 #[v, v', .bool at_] w fun e w' => e = .returned (.bool (Lfc.Raw.same at_ t u)) ∧ Below w.heap.size w w' :=
  rSame_aux at_ at_ rfl _ h t u v v' w (Nat.le_refl _) hv hv'
end Go.Proofs.YtkhfnkokdmoipaaDoor
