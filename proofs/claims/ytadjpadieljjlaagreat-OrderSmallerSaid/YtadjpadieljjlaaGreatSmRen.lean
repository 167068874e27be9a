/- The contract of rename of the reference 06. -/
import Derived.Test.YtadjpadieljjlaaGreatSmRenP
import Derived.Deep.DeepCutAuto
import Derived.Deep.CutBlock
import Derived.Deep.DrawnRows
import Derived.Deep.RegionHeld3
import Derived.Maps.AppendAt
set_option linter.unusedVariables false
set_option linter.unusedSimpArgs false
namespace Go.Proofs.YtadjpadieljjlaaGreat
open Go.RowKit Go.Maps
attribute [local go_sem ↓] Go.wp_at_zero Go.wp_at_succ
set_option maxRecDepth 100000 in
set_option maxHeartbeats 16000000 in
theorem sRen_upto (m : Nat) (hmm : m ≤ 1000000) : ∀ (t : Lfc.Raw) (v : Value) (d : Nat) (zs : List Int) (At : Option Addr) (ct : Nat) (w : World), t.size ≤ m → t.posB 1048576 = true → d + t.size ≤ 1000000 → zs.length ≤ 1000000 → IntsO w At zs → TreeV w t v →
    Calls Tryz.prog 83 #[v, .slice At zs.length ct, .int .i64 (d : Int)] w (RenAns w t.size) := by
  induction m with
  | zero => intro t v d zs At ct w h; have := t.size_pos; omega
  | succ m ih0 =>
    intro t v d zs At ct w hm hpo hdt hzl hzs hv
    have HZS := Lib.hid hzs
    obtain ⟨kd, nm, ps, ts⟩ := t
    have hnl := hv.name_le
    obtain ⟨A, c, rfl, hc, hA⟩ := hv.open_
    have hszE : (Lfc.Raw.node kd nm ps ts).size = Lfc.Raw.sizes ts + 1 := by rw [Lfc.Raw.size]
    rw [hszE] at hm hdt ⊢
    have hlen := Lfc.Raw.sizes_len ts
    have IH := Lib.hid (ih0 (by omega))
    have hpo2 : (0 ≤ ps ∧ ps ≤ 1048576) ∧ Lfc.Raw.posBs 1048576 ts = true := by
      rw [Lfc.Raw.posB] at hpo
      simpa using hpo
    obtain ⟨⟨hp0, hp1⟩, hpos⟩ := hpo2
    have HPOS := Lib.hid (Lfc.posBs_at 1048576 ts hpos)
    obtain ⟨i0, hi, hz0, hz1, hz2⟩ := term_infoM
    obtain ⟨w1, hw1⟩ : ∃ w1, w.alloc (.cells #[.int .i64 kd, S nm, .int .i64 ps, .slice A ts.length c] 51) = w1 := ⟨_, rfl⟩
    obtain ⟨w2, hw2⟩ : ∃ w2, w1.alloc (.cells #[.int .i64 0, S [], .int .i64 0, .slice none 0 0] 51) = w2 := ⟨_, rfl⟩
    obtain ⟨w3, hw3⟩ : ∃ w3, w2.alloc (.cells #[.int .i64 kd, S nm, .int .i64 ps, .slice none 0 0] 51) = w3 := ⟨_, rfl⟩
    have b1 : Below w.heap.size w w1 := by rw [← hw1]; exact (Below.refl _ _).alloc (Nat.le_refl _) _
    have b2 : Below w1.heap.size w1 w2 := by rw [← hw2]; exact (Below.refl _ _).alloc (Nat.le_refl _) _
    have b3 : Below w2.heap.size w2 w3 := by rw [← hw3]; exact (Below.refl _ _).alloc (Nat.le_refl _) _
    have q1 : w1.heap[w.heap.size]? = some (.cells #[.int .i64 kd, S nm, .int .i64 ps, .slice A ts.length c] 51 (0, 0)) := by rw [← hw1]; exact heap_alloc_new _ _
    have q2 : w2.heap[w1.heap.size]? = some (.cells #[.int .i64 0, S [], .int .i64 0, .slice none 0 0] 51 (0, 0)) := by rw [← hw2]; exact heap_alloc_new _ _
    have q3 : w3.heap[w2.heap.size]? = some (.cells #[.int .i64 kd, S nm, .int .i64 ps, .slice none 0 0] 51 (0, 0)) := by rw [← hw3]; exact heap_alloc_new _ _
    have l1 := lt_of_block q1
    have l2 := lt_of_block q2
    have l3 := lt_of_block q3
    have b12 : Below w.heap.size w w2 := b1.trans (b2.mono (by omega))
    have B12 := Lib.hid b12
    have Q1 := Lib.hid ((b2.block _ l1).trans q1)
    have Q2 := Lib.hid q2
    have Q3 := Lib.hid q3
    have B3 := Lib.hid b3
    have HA := Lib.hid (hA.below b12)
    have HZ2 := Lib.hid (HZS.out.below b12)
    obtain ⟨x0, x1, x2, x3⟩ := cells4t ((b3.block _ (by omega)).trans Q1.out)
    have H3 := Lib.hid hw3
    have hl02 : w.heap.size < w2.heap.size := by omega
    clear hA hv hpo ih0 b1 b2 b3 q1 q2 q3 hzs hw3 hszE hpos b12
    go_enter Tryz.func83, Tryz.ntmps83
    go_upto_region 1 with fail
    clear hw1 hw2
    obtain ⟨y0, y1, y2, y3⟩ := cells4t Q1.out
    go_upto_region 2 with fail
    rw [H3.out]
    clear y0 y1 y2 y3 H3
    have hv6 : ((kd == 5) = false ∧ ¬ (kd = 5 ∧ (d : Int) ≤ ps)) ∨ ((kd == 5) = true ∧ decide (ps ≥ (d : Int)) = false ∧ ¬ (kd = 5 ∧ (d : Int) ≤ ps)) ∨ ((kd == 5) = true ∧ decide (ps ≥ (d : Int)) = true ∧ (kd = 5 ∧ (d : Int) ≤ ps)) := by
      by_cases e : kd = 5
      · by_cases e2 : (d : Int) ≤ ps
        · exact .inr (.inr ⟨by simp [e], by rw [decide_eq_true_eq]; exact e2, e, e2⟩)
        · exact .inr (.inl ⟨by simp [e], by rw [decide_eq_false_iff_not]; exact e2, fun h => e2 h.2⟩)
      · exact .inl ⟨by simpa using e, fun h => e h.1⟩
    have HV6 := Lib.hid hv6
    clear hv6
    go_cut [28] (fun s28 wx => s28 = .bool (decide (kd = 5 ∧ (d : Int) ≤ ps)) ∧ wx = w3)
    case first =>
      rcases HV6.out with ⟨g5, h⟩ | ⟨g5, g6, h⟩ | ⟨g5, g6, h⟩
      all_goals
        have HH := Lib.hid h
        clear h HV6
        go_wp2_with fail
        go_meet
        exact ⟨by first | exact (congrArg Value.bool (decide_eq_false HH.out)).symm | exact (congrArg Value.bool (decide_eq_true HH.out)).symm, rfl⟩
    case rest =>
    obtain ⟨rfl, hwc⟩ := hcut
    obtain rfl := hwc.symm
    clear HV6 hwc
    obtain ⟨bv, hbv⟩ : ∃ bv, decide (kd = 5 ∧ (d : Int) ≤ ps) = bv := ⟨_, rfl⟩
    have HBV := Lib.hid hbv
    rw [hbv]
    clear hbv
    go_upto_if 28 with fail
    go_cut [9] (fun s9 wx => ∃ p' : Int, 0 ≤ p' ∧ p' ≤ 1048576 ∧ Hid (wx.heap[w2.heap.size]? = some (.cells #[.int .i64 kd, S nm, .int .i64 p', .slice none 0 0] 51 (0, 0))) ∧ Hid (Below w2.heap.size w2 wx))
    case first =>
      cases bv
      case true =>
        obtain ⟨rfl, hdp⟩ := of_decide_eq_true HBV.out
        obtain ⟨i, rfl⟩ : ∃ i : Nat, ps = (d : Int) + (i : Int) := ⟨(ps - d).toNat, by omega⟩
        have hge : decide ((d : Int) + (i : Int) ≥ (d : Int)) = true := by rw [decide_eq_true_eq]; omega
        have hwi : IntKind.i64.wrap ((d : Int) + (i : Int) - (d : Int)) = (i : Int) := by rw [IntWalk.i64_in _ (by omega)]; omega
        have hwm : IntKind.i64.wrap (1048576 - (d : Int)) = 1048576 - (d : Int) := IntWalk.i64_in _ (by omega)
        have BAD : Hid (∃ s1 s2 s3 s4, w3.setCell ⟨w1.heap.size, 0, none⟩ (.int .i64 0) = s1 ∧ s1.setCell ⟨w1.heap.size, 1, none⟩ (S []) = s2 ∧ s2.setCell ⟨w1.heap.size, 2, none⟩ (.int .i64 0) = s3 ∧ s3.setCell ⟨w1.heap.size, 3, none⟩ (.slice none 0 0) = s4 ∧
          (w3.cell? ⟨w1.heap.size, 0, none⟩ = some (.int .i64 0) ∧ s1.cell? ⟨w1.heap.size, 1, none⟩ = some (S []) ∧ s2.cell? ⟨w1.heap.size, 2, none⟩ = some (.int .i64 0) ∧ s3.cell? ⟨w1.heap.size, 3, none⟩ = some (.slice none 0 0)) ∧
          (w3.frozen? ⟨w1.heap.size, 0, none⟩ = false ∧ s1.frozen? ⟨w1.heap.size, 1, none⟩ = false ∧ s2.frozen? ⟨w1.heap.size, 2, none⟩ = false ∧ s3.frozen? ⟨w1.heap.size, 3, none⟩ = false) ∧
          s4.heap[w1.heap.size]? = some (.cells #[.int .i64 0, S [], .int .i64 0, .slice none 0 0] 51 (0, 0)) ∧ Hid (RenAns w (Lfc.Raw.sizes ts + 1) (.returned (.tuple #[.agg #[.int .i64 0, S [], .int .i64 0, .slice none 0 0], .bool false])) s4)) := Lib.hid (by
            exact ren_ret (w2 := w2) (ts := []) false (by omega) (B12.out.trans (B3.out.mono (by omega))) ((B3.out.block _ l2).trans Q2.out) (by simp) ⟨fun h => absurd rfl h, Nat.le_refl _⟩ (by simp [Lfc.Raw.sizes]) (fun h => by cases h))
        have HGO : Hid (∀ s, Oth w2.heap.size w3 s → Below w2.heap.size w2 s) := Lib.hid (fun s ho => Oth.below B3.out ho (Nat.le_refl _) (by omega))
        by_cases hi1 : zs.length ≤ i
        · have hgi : decide ((i : Int) ≥ (zs.length : Int)) = true := by rw [decide_eq_true_eq]; omega
          obtain ⟨s1, s2, s3, s4, g1, g2, g3, g4, ⟨p0, p1, p2, p3⟩, ⟨f0, f1, f2, f3⟩, hq, HZ⟩ := BAD.out
          have HQ := Lib.hid hq
          clear hq BAD
          go_wp2_with fail
          refine bodyPost_ret (results_term2 rfl _ _ _ _ _ _ _ rfl HQ.out) rfl ?_
          exact HZ.out
        · have hgi : decide ((i : Int) ≥ (zs.length : Int)) = false := by rw [decide_eq_false_iff_not]; omega
          obtain ⟨bz, oz, rfl, hbz, hxz⟩ := HZ2.out (by intro h; rw [h] at hi1; exact hi1 (Nat.zero_le _))
          have xz := (B3.out.cell (p := ⟨bz, oz + i, none⟩) hbz).trans (hxz i (by omega))
          have hi2 : (0 : Int) ≤ (i : Int) := by omega
          have hi3 : (i : Int) < (zs.length : Int) := by omega
          generalize zs.getD i 0 = zi at *
          clear hi1 hxz
          by_cases hzi : zi < 0
          · have hgz : decide (zi < 0) = true := by rw [decide_eq_true_eq]; omega
            obtain ⟨s1, s2, s3, s4, g1, g2, g3, g4, ⟨p0, p1, p2, p3⟩, ⟨f0, f1, f2, f3⟩, hq, HZ⟩ := BAD.out
            have HQ := Lib.hid hq
            clear hq hzi BAD
            go_wp2_with fail
            refine bodyPost_ret (results_term2 rfl _ _ _ _ _ _ _ rfl HQ.out) rfl ?_
            exact HZ.out
          · have hgz : decide (zi < 0) = false := by rw [decide_eq_false_iff_not]; omega
            by_cases hzm : 1048576 - (d : Int) < zi
            · have hgm : decide (zi > 1048576 - (d : Int)) = true := by rw [decide_eq_true_eq]; omega
              obtain ⟨s1, s2, s3, s4, g1, g2, g3, g4, ⟨p0, p1, p2, p3⟩, ⟨f0, f1, f2, f3⟩, hq, HZ⟩ := BAD.out
              have HQ := Lib.hid hq
              clear hq hzi hzm BAD
              go_wp2_with fail
              refine bodyPost_ret (results_term2 rfl _ _ _ _ _ _ _ rfl HQ.out) rfl ?_
              exact HZ.out
            · have hgm : decide (zi > 1048576 - (d : Int)) = false := by rw [decide_eq_false_iff_not]; omega
              have hwz : IntKind.i64.wrap (zi + (d : Int)) = zi + (d : Int) := IntWalk.i64_in _ (by omega)
              obtain ⟨s1, hs1⟩ : ∃ s1, w3.setCell ⟨w2.heap.size, 2, none⟩ (.int .i64 (zi + (d : Int))) = s1 := ⟨_, rfl⟩
              have y2 := Lib.cell_of_heap Q3.out 2
              have f2 := Lib.frozen_of_heap Q3.out 2
              have QS : Hid (s1.heap[w2.heap.size]? = some (.cells #[.int .i64 5, S nm, .int .i64 (zi + (d : Int)), .slice none 0 0] 51 (0, 0))) := Lib.hid (by rw [← hs1]; simp [World.setCell, Array.getElem?_modify, Q3.out])
              have OS : Hid (Oth w2.heap.size w3 s1) := Lib.hid (by rw [← hs1]; exact Oth.set _ _)
              have hr1 : 0 ≤ zi + (d : Int) := by omega
              have hr2 : zi + (d : Int) ≤ 1048576 := by omega
              clear hzi hzm BAD
              go_wp2_with fail
              go_meet
              exact ⟨_, hr1, hr2, QS, Lib.hid (HGO.out _ OS.out)⟩
      case false =>
        clear HBV
        go_wp2_with fail
        go_meet
        exact ⟨ps, hp0, hp1, Q3, B3⟩
    case rest =>
    obtain ⟨p', hp2, hp3, QO, BO⟩ := hcut
    have I0 : Hid (RnI w2 w2.heap.size (w2.heap.size + 1) kd nm p' (Lfc.Raw.sizes (ts.take 0)) [] none 0 [] wc) := Lib.hid (by rw [List.take_zero, Lfc.Raw.sizes]; exact RnI.start QO.out BO.out)
    clear x0 x1 x2 x3 Q3 B3 QO BO HBV
    go_wp2_with fail
    go_loopw [10] (fun i wr => ∃ (k : Nat) (os : List Lfc.Raw) (A' : Option Addr) (c' : Nat) (xs : List Value), k ≤ ts.length ∧ i = .int .i64 (k : Int) ∧ os.length = k ∧ Hid (RnI w2 w2.heap.size (w2.heap.size + 1) kd nm p' (Lfc.Raw.sizes (ts.take k)) os A' c' xs wr)) (fun i _ => ts.length - (intOf i).toNat)
    case atStart => exact ⟨0, [], none, 0, [], by omega, rfl, rfl, I0⟩
    case round =>
      obtain ⟨k, os, A', c', xs, hk, rfl, hol, HI⟩ := hrel
      clear I0
      have hb2r := HI.out.below
      obtain ⟨x0, x1, x2, x3⟩ := cells4t ((hb2r.block _ hl02).trans Q1.out)
      have hle := Lfc.Raw.sizes_len ts
      have hsr := hb2r.size
      have HBR := Lib.hid hb2r
      clear hb2r
      by_cases hlt : k < ts.length
      · obtain ⟨b, o, k1, n1, p1, us, B1, c1, rfl, hb, ht, d0, d1, d2, d3, hcu, hB1, hT⟩ := (HA.out.below HBR.out).at_ hlt
        have hk0 : (0 : Int) ≤ (k : Int) := Int.natCast_nonneg _
        have hk1 : (k : Int) < (ts.length : Int) := by omega
        have hmem := Lfc.Raw.sizes_mem ts ts[k] (List.getElem_mem _)
        have hstk : Lfc.Raw.sizes (ts.take (k + 1)) = Lfc.Raw.sizes (ts.take k) + ts[k].size := by rw [List.take_succ_eq_append_getElem hlt, Lfc.Raw.sizes_app]; simp [Lfc.Raw.sizes]
        have HSTK := Lib.hid hstk
        have hlw : w.heap.size < wr.heap.size := by omega
        have SC : Hid (∀ W, Below wr.heap.size wr W → (W.cell? ⟨w.heap.size, 0, none⟩ = some (.int .i64 kd) ∧ W.cell? ⟨w.heap.size, 1, none⟩ = some (S nm) ∧ W.cell? ⟨w.heap.size, 2, none⟩ = some (.int .i64 ps) ∧ W.cell? ⟨w.heap.size, 3, none⟩ = some (.slice (some ⟨b, o, none⟩) ts.length c)) ∧ (W.cell? ⟨b, o + k * 4, none⟩ = some (.int .i64 k1) ∧ W.cell? ⟨b, o + k * 4 + 1, none⟩ = some (S n1) ∧ W.cell? ⟨b, o + k * 4 + 2, none⟩ = some (.int .i64 p1) ∧ W.cell? ⟨b, o + k * 4 + 3, none⟩ = some (.slice B1 us.length c1))) := Lib.hid (fun W hw => ⟨cells4t ((hw.block _ hlw).trans ((HBR.out.block _ hl02).trans Q1.out)), (hw.cell (p := ⟨b, o + k * 4, none⟩) hb).trans d0, (hw.cell (p := ⟨b, o + k * 4 + 1, none⟩) hb).trans d1, (hw.cell (p := ⟨b, o + k * 4 + 2, none⟩) hb).trans d2, (hw.cell (p := ⟨b, o + k * 4 + 3, none⟩) hb).trans d3⟩)
        have HT := Lib.hid hT
        have CU := Lib.hid (fun W => sUnder_any kd ps (k : Int) nm (some ⟨b, o, none⟩) ts.length c W)
        have HPK := Lib.hid (HPOS.out k hlt)
        have CR := Lib.hid (fun W (hw : Below wr.heap.size wr W) (dd : Nat) (hd : dd ≤ d + 1) => IH.out ts[k] _ dd zs At ct W (by omega) HPK.out (by omega) hzl ((HZ2.out.below HBR.out).below hw) (HT.out.below hw))
        have G0 : Below wr.heap.size wr wr.drew := (Below.refl _ _).drew
        have HOL := Lib.hid hol
        clear hB1 ht hT d0 d1 d2 d3 hstk hmem hol hle
        go_upto_region 10 with fail
        clear x0 x1 x2 x3
        go_cut [11, 12] (fun s11 s12 wx => Hid (RnX wr ts[k].size s11 s12 wx))
        case first =>
          refine wp_region_held_drew (S := fun W => (W.cell? ⟨w.heap.size, 0, none⟩ = some (.int .i64 kd) ∧ W.cell? ⟨w.heap.size, 1, none⟩ = some (S nm) ∧ W.cell? ⟨w.heap.size, 2, none⟩ = some (.int .i64 ps) ∧ W.cell? ⟨w.heap.size, 3, none⟩ = some (.slice (some ⟨b, o, none⟩) ts.length c)) ∧ (W.cell? ⟨b, o + k * 4, none⟩ = some (.int .i64 k1) ∧ W.cell? ⟨b, o + k * 4 + 1, none⟩ = some (S n1) ∧ W.cell? ⟨b, o + k * 4 + 2, none⟩ = some (.int .i64 p1) ∧ W.cell? ⟨b, o + k * 4 + 3, none⟩ = some (.slice B1 us.length c1))) (by kernel_rfl) ?_ (fun hHeld => ?_)
          · exact SC.out _ G0
          refine wpAnyH_take (i := 0) (v := ?_) rfl (by kernel_rfl) (by kernel_rfl) (by kernel_rfl) (fun _ _ _ h => h) (Or.inl ⟨by rfl, ?_⟩) (by assumption) ?_
          rotate_left
          · (intro w hSw; (try dsimp only at hSw); go_simp; try with_reducible rfl)
          try simp only [Act.put, List.getElem_toArray, List.getElem_cons_zero, List.getElem_cons_succ, List.setIfInBounds_toArray, List.set_cons_zero, List.set_cons_succ]
          refine wpAnyH_take (i := 1) (v := ?_) rfl (by kernel_rfl) (by kernel_rfl) (by kernel_rfl) (fun _ _ _ h => h) (Or.inl ⟨by rfl, ?_⟩) (by assumption) ?_
          rotate_left
          · (intro w hSw; (try dsimp only at hSw); go_simp; try with_reducible rfl)
          try simp only [Act.put, List.getElem_toArray, List.getElem_cons_zero, List.getElem_cons_succ, List.setIfInBounds_toArray, List.set_cons_zero, List.set_cons_succ]
          refine wpAnyH_take (i := 2) (v := ?_) rfl (by kernel_rfl) (by kernel_rfl) (by kernel_rfl) (fun _ _ _ h => h) (Or.inl ⟨by rfl, ?_⟩) (by assumption) ?_
          rotate_left
          · (intro w hSw; (try dsimp only at hSw); go_simp; try with_reducible rfl)
          try simp only [Act.put, List.getElem_toArray, List.getElem_cons_zero, List.getElem_cons_succ, List.setIfInBounds_toArray, List.set_cons_zero, List.set_cons_succ]
          refine wpAnyH_take (i := 3) (v := ?_) rfl (by kernel_rfl) (by kernel_rfl) (by kernel_rfl) (fun _ _ _ h => h) (Or.inl ⟨by rfl, ?_⟩) (by assumption) ?_
          rotate_left
          · (intro w hSw; (try dsimp only at hSw); go_simp; try with_reducible rfl)
          try simp only [Act.put, List.getElem_toArray, List.getElem_cons_zero, List.getElem_cons_succ, List.setIfInBounds_toArray, List.set_cons_zero, List.set_cons_succ]
          refine wpAnyH_take (i := 4) (v := ?_) rfl (by kernel_rfl) (by kernel_rfl) (by kernel_rfl) (fun _ _ _ h => h) (Or.inl ⟨by rfl, ?_⟩) (by assumption) ?_
          rotate_left
          · (intro w hSw; (try dsimp only at hSw); go_simp; try with_reducible rfl)
          try simp only [Act.put, List.getElem_toArray, List.getElem_cons_zero, List.getElem_cons_succ, List.setIfInBounds_toArray, List.set_cons_zero, List.set_cons_succ]
          refine wpAnyH_take (i := 5) (v := ?_) rfl (by kernel_rfl) (by kernel_rfl) (by kernel_rfl) (fun _ _ _ h => h) (Or.inl ⟨by rfl, ?_⟩) (by assumption) ?_
          rotate_left
          · (intro w hSw; (try dsimp only at hSw); go_simp; try with_reducible rfl)
          try simp only [Act.put, List.getElem_toArray, List.getElem_cons_zero, List.getElem_cons_succ, List.setIfInBounds_toArray, List.set_cons_zero, List.set_cons_succ]
          refine wpAnyH_take (i := 6) (v := ?_) rfl (by kernel_rfl) (by kernel_rfl) (by kernel_rfl) (fun _ _ _ h => h) (Or.inl ⟨by rfl, ?_⟩) (by assumption) ?_
          rotate_left
          · (intro w hSw; (try dsimp only at hSw); go_simp; try with_reducible rfl)
          try simp only [Act.put, List.getElem_toArray, List.getElem_cons_zero, List.getElem_cons_succ, List.setIfInBounds_toArray, List.set_cons_zero, List.set_cons_succ]
          refine wpAnyH_take (i := 7) (v := ?_) rfl (by kernel_rfl) (by kernel_rfl) (by kernel_rfl) (fun _ _ _ h => h) (Or.inl ⟨by rfl, ?_⟩) (by assumption) ?_
          rotate_left
          · (intro w hSw; (try dsimp only at hSw); go_simp; try with_reducible rfl)
          try simp only [Act.put, List.getElem_toArray, List.getElem_cons_zero, List.getElem_cons_succ, List.setIfInBounds_toArray, List.set_cons_zero, List.set_cons_succ]
          refine wpAnyH_take (i := 8) (v := ?_) rfl (by kernel_rfl) (by kernel_rfl) (by kernel_rfl) (fun _ _ _ h => h) (Or.inl ⟨by rfl, ?_⟩) (by assumption) ?_
          rotate_left
          · (intro w hSw; (try dsimp only at hSw); go_simp; try with_reducible rfl)
          try simp only [Act.put, List.getElem_toArray, List.getElem_cons_zero, List.getElem_cons_succ, List.setIfInBounds_toArray, List.set_cons_zero, List.set_cons_succ]
          refine wpAnyH_ready (rs := [9, 15]) (by kernel_rfl) (by simp) ?_
          refine AllReadyH.cons rfl (fun K hK => ?_) ?_
          · go_simp
            go_at_call 76
            refine (CU.out _).mono ?_
            rintro e w5 ⟨⟨r, hr, rfl⟩, b5'⟩
            have b5 := (G0).trans (b5'.mono (G0).size)
            have hdr : IntKind.i64.wrap ((d : Int) + (r : Int)) = ((d + r : Nat) : Int) := by rw [IntWalk.i64_in _ (by omega)]; omega
            refine hK.out _ _ ?_ (fun hHeld => ?_)
            · (try dsimp only)
              exact SC.out _ b5
            clear hK K
            try simp only [Act.put, List.getElem_toArray, List.getElem_cons_zero, List.getElem_cons_succ, List.setIfInBounds_toArray, List.set_cons_zero, List.set_cons_succ]
            refine wpAnyH_take (i := 10) (v := ?_) rfl (by kernel_rfl) (by kernel_rfl) (by kernel_rfl) (fun _ _ _ h => h) (Or.inl ⟨by rfl, ?_⟩) (by assumption) ?_
            rotate_left
            · (intro w hSw; (try dsimp only at hSw); go_simp; try with_reducible rfl)
            try simp only [Act.put, List.getElem_toArray, List.getElem_cons_zero, List.getElem_cons_succ, List.setIfInBounds_toArray, List.set_cons_zero, List.set_cons_succ]
            refine wpAnyH_ready (rs := [11, 15]) (by kernel_rfl) (by simp) ?_
            refine AllReadyH.cons rfl (fun K hK => ?_) ?_
            · go_simp
              go_at_call 83
              refine (CR.out _ (b5) (d + r) (by omega)).mono ?_
              rintro e w6 ⟨⟨k9, n9, p9, ts9, A9, c9, b9, rfl, hv9, hz9, hq9⟩, b6'⟩
              have b6 := (b5).trans (b6'.mono (b5).size)
              refine hK.out _ _ ?_ (fun hHeld => ?_)
              · (try dsimp only)
                exact SC.out _ b6
              clear hK K
              try simp only [Act.put, List.getElem_toArray, List.getElem_cons_zero, List.getElem_cons_succ, List.setIfInBounds_toArray, List.set_cons_zero, List.set_cons_succ]
              refine wpAnyH_take (i := 12) (v := ?_) rfl (by kernel_rfl) (by kernel_rfl) (by kernel_rfl) (fun _ _ _ h => h) (Or.inl ⟨by rfl, ?_⟩) (by assumption) ?_
              rotate_left
              · (intro w hSw; (try dsimp only at hSw); go_simp; try with_reducible rfl)
              try simp only [Act.put, List.getElem_toArray, List.getElem_cons_zero, List.getElem_cons_succ, List.setIfInBounds_toArray, List.set_cons_zero, List.set_cons_succ]
              refine wpAnyH_take (i := 13) (v := ?_) rfl (by kernel_rfl) (by kernel_rfl) (by kernel_rfl) (fun _ _ _ h => h) (Or.inl ⟨by rfl, ?_⟩) (by assumption) ?_
              rotate_left
              · (intro w hSw; (try dsimp only at hSw); go_simp; try with_reducible rfl)
              try simp only [Act.put, List.getElem_toArray, List.getElem_cons_zero, List.getElem_cons_succ, List.setIfInBounds_toArray, List.set_cons_zero, List.set_cons_succ]
              refine wpAnyH_take (i := 14) (v := ?_) rfl (by kernel_rfl) (by kernel_rfl) (by kernel_rfl) (fun _ _ _ h => h) (Or.inl ⟨by rfl, ?_⟩) (by assumption) ?_
              rotate_left
              · (intro w hSw; (try dsimp only at hSw); go_simp; try with_reducible rfl)
              try simp only [Act.put, List.getElem_toArray, List.getElem_cons_zero, List.getElem_cons_succ, List.setIfInBounds_toArray, List.set_cons_zero, List.set_cons_succ]
              have bA : Below wr.heap.size wr (w6.alloc (.cells #[.int .i64 0, S [], .int .i64 0, .slice none 0 0] 51)) := b6.alloc b6.size _
              have bN : Below wr.heap.size wr (w6.alloc (.cells #[.int .i64 k9, S n9, .int .i64 p9, .slice A9 ts9.length c9] 51)) := b6.alloc b6.size _
              refine wpAnyH_ready (rs := [15]) (by kernel_rfl) (by simp) ?_
              refine AllReadyH.cons rfl (fun K hK => ?_) ?_
              · go_simp
                refine hK.out _ _ ?_ (fun hHeld => ?_)
                · (try dsimp only)
                  exact SC.out _ bA
                clear hK K
                try simp only [Act.put, List.getElem_toArray, List.getElem_cons_zero, List.getElem_cons_succ, List.setIfInBounds_toArray, List.set_cons_zero, List.set_cons_succ]
                have HR : Hid (RnX wr ts[k].size (.pointer (some ⟨w6.heap.size, 0, none⟩)) (.bool b9) (w6.alloc (.cells #[.int .i64 k9, S n9, .int .i64 p9, .slice A9 ts9.length c9] 51))) := Lib.hid ⟨w6.heap.size, k9, n9, p9, ts9, A9, c9, b9, rfl, rfl, b6.size, heap_alloc_new _ _, hv9.keep (fun j _ hlt => Lib.alloc_old _ _ _ hlt) (by simp) (fun j _ hj => Nat.le_trans b5.size hj), hz9, hq9, bN⟩
                clear hv9
                refine wpAnyH_ready (rs := [16]) (by kernel_rfl) (by simp) ?_
                refine AllReadyH.cons rfl (fun K hK => ?_) ?_
                · go_simp
                  refine hK.out _ _ ?_ (fun hHeld => ?_)
                  · (try dsimp only)
                    exact SC.out _ bN
                  clear hK K
                  try simp only [Act.put, List.getElem_toArray, List.getElem_cons_zero, List.getElem_cons_succ, List.setIfInBounds_toArray, List.set_cons_zero, List.set_cons_succ]
                  refine wpAnyH_take (i := 17) (v := ?_) rfl (by kernel_rfl) (by kernel_rfl) (by kernel_rfl) (fun _ _ _ h => h) (Or.inl ⟨by rfl, ?_⟩) (by assumption) ?_
                  rotate_left
                  · (intro w hSw; (try dsimp only at hSw); go_simp; try with_reducible rfl)
                  try simp only [Act.put, List.getElem_toArray, List.getElem_cons_zero, List.getElem_cons_succ, List.setIfInBounds_toArray, List.set_cons_zero, List.set_cons_succ]
                  refine wpAnyH_done (by kernel_rfl) ?_ _
                  go_wp2_with fail
                  go_meet
                  exact HR
                exact AllReadyH.nil
              exact AllReadyH.nil
            refine AllReadyH.cons rfl (fun K hK => ?_) ?_
            · have bA : Below wr.heap.size wr (w5.alloc (.cells #[.int .i64 0, S [], .int .i64 0, .slice none 0 0] 51)) := b5.alloc b5.size _
              have hsA : (w5.alloc (.cells #[.int .i64 0, S [], .int .i64 0, .slice none 0 0] 51)).heap.size = w5.heap.size + 1 := by simp
              have hgs : wr.heap.size ≤ w5.heap.size := b5.size
              go_simp
              refine hK.out _ _ ?_ (fun hHeld => ?_)
              · (try dsimp only)
                exact SC.out _ bA
              clear hK K
              try simp only [Act.put, List.getElem_toArray, List.getElem_cons_zero, List.getElem_cons_succ, List.setIfInBounds_toArray, List.set_cons_zero, List.set_cons_succ]
              refine wpAnyH_ready (rs := [11]) (by kernel_rfl) (by simp) ?_
              refine AllReadyH.cons rfl (fun K hK => ?_) ?_
              · go_simp
                go_at_call 83
                refine (CR.out _ (bA) (d + r) (by omega)).mono ?_
                rintro e w6 ⟨⟨k9, n9, p9, ts9, A9, c9, b9, rfl, hv9, hz9, hq9⟩, b6'⟩
                have b6 := (bA).trans (b6'.mono (bA).size)
                refine hK.out _ _ ?_ (fun hHeld => ?_)
                · (try dsimp only)
                  exact SC.out _ b6
                clear hK K
                try simp only [Act.put, List.getElem_toArray, List.getElem_cons_zero, List.getElem_cons_succ, List.setIfInBounds_toArray, List.set_cons_zero, List.set_cons_succ]
                have hjs : ∀ j, (w5.alloc (.cells #[.int .i64 0, S [], .int .i64 0, .slice none 0 0] 51)).heap.size ≤ j → w5.heap.size < j ∧ wr.heap.size ≤ j := fun j hj => by rw [hsA] at hj; omega
                refine wpAnyH_take (i := 12) (v := ?_) rfl (by kernel_rfl) (by kernel_rfl) (by kernel_rfl) (fun _ _ _ h => h) (Or.inl ⟨by rfl, ?_⟩) (by assumption) ?_
                rotate_left
                · (intro w hSw; (try dsimp only at hSw); go_simp; try with_reducible rfl)
                try simp only [Act.put, List.getElem_toArray, List.getElem_cons_zero, List.getElem_cons_succ, List.setIfInBounds_toArray, List.set_cons_zero, List.set_cons_succ]
                refine wpAnyH_take (i := 13) (v := ?_) rfl (by kernel_rfl) (by kernel_rfl) (by kernel_rfl) (fun _ _ _ h => h) (Or.inl ⟨by rfl, ?_⟩) (by assumption) ?_
                rotate_left
                · (intro w hSw; (try dsimp only at hSw); go_simp; try with_reducible rfl)
                try simp only [Act.put, List.getElem_toArray, List.getElem_cons_zero, List.getElem_cons_succ, List.setIfInBounds_toArray, List.set_cons_zero, List.set_cons_succ]
                refine wpAnyH_take (i := 14) (v := ?_) rfl (by kernel_rfl) (by kernel_rfl) (by kernel_rfl) (fun _ _ _ h => h) (Or.inl ⟨by rfl, ?_⟩) (by assumption) ?_
                rotate_left
                · (intro w hSw; (try dsimp only at hSw); go_simp; try with_reducible rfl)
                try simp only [Act.put, List.getElem_toArray, List.getElem_cons_zero, List.getElem_cons_succ, List.setIfInBounds_toArray, List.set_cons_zero, List.set_cons_succ]
                obtain ⟨s1, s2, s3, s4, g1, g2, g3, g4, ⟨y0, y1, y2, y3⟩, ⟨f0, f1, f2, f3⟩, hq, hot⟩ := tput4 ((b6'.block _ (by rw [hsA]; omega)).trans (heap_alloc_new w5 _)) (.int .i64 k9) (S n9) (.int .i64 p9) (.slice A9 ts9.length c9)
                have BS := Lib.hid (Oth.below b6 hot hgs b6.size)
                have HR : Hid (RnX wr ts[k].size (.pointer (some ⟨w5.heap.size, 0, none⟩)) (.bool b9) s4) := Lib.hid ⟨w5.heap.size, k9, n9, p9, ts9, A9, c9, b9, rfl, rfl, hgs, hq, hv9.keep (fun j hj hlt => hot.block j hlt (fun e => by have e := Option.some.inj e; have hj := hjs j hj; omega)) hot.size (fun j _ hj => by have hj := hjs j hj; omega), hz9, hq9, BS.out⟩
                clear hq hot hv9
                refine wpAnyH_ready (rs := [16]) (by kernel_rfl) (by simp) ?_
                refine AllReadyH.cons rfl (fun K hK => ?_) ?_
                · go_simp
                  refine hK.out _ _ ?_ (fun hHeld => ?_)
                  · (try dsimp only)
                    exact SC.out _ BS.out
                  clear hK K
                  try simp only [Act.put, List.getElem_toArray, List.getElem_cons_zero, List.getElem_cons_succ, List.setIfInBounds_toArray, List.set_cons_zero, List.set_cons_succ]
                  refine wpAnyH_take (i := 17) (v := ?_) rfl (by kernel_rfl) (by kernel_rfl) (by kernel_rfl) (fun _ _ _ h => h) (Or.inl ⟨by rfl, ?_⟩) (by assumption) ?_
                  rotate_left
                  · (intro w hSw; (try dsimp only at hSw); go_simp; try with_reducible rfl)
                  try simp only [Act.put, List.getElem_toArray, List.getElem_cons_zero, List.getElem_cons_succ, List.setIfInBounds_toArray, List.set_cons_zero, List.set_cons_succ]
                  refine wpAnyH_done (by kernel_rfl) ?_ _
                  go_wp2_with fail
                  go_meet
                  exact HR
                exact AllReadyH.nil
              exact AllReadyH.nil
            exact AllReadyH.nil
          refine AllReadyH.cons rfl (fun K hK => ?_) ?_
          · have bA : Below wr.heap.size wr (wr.drew.alloc (.cells #[.int .i64 0, S [], .int .i64 0, .slice none 0 0] 51)) := G0.alloc G0.size _
            have hsA : (wr.drew.alloc (.cells #[.int .i64 0, S [], .int .i64 0, .slice none 0 0] 51)).heap.size = wr.heap.size + 1 := by simp
            have hgs : wr.heap.size ≤ wr.heap.size := Nat.le_refl _
            go_simp
            refine hK.out _ _ ?_ (fun hHeld => ?_)
            · (try dsimp only)
              exact SC.out _ bA
            clear hK K
            try simp only [Act.put, List.getElem_toArray, List.getElem_cons_zero, List.getElem_cons_succ, List.setIfInBounds_toArray, List.set_cons_zero, List.set_cons_succ]
            refine wpAnyH_ready (rs := [9]) (by kernel_rfl) (by simp) ?_
            refine AllReadyH.cons rfl (fun K hK => ?_) ?_
            · go_simp
              go_at_call 76
              refine (CU.out _).mono ?_
              rintro e w5 ⟨⟨r, hr, rfl⟩, b5'⟩
              have b5 := (bA).trans (b5'.mono (bA).size)
              have hdr : IntKind.i64.wrap ((d : Int) + (r : Int)) = ((d + r : Nat) : Int) := by rw [IntWalk.i64_in _ (by omega)]; omega
              refine hK.out _ _ ?_ (fun hHeld => ?_)
              · (try dsimp only)
                exact SC.out _ b5
              clear hK K
              try simp only [Act.put, List.getElem_toArray, List.getElem_cons_zero, List.getElem_cons_succ, List.setIfInBounds_toArray, List.set_cons_zero, List.set_cons_succ]
              refine wpAnyH_take (i := 10) (v := ?_) rfl (by kernel_rfl) (by kernel_rfl) (by kernel_rfl) (fun _ _ _ h => h) (Or.inl ⟨by rfl, ?_⟩) (by assumption) ?_
              rotate_left
              · (intro w hSw; (try dsimp only at hSw); go_simp; try with_reducible rfl)
              try simp only [Act.put, List.getElem_toArray, List.getElem_cons_zero, List.getElem_cons_succ, List.setIfInBounds_toArray, List.set_cons_zero, List.set_cons_succ]
              refine wpAnyH_ready (rs := [11]) (by kernel_rfl) (by simp) ?_
              refine AllReadyH.cons rfl (fun K hK => ?_) ?_
              · go_simp
                go_at_call 83
                refine (CR.out _ (b5) (d + r) (by omega)).mono ?_
                rintro e w6 ⟨⟨k9, n9, p9, ts9, A9, c9, b9, rfl, hv9, hz9, hq9⟩, b6'⟩
                have b6 := (b5).trans (b6'.mono (b5).size)
                refine hK.out _ _ ?_ (fun hHeld => ?_)
                · (try dsimp only)
                  exact SC.out _ b6
                clear hK K
                try simp only [Act.put, List.getElem_toArray, List.getElem_cons_zero, List.getElem_cons_succ, List.setIfInBounds_toArray, List.set_cons_zero, List.set_cons_succ]
                have hs5 := b5'.size
                simp at hs5
                have hjs : ∀ j, w5.heap.size ≤ j → wr.heap.size < j ∧ wr.heap.size ≤ j := fun j hj => by omega
                refine wpAnyH_take (i := 12) (v := ?_) rfl (by kernel_rfl) (by kernel_rfl) (by kernel_rfl) (fun _ _ _ h => h) (Or.inl ⟨by rfl, ?_⟩) (by assumption) ?_
                rotate_left
                · (intro w hSw; (try dsimp only at hSw); go_simp; try with_reducible rfl)
                try simp only [Act.put, List.getElem_toArray, List.getElem_cons_zero, List.getElem_cons_succ, List.setIfInBounds_toArray, List.set_cons_zero, List.set_cons_succ]
                refine wpAnyH_take (i := 13) (v := ?_) rfl (by kernel_rfl) (by kernel_rfl) (by kernel_rfl) (fun _ _ _ h => h) (Or.inl ⟨by rfl, ?_⟩) (by assumption) ?_
                rotate_left
                · (intro w hSw; (try dsimp only at hSw); go_simp; try with_reducible rfl)
                try simp only [Act.put, List.getElem_toArray, List.getElem_cons_zero, List.getElem_cons_succ, List.setIfInBounds_toArray, List.set_cons_zero, List.set_cons_succ]
                refine wpAnyH_take (i := 14) (v := ?_) rfl (by kernel_rfl) (by kernel_rfl) (by kernel_rfl) (fun _ _ _ h => h) (Or.inl ⟨by rfl, ?_⟩) (by assumption) ?_
                rotate_left
                · (intro w hSw; (try dsimp only at hSw); go_simp; try with_reducible rfl)
                try simp only [Act.put, List.getElem_toArray, List.getElem_cons_zero, List.getElem_cons_succ, List.setIfInBounds_toArray, List.set_cons_zero, List.set_cons_succ]
                obtain ⟨s1, s2, s3, s4, g1, g2, g3, g4, ⟨y0, y1, y2, y3⟩, ⟨f0, f1, f2, f3⟩, hq, hot⟩ := tput4 ((b6'.block _ (by omega)).trans ((b5'.block wr.heap.size (by simp)).trans (heap_alloc_new wr _))) (.int .i64 k9) (S n9) (.int .i64 p9) (.slice A9 ts9.length c9)
                have BS := Lib.hid (Oth.below b6 hot hgs b6.size)
                have HR : Hid (RnX wr ts[k].size (.pointer (some ⟨wr.heap.size, 0, none⟩)) (.bool b9) s4) := Lib.hid ⟨wr.heap.size, k9, n9, p9, ts9, A9, c9, b9, rfl, rfl, hgs, hq, hv9.keep (fun j hj hlt => hot.block j hlt (fun e => by have e := Option.some.inj e; have hj := hjs j hj; omega)) hot.size (fun j _ hj => by have hj := hjs j hj; omega), hz9, hq9, BS.out⟩
                clear hq hot hv9
                refine wpAnyH_ready (rs := [16]) (by kernel_rfl) (by simp) ?_
                refine AllReadyH.cons rfl (fun K hK => ?_) ?_
                · go_simp
                  refine hK.out _ _ ?_ (fun hHeld => ?_)
                  · (try dsimp only)
                    exact SC.out _ BS.out
                  clear hK K
                  try simp only [Act.put, List.getElem_toArray, List.getElem_cons_zero, List.getElem_cons_succ, List.setIfInBounds_toArray, List.set_cons_zero, List.set_cons_succ]
                  refine wpAnyH_take (i := 17) (v := ?_) rfl (by kernel_rfl) (by kernel_rfl) (by kernel_rfl) (fun _ _ _ h => h) (Or.inl ⟨by rfl, ?_⟩) (by assumption) ?_
                  rotate_left
                  · (intro w hSw; (try dsimp only at hSw); go_simp; try with_reducible rfl)
                  try simp only [Act.put, List.getElem_toArray, List.getElem_cons_zero, List.getElem_cons_succ, List.setIfInBounds_toArray, List.set_cons_zero, List.set_cons_succ]
                  refine wpAnyH_done (by kernel_rfl) ?_ _
                  go_wp2_with fail
                  go_meet
                  exact HR
                exact AllReadyH.nil
              exact AllReadyH.nil
            exact AllReadyH.nil
          exact AllReadyH.nil
        case rest =>
          obtain ⟨g, k9, n9, p9, ts9, A9, c9, b9, rfl, rfl, hgr, hqg, hv9, hz9, hq9, bx⟩ := hcut.out
          clear hcut CU CR G0
          have hlw2 : w.heap.size < wc.heap.size := Nat.lt_of_lt_of_le hlw bx.size
          have hxr := bx.size
          obtain ⟨u0, u1, u2, u3⟩ := cells4t hqg
          cases b9
          case false =>
            have hb2 : Below w.heap.size w wc := B12.out.trans ((HBR.out.mono (by omega)).trans (bx.mono (by omega)))
            obtain ⟨s1, s2, s3, s4, g1, g2, g3, g4, ⟨y0, y1, y2, y3⟩, ⟨f0, f1, f2, f3⟩, hq, HZ⟩ := ren_zero (w := w) (w2 := w2) (n := Lfc.Raw.sizes ts + 1) (show w.heap.size ≤ w1.heap.size by omega) hb2 ((bx.block _ (by omega)).trans ((HBR.out.block _ (by omega)).trans Q2.out)) (by omega)
            have HQ := Lib.hid hq
            clear hq hb2 hqg hv9 bx u0 u1 u2 u3 HI
            go_wp2_with fail
            refine bodyPost_ret (results_term2 rfl _ _ _ _ _ _ _ rfl HQ.out) rfl ?_
            exact HZ.out
          case true =>
            obtain ⟨lo, hlo⟩ : ∃ lo, os.length = lo := ⟨_, rfl⟩
            have HLK : Hid (lo = k) := Lib.hid (by rw [← hlo]; exact HOL.out)
            have HR := Lib.hid ((bx.block _ (by have := HI.out.size; omega)).trans HI.out.r)
            have HOWN := Lib.hid HI.out.own
            have hlob : lo ≤ 1000000 := by have := HLK.out; omega
            have hlm : lo + 1 ≤ maxLen := by unfold maxLen; omega
            have hl56 : (lo + 1) * 56 ≤ 140737488355328 := by omega
            have HOW2 : Hid (wc.ownsRow (w2.heap.size + 1) 51 4 (.slice A' lo c') lo xs) := Lib.hid (by rw [← hlo]; exact HI.out.own.kept (Oth.of_below bx : Oth 0 wr wc) (Or.inr (fun e => by have := (HI.out.own.lt _ e).1; omega)))
            have HV9 := Lib.hid hv9
            have HX := Lib.hid (And.intro hz9 (hq9 rfl))
            have BX := Lib.hid bx
            have hrs := HI.out.size
            have yx : wc.cell? ⟨w2.heap.size, 3, none⟩ = some (.slice A' lo c') := by rw [← hlo]; exact Lib.cell_of_heap HR.out 3
            have HLO := Lib.hid hlo
            have hbz : w2.heap.size + 1 ≤ wc.heap.size := by omega
            have h0R : 0 < w2.heap.size := by omega
            clear hqg hv9 hz9 hq9 bx SC HT HPK hlo
            go_wp2_with (at_builtin; refine wpList_append_own_at _ rfl _ _ 27 rfl (w2.heap.size + 1) 51 i0 (.agg #[.int .i64 0, S [], .int .i64 0, .slice none 0 0]) 4 56 Tryz.underlying27 hi hz0 hz1 hz2 rfl (by decide) _ _ _ rfl (HOW2.out.alloc _) ⟨wc.heap.size, 0, none⟩ 1 1 [.int .i64 k9, S n9, .int .i64 p9, .slice A9 ts9.length c9] rfl rfl (fun jj v hj => ocells_new wc _ rfl [.int .i64 k9, S n9, .int .i64 p9, .slice A9 ts9.length c9] 51 jj v hj) oneCellT hlm hl56 (oalloc_le hbz) ?_)
            intro v' w10 hown10 hg10 _ hloc10
            obtain ⟨A10, c10, rfl⟩ := oform hown10
            obtain ⟨_, _, _, _, e9, hP9⟩ := HV9.out
            cases e9
            obtain ⟨hr10, hfin⟩ := HI.out.step (n' := Lfc.Raw.sizes (ts.take (k + 1))) h0R (Nat.lt_succ_self _) (Nat.le_refl _) BX.out hP9 (by have h1 := HSTK.out; have h2 := HX.out.1; omega) HX.out.2 (by rw [HLO.out]; exact hown10) (by rw [HLO.out]; exact hg10) (by rw [HLO.out]; exact hloc10)
            rw [HLO.out] at hr10 hfin
            have HN := Lib.hid (hfin A10 c10 rfl)
            have HL : Hid ((os ++ [Lfc.Raw.node k9 n9 p9 ts9]).length = k + 1) := Lib.hid (by rw [List.length_append, HLO.out, HLK.out]; rfl)
            have y10 := (Lib.cell_of_heap hr10 3 : w10.cell? ⟨w2.heap.size, 3, none⟩ = some (.slice A' lo c'))
            have f10 := Lib.frozen_of_heap hr10 3
            clear hr10 hfin hown10 hg10 hloc10 hP9 HV9
            go_wp2_with fail
            go_roundw
            case rel => exact ⟨k + 1, os ++ [Lfc.Raw.node k9 n9 p9 ts9], A10, c10, _, by omega, by go_num, HL.out, HN⟩
            case measure => simp [intOf]; omega
      · obtain rfl : k = ts.length := by omega
        obtain ⟨u0, u1, u2, u3⟩ := cells4t HI.out.r
        have hpt := trm_parts (lo := w1.heap.size + 1) (by omega) HI.out.own HI.out.row
        have hfe := HI.out.few
        rw [List.take_length] at hfe
        obtain ⟨s1, s2, s3, s4, g1, g2, g3, g4, ⟨y0, y1, y2, y3⟩, ⟨f0, f1, f2, f3⟩, hq, HZ⟩ := ren_ret (w := w) (w2 := w2) (k := kd) (p := p') (nm := nm) (n := Lfc.Raw.sizes ts + 1) true (show w.heap.size ≤ w1.heap.size by omega) (B12.out.trans (HBR.out.mono (by omega))) ((HBR.out.block _ (by omega)).trans Q2.out) hnl hpt (by omega) (fun _ => by rw [Lfc.Raw.posB, HI.out.pos]; simp; omega)
        have HQ := Lib.hid hq
        clear hq hpt hfe HI hol
        go_wp2_with fail
        refine bodyPost_ret (results_term2 rfl _ _ _ _ _ _ _ rfl HQ.out) rfl ?_
        exact HZ.out
end Go.Proofs.YtadjpadieljjlaaGreat
