/- Parts of the proof: OrFol, OrVer. -/
import Derived.Test.YtadjpadieljjlaaOrCopied
import Derived.Test.YtadjpadieljjlaaTmSame
/- The contracts of follows and argument.verify at one link up, without facts. -/
set_option linter.unusedVariables false
set_option linter.unusedSimpArgs false
namespace Go.Proofs.Ytadjpadieljjlaa
open Go.RowKit Go.Maps
set_option maxRecDepth 100000 in
set_option maxHeartbeats 8000000 in
theorem oFollows1_any (Bx : Nat) (F0 A0 L R : Option Addr) (f0 : Nat) (ks : List Int) (c0 : Nat) (ts us : List Lfc.Raw) (cl cr : Nat) (t u r : Lfc.Raw) (vt vr : Value) (q : List Int) (qq : Nat → Prop) (A : Option Addr) (c : Nat) (w : World)
    (hks : ks.length ≤ 1000000) (hP : ProvO w Bx F0 A0 L R 0 f0 ks c0 ts us cl cr) (hst : t.size ≤ 1000000) (hsu : u.size ≤ 1000000) (hsr : r.size ≤ 1000000) (hql : q.length ≤ 1000000) (hq : q.length ≠ 0) (hv : TreeV w t vt) (hvr : TreeV w r vr) (hl : LinksP qq w A [⟨1, u, q, 0⟩]) (hfit : Lfc.Raw.fits ks t u q = true) (hsm : Lfc.Raw.tsm u r = true) (huk : ∀ k n p ts, u = .node k n p ts → k ≠ 0) :
    Calls Try.prog 109 #[.pointer (some ⟨Bx, 0, none⟩), vt, vr, .slice A 1 c] w fun e w' => e = .returned (.int .i64 2) ∧ Below w.heap.size w w' := by
  have HV := Lib.hid hv
  have HVR := Lib.hid hvr
  obtain ⟨At, ct, kd, nm, ps, xs, hT, rfl⟩ : ∃ A c kd nm ps xs, t = .node kd nm ps xs ∧ vt = .agg #[.int .i64 kd, S nm, .int .i64 ps, .slice A (List.length xs) c] := by
    obtain ⟨kd, nm, ps, ts⟩ := t
    obtain ⟨A, c, rfl, hc, hA⟩ := hv.open_
    exact ⟨A, c, kd, nm, ps, ts, rfl, rfl⟩
  obtain ⟨Ar, cr', kd', nm', ps', ys, hU, rfl⟩ : ∃ A c kd nm ps xs, r = .node kd nm ps xs ∧ vr = .agg #[.int .i64 kd, S nm, .int .i64 ps, .slice A (List.length xs) c] := by
    obtain ⟨kd, nm, ps, ts⟩ := r
    obtain ⟨A, c, rfl, hc, hA⟩ := hvr.open_
    exact ⟨A, c, kd, nm, ps, ts, rfl, rfl⟩
  obtain ⟨b, o, rfl, hb, _, hall⟩ := hl (by simp)
  obtain ⟨ku, nu, pu, zs, Au, cu, Ap, cp, he, d0, d1, d2, d3, d4, d5, d6, hcp, hip, htv⟩ := hall 0 (by simp)
  simp only [List.getElem_cons_zero] at he d0 d5 d6 hcp hip htv
  simp only [Nat.zero_mul, Nat.add_zero] at d0 d1 d2 d3 d4 d5 d6
  have hku : ku ≠ 0 := huk _ _ _ _ he
  have hku1 : (ku == 0) = false := by simpa using hku
  have hku2 : decide (ku = 0) = false := by simpa using hku
  have hq1 : decide ((q.length : Int) > 0) = true := by rw [decide_eq_true_eq]; omega
  have hq2 : decide ((0 : Int) < (q.length : Int)) = true := by rw [decide_eq_true_eq]; omega
  have hq3 : decide (q.length > 0) = true := by rw [decide_eq_true_eq]; omega
  have hq4 : decide (0 < q.length) = true := by rw [decide_eq_true_eq]; omega
  obtain ⟨w1, hw1⟩ : ∃ w1, w.alloc (.cells #[.int .i64 kd, S nm, .int .i64 ps, .slice At xs.length ct] 34) = w1 := ⟨_, rfl⟩
  obtain ⟨w2, hw2⟩ : ∃ w2, w1.alloc (.cells #[.int .i64 kd', S nm', .int .i64 ps', .slice Ar ys.length cr'] 34) = w2 := ⟨_, rfl⟩
  obtain ⟨w3, hw3⟩ : ∃ w3, w2.alloc (.cells #[.int .i64 1, .int .i64 ku, S nu, .int .i64 pu, .slice Au zs.length cu, .slice Ap q.length cp, .int .i64 0] 104) = w3 := ⟨_, rfl⟩
  have b1 : Below w.heap.size w w1 := by rw [← hw1]; exact (Below.refl _ _).alloc (Nat.le_refl _) _
  have b2 : Below w1.heap.size w1 w2 := by rw [← hw2]; exact (Below.refl _ _).alloc (Nat.le_refl _) _
  have b3 : Below w2.heap.size w2 w3 := by rw [← hw3]; exact (Below.refl _ _).alloc (Nat.le_refl _) _
  have q1 : w1.heap[w.heap.size]? = some (.cells #[.int .i64 kd, S nm, .int .i64 ps, .slice At xs.length ct] 34 (0, 0)) := by rw [← hw1]; exact heap_alloc_new _ _
  have q2 : w2.heap[w1.heap.size]? = some (.cells #[.int .i64 kd', S nm', .int .i64 ps', .slice Ar ys.length cr'] 34 (0, 0)) := by rw [← hw2]; exact heap_alloc_new _ _
  have q3 : w3.heap[w2.heap.size]? = some (.cells #[.int .i64 1, .int .i64 ku, S nu, .int .i64 pu, .slice Au zs.length cu, .slice Ap q.length cp, .int .i64 0] 104 (0, 0)) := by rw [← hw3]; exact heap_alloc_new _ _
  have l1 := lt_of_block q1
  have l2 := lt_of_block q2
  have l3 := lt_of_block q3
  have b13 : Below w1.heap.size w1 w3 := b2.trans (b3.mono (by omega))
  have b02 : Below w.heap.size w w2 := b1.trans (b2.mono (by omega))
  have b03 : Below w.heap.size w w3 := b1.trans (b13.mono (by omega))
  have s03 : w.heap.size ≤ w3.heap.size := by omega
  have Q1 := Lib.hid ((b13.block _ l1).trans q1)
  have Q2 := Lib.hid ((b3.block _ l2).trans q2)
  have Q3 := Lib.hid q3
  have B03 := Lib.hid b03
  have f0' := (b02.cell (p := ⟨b, o, none⟩) hb).trans d0
  have f1' := (b02.cell (p := ⟨b, o + 1, none⟩) hb).trans d1
  have f2' := (b02.cell (p := ⟨b, o + 2, none⟩) hb).trans d2
  have f3' := (b02.cell (p := ⟨b, o + 3, none⟩) hb).trans d3
  have f4' := (b02.cell (p := ⟨b, o + 4, none⟩) hb).trans d4
  have f5' := (b02.cell (p := ⟨b, o + 5, none⟩) hb).trans d5
  have f6' := (b02.cell (p := ⟨b, o + 6, none⟩) hb).trans d6
  have HP3 := Lib.hid (hP.below b03)
  have SC : Hid (∀ W, Below w3.heap.size w3 W → W.cell? ⟨Bx, 1, none⟩ = some (.slice A0 ks.length c0) ∧ (W.cell? ⟨w.heap.size, 0, none⟩ = some (.int .i64 kd) ∧ W.cell? ⟨w.heap.size, 1, none⟩ = some (S nm) ∧ W.cell? ⟨w.heap.size, 2, none⟩ = some (.int .i64 ps) ∧ W.cell? ⟨w.heap.size, 3, none⟩ = some (.slice At xs.length ct)) ∧ (W.cell? ⟨w2.heap.size, 0, none⟩ = some (.int .i64 1) ∧ W.cell? ⟨w2.heap.size, 1, none⟩ = some (.int .i64 ku) ∧ W.cell? ⟨w2.heap.size, 2, none⟩ = some (S nu) ∧ W.cell? ⟨w2.heap.size, 3, none⟩ = some (.int .i64 pu) ∧ W.cell? ⟨w2.heap.size, 4, none⟩ = some (.slice Au zs.length cu) ∧ W.cell? ⟨w2.heap.size, 5, none⟩ = some (.slice Ap q.length cp) ∧ W.cell? ⟨w2.heap.size, 6, none⟩ = some (.int .i64 0))) := Lib.hid (fun W hW => by
    have e := (hW.block _ l3).trans Q3.out
    exact ⟨(HP3.out.below hW).kinds, cells4t ((hW.block _ (by omega)).trans Q1.out), Lib.cell_of_heap e 0, Lib.cell_of_heap e 1, Lib.cell_of_heap e 2, Lib.cell_of_heap e 3, Lib.cell_of_heap e 4, Lib.cell_of_heap e 5, Lib.cell_of_heap e 6⟩)
  have CF : Hid (∀ W, Below w3.heap.size w3 W → Calls Try.prog 29 #[.agg #[.int .i64 kd, S nm, .int .i64 ps, .slice At xs.length ct], .agg #[.int .i64 ku, S nu, .int .i64 pu, .slice Au zs.length cu], .slice Ap q.length cp, .slice A0 ks.length c0] W fun e w' => e = .returned (.bool true) ∧ Below W.heap.size W w') := Lib.hid (fun W hW => by
    have hbW := b03.trans (hW.mono s03)
    have := oFits_any t u _ _ q Ap cp ks A0 c0 W hql hks hst hsu (hip.toO.below hbW) (HP3.out.ks.below hW) (HV.out.below hbW) (htv.toV.below hbW)
    rwa [hfit] at this)
  have CS : Hid (∀ W, Below w.heap.size w W → Calls Try.prog 114 #[.agg #[.int .i64 ku, S nu, .int .i64 pu, .slice Au zs.length cu], .agg #[.int .i64 kd', S nm', .int .i64 ps', .slice Ar ys.length cr']] W fun e w' => e = .returned (.bool true) ∧ Below W.heap.size W w') := Lib.hid (fun W hW => by
    have := tSame_upto _ (Nat.le_trans hsu (by decide)) u r _ _ W (Nat.le_refl _) (htv.toV.below hW) (HVR.out.below hW)
    rwa [hsm] at this)
  have G0 : Below w3.heap.size w3 w3.drew := (Below.refl _ _).drew
  have aa : ∀ W W', Below w3.heap.size w3 W → Below W.heap.size W W' → Below w3.heap.size w3 W' := fun W W' h h' => h.trans (h'.mono h.size)
  have HW3 := Lib.hid hw3
  have HL := hP.lt
  clear hP hv hvr hl hall he d0 d1 d2 d3 d4 d5 d6 hip htv hfit hsm huk hT hU b1 b2 b3 q1 q2 q3 b13 b02 b03 hq hw3
  go_enter Try.func109, Try.ntmps109
  go_wp2_with fail
  go_loopw [9, 15] (fun s i wr => (s = .int .i64 1 ∧ i = .int .i64 0 ∧ wr = w2) ∨ (s = .int .i64 2 ∧ i = .int .i64 1 ∧ Hid (Below w.heap.size w wr ∧ wr.heap[w.heap.size]? = some (.cells #[.int .i64 ku, S nu, .int .i64 pu, .slice Au zs.length cu] 34 (0, 0)) ∧ wr.heap[w1.heap.size]? = some (.cells #[.int .i64 kd', S nm', .int .i64 ps', .slice Ar ys.length cr'] 34 (0, 0))))) (fun _ i _ => 2 - (intOf i).toNat)
  case atStart => exact .inl ⟨rfl, rfl, by simp⟩
  case round =>
    rcases hrel with ⟨rfl, rfl, hwx⟩ | ⟨rfl, rfl, HI⟩
    · subst hwx
      obtain ⟨wq, hwq⟩ : ∃ wq, wq = wr := ⟨_, rfl⟩
      subst hwq
      go_upto_region 5 with fail
      rw [HW3.out]
      obtain ⟨x0, ⟨y0, y1, y2, y3⟩, ⟨z0, z1, z2, z3, z4, z5, z6⟩⟩ := SC.out _ (Below.refl _ _)
      clear hw1 hw2 HW3 f0' f1' f2' f3' f4' f5' f6'
      go_upto_region 7 with fail
      go_region_held3 (fun W => W.cell? ⟨Bx, 1, none⟩ = some (.slice A0 ks.length c0) ∧ (W.cell? ⟨w.heap.size, 0, none⟩ = some (.int .i64 kd) ∧ W.cell? ⟨w.heap.size, 1, none⟩ = some (S nm) ∧ W.cell? ⟨w.heap.size, 2, none⟩ = some (.int .i64 ps) ∧ W.cell? ⟨w.heap.size, 3, none⟩ = some (.slice At xs.length ct)) ∧ (W.cell? ⟨wq.heap.size, 0, none⟩ = some (.int .i64 1) ∧ W.cell? ⟨wq.heap.size, 1, none⟩ = some (.int .i64 ku) ∧ W.cell? ⟨wq.heap.size, 2, none⟩ = some (S nu) ∧ W.cell? ⟨wq.heap.size, 3, none⟩ = some (.int .i64 pu) ∧ W.cell? ⟨wq.heap.size, 4, none⟩ = some (.slice Au zs.length cu) ∧ W.cell? ⟨wq.heap.size, 5, none⟩ = some (.slice Ap q.length cp) ∧ W.cell? ⟨wq.heap.size, 6, none⟩ = some (.int .i64 0)))
        (first | exact SC.out _ G0 | (refine SC.out _ ?_; assumption))
        ((go_at_call 29; ((with_reducible refine (CF.out _ ?_).mono ?_)); assumption; rintro e w5 ⟨rfl, b5'⟩; have b5 := aa _ _ (by assumption) b5'))
      all_goals
        clear x0 y0 y1 y2 y3 z0 z1 z2 z3 z4 z5 z6
        obtain ⟨x0, ⟨y0, y1, y2, y3⟩, ⟨z0, z1, z2, z3, z4, z5, z6⟩⟩ := SC.out _ b5
        obtain ⟨s1, s2, s3, s4, k1, k2, k3, k4, ⟨p0, p1, p2, p3⟩, ⟨t0, t1, t2, t3⟩, hq4', ho⟩ := put4 ((b5.block _ (by omega)).trans Q1.out) (.int .i64 ku) (S nu) (.int .i64 pu) (.slice Au zs.length cu)
        have HN : Hid (Below w.heap.size w s4 ∧ s4.heap[w.heap.size]? = some (.cells #[.int .i64 ku, S nu, .int .i64 pu, .slice Au zs.length cu] 34 (0, 0)) ∧ s4.heap[w1.heap.size]? = some (.cells #[.int .i64 kd', S nm', .int .i64 ps', .slice Ar ys.length cr'] 34 (0, 0))) := Lib.hid ⟨Oth.below (B03.out.trans (b5.mono s03)) ho (Nat.le_refl _) (Nat.le_trans s03 b5.size), hq4', ho.heap ((b5.block _ (by omega)).trans Q2.out) (by omega)⟩
        clear hq4' ho b5 b5'
        go_wp2_with fail
        go_roundw
        case rel => exact .inr ⟨rfl, rfl, HN⟩
        case measure => simp [intOf]
    · obtain ⟨hbw, hq1', hq2'⟩ := HI.out
      obtain ⟨y0, y1, y2, y3⟩ := cells4t hq1'
      obtain ⟨z0, z1, z2, z3⟩ := cells4t hq2'
      have CSW := Lib.hid (CS.out _ hbw)
      have HBW := Lib.hid hbw
      clear hbw hq1' hq2' HI hw1 hw2
      go_wp2_with fail
      refine CSW.out.mono ?_
      rintro e w5 ⟨rfl, b5⟩
      have HZ := Lib.hid (HBW.out.trans (b5.mono HBW.out.size))
      go_wp2_with fail
      go_ret
      exact ⟨rfl, HZ.out⟩
end Go.Proofs.Ytadjpadieljjlaa

/- The contract of argument.verify at Less, one link up, without facts. -/
set_option linter.unusedVariables false
set_option linter.unusedSimpArgs false
namespace Go.Proofs.Ytadjpadieljjlaa
open Go.RowKit
set_option maxRecDepth 100000 in
set_option maxHeartbeats 8000000 in
theorem oArgVerify1_any (q : List Int) (qq : Nat → Prop) (C Bk : Option Addr) (cC dk : Nat) (Bx : Nat) (F0 A0 L R : Option Addr) (f0 : Nat) (ks : List Int) (c0 : Nat) (ts us : List Lfc.Raw) (cl cr i j : Nat) (w : World) (hks : ks.length ≤ 1000000) (hP : ProvO w Bx F0 A0 L R 0 f0 ks c0 ts us cl cr) (hi : i < ts.length) (hj : j < us.length) (hsi : ts[i].size ≤ 1000000) (hsj : us[j].size ≤ 1000000) (hil : i ≤ 1000000) (hjl : j ≤ 1000000) (hql : q.length ≤ 1000000) (hq : q.length ≠ 0) (hl : LinksP qq w C [⟨1, us[j], q, 0⟩]) (hfit : Lfc.Raw.fits ks ts[i] us[j] q = true) (hsm : Lfc.Raw.tsm us[j] us[j] = true) (huk : ∀ k n p ts, us[j] = .node k n p ts → k ≠ 0) :
    Calls Try.prog 106 #[.agg #[.int .i64 (i : Int), .int .i64 (j : Int)], .pointer (some ⟨Bx, 0, none⟩), .int .i64 1, .agg #[.int .i64 0, .slice none 0 0, .slice C 1 cC, .slice Bk 0 dk]] w fun e w' => e = .returned (.bool true) ∧ Below w.heap.size w w' := by
  obtain ⟨b, o, k1, n1, p1, xs, B, c1, rfl, hb, ht, d0, d1, d2, d3, hcu, hB, hT⟩ := hP.ts.at_ hi
  obtain ⟨b', o', k2, n2, p2, ys, B', c2, rfl, hb', ht', e0, e1, e2, e3, hcu', hB', hT'⟩ := hP.us.at_ hj
  obtain ⟨t, hT0⟩ : ∃ t, ts[i] = t := ⟨_, rfl⟩
  obtain ⟨u, hU0⟩ : ∃ u, us[j] = u := ⟨_, rfl⟩
  rw [hT0] at hsi hT hfit
  rw [hU0] at hsj hT' hfit hsm huk hl
  have HP := Lib.hid hP
  have HT := Lib.hid hT
  have HT' := Lib.hid hT'
  obtain ⟨nts, hnts⟩ : ∃ n, ts.length = n := ⟨_, rfl⟩
  obtain ⟨nus, hnus⟩ : ∃ n, us.length = n := ⟨_, rfl⟩
  obtain ⟨w1, hw1⟩ : ∃ w1, w.alloc (.cells #[.int .i64 (i : Int), .int .i64 (j : Int)] 98) = w1 := ⟨_, rfl⟩
  obtain ⟨w2, hw2⟩ : ∃ w2, w1.alloc (.cells #[.int .i64 0, .slice none 0 0, .slice C 1 cC, .slice Bk 0 dk] 58) = w2 := ⟨_, rfl⟩
  have b1 : Below w.heap.size w w1 := by rw [← hw1]; exact (Below.refl _ _).alloc (Nat.le_refl _) _
  have b2 : Below w1.heap.size w1 w2 := by rw [← hw2]; exact (Below.refl _ _).alloc (Nat.le_refl _) _
  have q1 : w1.heap[w.heap.size]? = some (.cells #[.int .i64 (i : Int), .int .i64 (j : Int)] 98 (0, 0)) := by rw [← hw1]; exact heap_alloc_new _ _
  have q2 : w2.heap[w1.heap.size]? = some (.cells #[.int .i64 0, .slice none 0 0, .slice C 1 cC, .slice Bk 0 dk] 58 (0, 0)) := by rw [← hw2]; exact heap_alloc_new _ _
  have l1 := lt_of_block q1
  have l2 := lt_of_block q2
  have b02 : Below w.heap.size w w2 := b1.trans (b2.mono (by omega))
  have B02 := Lib.hid b02
  have s02 : w.heap.size ≤ w2.heap.size := by omega
  have Q2 := Lib.hid q2
  obtain ⟨y0, y1⟩ := cells2e ((b2.block _ l1).trans q1)
  have hp2 := hP.below b02
  have x2 := hp2.left
  have x3 := hp2.right
  rw [hnts] at x2 hi
  rw [hnus] at x3 hj
  have f0' := (b02.cell (p := ⟨b, o + i * 4, none⟩) hb).trans d0
  have f1' := (b02.cell (p := ⟨b, o + i * 4 + 1, none⟩) hb).trans d1
  have f2' := (b02.cell (p := ⟨b, o + i * 4 + 2, none⟩) hb).trans d2
  have f3' := (b02.cell (p := ⟨b, o + i * 4 + 3, none⟩) hb).trans d3
  have g0' := (b02.cell (p := ⟨b', o' + j * 4, none⟩) hb').trans e0
  have g1' := (b02.cell (p := ⟨b', o' + j * 4 + 1, none⟩) hb').trans e1
  have g2' := (b02.cell (p := ⟨b', o' + j * 4 + 2, none⟩) hb').trans e2
  have g3' := (b02.cell (p := ⟨b', o' + j * 4 + 3, none⟩) hb').trans e3
  have SX : Hid ((w2.cell? ⟨Bx, 2, none⟩ = some (.slice (some ⟨b, o, none⟩) nts cl) ∧ w2.cell? ⟨Bx, 3, none⟩ = some (.slice (some ⟨b', o', none⟩) nus cr)) ∧ (w2.cell? ⟨w.heap.size, 0, none⟩ = some (.int .i64 (i : Int)) ∧ w2.cell? ⟨w.heap.size, 1, none⟩ = some (.int .i64 (j : Int))) ∧ (w2.cell? ⟨b, o + i * 4, none⟩ = some (.int .i64 k1) ∧ w2.cell? ⟨b, o + i * 4 + 1, none⟩ = some (S n1) ∧ w2.cell? ⟨b, o + i * 4 + 2, none⟩ = some (.int .i64 p1) ∧ w2.cell? ⟨b, o + i * 4 + 3, none⟩ = some (.slice B xs.length c1)) ∧ (w2.cell? ⟨b', o' + j * 4, none⟩ = some (.int .i64 k2) ∧ w2.cell? ⟨b', o' + j * 4 + 1, none⟩ = some (S n2) ∧ w2.cell? ⟨b', o' + j * 4 + 2, none⟩ = some (.int .i64 p2) ∧ w2.cell? ⟨b', o' + j * 4 + 3, none⟩ = some (.slice B' ys.length c2))) := Lib.hid ⟨⟨x2, x3⟩, ⟨y0, y1⟩, ⟨f0', f1', f2', f3'⟩, ⟨g0', g1', g2', g3'⟩⟩
  have m1 := World.new_ne w2 _ x2
  have m2 := World.new_ne w2 _ y0
  have m3 := World.new_ne w2 _ f0'
  have m4 := World.new_ne w2 _ g0'
  simp only at m1 m2 m3 m4
  have hi0 : (0 : Int) ≤ (i : Int) := Int.natCast_nonneg _
  have hi1 : (i : Int) < (nts : Int) := by omega
  have hj0 : (0 : Int) ≤ (j : Int) := Int.natCast_nonneg _
  have hj1 : (j : Int) < (nus : Int) := by omega
  have HPX := Lib.hid (And.intro hl (And.intro hfit (And.intro hsm (And.intro huk hq))))
  clear hl hfit hsm huk hq
  clear hT hT' hP hp2 q1 q2 b1 b2 b02 ht ht' hB hB' d0 d1 d2 d3 e0 e1 e2 e3 hT0 hU0 hnts hnus
  go_enter Try.func106, Try.ntmps106
  go_upto_region 1 with fail
  clear hw1 hw2
  go_region_held3 (fun W => (W.cell? ⟨Bx, 2, none⟩ = some (.slice (some ⟨b, o, none⟩) nts cl) ∧ W.cell? ⟨Bx, 3, none⟩ = some (.slice (some ⟨b', o', none⟩) nus cr)) ∧ (W.cell? ⟨w.heap.size, 0, none⟩ = some (.int .i64 (i : Int)) ∧ W.cell? ⟨w.heap.size, 1, none⟩ = some (.int .i64 (j : Int))) ∧ (W.cell? ⟨b, o + i * 4, none⟩ = some (.int .i64 k1) ∧ W.cell? ⟨b, o + i * 4 + 1, none⟩ = some (S n1) ∧ W.cell? ⟨b, o + i * 4 + 2, none⟩ = some (.int .i64 p1) ∧ W.cell? ⟨b, o + i * 4 + 3, none⟩ = some (.slice B xs.length c1)) ∧ (W.cell? ⟨b', o' + j * 4, none⟩ = some (.int .i64 k2) ∧ W.cell? ⟨b', o' + j * 4 + 1, none⟩ = some (S n2) ∧ W.cell? ⟨b', o' + j * 4 + 2, none⟩ = some (.int .i64 p2) ∧ W.cell? ⟨b', o' + j * 4 + 3, none⟩ = some (.slice B' ys.length c2)))
    (first | exact SX.out | go_keep)
    (fail)
  · obtain ⟨w5, hw5⟩ : ∃ w5, ((w2.alloc (.cells #[.int .i64 k1, S n1, .int .i64 p1, .slice B xs.length c1] 34)).alloc (.cells #[.int .i64 k2, S n2, .int .i64 p2, .slice B' ys.length c2] 34)).drew = w5 := ⟨_, rfl⟩
    rw [hw5]
    have b5 : Below w2.heap.size w2 w5 := by rw [← hw5]; exact (((Below.refl _ _).alloc (Nat.le_refl _) _).alloc (by simp) _).drew
    have s5 : w5.heap.size = w2.heap.size + 2 := by rw [← hw5]; simp [World.drew]
    have qa : w5.heap[w2.heap.size]? = some (.cells #[.int .i64 k1, S n1, .int .i64 p1, .slice B xs.length c1] 34 (0, 0)) := by
      rw [← hw5]
      exact (Below.heap_alloc _ _ _ (by simp)).trans (heap_alloc_new _ _)
    have qb : w5.heap[w2.heap.size + 1]? = some (.cells #[.int .i64 k2, S n2, .int .i64 p2, .slice B' ys.length c2] 34 (0, 0)) := by
      rw [← hw5]
      exact two_alloc _ _ _
    obtain ⟨y0, y1, y2, y3⟩ := cells4t qa
    obtain ⟨z0, z1, z2, z3⟩ := cells4t qb
    have b05 := B02.out.trans (b5.mono s02)
    have hp5 := HP.out.below b05
    have CH := Lib.hid (oFollows1_any Bx F0 A0 _ _ f0 ks c0 ts us cl cr t u u _ _ q qq C cC w5 hks hp5 hsi hsj hsj hql HPX.out.2.2.2.2 (HT.out.below b05) (HT'.out.below b05) (HPX.out.1.below b05) HPX.out.2.1 HPX.out.2.2.1 HPX.out.2.2.2.1)
    have B5 := Lib.hid b05
    have Q5 := Lib.hid ((b5.block _ l2).trans Q2.out)
    obtain ⟨x0, x1, x2, x3⟩ := cells4t Q5.out
    clear hw5 hp5 qa qb b5 b05
    go_wp2_with fail
    refine CH.out.mono ?_
    rintro e w6 ⟨rfl, b6⟩
    clear x0 x1 x2 x3
    obtain ⟨x0, x1, x2, x3⟩ := cells4t ((b6.block _ (by omega)).trans Q5.out)
    have HZ := Lib.hid (B5.out.trans (b6.mono B5.out.size))
    clear b6 CH y0 y1 y2 y3 z0 z1 z2 z3
    go_wp2_with fail
    go_ret
    exact ⟨rfl, HZ.out⟩
  · obtain ⟨w5, hw5⟩ : ∃ w5, ((w2.alloc (.cells #[.int .i64 k2, S n2, .int .i64 p2, .slice B' ys.length c2] 34)).alloc (.cells #[.int .i64 k1, S n1, .int .i64 p1, .slice B xs.length c1] 34)).drew = w5 := ⟨_, rfl⟩
    rw [hw5]
    have b5 : Below w2.heap.size w2 w5 := by rw [← hw5]; exact (((Below.refl _ _).alloc (Nat.le_refl _) _).alloc (by simp) _).drew
    have s5 : w5.heap.size = w2.heap.size + 2 := by rw [← hw5]; simp [World.drew]
    have qa : w5.heap[w2.heap.size]? = some (.cells #[.int .i64 k2, S n2, .int .i64 p2, .slice B' ys.length c2] 34 (0, 0)) := by
      rw [← hw5]
      exact (Below.heap_alloc _ _ _ (by simp)).trans (heap_alloc_new _ _)
    have qb : w5.heap[w2.heap.size + 1]? = some (.cells #[.int .i64 k1, S n1, .int .i64 p1, .slice B xs.length c1] 34 (0, 0)) := by
      rw [← hw5]
      exact two_alloc _ _ _
    obtain ⟨y0, y1, y2, y3⟩ := cells4t qb
    obtain ⟨z0, z1, z2, z3⟩ := cells4t qa
    have b05 := B02.out.trans (b5.mono s02)
    have hp5 := HP.out.below b05
    have CH := Lib.hid (oFollows1_any Bx F0 A0 _ _ f0 ks c0 ts us cl cr t u u _ _ q qq C cC w5 hks hp5 hsi hsj hsj hql HPX.out.2.2.2.2 (HT.out.below b05) (HT'.out.below b05) (HPX.out.1.below b05) HPX.out.2.1 HPX.out.2.2.1 HPX.out.2.2.2.1)
    have B5 := Lib.hid b05
    have Q5 := Lib.hid ((b5.block _ l2).trans Q2.out)
    obtain ⟨x0, x1, x2, x3⟩ := cells4t Q5.out
    clear hw5 hp5 qa qb b5 b05
    go_wp2_with fail
    refine CH.out.mono ?_
    rintro e w6 ⟨rfl, b6⟩
    clear x0 x1 x2 x3
    obtain ⟨x0, x1, x2, x3⟩ := cells4t ((b6.block _ (by omega)).trans Q5.out)
    have HZ := Lib.hid (B5.out.trans (b6.mono B5.out.size))
    clear b6 CH y0 y1 y2 y3 z0 z1 z2 z3
    go_wp2_with fail
    go_ret
    exact ⟨rfl, HZ.out⟩
end Go.Proofs.Ytadjpadieljjlaa
