/- The contract of up. -/
import Derived.Test.YtadjpadieljjlaaOrLink
import Derived.Deep.RegionHeld3
set_option linter.unusedVariables false
set_option linter.unusedSimpArgs false
namespace Go.Proofs.Ytadjpadieljjlaa
open Go.RowKit
set_option maxRecDepth 100000 in
set_option maxHeartbeats 8000000 in
theorem oUp_any (Bx : Nat) (ks : List Int) (A0 : Option Addr) (c0 : Nat) (t u : Lfc.Raw) (vt vu : Value) (w : World) (hks : ks.length ≤ 1000000) (ht : t.size ≤ 1000000) (hu : u.size ≤ 1000000) (hA0 : IntsO w A0 ks) (hv : TreeV w t vt) (hv' : TreeV w u vu) (hx : w.cell? ⟨Bx, 1, none⟩ = some (.slice A0 ks.length c0)) (hB : Bx < w.heap.size) :
    Calls Try.prog 110 #[.pointer (some ⟨Bx, 0, none⟩), vt, vu] w (EdgeAns w (Lfc.Raw.up ks t u)) := by
  have HV := Lib.hid hv
  have HV' := Lib.hid hv'
  obtain ⟨A, c, kd, nm, ps, xs, hT, rfl⟩ : ∃ A c kd nm ps xs, t = .node kd nm ps xs ∧ vt = .agg #[.int .i64 kd, S nm, .int .i64 ps, .slice A (List.length xs) c] := by
    obtain ⟨kd, nm, ps, ts⟩ := t
    obtain ⟨A, c, rfl, hc, hA⟩ := hv.open_
    exact ⟨A, c, kd, nm, ps, ts, rfl, rfl⟩
  obtain ⟨A', c', kd', nm', ps', ys, hU, rfl⟩ : ∃ A c kd nm ps xs, u = .node kd nm ps xs ∧ vu = .agg #[.int .i64 kd, S nm, .int .i64 ps, .slice A (List.length xs) c] := by
    obtain ⟨kd, nm, ps, ts⟩ := u
    obtain ⟨A, c, rfl, hc, hA⟩ := hv'.open_
    exact ⟨A, c, kd, nm, ps, ts, rfl, rfl⟩
  obtain ⟨w1, hw1⟩ : ∃ w1, w.alloc (.cells #[.int .i64 kd, S nm, .int .i64 ps, .slice A xs.length c] 34) = w1 := ⟨_, rfl⟩
  obtain ⟨w2, hw2⟩ : ∃ w2, w1.alloc (.cells #[.int .i64 kd', S nm', .int .i64 ps', .slice A' ys.length c'] 34) = w2 := ⟨_, rfl⟩
  obtain ⟨w3, hw3⟩ : ∃ w3, w2.alloc (.cells #[.int .i64 0, .slice none 0 0] 138) = w3 := ⟨_, rfl⟩
  have b1 : Below w.heap.size w w1 := by rw [← hw1]; exact (Below.refl _ _).alloc (Nat.le_refl _) _
  have b2 : Below w1.heap.size w1 w2 := by rw [← hw2]; exact (Below.refl _ _).alloc (Nat.le_refl _) _
  have b3 : Below w2.heap.size w2 w3 := by rw [← hw3]; exact (Below.refl _ _).alloc (Nat.le_refl _) _
  have q1 : w1.heap[w.heap.size]? = some (.cells #[.int .i64 kd, S nm, .int .i64 ps, .slice A xs.length c] 34 (0, 0)) := by rw [← hw1]; exact heap_alloc_new _ _
  have q2 : w2.heap[w1.heap.size]? = some (.cells #[.int .i64 kd', S nm', .int .i64 ps', .slice A' ys.length c'] 34 (0, 0)) := by rw [← hw2]; exact heap_alloc_new _ _
  have q3 : w3.heap[w2.heap.size]? = some (.cells #[.int .i64 0, .slice none 0 0] 138 (0, 0)) := by rw [← hw3]; exact heap_alloc_new _ _
  have l1 := lt_of_block q1
  have l2 := lt_of_block q2
  have l3 := lt_of_block q3
  have b13 : Below w1.heap.size w1 w3 := b2.trans (b3.mono (by omega))
  have b03 : Below w.heap.size w w3 := b1.trans (b13.mono (by omega))
  have Q1 := Lib.hid ((b13.block _ l1).trans q1)
  have Q2 := Lib.hid ((b3.block _ l2).trans q2)
  have Q3 := Lib.hid q3
  have B03 := Lib.hid b03
  have s03 : w.heap.size ≤ w3.heap.size := by omega
  have HX := Lib.hid ((b03.cell (p := ⟨Bx, 1, none⟩) hB).trans hx)
  have SC : Hid (∀ W, Below w3.heap.size w3 W → W.cell? ⟨Bx, 1, none⟩ = some (.slice A0 ks.length c0) ∧ (W.cell? ⟨w.heap.size, 0, none⟩ = some (.int .i64 kd) ∧ W.cell? ⟨w.heap.size, 1, none⟩ = some (S nm) ∧ W.cell? ⟨w.heap.size, 2, none⟩ = some (.int .i64 ps) ∧ W.cell? ⟨w.heap.size, 3, none⟩ = some (.slice A xs.length c)) ∧ (W.cell? ⟨w1.heap.size, 0, none⟩ = some (.int .i64 kd') ∧ W.cell? ⟨w1.heap.size, 1, none⟩ = some (S nm') ∧ W.cell? ⟨w1.heap.size, 2, none⟩ = some (.int .i64 ps') ∧ W.cell? ⟨w1.heap.size, 3, none⟩ = some (.slice A' ys.length c'))) := Lib.hid (fun W hb => by
    refine ⟨(hb.cell (p := ⟨Bx, 1, none⟩) (by simp only; omega)).trans HX.out, ?_, ?_⟩
    · exact cells4t ((hb.block _ (by omega)).trans Q1.out)
    · exact cells4t ((hb.block _ (by omega)).trans Q2.out))
  have CP := Lib.hid (fun W (hb : Below w3.heap.size w3 W) => oPath_any t u _ _ ks A0 c0 W hks ht hu (hA0.below (b03.trans (hb.mono s03))) (HV.out.below (b03.trans (hb.mono s03))) (HV'.out.below (b03.trans (hb.mono s03))))
  have CO := Lib.hid (fun W (hb : Below w3.heap.size w3 W) => ownTerm_upto _ hu u _ W (Nat.le_refl _) (HV'.out.below (b03.trans (hb.mono s03))))
  have HU := Lib.hid hU
  have HR : Hid (Lfc.Raw.up ks t u = Lfc.upOf u (Lfc.Raw.path ks t u)) := Lib.hid rfl
  have aa : ∀ W W', Below w3.heap.size w3 W → Below W.heap.size W W' → Below w3.heap.size w3 W' := fun W W' h h' => h.trans (h'.mono h.size)
  have G0 : Below w3.heap.size w3 w3.drew := (Below.refl _ _).drew
  rw [HR.out]
  generalize Lfc.Raw.path ks t u = r at *
  clear hT hU hv hv' hA0 b1 b2 b3 q1 q2 q3 b13 b03 hx HX HR
  cases r with
  | none =>
    have CP := Lib.hid (fun W hb => (CP.out W hb).mono (fun e w' h => h.no))
    go_enter Try.func110, Try.ntmps110
    go_upto_region 1 with fail
    clear hw1 hw2 hw3
    go_region_held3 (fun W => W.cell? ⟨Bx, 1, none⟩ = some (.slice A0 ks.length c0) ∧ (W.cell? ⟨w.heap.size, 0, none⟩ = some (.int .i64 kd) ∧ W.cell? ⟨w.heap.size, 1, none⟩ = some (S nm) ∧ W.cell? ⟨w.heap.size, 2, none⟩ = some (.int .i64 ps) ∧ W.cell? ⟨w.heap.size, 3, none⟩ = some (.slice A xs.length c)) ∧ (W.cell? ⟨w1.heap.size, 0, none⟩ = some (.int .i64 kd') ∧ W.cell? ⟨w1.heap.size, 1, none⟩ = some (S nm') ∧ W.cell? ⟨w1.heap.size, 2, none⟩ = some (.int .i64 ps') ∧ W.cell? ⟨w1.heap.size, 3, none⟩ = some (.slice A' ys.length c')))
      (first | exact SC.out _ G0 | (refine SC.out _ ?_; assumption))
      ((go_at_call 26; ((with_reducible refine (CP.out _ ?_).mono ?_)); assumption; rintro e w5 ⟨rfl, b5'⟩; have b5 := aa _ _ (by assumption) b5'))
    obtain ⟨s1, s2, g1, g2, ⟨p0, p1⟩, ⟨f0, f1⟩, hq2, hot⟩ := put2 ((b5.block _ l3).trans Q3.out) (.int .i64 0) (.slice none 0 0)
    have HQ := Lib.hid hq2
    have HZ := Lib.hid (edge_ans (g := Lfc.upOf u none) (A := none) (c := 0) (Nat.le_refl _) LinksP.nil B03.out b5 hot (by omega) s03)
    clear hq2 hot b5 b5' CO 
    go_wp2_with fail
    refine bodyPost_ret (results_edge rfl _ _ _ _ _ rfl HQ.out) rfl ?_
    exact HZ.out
  | some q =>
    have CP := Lib.hid (fun W hb => (CP.out W hb).mono (fun e w' h => h.yes))
    by_cases h0 : q.length = 0
    · obtain rfl : q = [] := List.length_eq_zero_iff.1 h0
      clear h0
      go_enter Try.func110, Try.ntmps110
      go_upto_region 1 with fail
      clear hw1 hw2 hw3
      go_region_held3 (fun W => W.cell? ⟨Bx, 1, none⟩ = some (.slice A0 ks.length c0) ∧ (W.cell? ⟨w.heap.size, 0, none⟩ = some (.int .i64 kd) ∧ W.cell? ⟨w.heap.size, 1, none⟩ = some (S nm) ∧ W.cell? ⟨w.heap.size, 2, none⟩ = some (.int .i64 ps) ∧ W.cell? ⟨w.heap.size, 3, none⟩ = some (.slice A xs.length c)) ∧ (W.cell? ⟨w1.heap.size, 0, none⟩ = some (.int .i64 kd') ∧ W.cell? ⟨w1.heap.size, 1, none⟩ = some (S nm') ∧ W.cell? ⟨w1.heap.size, 2, none⟩ = some (.int .i64 ps') ∧ W.cell? ⟨w1.heap.size, 3, none⟩ = some (.slice A' ys.length c')))
        (first | exact SC.out _ G0 | (refine SC.out _ ?_; assumption))
        ((go_at_call 26; ((with_reducible refine (CP.out _ ?_).mono ?_)); assumption; rintro e w5 ⟨⟨Aq, cq, rfl, hcq, hq⟩, b5'⟩; have b5 := aa _ _ (by assumption) b5'))
      obtain ⟨s1, s2, g1, g2, ⟨p0, p1⟩, ⟨f0, f1⟩, hq2, hot⟩ := put2 ((b5.block _ l3).trans Q3.out) (.int .i64 1) (.slice none 0 0)
      have HQ := Lib.hid hq2
      have HZ := Lib.hid (edge_ans (g := Lfc.upOf u (some [])) (A := none) (c := 0) (Nat.le_refl _) LinksP.nil B03.out b5 hot (by omega) s03)
      clear hq2 hot b5 b5' CO hq
      go_wp2_with fail
      refine bodyPost_ret (results_edge rfl _ _ _ _ _ rfl HQ.out) rfl ?_
      exact HZ.out
    · have hz : ((q.length : Int) == 0) = false := by simpa using h0
      have hz2 : (q.length == 0) = false := by simpa using h0
      have HG : Hid (Lfc.upOf u (some q) = (2, [⟨1, u, q, 0⟩])) := Lib.hid (Lfc.upOf_some h0)
      clear h0
      rw [HG.out]
      go_enter Try.func110, Try.ntmps110
      go_upto_region 1 with fail
      clear hw1 hw2 hw3
      go_region_held3 (fun W => W.cell? ⟨Bx, 1, none⟩ = some (.slice A0 ks.length c0) ∧ (W.cell? ⟨w.heap.size, 0, none⟩ = some (.int .i64 kd) ∧ W.cell? ⟨w.heap.size, 1, none⟩ = some (S nm) ∧ W.cell? ⟨w.heap.size, 2, none⟩ = some (.int .i64 ps) ∧ W.cell? ⟨w.heap.size, 3, none⟩ = some (.slice A xs.length c)) ∧ (W.cell? ⟨w1.heap.size, 0, none⟩ = some (.int .i64 kd') ∧ W.cell? ⟨w1.heap.size, 1, none⟩ = some (S nm') ∧ W.cell? ⟨w1.heap.size, 2, none⟩ = some (.int .i64 ps') ∧ W.cell? ⟨w1.heap.size, 3, none⟩ = some (.slice A' ys.length c')))
        (first | exact SC.out _ G0 | (refine SC.out _ ?_; assumption))
        ((go_at_call 26; ((with_reducible refine (CP.out _ ?_).mono ?_)); assumption; rintro e w5 ⟨⟨Aq, cq, rfl, hcq, hq⟩, b5'⟩; have b5 := aa _ _ (by assumption) b5'))
      have HI := Lib.hid hq
      obtain ⟨z0, z1, z2, z3⟩ := cells4t ((b5.block _ (by omega)).trans Q2.out)
      have CO := Lib.hid (CO.out _ b5)
      go_wp2_with fail
      refine CO.out.mono ?_
      rintro e w6 ⟨⟨v6, rfl, hv6⟩, b6⟩
      rw [HU.out] at hv6
      obtain ⟨A6, c6, rfl, hp6⟩ := hv6.openT
      have hv7 := hv6
      rw [← HU.out] at hv7
      obtain ⟨w7, hw7⟩ : ∃ w7, w6.alloc (.cells #[.int .i64 1, .int .i64 kd', S nm', .int .i64 ps', .slice A6 ys.length c6, .slice Aq q.length cq, .int .i64 0] 104) = w7 := ⟨_, rfl⟩
      have b7 : Below w6.heap.size w6 w7 := by rw [← hw7]; exact (Below.refl _ _).alloc (Nat.le_refl _) _
      have q7 : w7.heap[w6.heap.size]? = some (.cells #[.int .i64 1, .int .i64 kd', S nm', .int .i64 ps', .slice A6 ys.length c6, .slice Aq q.length cq, .int .i64 0] 104 (0, 0)) := by rw [← hw7]; exact heap_alloc_new _ _
      have b67 : Below w5.heap.size w5 w7 := b6.trans (b7.mono b6.size)
      have b37 : Below w3.heap.size w3 w7 := b5.trans (b67.mono b5.size)
      have hl7 := link_one (q := fun b => w3.heap.size ≤ b) (x := ⟨1, u, q, 0⟩) q7 (Nat.le_trans b5.size b6.size) HU.out hcq (HI.out.keep (fun b _ h => b67.block b h) b67.size (fun b _ h => h)) (hv7.keep (fun b _ h => b7.block b h) b7.size (fun b _ h => Nat.le_trans b5.size h))
      obtain ⟨s1, s2, g1, g2, ⟨p0, p1⟩, ⟨f0, f1⟩, hq2, hot⟩ := put2 ((b37.block _ l3).trans Q3.out) (.int .i64 2) (.slice (some ⟨w6.heap.size, 0, none⟩) 1 1)
      have HQ := Lib.hid hq2
      have HZ := Lib.hid (edge_ans (g := (2, [⟨1, u, q, 0⟩])) (A := some ⟨w6.heap.size, 0, none⟩) (c := 1) (Nat.le_refl _) (hl7.keep (fun b hb hlt => hot.block b hlt (fun e => by have e := Option.some.inj e; have hb : w3.heap.size ≤ b := hb; omega)) hot.size (fun b _ hb => Nat.le_trans s03 hb)) B03.out b37 hot (by omega) s03)
      clear hq2 hot b5 b5' b6 b7 b67 b37 hl7 hv7 hv6 hp6 hq z0 z1 z2 z3 CO q7
      go_wp2_with fail
      refine bodyPost_ret (results_edge rfl _ _ _ _ _ rfl HQ.out) rfl ?_
      exact HZ.out
end Go.Proofs.Ytadjpadieljjlaa
