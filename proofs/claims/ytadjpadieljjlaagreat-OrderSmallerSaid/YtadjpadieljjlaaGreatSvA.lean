/- Parts of the proof: OrUp, OrChain, OrArg, OrBoth, OrGrow, OrConcat. -/
import Derived.Test.YtadjpadieljjlaaGreatOrLink
import Derived.Deep.RegionHeld3
import Derived.Lib.AppendZerosOnto
import Derived.Laws.AppendOwnNone
import Derived.Maps.AppendAt
/- The contract of up. -/
set_option linter.unusedVariables false
set_option linter.unusedSimpArgs false
namespace Go.Proofs.YtadjpadieljjlaaGreat
open Go.RowKit
set_option maxRecDepth 100000 in
set_option maxHeartbeats 8000000 in
theorem oUp_any (Bx : Nat) (ks : List Int) (A0 : Option Addr) (c0 : Nat) (t u : Lfc.Raw) (vt vu : Value) (w : World) (hks : ks.length ≤ 1000000) (ht : t.size ≤ 1000000) (hu : u.size ≤ 1000000) (hA0 : IntsO w A0 ks) (hv : TreeV w t vt) (hv' : TreeV w u vu) (hx : w.cell? ⟨Bx, 1, none⟩ = some (.slice A0 ks.length c0)) (hB : Bx < w.heap.size) :
    Calls Tryz.prog 163 #[.pointer (some ⟨Bx, 0, none⟩), vt, vu] w (EdgeAns w (Lfc.Raw.up ks t u)) := by
  have HV := Lib.hid hv
  have HV' := Lib.hid hv'
  obtain ⟨A, c, kd, nm, ps, xs, hT, rfl⟩ : ∃ A c kd nm ps xs, t = .node kd nm ps xs ∧ vt = .agg #[.int .i64 kd, S nm, .int .i64 ps, .slice A (List.length xs) c] := by
    obtain ⟨kd, nm, ps, ts⟩ := t
    obtain ⟨A, c, rfl, hc, hA⟩ := hv.open_
    exact ⟨A, c, kd, nm, ps, ts, rfl, rfl⟩
  obtain ⟨A', c', kd', nm', ps', ys, hU, rfl⟩ : ∃ A c kd nm ps xs, u = .node kd nm ps xs ∧ vu = .agg #[.int .i64 kd, S nm, .int .i64 ps, .slice A (List.length xs) c] := by
    obtain ⟨kd, nm, ps, ts⟩ := u
    obtain ⟨A, c, rfl, hc, hA⟩ := hv'.open_
    exact ⟨A, c, kd, nm, ps, ts, rfl, rfl⟩
  obtain ⟨w1, hw1⟩ : ∃ w1, w.alloc (.cells #[.int .i64 kd, S nm, .int .i64 ps, .slice A xs.length c] 51) = w1 := ⟨_, rfl⟩
  obtain ⟨w2, hw2⟩ : ∃ w2, w1.alloc (.cells #[.int .i64 kd', S nm', .int .i64 ps', .slice A' ys.length c'] 51) = w2 := ⟨_, rfl⟩
  obtain ⟨w3, hw3⟩ : ∃ w3, w2.alloc (.cells #[.int .i64 0, .slice none 0 0] 183) = w3 := ⟨_, rfl⟩
  have b1 : Below w.heap.size w w1 := by rw [← hw1]; exact (Below.refl _ _).alloc (Nat.le_refl _) _
  have b2 : Below w1.heap.size w1 w2 := by rw [← hw2]; exact (Below.refl _ _).alloc (Nat.le_refl _) _
  have b3 : Below w2.heap.size w2 w3 := by rw [← hw3]; exact (Below.refl _ _).alloc (Nat.le_refl _) _
  have q1 : w1.heap[w.heap.size]? = some (.cells #[.int .i64 kd, S nm, .int .i64 ps, .slice A xs.length c] 51 (0, 0)) := by rw [← hw1]; exact heap_alloc_new _ _
  have q2 : w2.heap[w1.heap.size]? = some (.cells #[.int .i64 kd', S nm', .int .i64 ps', .slice A' ys.length c'] 51 (0, 0)) := by rw [← hw2]; exact heap_alloc_new _ _
  have q3 : w3.heap[w2.heap.size]? = some (.cells #[.int .i64 0, .slice none 0 0] 183 (0, 0)) := by rw [← hw3]; exact heap_alloc_new _ _
  have l1 := lt_of_block q1
  have l2 := lt_of_block q2
  have l3 := lt_of_block q3
  have b13 : Below w1.heap.size w1 w3 := b2.trans (b3.mono (by omega))
  have b03 : Below w.heap.size w w3 := b1.trans (b13.mono (by omega))
  have Q1 := Lib.hid ((b13.block _ l1).trans q1)
  have Q2 := Lib.hid ((b3.block _ l2).trans q2)
  have Q3 := Lib.hid q3
  have B03 := Lib.hid b03
  have s03 : w.heap.size ≤ w3.heap.size := by omega
  have HX := Lib.hid ((b03.cell (p := ⟨Bx, 1, none⟩) hB).trans hx)
  have SC : Hid (∀ W, Below w3.heap.size w3 W → W.cell? ⟨Bx, 1, none⟩ = some (.slice A0 ks.length c0) ∧ (W.cell? ⟨w.heap.size, 0, none⟩ = some (.int .i64 kd) ∧ W.cell? ⟨w.heap.size, 1, none⟩ = some (S nm) ∧ W.cell? ⟨w.heap.size, 2, none⟩ = some (.int .i64 ps) ∧ W.cell? ⟨w.heap.size, 3, none⟩ = some (.slice A xs.length c)) ∧ (W.cell? ⟨w1.heap.size, 0, none⟩ = some (.int .i64 kd') ∧ W.cell? ⟨w1.heap.size, 1, none⟩ = some (S nm') ∧ W.cell? ⟨w1.heap.size, 2, none⟩ = some (.int .i64 ps') ∧ W.cell? ⟨w1.heap.size, 3, none⟩ = some (.slice A' ys.length c'))) := Lib.hid (fun W hb => by
    refine ⟨(hb.cell (p := ⟨Bx, 1, none⟩) (by simp only; omega)).trans HX.out, ?_, ?_⟩
    · exact cells4t ((hb.block _ (by omega)).trans Q1.out)
    · exact cells4t ((hb.block _ (by omega)).trans Q2.out))
  have CP := Lib.hid (fun W (hb : Below w3.heap.size w3 W) => oPath_any t u _ _ ks A0 c0 W hks ht hu (hA0.below (b03.trans (hb.mono s03))) (HV.out.below (b03.trans (hb.mono s03))) (HV'.out.below (b03.trans (hb.mono s03))))
  have CO := Lib.hid (fun W (hb : Below w3.heap.size w3 W) => ownTerm_upto _ hu u _ W (Nat.le_refl _) (HV'.out.below (b03.trans (hb.mono s03))))
  have HU := Lib.hid hU
  have HR : Hid (Lfc.Raw.up ks t u = Lfc.upOf u (Lfc.Raw.path ks t u)) := Lib.hid rfl
  have aa : ∀ W W', Below w3.heap.size w3 W → Below W.heap.size W W' → Below w3.heap.size w3 W' := fun W W' h h' => h.trans (h'.mono h.size)
  have G0 : Below w3.heap.size w3 w3.drew := (Below.refl _ _).drew
  rw [HR.out]
  generalize Lfc.Raw.path ks t u = r at *
  clear hT hU hv hv' hA0 b1 b2 b3 q1 q2 q3 b13 b03 hx HX HR
  cases r with
  | none =>
    have CP := Lib.hid (fun W hb => (CP.out W hb).mono (fun e w' h => h.no))
    go_enter Tryz.func163, Tryz.ntmps163
    go_upto_region 1 with fail
    clear hw1 hw2 hw3
    go_region_held3 (fun W => W.cell? ⟨Bx, 1, none⟩ = some (.slice A0 ks.length c0) ∧ (W.cell? ⟨w.heap.size, 0, none⟩ = some (.int .i64 kd) ∧ W.cell? ⟨w.heap.size, 1, none⟩ = some (S nm) ∧ W.cell? ⟨w.heap.size, 2, none⟩ = some (.int .i64 ps) ∧ W.cell? ⟨w.heap.size, 3, none⟩ = some (.slice A xs.length c)) ∧ (W.cell? ⟨w1.heap.size, 0, none⟩ = some (.int .i64 kd') ∧ W.cell? ⟨w1.heap.size, 1, none⟩ = some (S nm') ∧ W.cell? ⟨w1.heap.size, 2, none⟩ = some (.int .i64 ps') ∧ W.cell? ⟨w1.heap.size, 3, none⟩ = some (.slice A' ys.length c')))
      (first | exact SC.out _ G0 | (refine SC.out _ ?_; assumption))
      ((go_at_call 20; ((with_reducible refine (CP.out _ ?_).mono ?_)); assumption; rintro e w5 ⟨rfl, b5'⟩; have b5 := aa _ _ (by assumption) b5'))
    obtain ⟨s1, s2, g1, g2, ⟨p0, p1⟩, ⟨f0, f1⟩, hq2, hot⟩ := put2 ((b5.block _ l3).trans Q3.out) (.int .i64 0) (.slice none 0 0)
    have HQ := Lib.hid hq2
    have HZ := Lib.hid (edge_ans (g := Lfc.upOf u none) (A := none) (c := 0) (Nat.le_refl _) LinksP.nil B03.out b5 hot (by omega) s03)
    clear hq2 hot b5 b5' CO 
    go_wp2_with fail
    refine bodyPost_ret (results_edge rfl _ _ _ _ _ rfl HQ.out) rfl ?_
    exact HZ.out
  | some q =>
    have CP := Lib.hid (fun W hb => (CP.out W hb).mono (fun e w' h => h.yes))
    by_cases h0 : q.length = 0
    · obtain rfl : q = [] := List.length_eq_zero_iff.1 h0
      clear h0
      go_enter Tryz.func163, Tryz.ntmps163
      go_upto_region 1 with fail
      clear hw1 hw2 hw3
      go_region_held3 (fun W => W.cell? ⟨Bx, 1, none⟩ = some (.slice A0 ks.length c0) ∧ (W.cell? ⟨w.heap.size, 0, none⟩ = some (.int .i64 kd) ∧ W.cell? ⟨w.heap.size, 1, none⟩ = some (S nm) ∧ W.cell? ⟨w.heap.size, 2, none⟩ = some (.int .i64 ps) ∧ W.cell? ⟨w.heap.size, 3, none⟩ = some (.slice A xs.length c)) ∧ (W.cell? ⟨w1.heap.size, 0, none⟩ = some (.int .i64 kd') ∧ W.cell? ⟨w1.heap.size, 1, none⟩ = some (S nm') ∧ W.cell? ⟨w1.heap.size, 2, none⟩ = some (.int .i64 ps') ∧ W.cell? ⟨w1.heap.size, 3, none⟩ = some (.slice A' ys.length c')))
        (first | exact SC.out _ G0 | (refine SC.out _ ?_; assumption))
        ((go_at_call 20; ((with_reducible refine (CP.out _ ?_).mono ?_)); assumption; rintro e w5 ⟨⟨Aq, cq, rfl, hcq, hq⟩, b5'⟩; have b5 := aa _ _ (by assumption) b5'))
      obtain ⟨s1, s2, g1, g2, ⟨p0, p1⟩, ⟨f0, f1⟩, hq2, hot⟩ := put2 ((b5.block _ l3).trans Q3.out) (.int .i64 1) (.slice none 0 0)
      have HQ := Lib.hid hq2
      have HZ := Lib.hid (edge_ans (g := Lfc.upOf u (some [])) (A := none) (c := 0) (Nat.le_refl _) LinksP.nil B03.out b5 hot (by omega) s03)
      clear hq2 hot b5 b5' CO hq
      go_wp2_with fail
      refine bodyPost_ret (results_edge rfl _ _ _ _ _ rfl HQ.out) rfl ?_
      exact HZ.out
    · have hz : ((q.length : Int) == 0) = false := by simpa using h0
      have hz2 : (q.length == 0) = false := by simpa using h0
      have HG : Hid (Lfc.upOf u (some q) = (2, [⟨1, u, q, 0⟩])) := Lib.hid (Lfc.upOf_some h0)
      clear h0
      rw [HG.out]
      go_enter Tryz.func163, Tryz.ntmps163
      go_upto_region 1 with fail
      clear hw1 hw2 hw3
      go_region_held3 (fun W => W.cell? ⟨Bx, 1, none⟩ = some (.slice A0 ks.length c0) ∧ (W.cell? ⟨w.heap.size, 0, none⟩ = some (.int .i64 kd) ∧ W.cell? ⟨w.heap.size, 1, none⟩ = some (S nm) ∧ W.cell? ⟨w.heap.size, 2, none⟩ = some (.int .i64 ps) ∧ W.cell? ⟨w.heap.size, 3, none⟩ = some (.slice A xs.length c)) ∧ (W.cell? ⟨w1.heap.size, 0, none⟩ = some (.int .i64 kd') ∧ W.cell? ⟨w1.heap.size, 1, none⟩ = some (S nm') ∧ W.cell? ⟨w1.heap.size, 2, none⟩ = some (.int .i64 ps') ∧ W.cell? ⟨w1.heap.size, 3, none⟩ = some (.slice A' ys.length c')))
        (first | exact SC.out _ G0 | (refine SC.out _ ?_; assumption))
        ((go_at_call 20; ((with_reducible refine (CP.out _ ?_).mono ?_)); assumption; rintro e w5 ⟨⟨Aq, cq, rfl, hcq, hq⟩, b5'⟩; have b5 := aa _ _ (by assumption) b5'))
      have HI := Lib.hid hq
      obtain ⟨z0, z1, z2, z3⟩ := cells4t ((b5.block _ (by omega)).trans Q2.out)
      have CO := Lib.hid (CO.out _ b5)
      go_wp2_with fail
      refine CO.out.mono ?_
      rintro e w6 ⟨⟨v6, rfl, hv6⟩, b6⟩
      rw [HU.out] at hv6
      obtain ⟨A6, c6, rfl, hp6⟩ := hv6.openT
      have hv7 := hv6
      rw [← HU.out] at hv7
      obtain ⟨w7, hw7⟩ : ∃ w7, w6.alloc (.cells #[.int .i64 1, .int .i64 kd', S nm', .int .i64 ps', .slice A6 ys.length c6, .slice Aq q.length cq, .int .i64 0] 93) = w7 := ⟨_, rfl⟩
      have b7 : Below w6.heap.size w6 w7 := by rw [← hw7]; exact (Below.refl _ _).alloc (Nat.le_refl _) _
      have q7 : w7.heap[w6.heap.size]? = some (.cells #[.int .i64 1, .int .i64 kd', S nm', .int .i64 ps', .slice A6 ys.length c6, .slice Aq q.length cq, .int .i64 0] 93 (0, 0)) := by rw [← hw7]; exact heap_alloc_new _ _
      have b67 : Below w5.heap.size w5 w7 := b6.trans (b7.mono b6.size)
      have b37 : Below w3.heap.size w3 w7 := b5.trans (b67.mono b5.size)
      have hl7 := link_one (q := fun b => w3.heap.size ≤ b) (x := ⟨1, u, q, 0⟩) q7 (Nat.le_trans b5.size b6.size) HU.out hcq (HI.out.keep (fun b _ h => b67.block b h) b67.size (fun b _ h => h)) (hv7.keep (fun b _ h => b7.block b h) b7.size (fun b _ h => Nat.le_trans b5.size h))
      obtain ⟨s1, s2, g1, g2, ⟨p0, p1⟩, ⟨f0, f1⟩, hq2, hot⟩ := put2 ((b37.block _ l3).trans Q3.out) (.int .i64 2) (.slice (some ⟨w6.heap.size, 0, none⟩) 1 1)
      have HQ := Lib.hid hq2
      have HZ := Lib.hid (edge_ans (g := (2, [⟨1, u, q, 0⟩])) (A := some ⟨w6.heap.size, 0, none⟩) (c := 1) (Nat.le_refl _) (hl7.keep (fun b hb hlt => hot.block b hlt (fun e => by have e := Option.some.inj e; have hb : w3.heap.size ≤ b := hb; omega)) hot.size (fun b _ hb => Nat.le_trans s03 hb)) B03.out b37 hot (by omega) s03)
      clear hq2 hot b5 b5' b6 b7 b67 b37 hl7 hv7 hv6 hp6 hq z0 z1 z2 z3 CO q7
      go_wp2_with fail
      refine bodyPost_ret (results_edge rfl _ _ _ _ _ rfl HQ.out) rfl ?_
      exact HZ.out
end Go.Proofs.YtadjpadieljjlaaGreat

/- The contract of chain where there are no facts. -/
set_option linter.unusedVariables false
set_option linter.unusedSimpArgs false
namespace Go.Proofs.YtadjpadieljjlaaGreat
open Go.RowKit
/-- A chain is answered. -/
def ChainAns (w : World) (r : Option (List Lfc.Link)) (e : Ending) (w' : World) : Prop :=
  ((r = none ∧ e = .returned (.tuple #[.slice none 0 0, .bool false])) ∨ (∃ l A c, r = some l ∧ e = .returned (.tuple #[.slice A l.length c, .bool true]) ∧ l.length ≤ c ∧ LinksP (fun b => w.heap.size ≤ b) w' A l)) ∧ Below w.heap.size w w'
def Lfc.chain0 (ks : List Int) (t u : Lfc.Raw) (must : Int) : Option (List Lfc.Link) := if must ≤ (Lfc.Raw.up ks t u).1 then some (Lfc.Raw.up ks t u).2 else none
theorem reachedInfo : (Tryz.prog.info? 194).map (fun i => (i.zero, i.size, i.bytes)) = some (some (.agg #[.bool false, .slice none 0 0]), 2, 32) := by kernel_rfl
theorem makeReached0 (W : World) : (Instr.makeSlice 190 (.int .i64 0) (.int .i64 0)).run Tryz.prog W = .ok (.slice (some ⟨W.heap.size, 0, none⟩) 0 0) (W.alloc (.cells #[] 194)) := by
  obtain ⟨i0, hi, hz0, hz1, hz2⟩ := info_parts reachedInfo
  have hr := run_make (P := Tryz.prog) W 190 194 i0 (.agg #[.bool false, .slice none 0 0]) Tryz.underlying190 hi hz0 .i64 .i64 0 0 (by omega) (by omega) (by rw [hz2]; omega) (by omega)
  have hm : madeCells (Value.agg #[.bool false, .slice none 0 0]).cells (0 * i0.size) = #[] := by simp [madeCells]
  simp only [Int.toNat_zero] at hr
  rw [hm] at hr
  exact hr

set_option maxRecDepth 100000 in
set_option maxHeartbeats 8000000 in
theorem oChain0_any (Bx : Nat) (ks : List Int) (A0 F0 : Option Addr) (c0 f0 : Nat) (must : Int) (t u : Lfc.Raw) (vt vu : Value) (w : World) (hks : ks.length ≤ 1000000) (ht : t.size ≤ 1000000) (hu : u.size ≤ 1000000) (hA0 : IntsO w A0 ks) (hv : TreeV w t vt) (hv' : TreeV w u vu) (hx0 : w.cell? ⟨Bx, 0, none⟩ = some (.slice F0 0 f0)) (hx : w.cell? ⟨Bx, 1, none⟩ = some (.slice A0 ks.length c0)) (hB : Bx < w.heap.size) :
    Calls Tryz.prog 161 #[.pointer (some ⟨Bx, 0, none⟩), vt, vu, .int .i64 must] w (ChainAns w (Lfc.chain0 ks t u must)) := by
  have HV := Lib.hid hv
  have HV' := Lib.hid hv'
  obtain ⟨A, c, kd, nm, ps, xs, hT, rfl⟩ : ∃ A c kd nm ps xs, t = .node kd nm ps xs ∧ vt = .agg #[.int .i64 kd, S nm, .int .i64 ps, .slice A (List.length xs) c] := by
    obtain ⟨kd, nm, ps, ts⟩ := t
    obtain ⟨A, c, rfl, hc, hA⟩ := hv.open_
    exact ⟨A, c, kd, nm, ps, ts, rfl, rfl⟩
  obtain ⟨A', c', kd', nm', ps', ys, hU, rfl⟩ : ∃ A c kd nm ps xs, u = .node kd nm ps xs ∧ vu = .agg #[.int .i64 kd, S nm, .int .i64 ps, .slice A (List.length xs) c] := by
    obtain ⟨kd, nm, ps, ts⟩ := u
    obtain ⟨A, c, rfl, hc, hA⟩ := hv'.open_
    exact ⟨A, c, kd, nm, ps, ts, rfl, rfl⟩
  obtain ⟨w1, hw1⟩ : ∃ w1, w.alloc (.cells #[.int .i64 kd, S nm, .int .i64 ps, .slice A xs.length c] 51) = w1 := ⟨_, rfl⟩
  obtain ⟨w2, hw2⟩ : ∃ w2, w1.alloc (.cells #[.int .i64 kd', S nm', .int .i64 ps', .slice A' ys.length c'] 51) = w2 := ⟨_, rfl⟩
  have b1 : Below w.heap.size w w1 := by rw [← hw1]; exact (Below.refl _ _).alloc (Nat.le_refl _) _
  have b2 : Below w1.heap.size w1 w2 := by rw [← hw2]; exact (Below.refl _ _).alloc (Nat.le_refl _) _
  have q1 : w1.heap[w.heap.size]? = some (.cells #[.int .i64 kd, S nm, .int .i64 ps, .slice A xs.length c] 51 (0, 0)) := by rw [← hw1]; exact heap_alloc_new _ _
  have q2 : w2.heap[w1.heap.size]? = some (.cells #[.int .i64 kd', S nm', .int .i64 ps', .slice A' ys.length c'] 51 (0, 0)) := by rw [← hw2]; exact heap_alloc_new _ _
  have l1 := lt_of_block q1
  have l2 := lt_of_block q2
  have b02 : Below w.heap.size w w2 := b1.trans (b2.mono (by omega))
  have B02 := Lib.hid b02
  have s02 : w.heap.size ≤ w2.heap.size := by omega
  obtain ⟨y0, y1, y2, y3⟩ := cells4t ((b2.block _ l1).trans q1)
  obtain ⟨z0, z1, z2, z3⟩ := cells4t q2
  have x0 := (b02.cell (p := ⟨Bx, 0, none⟩) hB).trans hx0
  have CU := Lib.hid (oUp_any Bx ks A0 c0 t u _ _ w2 hks ht hu (hA0.below b02) (HV.out.below b02) (HV'.out.below b02) ((b02.cell (p := ⟨Bx, 1, none⟩) hB).trans hx) (by omega))
  have hmk := makeReached0
  have HR : Hid (Lfc.chain0 ks t u must = if must ≤ (Lfc.Raw.up ks t u).1 then some (Lfc.Raw.up ks t u).2 else none) := Lib.hid rfl
  rw [HR.out]
  obtain ⟨g, hg⟩ : ∃ g, Lfc.Raw.up ks t u = g := ⟨_, rfl⟩
  rw [hg] at CU ⊢
  obtain ⟨gs, gl⟩ := g
  simp only
  obtain ⟨r, hr⟩ : ∃ r, (if must ≤ gs then some gl else none) = r := ⟨_, rfl⟩
  rw [hr]
  have HRY : Hid (must ≤ gs → r = some gl) := Lib.hid (fun h => by rw [← hr, if_pos h])
  have HRN : Hid (¬ must ≤ gs → r = none) := Lib.hid (fun h => by rw [← hr, if_neg h])
  have hwr : IntKind.i64.wrap (2 * 0) = 0 := by decide
  clear hT hU hv hv' hA0 b1 b2 q1 q2 b02 hx hx0 HR hg hr
  go_enter Tryz.func161, Tryz.ntmps161
  go_wp2_with fail
  refine CU.out.mono ?_
  rintro e w3 ⟨⟨A3, c3, rfl, hc3, hl3⟩, b3⟩
  clear y0 y1 y2 y3 z0 z1 z2 z3 x0 CU hw1 hw2
  obtain ⟨w4, hw4⟩ : ∃ w4, w3.alloc (.cells #[.int .i64 gs, .slice A3 gl.length c3] 183) = w4 := ⟨_, rfl⟩
  have b4 : Below w3.heap.size w3 w4 := by rw [← hw4]; exact (Below.refl _ _).alloc (Nat.le_refl _) _
  have q4 : w4.heap[w3.heap.size]? = some (.cells #[.int .i64 gs, .slice A3 gl.length c3] 183 (0, 0)) := by rw [← hw4]; exact heap_alloc_new _ _
  have HW4 := Lib.hid hw4
  have b24 : Below w2.heap.size w2 w4 := b3.trans (b4.mono b3.size)
  have BW4 := Lib.hid (B02.out.trans (b24.mono s02))
  obtain ⟨y0, y1⟩ := cells2e q4
  have l4 := lt_of_block q4
  have HL4 := Lib.hid (hl3.below b4)
  have s34 := b24.size
  clear hw4 b3 b4 q4 b24 hl3
  go_upto_region 3 with fail
  rw [HW4.out]
  by_cases hm : must ≤ gs
  · have hd1 : decide (gs ≥ must) = true := by rw [decide_eq_true_eq]; exact hm
    have hd2 : decide (must ≤ gs) = true := by rw [decide_eq_true_eq]; exact hm
    have HZ : Hid (ChainAns w r (.returned (.tuple #[.slice A3 gl.length c3, .bool true])) w4) := Lib.hid ⟨.inr ⟨gl, A3, c3, HRY.out hm, rfl, hc3, HL4.out.keep (fun _ _ _ => rfl) (Nat.le_refl _) (fun b _ h => Nat.le_trans s02 h)⟩, BW4.out⟩
    clear hm HL4
    go_wp2_with fail
    refine bodyPost_ret (results_tmp2 rfl _ _ _) rfl ?_
    exact HZ.out
  · have hd1 : decide (gs ≥ must) = false := by rw [decide_eq_false_iff_not]; exact hm
    have hd2 : decide (must ≤ gs) = false := by rw [decide_eq_false_iff_not]; exact hm
    have HZ : Hid (r = none) := Lib.hid (HRN.out (by omega))
    clear hm HL4
    obtain ⟨w5, hw5⟩ : ∃ w5, w4.alloc (.cells #[.slice none 0 0, .slice none 0 0, .slice none 0 0] 191) = w5 := ⟨_, rfl⟩
    have b5 : Below w4.heap.size w4 w5 := by rw [← hw5]; exact (Below.refl _ _).alloc (Nat.le_refl _) _
    have q5 : w5.heap[w4.heap.size]? = some (.cells #[.slice none 0 0, .slice none 0 0, .slice none 0 0] 191 (0, 0)) := by rw [← hw5]; exact heap_alloc_new _ _
    have I0 : Hid (Below w4.heap.size w4 w5 ∧ ∃ cur, cur.size = 3 ∧ w5.heap[w4.heap.size]? = some (.cells cur 191 (0, 0))) := Lib.hid ⟨b5, _, rfl, q5⟩
    have hs5 := b5.size
    clear b5 q5
    go_wp2_with fail
    go_loopw [40] (fun i wr => ∃ k : Nat, k ≤ 3 ∧ i = .int .i64 (k : Int) ∧ Hid (Below w4.heap.size w4 wr ∧ ∃ cur, cur.size = 3 ∧ wr.heap[w4.heap.size]? = some (.cells cur 191 (0, 0)))) (fun i _ => 3 - (intOf i).toNat)
    case atStart => exact ⟨0, by omega, rfl, I0⟩
    case round =>
      clear I0 hw5
      obtain ⟨k, hk, rfl, HI⟩ := hrel
      obtain ⟨hbw, cur, hcs, hcur⟩ := HI.out
      by_cases hlt : k < 3
      · have hi0 : (0 : Int) ≤ (k : Int) := Int.natCast_nonneg _
        have hi1 : (k : Int) < 3 := by omega
        have hlr := lt_of_block hcur
        obtain ⟨wa, hwa⟩ : ∃ wa, wr.alloc (.cells #[] 194) = wa := ⟨_, rfl⟩
        have ba : Below wr.heap.size wr wa := by rw [← hwa]; exact (Below.refl _ _).alloc (Nat.le_refl _) _
        have hca := (ba.block _ hlr).trans hcur
        have z0 : wa.cell? ⟨w4.heap.size, k, none⟩ = some cur[k] := (Lib.cell_of_heap hca k).trans (Array.getElem?_eq_getElem (by omega))
        have z1 := Lib.frozen_of_heap hca k
        have HN : Hid (Below w4.heap.size w4 (wa.setCell ⟨w4.heap.size, k, none⟩ (.slice (some ⟨wr.heap.size, 0, none⟩) 0 0)) ∧ ∃ cur, cur.size = 3 ∧ (wa.setCell ⟨w4.heap.size, k, none⟩ (.slice (some ⟨wr.heap.size, 0, none⟩) 0 0)).heap[w4.heap.size]? = some (.cells cur 191 (0, 0))) := Lib.hid (by
          refine ⟨Oth.below (hbw.trans (ba.mono hbw.size)) (Oth.set wa _) (Nat.le_refl _) (Nat.le_trans hbw.size ba.size), cur.set! k (.slice (some ⟨wr.heap.size, 0, none⟩) 0 0), by simp [hcs], ?_⟩
          simp [World.setCell, Array.getElem?_modify, hca])
        clear hbw hcur hca HI ba
        go_wp2_with fail
        go_roundw
        case rel => exact ⟨k + 1, by omega, by go_num, HN⟩
        case measure => simp [intOf]; omega
      · obtain rfl : k = 3 := by omega
        clear HI hcur
        obtain ⟨wq, hwq⟩ : ∃ wq, wq = wr := ⟨_, rfl⟩
        subst hwq
        obtain ⟨w6, hw6⟩ : ∃ w6, wq.alloc (.cells #[.slice none 0 0] 192) = w6 := ⟨_, rfl⟩
        have b6 : Below wq.heap.size wq w6 := by rw [← hw6]; exact (Below.refl _ _).alloc (Nat.le_refl _) _
        have q6 : w6.heap[wq.heap.size]? = some (.cells #[.slice none 0 0] 192 (0, 0)) := by rw [← hw6]; exact heap_alloc_new _ _
        have z6 := Lib.cell_of_heap q6 0
        simp at z6
        have HZ6 : Hid (ChainAns w r (.returned (.tuple #[.slice none 0 0, .bool false])) w6) := Lib.hid ⟨.inl ⟨HZ.out, rfl⟩, BW4.out.trans ((hbw.trans (b6.mono hbw.size)).mono BW4.out.size)⟩
        clear hbw b6 q6
        go_wp2_with fail
        go_loopw [50] (fun i wx => i = .int .i64 0 ∧ wx = w6) (fun i _ => 0)
        case atStart => exact ⟨rfl, rfl⟩
        case round =>
          obtain ⟨rfl, hwx⟩ := hrel
          subst hwx
          obtain ⟨wy, hwy⟩ : ∃ wy, wy = wr := ⟨_, rfl⟩
          subst hwy
          go_wp2_with fail
          go_loopw [67] (fun _ wx => wx = wy) (fun i _ => 0)
          case atStart => rfl
          case round =>
            subst hrel
            go_wp2_with fail
            refine bodyPost_ret (results_tmp2 rfl _ _ _) rfl ?_
            exact HZ6.out
end Go.Proofs.YtadjpadieljjlaaGreat

/- The contract of argument.prove at Less where there are no facts. -/
set_option linter.unusedVariables false
set_option linter.unusedSimpArgs false
namespace Go.Proofs.YtadjpadieljjlaaGreat
open Go.RowKit
theorem two_alloc (w : World) (X Y : Obj) : ((w.alloc X).alloc Y).drew.heap[w.heap.size + 1]? = some Y := by
  have h := heap_alloc_new (w.alloc X) Y
  have e : (w.alloc X).heap.size = w.heap.size + 1 := by simp
  rw [e] at h
  exact h
theorem proof_size : (Tryz.prog.info? 39).map (·.size) = some 4 := by kernel_rfl
theorem results_proof2 {fn : Func} {p u : Tmp} (h : fn.results = #[.cell p 39, .tmp u]) (tmps : Array Value) (w : World) (g : Nat) (v0 v1 v2 v3 : Value) (hp : tmps.getD p undef = .pointer (some ⟨g, 0, none⟩)) (hg : w.heap[g]? = some (.cells #[v0, v1, v2, v3] 39 (0, 0))) :
    (results fn tmps).run Tryz.prog w = .ok (.tuple #[.agg #[v0, v1, v2, v3], tmps.getD u undef]) w := by
  rw [results_cell_tmp h, hp]
  simp [asAddr, run_loadVar_row w g _ _ _ _ _ hg Tryz.underlying39 rfl proof_size, Result.andThen]
theorem results_proof {fn : Func} {p : Tmp} (h : fn.results = #[.cell p 39]) (tmps : Array Value) (w : World) (g : Nat) (v0 v1 v2 v3 : Value) (hp : tmps.getD p undef = .pointer (some ⟨g, 0, none⟩)) (hg : w.heap[g]? = some (.cells #[v0, v1, v2, v3] 39 (0, 0))) :
    (results fn tmps).run Tryz.prog w = .ok (.agg #[v0, v1, v2, v3]) w :=
  results_cell_row h tmps w g _ _ _ _ hp hg Tryz.underlying39 rfl proof_size
/-- A bare chain as a proof is answered. -/
def ArgAns (w : World) (r : Option (List Lfc.Link)) (e : Ending) (w' : World) : Prop :=
  ((r = none ∧ e = .returned (.tuple #[.agg #[.int .i64 0, .slice none 0 0, .slice none 0 0, .slice none 0 0], .bool false])) ∨ (∃ l A c, r = some l ∧ e = .returned (.tuple #[.agg #[.int .i64 0, .slice none 0 0, .slice A l.length c, .slice none 0 0], .bool true]) ∧ l.length ≤ c ∧ LinksP (fun b => w.heap.size ≤ b) w' A l)) ∧ Below w.heap.size w w'
/-- The prover lies there. -/
structure ProvO (w : World) (Bx : Nat) (F0 A0 L R : Option Addr) (nf f0 : Nat) (ks : List Int) (c0 : Nat) (ts us : List Lfc.Raw) (cl cr : Nat) : Prop where
  lt : Bx < w.heap.size
  facts : w.cell? ⟨Bx, 0, none⟩ = some (.slice F0 nf f0)
  kinds : w.cell? ⟨Bx, 1, none⟩ = some (.slice A0 ks.length c0)
  left : w.cell? ⟨Bx, 2, none⟩ = some (.slice L ts.length cl)
  right : w.cell? ⟨Bx, 3, none⟩ = some (.slice R us.length cr)
  ks : IntsO w A0 ks
  ts : TreesAt w L ts
  us : TreesAt w R us
theorem ProvO.below {w w' : World} {Bx : Nat} {F0 A0 L R : Option Addr} {nf f0 : Nat} {ks : List Int} {c0 : Nat} {ts us : List Lfc.Raw} {cl cr : Nat} (h : ProvO w Bx F0 A0 L R nf f0 ks c0 ts us cl cr) (hb : Below w.heap.size w w') : ProvO w' Bx F0 A0 L R nf f0 ks c0 ts us cl cr :=
  ⟨Nat.lt_of_lt_of_le h.lt hb.size, (hb.cell (p := ⟨Bx, 0, none⟩) h.lt).trans h.facts, (hb.cell (p := ⟨Bx, 1, none⟩) h.lt).trans h.kinds, (hb.cell (p := ⟨Bx, 2, none⟩) h.lt).trans h.left, (hb.cell (p := ⟨Bx, 3, none⟩) h.lt).trans h.right, h.ks.below hb, h.ts.below hb, h.us.below hb⟩

set_option maxRecDepth 100000 in
set_option maxHeartbeats 8000000 in
theorem oArgProve_any (Bx : Nat) (F0 A0 L R : Option Addr) (f0 : Nat) (ks : List Int) (c0 : Nat) (ts us : List Lfc.Raw) (cl cr i j : Nat) (w : World) (hks : ks.length ≤ 1000000) (hP : ProvO w Bx F0 A0 L R 0 f0 ks c0 ts us cl cr) (hi : i < ts.length) (hj : j < us.length) (hsi : ts[i].size ≤ 1000000) (hsj : us[j].size ≤ 1000000) (hil : i ≤ 1000000) (hjl : j ≤ 1000000) :
    Calls Tryz.prog 158 #[.agg #[.int .i64 (i : Int), .int .i64 (j : Int)], .pointer (some ⟨Bx, 0, none⟩), .int .i64 1] w (ArgAns w (Lfc.chain0 ks ts[i] us[j] 2)) := by
  obtain ⟨b, o, k1, n1, p1, xs, B, c1, rfl, hb, ht, d0, d1, d2, d3, hcu, hB, hT⟩ := hP.ts.at_ hi
  obtain ⟨b', o', k2, n2, p2, ys, B', c2, rfl, hb', ht', e0, e1, e2, e3, hcu', hB', hT'⟩ := hP.us.at_ hj
  obtain ⟨t, hT0⟩ : ∃ t, ts[i] = t := ⟨_, rfl⟩
  obtain ⟨u, hU0⟩ : ∃ u, us[j] = u := ⟨_, rfl⟩
  rw [hT0] at hsi hT ⊢
  rw [hU0] at hsj hT' ⊢
  have HP := Lib.hid hP
  have HT := Lib.hid hT
  have HT' := Lib.hid hT'
  obtain ⟨nts, hnts⟩ : ∃ n, ts.length = n := ⟨_, rfl⟩
  obtain ⟨nus, hnus⟩ : ∃ n, us.length = n := ⟨_, rfl⟩
  obtain ⟨w1, hw1⟩ : ∃ w1, w.alloc (.cells #[.int .i64 (i : Int), .int .i64 (j : Int)] 123) = w1 := ⟨_, rfl⟩
  obtain ⟨w2, hw2⟩ : ∃ w2, w1.alloc (.cells #[.int .i64 0, .slice none 0 0, .slice none 0 0, .slice none 0 0] 39) = w2 := ⟨_, rfl⟩
  have b1 : Below w.heap.size w w1 := by rw [← hw1]; exact (Below.refl _ _).alloc (Nat.le_refl _) _
  have b2 : Below w1.heap.size w1 w2 := by rw [← hw2]; exact (Below.refl _ _).alloc (Nat.le_refl _) _
  have q1 : w1.heap[w.heap.size]? = some (.cells #[.int .i64 (i : Int), .int .i64 (j : Int)] 123 (0, 0)) := by rw [← hw1]; exact heap_alloc_new _ _
  have q2 : w2.heap[w1.heap.size]? = some (.cells #[.int .i64 0, .slice none 0 0, .slice none 0 0, .slice none 0 0] 39 (0, 0)) := by rw [← hw2]; exact heap_alloc_new _ _
  have l1 := lt_of_block q1
  have l2 := lt_of_block q2
  have b02 : Below w.heap.size w w2 := b1.trans (b2.mono (by omega))
  have B02 := Lib.hid b02
  have s02 : w.heap.size ≤ w2.heap.size := by omega
  have Q2 := Lib.hid q2
  obtain ⟨y0, y1⟩ := cells2e ((b2.block _ l1).trans q1)
  have hp2 := hP.below b02
  have x2 := hp2.left
  have x3 := hp2.right
  rw [hnts] at x2 hi
  rw [hnus] at x3 hj
  have f0' := (b02.cell (p := ⟨b, o + i * 4, none⟩) hb).trans d0
  have f1' := (b02.cell (p := ⟨b, o + i * 4 + 1, none⟩) hb).trans d1
  have f2' := (b02.cell (p := ⟨b, o + i * 4 + 2, none⟩) hb).trans d2
  have f3' := (b02.cell (p := ⟨b, o + i * 4 + 3, none⟩) hb).trans d3
  have g0' := (b02.cell (p := ⟨b', o' + j * 4, none⟩) hb').trans e0
  have g1' := (b02.cell (p := ⟨b', o' + j * 4 + 1, none⟩) hb').trans e1
  have g2' := (b02.cell (p := ⟨b', o' + j * 4 + 2, none⟩) hb').trans e2
  have g3' := (b02.cell (p := ⟨b', o' + j * 4 + 3, none⟩) hb').trans e3
  have SX : Hid ((w2.cell? ⟨Bx, 2, none⟩ = some (.slice (some ⟨b, o, none⟩) nts cl) ∧ w2.cell? ⟨Bx, 3, none⟩ = some (.slice (some ⟨b', o', none⟩) nus cr)) ∧ (w2.cell? ⟨w.heap.size, 0, none⟩ = some (.int .i64 (i : Int)) ∧ w2.cell? ⟨w.heap.size, 1, none⟩ = some (.int .i64 (j : Int))) ∧ (w2.cell? ⟨b, o + i * 4, none⟩ = some (.int .i64 k1) ∧ w2.cell? ⟨b, o + i * 4 + 1, none⟩ = some (S n1) ∧ w2.cell? ⟨b, o + i * 4 + 2, none⟩ = some (.int .i64 p1) ∧ w2.cell? ⟨b, o + i * 4 + 3, none⟩ = some (.slice B xs.length c1)) ∧ (w2.cell? ⟨b', o' + j * 4, none⟩ = some (.int .i64 k2) ∧ w2.cell? ⟨b', o' + j * 4 + 1, none⟩ = some (S n2) ∧ w2.cell? ⟨b', o' + j * 4 + 2, none⟩ = some (.int .i64 p2) ∧ w2.cell? ⟨b', o' + j * 4 + 3, none⟩ = some (.slice B' ys.length c2))) := Lib.hid ⟨⟨x2, x3⟩, ⟨y0, y1⟩, ⟨f0', f1', f2', f3'⟩, ⟨g0', g1', g2', g3'⟩⟩
  have m1 := World.new_ne w2 _ x2
  have m2 := World.new_ne w2 _ y0
  have m3 := World.new_ne w2 _ f0'
  have m4 := World.new_ne w2 _ g0'
  simp only at m1 m2 m3 m4
  have hi0 : (0 : Int) ≤ (i : Int) := Int.natCast_nonneg _
  have hi1 : (i : Int) < (nts : Int) := by omega
  have hj0 : (0 : Int) ≤ (j : Int) := Int.natCast_nonneg _
  have hj1 : (j : Int) < (nus : Int) := by omega
  obtain ⟨r, hr⟩ : ∃ r, Lfc.chain0 ks t u 2 = r := ⟨_, rfl⟩
  rw [hr]
  have HR := Lib.hid hr
  clear hr hT hT' hP hp2 q1 q2 b1 b2 b02 ht ht' hB hB' d0 d1 d2 d3 e0 e1 e2 e3 hT0 hU0 hnts hnus
  go_enter Tryz.func158, Tryz.ntmps158
  go_upto_region 1 with fail
  clear hw1 hw2
  go_region_held3 (fun W => (W.cell? ⟨Bx, 2, none⟩ = some (.slice (some ⟨b, o, none⟩) nts cl) ∧ W.cell? ⟨Bx, 3, none⟩ = some (.slice (some ⟨b', o', none⟩) nus cr)) ∧ (W.cell? ⟨w.heap.size, 0, none⟩ = some (.int .i64 (i : Int)) ∧ W.cell? ⟨w.heap.size, 1, none⟩ = some (.int .i64 (j : Int))) ∧ (W.cell? ⟨b, o + i * 4, none⟩ = some (.int .i64 k1) ∧ W.cell? ⟨b, o + i * 4 + 1, none⟩ = some (S n1) ∧ W.cell? ⟨b, o + i * 4 + 2, none⟩ = some (.int .i64 p1) ∧ W.cell? ⟨b, o + i * 4 + 3, none⟩ = some (.slice B xs.length c1)) ∧ (W.cell? ⟨b', o' + j * 4, none⟩ = some (.int .i64 k2) ∧ W.cell? ⟨b', o' + j * 4 + 1, none⟩ = some (S n2) ∧ W.cell? ⟨b', o' + j * 4 + 2, none⟩ = some (.int .i64 p2) ∧ W.cell? ⟨b', o' + j * 4 + 3, none⟩ = some (.slice B' ys.length c2)))
    (first | exact SX.out | go_keep)
    (fail)
  · obtain ⟨w5, hw5⟩ : ∃ w5, ((w2.alloc (.cells #[.int .i64 k1, S n1, .int .i64 p1, .slice B xs.length c1] 51)).alloc (.cells #[.int .i64 k2, S n2, .int .i64 p2, .slice B' ys.length c2] 51)).drew = w5 := ⟨_, rfl⟩
    rw [hw5]
    have b5 : Below w2.heap.size w2 w5 := by rw [← hw5]; exact (((Below.refl _ _).alloc (Nat.le_refl _) _).alloc (by simp) _).drew
    have s5 : w5.heap.size = w2.heap.size + 2 := by rw [← hw5]; simp [World.drew]
    have qa : w5.heap[w2.heap.size]? = some (.cells #[.int .i64 k1, S n1, .int .i64 p1, .slice B xs.length c1] 51 (0, 0)) := by
      rw [← hw5]
      exact (Below.heap_alloc _ _ _ (by simp)).trans (heap_alloc_new _ _)
    have qb : w5.heap[w2.heap.size + 1]? = some (.cells #[.int .i64 k2, S n2, .int .i64 p2, .slice B' ys.length c2] 51 (0, 0)) := by
      rw [← hw5]
      exact two_alloc _ _ _
    obtain ⟨y0, y1, y2, y3⟩ := cells4t qa
    obtain ⟨z0, z1, z2, z3⟩ := cells4t qb
    have hp5 := HP.out.below (B02.out.trans (b5.mono s02))
    have CH := Lib.hid (oChain0_any Bx ks A0 F0 c0 f0 2 t u _ _ w5 hks hsi hsj hp5.ks (HT.out.below (B02.out.trans (b5.mono s02))) (HT'.out.below (B02.out.trans (b5.mono s02))) hp5.facts hp5.kinds hp5.lt)
    rw [HR.out] at CH
    have B5 := Lib.hid (B02.out.trans (b5.mono s02))
    have Q5 := Lib.hid ((b5.block _ l2).trans Q2.out)
    clear hw5 hp5 qa qb b5
    go_wp2_with fail
    refine CH.out.mono ?_
    rintro e w6 ⟨⟨rfl, rfl⟩ | ⟨l, Al, cll, rfl, rfl, hcl, hl⟩, b6⟩
    · obtain ⟨s1, s2, s3, s4, h1, h2, h3, h4, ⟨c0', c1', c2', c3'⟩, ⟨t0, t1, t2, t3⟩, hq, ho⟩ := put4 ((b6.block _ (by omega)).trans Q5.out) (.int .i64 0) (.slice none 0 0) (.slice none 0 0) (.slice none 0 0)
      have HQ := Lib.hid hq
      have HZ : Hid (ArgAns w none (.returned (.tuple #[.agg #[.int .i64 0, .slice none 0 0, .slice none 0 0, .slice none 0 0], .bool false])) s4) := Lib.hid ⟨.inl ⟨rfl, rfl⟩, Oth.below (B5.out.trans (b6.mono B5.out.size)) ho (by omega) (Nat.le_trans B5.out.size b6.size)⟩
      clear hq ho b6 y0 y1 y2 y3 z0 z1 z2 z3 CH
      go_wp2_with fail
      refine bodyPost_ret (results_proof2 rfl _ _ _ _ _ _ _ rfl HQ.out) rfl ?_
      exact HZ.out
    · obtain ⟨s1, s2, s3, s4, h1, h2, h3, h4, ⟨c0', c1', c2', c3'⟩, ⟨t0, t1, t2, t3⟩, hq, ho⟩ := put4 ((b6.block _ (by omega)).trans Q5.out) (.int .i64 0) (.slice none 0 0) (.slice Al l.length cll) (.slice none 0 0)
      have HQ := Lib.hid hq
      have HZ : Hid (ArgAns w (some l) (.returned (.tuple #[.agg #[.int .i64 0, .slice none 0 0, .slice Al l.length cll, .slice none 0 0], .bool true])) s4) := Lib.hid ⟨.inr ⟨l, Al, cll, rfl, rfl, hcl, hl.keep (fun b hb hlt => ho.block b hlt (fun e => by have e := Option.some.inj e; have hb : w5.heap.size ≤ b := hb; omega)) ho.size (fun b _ hb => Nat.le_trans B5.out.size hb)⟩, Oth.below (B5.out.trans (b6.mono B5.out.size)) ho (by omega) (Nat.le_trans B5.out.size b6.size)⟩
      clear hq ho b6 y0 y1 y2 y3 z0 z1 z2 z3 CH hl
      go_wp2_with fail
      refine bodyPost_ret (results_proof2 rfl _ _ _ _ _ _ _ rfl HQ.out) rfl ?_
      exact HZ.out
  · obtain ⟨w5, hw5⟩ : ∃ w5, ((w2.alloc (.cells #[.int .i64 k2, S n2, .int .i64 p2, .slice B' ys.length c2] 51)).alloc (.cells #[.int .i64 k1, S n1, .int .i64 p1, .slice B xs.length c1] 51)).drew = w5 := ⟨_, rfl⟩
    rw [hw5]
    have b5 : Below w2.heap.size w2 w5 := by rw [← hw5]; exact (((Below.refl _ _).alloc (Nat.le_refl _) _).alloc (by simp) _).drew
    have s5 : w5.heap.size = w2.heap.size + 2 := by rw [← hw5]; simp [World.drew]
    have qa : w5.heap[w2.heap.size]? = some (.cells #[.int .i64 k2, S n2, .int .i64 p2, .slice B' ys.length c2] 51 (0, 0)) := by
      rw [← hw5]
      exact (Below.heap_alloc _ _ _ (by simp)).trans (heap_alloc_new _ _)
    have qb : w5.heap[w2.heap.size + 1]? = some (.cells #[.int .i64 k1, S n1, .int .i64 p1, .slice B xs.length c1] 51 (0, 0)) := by
      rw [← hw5]
      exact two_alloc _ _ _
    obtain ⟨y0, y1, y2, y3⟩ := cells4t qb
    obtain ⟨z0, z1, z2, z3⟩ := cells4t qa
    have hp5 := HP.out.below (B02.out.trans (b5.mono s02))
    have CH := Lib.hid (oChain0_any Bx ks A0 F0 c0 f0 2 t u _ _ w5 hks hsi hsj hp5.ks (HT.out.below (B02.out.trans (b5.mono s02))) (HT'.out.below (B02.out.trans (b5.mono s02))) hp5.facts hp5.kinds hp5.lt)
    rw [HR.out] at CH
    have B5 := Lib.hid (B02.out.trans (b5.mono s02))
    have Q5 := Lib.hid ((b5.block _ l2).trans Q2.out)
    clear hw5 hp5 qa qb b5
    go_wp2_with fail
    refine CH.out.mono ?_
    rintro e w6 ⟨⟨rfl, rfl⟩ | ⟨l, Al, cll, rfl, rfl, hcl, hl⟩, b6⟩
    · obtain ⟨s1, s2, s3, s4, h1, h2, h3, h4, ⟨c0', c1', c2', c3'⟩, ⟨t0, t1, t2, t3⟩, hq, ho⟩ := put4 ((b6.block _ (by omega)).trans Q5.out) (.int .i64 0) (.slice none 0 0) (.slice none 0 0) (.slice none 0 0)
      have HQ := Lib.hid hq
      have HZ : Hid (ArgAns w none (.returned (.tuple #[.agg #[.int .i64 0, .slice none 0 0, .slice none 0 0, .slice none 0 0], .bool false])) s4) := Lib.hid ⟨.inl ⟨rfl, rfl⟩, Oth.below (B5.out.trans (b6.mono B5.out.size)) ho (by omega) (Nat.le_trans B5.out.size b6.size)⟩
      clear hq ho b6 y0 y1 y2 y3 z0 z1 z2 z3 CH
      go_wp2_with fail
      refine bodyPost_ret (results_proof2 rfl _ _ _ _ _ _ _ rfl HQ.out) rfl ?_
      exact HZ.out
    · obtain ⟨s1, s2, s3, s4, h1, h2, h3, h4, ⟨c0', c1', c2', c3'⟩, ⟨t0, t1, t2, t3⟩, hq, ho⟩ := put4 ((b6.block _ (by omega)).trans Q5.out) (.int .i64 0) (.slice none 0 0) (.slice Al l.length cll) (.slice none 0 0)
      have HQ := Lib.hid hq
      have HZ : Hid (ArgAns w (some l) (.returned (.tuple #[.agg #[.int .i64 0, .slice none 0 0, .slice Al l.length cll, .slice none 0 0], .bool true])) s4) := Lib.hid ⟨.inr ⟨l, Al, cll, rfl, rfl, hcl, hl.keep (fun b hb hlt => ho.block b hlt (fun e => by have e := Option.some.inj e; have hb : w5.heap.size ≤ b := hb; omega)) ho.size (fun b _ hb => Nat.le_trans B5.out.size hb)⟩, Oth.below (B5.out.trans (b6.mono B5.out.size)) ho (by omega) (Nat.le_trans B5.out.size b6.size)⟩
      clear hq ho b6 y0 y1 y2 y3 z0 z1 z2 z3 CH hl
      go_wp2_with fail
      refine bodyPost_ret (results_proof2 rfl _ _ _ _ _ _ _ rfl HQ.out) rfl ?_
      exact HZ.out
end Go.Proofs.YtadjpadieljjlaaGreat

/- The contract of both at two bare arguments. -/
set_option linter.unusedVariables false
set_option linter.unusedSimpArgs false
namespace Go.Proofs.YtadjpadieljjlaaGreat
open Go.RowKit
set_option maxRecDepth 100000 in
set_option maxHeartbeats 4000000 in
theorem oBothArg_any (a b : Int) (w : World) :
    Calls Tryz.prog 36 #[.agg #[.int .i64 1, .int .i64 a, .slice none 0 0], .agg #[.int .i64 1, .int .i64 b, .slice none 0 0]] w fun e w' => e = .returned (.iface 123 (.agg #[.int .i64 a, .int .i64 b])) ∧ Below w.heap.size w w' := by
  obtain ⟨w1, hw1⟩ : ∃ w1, w.alloc (.cells #[.int .i64 1, .int .i64 a, .slice none 0 0] 26) = w1 := ⟨_, rfl⟩
  obtain ⟨w2, hw2⟩ : ∃ w2, w1.alloc (.cells #[.int .i64 1, .int .i64 b, .slice none 0 0] 26) = w2 := ⟨_, rfl⟩
  have b1 : Below w.heap.size w w1 := by rw [← hw1]; exact (Below.refl _ _).alloc (Nat.le_refl _) _
  have b2 : Below w1.heap.size w1 w2 := by rw [← hw2]; exact (Below.refl _ _).alloc (Nat.le_refl _) _
  have q1 : w1.heap[w.heap.size]? = some (.cells #[.int .i64 1, .int .i64 a, .slice none 0 0] 26 (0, 0)) := by rw [← hw1]; exact heap_alloc_new _ _
  have q2 : w2.heap[w1.heap.size]? = some (.cells #[.int .i64 1, .int .i64 b, .slice none 0 0] 26 (0, 0)) := by rw [← hw2]; exact heap_alloc_new _ _
  have l1 := lt_of_block q1
  have b02 : Below w.heap.size w w2 := b1.trans (b2.mono (by omega))
  have HB := Lib.hid b02
  obtain ⟨y0, y1, y2⟩ := cells3o ((b2.block _ l1).trans q1)
  obtain ⟨z0, z1, z2⟩ := cells3o q2
  clear b1 b2 q1 q2 b02
  go_enter Tryz.func36, Tryz.ntmps36
  go_wp2_with fail
  go_loopw [10] (fun i wr => i = .int .i64 0 ∧ wr = w2) (fun i _ => 0)
  case atStart => exact ⟨rfl, rfl⟩
  case round =>
    obtain ⟨rfl, hwx⟩ := hrel
    subst hwx
    go_wp2_with fail
    go_ret
    exact ⟨rfl, HB.out⟩
end Go.Proofs.YtadjpadieljjlaaGreat

/- The contracts of slices.Grow at nil and of slices.Concat for terms. -/
set_option linter.unusedVariables false
set_option linter.unusedSimpArgs false
namespace Go.Proofs.YtadjpadieljjlaaGreat
open Go.RowKit Go.Maps
set_option maxRecDepth 100000 in
set_option maxHeartbeats 4000000 in
theorem growT_any (n : Nat) (w : World) (hn : n ≤ 10000000) :
    Calls Tryz.prog 89 #[.slice none 0 0, .int .i64 (n : Int)] w fun e w' => (∃ v, e = .returned v ∧ w'.ownsRow w.heap.size 51 4 v 0 []) ∧ Below w.heap.size w w' := by
  obtain ⟨i0, hi, hz0, hz1, hz2⟩ := info_parts termInfo
  by_cases h0 : n = 0
  · subst h0
    have h2 : IntKind.i64.wrap (0 - 0) = 0 := by decide
    simp only [Int.natCast_zero]
    go_enter Tryz.func89, Tryz.ntmps89
    go_wp2_with fail
    go_ret
    exact ⟨⟨_, rfl, World.ownsRow_nil w w.heap.size _ 4⟩, Below.refl _ _⟩
  · have hn0 : ¬ ((n : Int) < 0) := by omega
    have h1 : IntKind.i64.wrap (0 - 0) = 0 := by decide
    have h2 : IntKind.i64.wrap ((n : Int) - 0) = (n : Int) := by rw [IntWalk.i64_in _ (by omega)]; omega
    have h3 : (n : Int) > 0 := by omega
    have h4 : decide ((n : Int) > 0) = true := by rw [decide_eq_true_eq]; exact h3
    have h5 : decide ((n : Int) < 0) = false := by rw [decide_eq_false_iff_not]; exact hn0
    have hold : (Builtin.firstCells i0.size 0 (.slice none 0 0)).run Tryz.prog w.drew = .ok (#[] : Array Value) w.drew := run_firstCells_none w.drew i0.size 0 0 0
    have hr : ∀ ty, (Builtin.append_ #[27, 3] ty #[.slice none 0 0, .int .i64 (n : Int)]).run Tryz.prog w = .ok (.slice (some ⟨w.heap.size, 0, none⟩) n (grownCap w n 0 51)) (w.drew.alloc (.cells (Builtin.zeroCells #[.int .i64 0, S [], .int .i64 0, .slice none 0 0] n ++ Builtin.zeroCells #[.int .i64 0, S [], .int .i64 0, .slice none 0 0] (grownCap w n 0 51 - n)) 51)) := fun ty => by
      have h := Lib.run_append_grow_zeros w 27 3 ty 51 i0 _ .i64 .i64 Tryz.underlying27 Tryz.underlying3 hi hz0 none 0 0 [] hold n (by omega) (by omega) (by omega) (by omega) (by rw [hz2]; omega) (by rw [Nat.zero_add]; exact growslice_fits (by omega) (by rw [hz2]; omega))
      rw [show (Value.agg #[.int .i64 0, S [], .int .i64 0, .slice none 0 0]).cells = #[.int .i64 0, S [], .int .i64 0, .slice none 0 0] from rfl] at h
      simpa using h
    have hG := grownCap_ge w n 0 51
    have hG2 := grownCap_le_maxLen w n 0 51 (by unfold maxLen; omega)
    obtain ⟨G, hG0⟩ : ∃ G, grownCap w n 0 51 = G := ⟨_, rfl⟩
    rw [hG0] at hr hG hG2
    obtain ⟨w1, hw1⟩ : ∃ w1, w.drew.alloc (.cells (Builtin.zeroCells #[.int .i64 0, S [], .int .i64 0, .slice none 0 0] n ++ Builtin.zeroCells #[.int .i64 0, S [], .int .i64 0, .slice none 0 0] (G - n)) 51) = w1 := ⟨_, rfl⟩
    rw [hw1] at hr
    have HZ : Hid (w1.ownsRow w.heap.size 51 4 (.slice (some ⟨w.heap.size, 0, none⟩) 0 G) 0 [] ∧ Below w.heap.size w w1) := Lib.hid (by
      refine ⟨⟨rfl, .inr ⟨w.heap.size, G, _, rfl, Nat.le_refl _, by rw [← hw1]; exact heap_alloc_new w.drew _, Nat.zero_le _, hG2, ?_, ?_⟩⟩, ?_⟩
      · rw [Array.size_append, size_zeroCells, size_zeroCells]
        show n * 4 + (G - n) * 4 = G * 4
        omega
      · simp
      · rw [← hw1]; exact ((Below.refl _ _).drew).alloc (Nat.le_refl _) _)
    have hG3 : (0 : Int) ≤ (G : Int) := Int.natCast_nonneg _
    unfold maxLen at hG2
    clear hG0 hw1 hold
    go_enter Tryz.func89, Tryz.ntmps89
    go_wp2_with (at_builtin; refine Lib.wpList_append_run _ rfl _ _ _ _ rfl _ _ rfl rfl _ _ (hr _) ?_)
    all_goals
      go_ret
      exact ⟨⟨_, rfl, HZ.out.1⟩, HZ.out.2⟩
end Go.Proofs.YtadjpadieljjlaaGreat

/- The contract of slices.Concat for terms. -/
set_option linter.unusedVariables false
set_option linter.unusedSimpArgs false
namespace Go.Proofs.YtadjpadieljjlaaGreat
open Go.RowKit Go.Maps
/-- A slice among several. -/
structure Part where
  A : Option Addr
  n : Nat
  c : Nat
  xs : List Value
def partsN : List Part → Nat
  | [] => 0
  | p :: r => p.n + partsN r
def partsX : List Part → List Value
  | [] => []
  | p :: r => p.xs ++ partsX r
theorem partsN_append : ∀ (l r : List Part), partsN (l ++ r) = partsN l + partsN r
  | [], r => by simp [partsN]
  | p :: l, r => by rw [List.cons_append, partsN, partsN, partsN_append l r]; omega
theorem partsX_append : ∀ (l r : List Part), partsX (l ++ r) = partsX l ++ partsX r
  | [], r => by simp [partsX]
  | p :: l, r => by rw [List.cons_append, partsX, partsX, partsX_append l r, List.append_assoc]
theorem partsN_succ {l : List Part} {k : Nat} (h : k < l.length) : partsN (l.take (k + 1)) = partsN (l.take k) + l[k].n := by
  rw [List.take_succ_eq_append_getElem h, partsN_append]; simp [partsN]
theorem partsX_succ {l : List Part} {k : Nat} (h : k < l.length) : partsX (l.take (k + 1)) = partsX (l.take k) ++ l[k].xs := by
  rw [List.take_succ_eq_append_getElem h, partsX_append]; simp [partsX]
theorem partsN_take (l : List Part) (k : Nat) : partsN (l.take k) ≤ partsN l := by
  have := partsN_append (l.take k) (l.drop k)
  rw [List.take_append_drop] at this
  omega
/-- The slices lie there, one behind the other. -/
def PartsO (w : World) (g o : Nat) (Ls : List Part) : Prop := ∀ k (h : k < Ls.length), w.cell? ⟨g, o + k, none⟩ = some (.slice Ls[k].A Ls[k].n Ls[k].c) ∧ Ls[k].xs.length = Ls[k].n * 4 ∧ (Ls[k].A = none → Ls[k].n = 0 ∧ Ls[k].c = 0) ∧ (∀ a, Ls[k].A = some a → ∀ j u, Ls[k].xs[j]? = some u → w.cell? (a.add j) = some u) ∧ (∀ u ∈ Ls[k].xs, u.oneCell' = true)
theorem PartsO.below {w w' : World} {g o : Nat} {Ls : List Part} (h : PartsO w g o Ls) (hb : Below w.heap.size w w') : PartsO w' g o Ls := fun k hk => by
  obtain ⟨h1, h2, h3, h4, h5⟩ := h k hk
  exact ⟨(hb.cell (World.block_lt_of_cell? w _ h1)).trans h1, h2, h3, fun a ha j u hj => (hb.cell (World.block_lt_of_cell? w _ (h4 a ha j u hj))).trans (h4 a ha j u hj), h5⟩

set_option maxRecDepth 100000 in
set_option maxHeartbeats 4000000 in
theorem concatT_any (g o c : Nat) (Ls : List Part) (w : World) (hL : Ls.length ≤ 1000) (hN : partsN Ls ≤ 10000000) (hP : PartsO w g o Ls) :
    Calls Tryz.prog 59 #[.slice (some ⟨g, o, none⟩) Ls.length c] w fun e w' => (∃ v, e = .returned v ∧ w'.ownsRow w.heap.size 51 4 v (partsN Ls) (partsX Ls)) ∧ Below w.heap.size w w' := by
  obtain ⟨i0, hi, hz0, hz1, hz2⟩ := info_parts termInfo
  have HP := Lib.hid hP
  clear hP
  obtain ⟨N, hNN⟩ : ∃ N, partsN Ls = N := ⟨_, rfl⟩
  have HNN := Lib.hid hNN
  have hN2 : N ≤ 10000000 := by omega
  clear hN hNN
  have CG := Lib.hid (growT_any N w hN2)
  go_enter Tryz.func59, Tryz.ntmps59
  go_wp2_with fail
  go_loopw [3, 11] (fun s i wr => ∃ k : Nat, k ≤ Ls.length ∧ s = .int .i64 (partsN (Ls.take k) : Nat) ∧ i = .int .i64 (k : Int) ∧ wr = w) (fun _ i _ => Ls.length - (intOf i).toNat)
  case atStart => exact ⟨0, by omega, by simp [partsN], by simp, by simp⟩
  case round =>
    obtain ⟨k, hk, rfl, rfl, hwx⟩ := hrel
    subst hwx
    by_cases hlt : k < Ls.length
    · obtain ⟨h1, h2, h3, h4, h5⟩ := HP.out k hlt
      have HS := Lib.hid (partsN_succ hlt)
      have hT : partsN (Ls.take (k + 1)) ≤ N := by rw [← HNN.out]; exact partsN_take _ _
      have hsum : partsN (Ls.take k) + Ls[k].n ≤ N := by rw [← HS.out]; exact hT
      have hi0 : (0 : Int) ≤ (k : Int) := Int.natCast_nonneg _
      have hi1 : (k : Int) < (Ls.length : Int) := by omega
      have hwr : IntKind.i64.wrap ((partsN (Ls.take k) : Int) + (Ls[k].n : Int)) = (partsN (Ls.take k) : Int) + (Ls[k].n : Int) := IntWalk.i64_in _ (by omega)
      have hd : decide ((partsN (Ls.take k) : Int) + (Ls[k].n : Int) < 0) = false := by rw [decide_eq_false_iff_not]; omega
      have hd2 : ¬ ((partsN (Ls.take k) : Int) + (Ls[k].n : Int) < 0) := by omega
      clear h2 h3 h4 h5 hT
      go_wp2_with fail
      go_roundw
      case rel => exact ⟨k + 1, by omega, by rw [HS.out]; go_num, by go_num, by simp⟩
      case measure => simp [intOf]; omega
    · obtain rfl : k = Ls.length := by omega
      have hTE : partsN (Ls.take Ls.length) = N := by rw [List.take_length]; exact HNN.out
      rw [hTE]
      clear hTE
      go_wp2_with fail
      refine CG.out.mono ?_
      rintro e w2 ⟨⟨v, rfl, hown⟩, hb⟩
      have HW := Lib.hid (show w2.ownsRow wr.heap.size 51 4 v (partsN (Ls.take 0)) (partsX (Ls.take 0)) ∧ Below wr.heap.size wr w2 from ⟨hown, hb⟩)
      clear hown hb CG
      obtain ⟨wq, hwq⟩ : ∃ wq, wq = wr := ⟨_, rfl⟩
      subst hwq
      go_wp2_with fail
      go_loopw [6, 27] (fun v i wr => ∃ k : Nat, k ≤ Ls.length ∧ i = .int .i64 (k : Int) ∧ Hid (wr.ownsRow wq.heap.size 51 4 v (partsN (Ls.take k)) (partsX (Ls.take k)) ∧ Below wq.heap.size wq wr)) (fun _ i _ => Ls.length - (intOf i).toNat)
      case atStart => exact ⟨0, by omega, rfl, HW⟩
      case round =>
        obtain ⟨k, hk, rfl, HI⟩ := hrel
        obtain ⟨hown, hb⟩ := HI.out
        by_cases hlt : k < Ls.length
        · obtain ⟨h1, h2, h3, h4, h5⟩ := (HP.out.below hb) k hlt
          have HS := Lib.hid (partsN_succ hlt)
          have HX := Lib.hid (partsX_succ hlt)
          have hT : partsN (Ls.take (k + 1)) ≤ N := by rw [← HNN.out]; exact partsN_take _ _
          have hsum : partsN (Ls.take k) + Ls[k].n ≤ N := by rw [← HS.out]; exact hT
          have hi0 : (0 : Int) ≤ (k : Int) := Int.natCast_nonneg _
          have hi1 : (k : Int) < (Ls.length : Int) := by omega
          generalize Ls[k] = P at *
          obtain ⟨PA, Pn, Pc, Px⟩ := P
          simp only at h1 h2 h3 h4 h5 hsum HS HX
          have HO := Lib.hid hown
          have HB := Lib.hid hb
          clear hown hb HI HW
          cases PA with
          | none =>
            obtain ⟨rfl, rfl⟩ := h3 rfl
            have hx0 : Px = [] := List.length_eq_zero_iff.1 (by omega)
            clear h2 h3 h4 h5
            go_wp2_with (at_builtin; refine wpList_append_own_none rfl _ _ 27 rfl wq.heap.size 51 i0 4 Tryz.underlying27 hi _ _ _ rfl HO.out rfl ?_)
            go_roundw
            case rel => exact ⟨k + 1, by omega, by go_num, Lib.hid ⟨by rw [HS.out, HX.out, hx0, Nat.add_zero, List.append_nil]; exact HO.out, HB.out⟩⟩
            case measure => simp [intOf]; omega
          | some a =>
            have H4 := Lib.hid (h4 a rfl)
            have H5 := Lib.hid h5
            have H2 := Lib.hid h2
            clear h2 h3 h4 h5
            go_wp2_with (at_builtin; refine wpList_append_own_at _ rfl _ _ 27 rfl wq.heap.size 51 i0 _ 4 56 Tryz.underlying27 hi hz0 hz1 hz2 rfl (by decide) _ _ _ rfl HO.out a Pn Pc Px rfl H2.out H4.out H5.out (by unfold maxLen; omega) (by omega) HB.out.size ?_)
            intro v9 w9 hown9 hg9 _ _
            have HZ : Hid (w9.ownsRow wq.heap.size 51 4 v9 (partsN (Ls.take (k + 1))) (partsX (Ls.take (k + 1))) ∧ Below wq.heap.size wq w9) := Lib.hid ⟨by rw [HS.out, HX.out]; exact hown9, Below.grown HB.out hg9 HB.out.size (fun b e => (HO.out.lt b e).1)⟩
            clear hown9 hg9
            go_wp2_with fail
            go_roundw
            case rel => exact ⟨k + 1, by omega, by go_num, HZ⟩
            case measure => simp [intOf]; omega
        · obtain rfl : k = Ls.length := by omega
          rw [List.take_length] at hown
          have HZ := Lib.hid (And.intro hown hb)
          clear hown hb HI
          go_wp2_with fail
          go_ret
          exact ⟨⟨_, rfl, HZ.out.1⟩, HZ.out.2⟩
end Go.Proofs.YtadjpadieljjlaaGreat
