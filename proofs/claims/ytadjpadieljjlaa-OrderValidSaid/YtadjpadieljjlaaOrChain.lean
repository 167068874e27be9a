/- The contract of chain where there are no facts. -/
import Derived.Test.YtadjpadieljjlaaOrUp
set_option linter.unusedVariables false
set_option linter.unusedSimpArgs false
namespace Go.Proofs.Ytadjpadieljjlaa
open Go.RowKit
/-- A chain is answered. -/
def ChainAns (w : World) (r : Option (List Lfc.Link)) (e : Ending) (w' : World) : Prop :=
  ((r = none ∧ e = .returned (.tuple #[.slice none 0 0, .bool false])) ∨ (∃ l A c, r = some l ∧ e = .returned (.tuple #[.slice A l.length c, .bool true]) ∧ l.length ≤ c ∧ LinksP (fun b => w.heap.size ≤ b) w' A l)) ∧ Below w.heap.size w w'
def Lfc.chain0 (ks : List Int) (t u : Lfc.Raw) (must : Int) : Option (List Lfc.Link) := if must ≤ (Lfc.Raw.up ks t u).1 then some (Lfc.Raw.up ks t u).2 else none
theorem reachedInfo : (Try.prog.info? 149).map (fun i => (i.zero, i.size, i.bytes)) = some (some (.agg #[.bool false, .slice none 0 0]), 2, 32) := by kernel_rfl
theorem makeReached0 (W : World) : (Instr.makeSlice 145 (.int .i64 0) (.int .i64 0)).run Try.prog W = .ok (.slice (some ⟨W.heap.size, 0, none⟩) 0 0) (W.alloc (.cells #[] 149)) := by
  obtain ⟨i0, hi, hz0, hz1, hz2⟩ := info_parts reachedInfo
  have hr := run_make (P := Try.prog) W 145 149 i0 (.agg #[.bool false, .slice none 0 0]) Try.underlying145 hi hz0 .i64 .i64 0 0 (by omega) (by omega) (by rw [hz2]; omega) (by omega)
  have hm : madeCells (Value.agg #[.bool false, .slice none 0 0]).cells (0 * i0.size) = #[] := by simp [madeCells]
  simp only [Int.toNat_zero] at hr
  rw [hm] at hr
  exact hr

set_option maxRecDepth 100000 in
set_option maxHeartbeats 8000000 in
theorem oChain0_any (Bx : Nat) (ks : List Int) (A0 F0 : Option Addr) (c0 f0 : Nat) (must : Int) (t u : Lfc.Raw) (vt vu : Value) (w : World) (hks : ks.length ≤ 1000000) (ht : t.size ≤ 1000000) (hu : u.size ≤ 1000000) (hA0 : IntsO w A0 ks) (hv : TreeV w t vt) (hv' : TreeV w u vu) (hx0 : w.cell? ⟨Bx, 0, none⟩ = some (.slice F0 0 f0)) (hx : w.cell? ⟨Bx, 1, none⟩ = some (.slice A0 ks.length c0)) (hB : Bx < w.heap.size) :
    Calls Try.prog 108 #[.pointer (some ⟨Bx, 0, none⟩), vt, vu, .int .i64 must] w (ChainAns w (Lfc.chain0 ks t u must)) := by
  have HV := Lib.hid hv
  have HV' := Lib.hid hv'
  obtain ⟨A, c, kd, nm, ps, xs, hT, rfl⟩ : ∃ A c kd nm ps xs, t = .node kd nm ps xs ∧ vt = .agg #[.int .i64 kd, S nm, .int .i64 ps, .slice A (List.length xs) c] := by
    obtain ⟨kd, nm, ps, ts⟩ := t
    obtain ⟨A, c, rfl, hc, hA⟩ := hv.open_
    exact ⟨A, c, kd, nm, ps, ts, rfl, rfl⟩
  obtain ⟨A', c', kd', nm', ps', ys, hU, rfl⟩ : ∃ A c kd nm ps xs, u = .node kd nm ps xs ∧ vu = .agg #[.int .i64 kd, S nm, .int .i64 ps, .slice A (List.length xs) c] := by
    obtain ⟨kd, nm, ps, ts⟩ := u
    obtain ⟨A, c, rfl, hc, hA⟩ := hv'.open_
    exact ⟨A, c, kd, nm, ps, ts, rfl, rfl⟩
  obtain ⟨w1, hw1⟩ : ∃ w1, w.alloc (.cells #[.int .i64 kd, S nm, .int .i64 ps, .slice A xs.length c] 34) = w1 := ⟨_, rfl⟩
  obtain ⟨w2, hw2⟩ : ∃ w2, w1.alloc (.cells #[.int .i64 kd', S nm', .int .i64 ps', .slice A' ys.length c'] 34) = w2 := ⟨_, rfl⟩
  have b1 : Below w.heap.size w w1 := by rw [← hw1]; exact (Below.refl _ _).alloc (Nat.le_refl _) _
  have b2 : Below w1.heap.size w1 w2 := by rw [← hw2]; exact (Below.refl _ _).alloc (Nat.le_refl _) _
  have q1 : w1.heap[w.heap.size]? = some (.cells #[.int .i64 kd, S nm, .int .i64 ps, .slice A xs.length c] 34 (0, 0)) := by rw [← hw1]; exact heap_alloc_new _ _
  have q2 : w2.heap[w1.heap.size]? = some (.cells #[.int .i64 kd', S nm', .int .i64 ps', .slice A' ys.length c'] 34 (0, 0)) := by rw [← hw2]; exact heap_alloc_new _ _
  have l1 := lt_of_block q1
  have l2 := lt_of_block q2
  have b02 : Below w.heap.size w w2 := b1.trans (b2.mono (by omega))
  have B02 := Lib.hid b02
  have s02 : w.heap.size ≤ w2.heap.size := by omega
  obtain ⟨y0, y1, y2, y3⟩ := cells4t ((b2.block _ l1).trans q1)
  obtain ⟨z0, z1, z2, z3⟩ := cells4t q2
  have x0 := (b02.cell (p := ⟨Bx, 0, none⟩) hB).trans hx0
  have CU := Lib.hid (oUp_any Bx ks A0 c0 t u _ _ w2 hks ht hu (hA0.below b02) (HV.out.below b02) (HV'.out.below b02) ((b02.cell (p := ⟨Bx, 1, none⟩) hB).trans hx) (by omega))
  have hmk := makeReached0
  have HR : Hid (Lfc.chain0 ks t u must = if must ≤ (Lfc.Raw.up ks t u).1 then some (Lfc.Raw.up ks t u).2 else none) := Lib.hid rfl
  rw [HR.out]
  obtain ⟨g, hg⟩ : ∃ g, Lfc.Raw.up ks t u = g := ⟨_, rfl⟩
  rw [hg] at CU ⊢
  obtain ⟨gs, gl⟩ := g
  simp only
  obtain ⟨r, hr⟩ : ∃ r, (if must ≤ gs then some gl else none) = r := ⟨_, rfl⟩
  rw [hr]
  have HRY : Hid (must ≤ gs → r = some gl) := Lib.hid (fun h => by rw [← hr, if_pos h])
  have HRN : Hid (¬ must ≤ gs → r = none) := Lib.hid (fun h => by rw [← hr, if_neg h])
  have hwr : IntKind.i64.wrap (2 * 0) = 0 := by decide
  clear hT hU hv hv' hA0 b1 b2 q1 q2 b02 hx hx0 HR hg hr
  go_enter Try.func108, Try.ntmps108
  go_wp2_with fail
  refine CU.out.mono ?_
  rintro e w3 ⟨⟨A3, c3, rfl, hc3, hl3⟩, b3⟩
  clear y0 y1 y2 y3 z0 z1 z2 z3 x0 CU hw1 hw2
  obtain ⟨w4, hw4⟩ : ∃ w4, w3.alloc (.cells #[.int .i64 gs, .slice A3 gl.length c3] 138) = w4 := ⟨_, rfl⟩
  have b4 : Below w3.heap.size w3 w4 := by rw [← hw4]; exact (Below.refl _ _).alloc (Nat.le_refl _) _
  have q4 : w4.heap[w3.heap.size]? = some (.cells #[.int .i64 gs, .slice A3 gl.length c3] 138 (0, 0)) := by rw [← hw4]; exact heap_alloc_new _ _
  have HW4 := Lib.hid hw4
  have b24 : Below w2.heap.size w2 w4 := b3.trans (b4.mono b3.size)
  have BW4 := Lib.hid (B02.out.trans (b24.mono s02))
  obtain ⟨y0, y1⟩ := cells2e q4
  have l4 := lt_of_block q4
  have HL4 := Lib.hid (hl3.below b4)
  have s34 := b24.size
  clear hw4 b3 b4 q4 b24 hl3
  go_upto_region 3 with fail
  rw [HW4.out]
  by_cases hm : must ≤ gs
  · have hd1 : decide (gs ≥ must) = true := by rw [decide_eq_true_eq]; exact hm
    have hd2 : decide (must ≤ gs) = true := by rw [decide_eq_true_eq]; exact hm
    have HZ : Hid (ChainAns w r (.returned (.tuple #[.slice A3 gl.length c3, .bool true])) w4) := Lib.hid ⟨.inr ⟨gl, A3, c3, HRY.out hm, rfl, hc3, HL4.out.keep (fun _ _ _ => rfl) (Nat.le_refl _) (fun b _ h => Nat.le_trans s02 h)⟩, BW4.out⟩
    clear hm HL4
    go_wp2_with fail
    refine bodyPost_ret (results_tmp2 rfl _ _ _) rfl ?_
    exact HZ.out
  · have hd1 : decide (gs ≥ must) = false := by rw [decide_eq_false_iff_not]; exact hm
    have hd2 : decide (must ≤ gs) = false := by rw [decide_eq_false_iff_not]; exact hm
    have HZ : Hid (r = none) := Lib.hid (HRN.out (by omega))
    clear hm HL4
    obtain ⟨w5, hw5⟩ : ∃ w5, w4.alloc (.cells #[.slice none 0 0, .slice none 0 0, .slice none 0 0] 146) = w5 := ⟨_, rfl⟩
    have b5 : Below w4.heap.size w4 w5 := by rw [← hw5]; exact (Below.refl _ _).alloc (Nat.le_refl _) _
    have q5 : w5.heap[w4.heap.size]? = some (.cells #[.slice none 0 0, .slice none 0 0, .slice none 0 0] 146 (0, 0)) := by rw [← hw5]; exact heap_alloc_new _ _
    have I0 : Hid (Below w4.heap.size w4 w5 ∧ ∃ cur, cur.size = 3 ∧ w5.heap[w4.heap.size]? = some (.cells cur 146 (0, 0))) := Lib.hid ⟨b5, _, rfl, q5⟩
    have hs5 := b5.size
    clear b5 q5
    go_wp2_with fail
    go_loopw [40] (fun i wr => ∃ k : Nat, k ≤ 3 ∧ i = .int .i64 (k : Int) ∧ Hid (Below w4.heap.size w4 wr ∧ ∃ cur, cur.size = 3 ∧ wr.heap[w4.heap.size]? = some (.cells cur 146 (0, 0)))) (fun i _ => 3 - (intOf i).toNat)
    case atStart => exact ⟨0, by omega, rfl, I0⟩
    case round =>
      clear I0 hw5
      obtain ⟨k, hk, rfl, HI⟩ := hrel
      obtain ⟨hbw, cur, hcs, hcur⟩ := HI.out
      by_cases hlt : k < 3
      · have hi0 : (0 : Int) ≤ (k : Int) := Int.natCast_nonneg _
        have hi1 : (k : Int) < 3 := by omega
        have hlr := lt_of_block hcur
        obtain ⟨wa, hwa⟩ : ∃ wa, wr.alloc (.cells #[] 149) = wa := ⟨_, rfl⟩
        have ba : Below wr.heap.size wr wa := by rw [← hwa]; exact (Below.refl _ _).alloc (Nat.le_refl _) _
        have hca := (ba.block _ hlr).trans hcur
        have z0 : wa.cell? ⟨w4.heap.size, k, none⟩ = some cur[k] := (Lib.cell_of_heap hca k).trans (Array.getElem?_eq_getElem (by omega))
        have z1 := Lib.frozen_of_heap hca k
        have HN : Hid (Below w4.heap.size w4 (wa.setCell ⟨w4.heap.size, k, none⟩ (.slice (some ⟨wr.heap.size, 0, none⟩) 0 0)) ∧ ∃ cur, cur.size = 3 ∧ (wa.setCell ⟨w4.heap.size, k, none⟩ (.slice (some ⟨wr.heap.size, 0, none⟩) 0 0)).heap[w4.heap.size]? = some (.cells cur 146 (0, 0))) := Lib.hid (by
          refine ⟨Oth.below (hbw.trans (ba.mono hbw.size)) (Oth.set wa _) (Nat.le_refl _) (Nat.le_trans hbw.size ba.size), cur.set! k (.slice (some ⟨wr.heap.size, 0, none⟩) 0 0), by simp [hcs], ?_⟩
          simp [World.setCell, Array.getElem?_modify, hca])
        clear hbw hcur hca HI ba
        go_wp2_with fail
        go_roundw
        case rel => exact ⟨k + 1, by omega, by go_num, HN⟩
        case measure => simp [intOf]; omega
      · obtain rfl : k = 3 := by omega
        clear HI hcur
        obtain ⟨wq, hwq⟩ : ∃ wq, wq = wr := ⟨_, rfl⟩
        subst hwq
        obtain ⟨w6, hw6⟩ : ∃ w6, wq.alloc (.cells #[.slice none 0 0] 147) = w6 := ⟨_, rfl⟩
        have b6 : Below wq.heap.size wq w6 := by rw [← hw6]; exact (Below.refl _ _).alloc (Nat.le_refl _) _
        have q6 : w6.heap[wq.heap.size]? = some (.cells #[.slice none 0 0] 147 (0, 0)) := by rw [← hw6]; exact heap_alloc_new _ _
        have z6 := Lib.cell_of_heap q6 0
        simp at z6
        have HZ6 : Hid (ChainAns w r (.returned (.tuple #[.slice none 0 0, .bool false])) w6) := Lib.hid ⟨.inl ⟨HZ.out, rfl⟩, BW4.out.trans ((hbw.trans (b6.mono hbw.size)).mono BW4.out.size)⟩
        clear hbw b6 q6
        go_wp2_with fail
        go_loopw [50] (fun i wx => i = .int .i64 0 ∧ wx = w6) (fun i _ => 0)
        case atStart => exact ⟨rfl, rfl⟩
        case round =>
          obtain ⟨rfl, hwx⟩ := hrel
          subst hwx
          obtain ⟨wy, hwy⟩ : ∃ wy, wy = wr := ⟨_, rfl⟩
          subst hwy
          go_wp2_with fail
          go_loopw [67] (fun _ wx => wx = wy) (fun i _ => 0)
          case atStart => rfl
          case round =>
            subst hrel
            go_wp2_with fail
            refine bodyPost_ret (results_tmp2 rfl _ _ _) rfl ?_
            exact HZ6.out
end Go.Proofs.Ytadjpadieljjlaa
