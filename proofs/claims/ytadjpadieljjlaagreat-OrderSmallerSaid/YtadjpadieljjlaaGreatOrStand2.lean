/- The contract of stands. -/
import Derived.Test.YtadjpadieljjlaaGreatOrStand
import Derived.Laws.MakeOwn
import Derived.Deep.OwnRows
set_option linter.unusedVariables false
set_option linter.unusedSimpArgs false
namespace Lfc
/-- Does t stand where s is, behind cr Lams. -/
def Raw.stands (ks : List Int) (cr : Nat) (s t : Raw) : Bool := (s.st ks cr t 0 (List.replicate cr (-1))).isSome
theorem rep_set (a b : Int) (n k : Nat) (h : k < n) : (List.replicate k a ++ List.replicate (n - k) b).set k a = List.replicate (k + 1) a ++ List.replicate (n - (k + 1)) b := by
  rw [List.set_append_right _ _ (by simp)]
  obtain ⟨m, hm⟩ : ∃ m, n - k = m + 1 := ⟨n - k - 1, by omega⟩
  rw [hm, List.length_replicate, Nat.sub_self, List.replicate_succ, List.set_cons_zero, show n - (k + 1) = m by omega, List.replicate_succ', List.append_assoc]
  rfl
end Lfc
namespace Go.Proofs.YtadjpadieljjlaaGreat
open Go.RowKit
theorem intInfo : (Tryz.prog.info? 3).map (fun i => (i.zero, i.size, i.bytes)) = some (some (.int .i64 0), 1, 8) := by kernel_rfl
theorem made_ints (n : Nat) : madeCells (Value.int .i64 0).cells n = (ints (List.replicate n 0)).toArray := by
  apply Array.ext
  · simp [madeCells, ints]
  · intro i h1 h2
    simp [madeCells, ints, Value.cells]
    rw [Nat.mod_one]
    rfl
theorem ints_cell {W : World} {G q : Nat} {tv : List Int} {t : TypeId} (h : W.heap[G]? = some (.cells (ints tv).toArray t (0, 0))) (hq : q < tv.length) : W.cell? ⟨G, q, none⟩ = some (.int .i64 (tv.getD q 0)) := by
  rw [Lib.cell_of_heap h q]
  simp [ints, List.getD_eq_getElem?_getD, List.getElem?_eq_getElem hq]
theorem makeInts (n : Nat) (hn : n ≤ 1000000) (W : World) : (Instr.makeSlice 22 (.int .i64 (n : Int)) (.int .i64 (n : Int))).run Tryz.prog W = .ok (.slice (some ⟨W.heap.size, 0, none⟩) n n) (W.alloc (.cells (ints (List.replicate n 0)).toArray 3)) := by
  obtain ⟨i0, hi, hz0, hz1, hz2⟩ := info_parts intInfo
  have hr := run_make (P := Tryz.prog) W 22 3 i0 (.int .i64 0) Tryz.underlying22 hi hz0 .i64 .i64 n n (by omega) (by omega) (by rw [hz2]; omega) (by omega)
  simp only [Int.toNat_natCast, hz1, Nat.mul_one, made_ints] at hr
  exact hr

set_option maxRecDepth 100000 in
set_option maxHeartbeats 4000000 in
theorem oStands_any (s t : Lfc.Raw) (vs vt : Value) (cr : Nat) (ks : List Int) (A0 : Option Addr) (c0 : Nat) (w : World) (hcr : cr ≤ 1000000) (hks : ks.length ≤ 1000000) (hs : s.size ≤ 1000000) (hso : s.obj = true) (hto : t.obj = true) (hA0 : IntsO w A0 ks) (hv : TreeV w s vs) (hv' : TreeV w t vt) :
    Calls Tryz.prog 45 #[vs, vt, .int .i64 (cr : Int), .slice A0 ks.length c0] w fun e w' => e = .returned (.bool (Lfc.Raw.stands ks cr s t)) ∧ Below w.heap.size w w' := by
  have he := enters_st
  have HV := Lib.hid hv
  have HV' := Lib.hid hv'
  obtain ⟨kd, nm, ps, xs, rfl⟩ : ∃ kd nm ps xs, s = .node kd nm ps xs := by
    cases s with
    | node kd nm ps xs => exact ⟨kd, nm, ps, xs, rfl⟩
  obtain ⟨kd', nm', ps', ys, rfl⟩ : ∃ kd nm ps xs, t = .node kd nm ps xs := by
    cases t with
    | node kd nm ps xs => exact ⟨kd, nm, ps, xs, rfl⟩
  obtain ⟨A, c, rfl, hc, hA⟩ := hv.open_
  obtain ⟨A', c', rfl, hc', hA'⟩ := hv'.open_
  have hmk := fun W => makeInts cr hcr W
  obtain ⟨w1, hw1⟩ : ∃ w1, w.alloc (.cells #[.int .i64 kd, S nm, .int .i64 ps, .slice A xs.length c] 51) = w1 := ⟨_, rfl⟩
  obtain ⟨w2, hw2⟩ : ∃ w2, w1.alloc (.cells #[.int .i64 kd', S nm', .int .i64 ps', .slice A' ys.length c'] 51) = w2 := ⟨_, rfl⟩
  obtain ⟨w3, hw3⟩ : ∃ w3, w2.alloc (.cells #[.int .i64 (cr : Int)] 3) = w3 := ⟨_, rfl⟩
  obtain ⟨w4, hw4⟩ : ∃ w4, w3.alloc (.cells #[.slice A0 ks.length c0] 22) = w4 := ⟨_, rfl⟩
  obtain ⟨w5, hw5⟩ : ∃ w5, w4.alloc (.cells (ints (List.replicate cr 0)).toArray 3) = w5 := ⟨_, rfl⟩
  obtain ⟨w6, hw6⟩ : ∃ w6, w5.alloc (.cells #[.slice (some ⟨w4.heap.size, 0, none⟩) cr cr] 22) = w6 := ⟨_, rfl⟩
  have b1 : Below w.heap.size w w1 := by rw [← hw1]; exact (Below.refl _ _).alloc (Nat.le_refl _) _
  have b2 : Below w1.heap.size w1 w2 := by rw [← hw2]; exact (Below.refl _ _).alloc (Nat.le_refl _) _
  have b3 : Below w2.heap.size w2 w3 := by rw [← hw3]; exact (Below.refl _ _).alloc (Nat.le_refl _) _
  have b4 : Below w3.heap.size w3 w4 := by rw [← hw4]; exact (Below.refl _ _).alloc (Nat.le_refl _) _
  have b5 : Below w4.heap.size w4 w5 := by rw [← hw5]; exact (Below.refl _ _).alloc (Nat.le_refl _) _
  have b6 : Below w5.heap.size w5 w6 := by rw [← hw6]; exact (Below.refl _ _).alloc (Nat.le_refl _) _
  have q1 : w1.heap[w.heap.size]? = some (.cells #[.int .i64 kd, S nm, .int .i64 ps, .slice A xs.length c] 51 (0, 0)) := by rw [← hw1]; exact heap_alloc_new _ _
  have q2 : w2.heap[w1.heap.size]? = some (.cells #[.int .i64 kd', S nm', .int .i64 ps', .slice A' ys.length c'] 51 (0, 0)) := by rw [← hw2]; exact heap_alloc_new _ _
  have q3 : w3.heap[w2.heap.size]? = some (.cells #[.int .i64 (cr : Int)] 3 (0, 0)) := by rw [← hw3]; exact heap_alloc_new _ _
  have q4 : w4.heap[w3.heap.size]? = some (.cells #[.slice A0 ks.length c0] 22 (0, 0)) := by rw [← hw4]; exact heap_alloc_new _ _
  have q5 : w5.heap[w4.heap.size]? = some (.cells (ints (List.replicate cr 0)).toArray 3 (0, 0)) := by rw [← hw5]; exact heap_alloc_new _ _
  have q6 : w6.heap[w5.heap.size]? = some (.cells #[.slice (some ⟨w4.heap.size, 0, none⟩) cr cr] 22 (0, 0)) := by rw [← hw6]; exact heap_alloc_new _ _
  have l1 := lt_of_block q1
  have l2 := lt_of_block q2
  have l3 := lt_of_block q3
  have l4 := lt_of_block q4
  have l5 := lt_of_block q5
  have l6 := lt_of_block q6
  have b46 : Below w4.heap.size w4 w6 := b5.trans (b6.mono (by omega))
  have b36 : Below w3.heap.size w3 w6 := b4.trans (b46.mono (by omega))
  have b26 : Below w2.heap.size w2 w6 := b3.trans (b36.mono (by omega))
  have b16 : Below w1.heap.size w1 w6 := b2.trans (b26.mono (by omega))
  have b06 : Below w.heap.size w w6 := b1.trans (b16.mono (by omega))
  have Q1 := Lib.hid ((b16.block _ (by omega)).trans q1)
  have Q2 := Lib.hid ((b26.block _ (by omega)).trans q2)
  have Q3 := Lib.hid ((b36.block _ (by omega)).trans q3)
  have Q4 := Lib.hid ((b46.block _ (by omega)).trans q4)
  have Q5 := Lib.hid ((b6.block _ (by omega)).trans q5)
  have Q6 := Lib.hid q6
  have B06 := Lib.hid b06
  have HOB := Lib.hid (And.intro hso hto)
  have HA0 := Lib.hid hA0
  have HSZ := Lib.hid hs
  have y3 := Lib.cell_of_heap q3 0
  have y3a : w4.cell? ⟨w2.heap.size, 0, none⟩ = some (.int .i64 (cr : Int)) := Lib.cell_of_heap ((b4.block _ (by omega)).trans q3) 0
  have y6 := Lib.cell_of_heap Q6.out 0
  simp at y3 y6
  clear hv hv' hA hA' hA0 hso hto b1 b2 b3 b4 b5 b6 q1 q2 q3 q4 q5 q6 b46 b36 b26 b16 b06 hs
  have HW6 := Lib.hid hw6
  clear hw6
  go_enter Tryz.func45, Tryz.ntmps45
  go_upto_region 2 with fail
  rw [HW6.out]
  clear HW6 hmk y3 y3a hw1 hw2 hw3 hw4 hw5
  go_wp2_with fail
  go_loopw [16] (fun i wr => ∃ k : Nat, k ≤ cr ∧ i = .int .i64 (k : Int) ∧ Hid (wr.heap[w4.heap.size]? = some (.cells (ints (List.replicate k (-1) ++ List.replicate (cr - k) 0)).toArray 3 (0, 0)) ∧ Oth w4.heap.size w6 wr)) (fun i _ => cr - (intOf i).toNat)
  case atStart => exact ⟨0, by omega, rfl, Lib.hid ⟨by simpa using Q5.out, Oth.refl _ _⟩⟩
  case round =>
    clear y6
    obtain ⟨k, hk, rfl, HR⟩ := hrel
    have y6 := Lib.cell_of_heap (HR.out.2.heap Q6.out (by omega)) 0
    simp at y6
    by_cases hlt : k < cr
    · have hi0 : (0 : Int) ≤ (k : Int) := Int.natCast_nonneg _
      have hi1 : (k : Int) < (cr : Int) := by omega
      have yk : wr.cell? ⟨w4.heap.size, k, none⟩ = some (.int .i64 ((List.replicate k (-1 : Int) ++ List.replicate (cr - k) 0).getD k 0)) := ints_cell HR.out.1 (by simp; omega)
      have fk := Lib.frozen_of_heap HR.out.1 k
      generalize (List.replicate k (-1 : Int) ++ List.replicate (cr - k) 0).getD k 0 = zk at yk
      have HN : Hid ((wr.setCell ⟨w4.heap.size, k, none⟩ (.int .i64 (-1))).heap[w4.heap.size]? = some (.cells (ints (List.replicate (k + 1) (-1) ++ List.replicate (cr - (k + 1)) 0)).toArray 3 (0, 0)) ∧ Oth w4.heap.size w6 (wr.setCell ⟨w4.heap.size, k, none⟩ (.int .i64 (-1)))) := Lib.hid ⟨by
        rw [← Lfc.rep_set _ _ _ _ hlt]
        simp [World.setCell, Array.getElem?_modify, HR.out.1, ints, List.map_set], HR.out.2.trans (Oth.set _ _)⟩
      clear HR
      go_wp2_with fail
      go_roundw
      case rel => exact ⟨k + 1, by omega, by go_num, HN⟩
      case measure => simp [intOf]; omega
    · obtain rfl : k = cr := by omega
      obtain ⟨wz, hwz⟩ : ∃ wz, wr.alloc (.cells #[.func (.func 72) #[] #[.pointer (some ⟨w2.heap.size, 0, none⟩), .pointer (some ⟨w3.heap.size, 0, none⟩), .pointer (some ⟨w5.heap.size, 0, none⟩), .pointer (some ⟨wr.heap.size, 0, none⟩)]] 129) = wz := ⟨_, rfl⟩
      have bz : Below wr.heap.size wr wz := by rw [← hwz]; exact (Below.refl _ _).alloc (Nat.le_refl _) _
      have qz := by have := heap_alloc_new wr (.cells #[.func (.func 72) #[] #[.pointer (some ⟨w2.heap.size, 0, none⟩), .pointer (some ⟨w3.heap.size, 0, none⟩), .pointer (some ⟨w5.heap.size, 0, none⟩), .pointer (some ⟨wr.heap.size, 0, none⟩)]] 129); rw [hwz] at this; exact this
      have ho := HR.out.2
      have hsr := ho.size
      have k1 := ho.heap Q1.out (show w.heap.size ≠ w4.heap.size by omega)
      have k2 := ho.heap Q2.out (show w1.heap.size ≠ w4.heap.size by omega)
      have k3 := ho.heap Q3.out (show w2.heap.size ≠ w4.heap.size by omega)
      have k4 := ho.heap Q4.out (show w3.heap.size ≠ w4.heap.size by omega)
      have k6 := ho.heap Q6.out (show w5.heap.size ≠ w4.heap.size by omega)
      have bwz : Below w.heap.size w wz := (Oth.below B06.out ho (by omega) (by omega)).trans (bz.mono (by omega))
      have SZ : StS w ks A0 c0 k w2.heap.size w3.heap.size w5.heap.size wr.heap.size w4.heap.size wz (List.replicate k (-1)) := by
        refine ⟨bwz, (bz.block _ (by omega)).trans k3, (bz.block _ (by omega)).trans k4, (bz.block _ (by omega)).trans k6, qz, ?_, by simp, by omega⟩
        have := HR.out.1
        rw [Nat.sub_self, List.replicate_zero, List.append_nil] at this
        exact (bz.block _ (by omega)).trans this
      obtain ⟨y0, y1, y2, y3⟩ := cells4t ((bz.block _ (by omega)).trans k1)
      obtain ⟨z0, z1, z2, z3⟩ := cells4t ((bz.block _ (by omega)).trans k2)
      have c4 := Lib.cell_of_heap qz 0
      simp at c4
      have CALL := Lib.hid (stWalk_upto w ks A0 c0 k _ _ _ _ _ hcr hks HA0.out _ HSZ.out _ _ _ _ 0 _ wz (Nat.le_refl _) (by omega) (by have := HSZ.out; omega) HOB.out.1 HOB.out.2 HV.out HV'.out SZ)
      have HBW := Lib.hid bwz
      have HWZ := Lib.hid hwz
      have hs04 : w.heap.size ≤ w4.heap.size := by omega
      have hsz := bwz.size
      obtain ⟨r, hr⟩ : ∃ r, (Lfc.Raw.node kd nm ps xs).st ks k (.node kd' nm' ps' ys) 0 (List.replicate k (-1)) = r := ⟨_, rfl⟩
      have HST := Lib.hid (show Lfc.Raw.stands ks k (.node kd nm ps xs) (.node kd' nm' ps' ys) = r.isSome by rw [Lfc.Raw.stands, hr])
      rw [hr] at CALL
      clear hwz bz qz ho k1 k2 k3 k4 k6 bwz SZ hr HR
      go_upto_region 9 with fail
      rw [HWZ.out]
      go_wp2_with fail
      refine CALL.out.mono ?_
      rintro e w9 ⟨(⟨hn, rfl⟩ | ⟨tv4, hs4, rfl, S4⟩), o4⟩
      · go_wp2_with fail
        go_ret
        exact ⟨by rw [HST.out, hn]; rfl, Oth.below HBW.out o4 hs04 hsz⟩
      · go_wp2_with fail
        go_ret
        exact ⟨by rw [HST.out, hs4]; rfl, Oth.below HBW.out o4 hs04 hsz⟩
end Go.Proofs.YtadjpadieljjlaaGreat
