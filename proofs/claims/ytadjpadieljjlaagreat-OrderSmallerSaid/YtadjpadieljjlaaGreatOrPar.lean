/- Contracts of Params and of what counts the Pis: the program's and the reference's. -/
import Derived.Test.YtadjpadieljjlaaGreatOrMv
import Derived.Test.YtadjpadieljjlaaGreatRawMem
set_option linter.unusedVariables false
set_option linter.unusedSimpArgs false
namespace Lfc
/-- A chain of Pis over Sort, with the same family ahead of each. -/
def piCh : Nat → Raw
  | 0 => .node 1 [] 0 []
  | k + 1 => .node 2 [] 0 [.node 4 [113] 0 [], piCh k]
end Lfc
namespace Go.Proofs.YtadjpadieljjlaaGreat
open Go.RowKit Go.Maps
attribute [local go_sem ↓] Go.wp_at_zero Go.wp_at_succ
theorem cells4t {W : World} {g : Nat} {v0 v1 v2 v3 : Value} {t : TypeId} (h : W.heap[g]? = some (.cells #[v0, v1, v2, v3] t (0, 0))) : W.cell? ⟨g, 0, none⟩ = some v0 ∧ W.cell? ⟨g, 1, none⟩ = some v1 ∧ W.cell? ⟨g, 2, none⟩ = some v2 ∧ W.cell? ⟨g, 3, none⟩ = some v3 :=
  ⟨Lib.cell_of_heap h 0, Lib.cell_of_heap h 1, Lib.cell_of_heap h 2, Lib.cell_of_heap h 3⟩
theorem tput4 {W : World} {R : Nat} {a0 a1 a2 a3 : Value} {t : TypeId} (h : W.heap[R]? = some (.cells #[a0, a1, a2, a3] t (0, 0))) (v0 v1 v2 v3 : Value) : ∃ s1 s2 s3 s4, W.setCell ⟨R, 0, none⟩ v0 = s1 ∧ s1.setCell ⟨R, 1, none⟩ v1 = s2 ∧ s2.setCell ⟨R, 2, none⟩ v2 = s3 ∧ s3.setCell ⟨R, 3, none⟩ v3 = s4 ∧
    (W.cell? ⟨R, 0, none⟩ = some a0 ∧ s1.cell? ⟨R, 1, none⟩ = some a1 ∧ s2.cell? ⟨R, 2, none⟩ = some a2 ∧ s3.cell? ⟨R, 3, none⟩ = some a3) ∧
    (W.frozen? ⟨R, 0, none⟩ = false ∧ s1.frozen? ⟨R, 1, none⟩ = false ∧ s2.frozen? ⟨R, 2, none⟩ = false ∧ s3.frozen? ⟨R, 3, none⟩ = false) ∧
    s4.heap[R]? = some (.cells #[v0, v1, v2, v3] t (0, 0)) ∧ Oth R W s4 := by
  obtain ⟨s1, h1⟩ : ∃ s1, W.setCell ⟨R, 0, none⟩ v0 = s1 := ⟨_, rfl⟩
  obtain ⟨s2, h2⟩ : ∃ s2, s1.setCell ⟨R, 1, none⟩ v1 = s2 := ⟨_, rfl⟩
  obtain ⟨s3, h3⟩ : ∃ s3, s2.setCell ⟨R, 2, none⟩ v2 = s3 := ⟨_, rfl⟩
  obtain ⟨s4, h4⟩ : ∃ s4, s3.setCell ⟨R, 3, none⟩ v3 = s4 := ⟨_, rfl⟩
  have q1 : s1.heap[R]? = some (.cells #[v0, a1, a2, a3] t (0, 0)) := by rw [← h1]; simp [World.setCell, Array.getElem?_modify, h]
  have q2 : s2.heap[R]? = some (.cells #[v0, v1, a2, a3] t (0, 0)) := by rw [← h2]; simp [World.setCell, Array.getElem?_modify, q1]
  have q3 : s3.heap[R]? = some (.cells #[v0, v1, v2, a3] t (0, 0)) := by rw [← h3]; simp [World.setCell, Array.getElem?_modify, q2]
  have q4 : s4.heap[R]? = some (.cells #[v0, v1, v2, v3] t (0, 0)) := by rw [← h4]; simp [World.setCell, Array.getElem?_modify, q3]
  refine ⟨s1, s2, s3, s4, h1, h2, h3, h4, ⟨Lib.cell_of_heap h 0, Lib.cell_of_heap q1 1, Lib.cell_of_heap q2 2, Lib.cell_of_heap q3 3⟩, ⟨Lib.frozen_of_heap h 0, Lib.frozen_of_heap q1 1, Lib.frozen_of_heap q2 2, Lib.frozen_of_heap q3 3⟩, q4, ?_⟩
  rw [← h4, ← h3, ← h2, ← h1]
  exact (((Oth.set W v0).trans (Oth.set _ v1)).trans (Oth.set _ v2)).trans (Oth.set _ v3)
theorem TreeV.parts {w : World} {k p : Int} {n : List UInt8} {ts : List Lfc.Raw} {A : Option Addr} {c : Nat} (h : TreeV w (.node k n p ts) (.agg #[.int .i64 k, S n, .int .i64 p, .slice A ts.length c])) : TreesAt w A ts ∧ ts.length ≤ c := by
  obtain ⟨v0, v1, v2, v3, e, h⟩ := h
  simp only [Value.agg.injEq, Array.mk.injEq, List.cons.injEq, and_true] at e
  obtain ⟨rfl, rfl, rfl, rfl⟩ := e
  rw [TreeC] at h
  obtain ⟨_, _, _, _, A', c', e, hc, h⟩ := h
  simp only [Value.slice.injEq, true_and] at e
  obtain ⟨rfl, rfl⟩ := e
  exact ⟨h, hc⟩
theorem term_size : (Tryz.prog.info? 51).map (·.size) = some 4 := by kernel_rfl
theorem results_term2 {fn : Func} {p u : Tmp} (h : fn.results = #[.cell p 51, .tmp u]) (tmps : Array Value) (w : World) (g : Nat) (v0 v1 v2 v3 : Value) (hp : tmps.getD p undef = .pointer (some ⟨g, 0, none⟩)) (hg : w.heap[g]? = some (.cells #[v0, v1, v2, v3] 51 (0, 0))) :
    (results fn tmps).run Tryz.prog w = .ok (.tuple #[.agg #[v0, v1, v2, v3], tmps.getD u undef]) w := by
  rw [results_cell_tmp h, hp]
  simp [asAddr, run_loadVar_row w g _ _ _ _ _ hg Tryz.underlying51 rfl term_size, Result.andThen]

set_option maxRecDepth 100000 in
set_option maxHeartbeats 4000000 in
theorem oRest_any (k : Nat) (hk : k ≤ 1000) (v : Value) (w : World) (hv : TreeV w (Lfc.piCh k) v) :
    Calls Tryz.prog 86 #[v] w fun e w' => (∃ A c, e = .returned (.tuple #[.agg #[.int .i64 1, S [], .int .i64 0, .slice A 0 c], .int .i64 (k : Int)])) ∧ Below w.heap.size w w' := by
  obtain ⟨kd, n, p, ts, hT⟩ : ∃ kd n p ts, Lfc.piCh k = .node kd n p ts := by
    cases Lfc.piCh k with
    | node kd n p ts => exact ⟨kd, n, p, ts, rfl⟩
  have hv' := hv
  rw [hT] at hv
  obtain ⟨A, c, rfl, hc, hA⟩ := hv.open_
  obtain ⟨w1, hw1⟩ : ∃ w1, w.alloc (.cells #[.int .i64 kd, S n, .int .i64 p, .slice A ts.length c] 51) = w1 := ⟨_, rfl⟩
  obtain ⟨w2, hw2⟩ : ∃ w2, w1.alloc (.cells #[.int .i64 0, S [], .int .i64 0, .slice none 0 0] 51) = w2 := ⟨_, rfl⟩
  have b1 : Below w.heap.size w w1 := by rw [← hw1]; exact (Below.refl _ _).alloc (Nat.le_refl _) _
  have b2 : Below w1.heap.size w1 w2 := by rw [← hw2]; exact (Below.refl _ _).alloc (Nat.le_refl _) _
  have q1 : w1.heap[w.heap.size]? = some (.cells #[.int .i64 kd, S n, .int .i64 p, .slice A ts.length c] 51 (0, 0)) := by rw [← hw1]; exact heap_alloc_new _ _
  have q2 : w2.heap[w1.heap.size]? = some (.cells #[.int .i64 0, S [], .int .i64 0, .slice none 0 0] 51 (0, 0)) := by rw [← hw2]; exact heap_alloc_new _ _
  have l1 := lt_of_block q1
  have q12 := (b2.block _ l1).trans q1
  have s1 := b1.size
  have b02 := b1.trans (b2.mono s1)
  have HI0 : Hid (Lfc.piCh k = .node kd n p ts ∧ w2.heap[w.heap.size]? = some (.cells #[.int .i64 kd, S n, .int .i64 p, .slice A ts.length c] 51 (0, 0)) ∧ w2.heap[w1.heap.size]? = some (.cells #[.int .i64 0, S [], .int .i64 0, .slice none 0 0] 51 (0, 0)) ∧ TreeV w (Lfc.piCh k) (.agg #[.int .i64 kd, S n, .int .i64 p, .slice A ts.length c]) ∧ Below w.heap.size w w2) := Lib.hid ⟨hT, q12, q2, hv', b02⟩
  clear hT hA hv hv' q1 q2 q12 b1 b2 b02
  go_enter Tryz.func86, Tryz.ntmps86
  go_wp2_with fail
  go_loopw [4] (fun i wr => ∃ (j m : Nat) (kd : Int) (n : List UInt8) (p : Int) (ts : List Lfc.Raw) (A : Option Addr) (c : Nat), m + j = k ∧ i = .int .i64 m ∧ Hid (Lfc.piCh j = .node kd n p ts ∧ wr.heap[w.heap.size]? = some (.cells #[.int .i64 kd, S n, .int .i64 p, .slice A ts.length c] 51 (0, 0)) ∧ wr.heap[w1.heap.size]? = some (.cells #[.int .i64 0, S [], .int .i64 0, .slice none 0 0] 51 (0, 0)) ∧ TreeV w (Lfc.piCh j) (.agg #[.int .i64 kd, S n, .int .i64 p, .slice A ts.length c]) ∧ Below w.heap.size w wr)) (fun i _ => k - (intOf i).toNat)
  case atStart => exact ⟨k, 0, kd, n, p, ts, A, c, by omega, rfl, HI0⟩
  case round =>
    clear HI0 hc hw1 hw2
    obtain ⟨j, m, kd', n', p', ts', A2, c2, hm, rfl, HI⟩ := hrel
    obtain ⟨hT, hq, hr, hv, hb⟩ := HI.out
    obtain ⟨y0, y1, y2, y3⟩ := cells4t hq
    cases j with
    | zero =>
      obtain rfl : m = k := by omega
      rw [Lfc.piCh] at hT
      obtain ⟨rfl, rfl, rfl, rfl⟩ := Lfc.Raw.node.inj hT
      obtain ⟨s1, s2, s3, s4, g1, g2, g3, g4, ⟨z0, z1, z2, z3⟩, ⟨f0, f1, f2, f3⟩, hq2, ho⟩ := tput4 hr (.int .i64 1) (S []) (.int .i64 0) (.slice A2 0 c2)
      have HQ := Lib.hid hq2
      have HB : Hid (Below w.heap.size w s4) := Lib.hid (Oth.below hb ho (by omega) (by have := hb.size; omega))
      clear HI hT hq hr hv hb hq2 ho
      go_wp2_with fail
      refine bodyPost_ret (results_term2 rfl _ _ _ _ _ _ _ rfl HQ.out) rfl ?_
      exact ⟨⟨_, _, rfl⟩, HB.out⟩
    | succ j =>
      have hcj : TreesAt w A2 ts' ∧ ts'.length ≤ c2 := by
        have hv2 := hv
        rw [hT] at hv2
        exact hv2.parts
      rw [Lfc.piCh] at hT
      obtain ⟨rfl, rfl, rfl, rfl⟩ := Lfc.Raw.node.inj hT
      obtain ⟨b, o, k1, n1, p1, us, B, c1, rfl, hbl, ht, d0, d1, d2, d3, hcu, hB, hT2⟩ := hcj.1.at_ (i := 1) (by simp)
      have hbc : ∀ o, wr.cell? ⟨b, o, none⟩ = w.cell? ⟨b, o, none⟩ := fun o => hb.cell (p := ⟨b, o, none⟩) hbl
      have x0 : wr.cell? ⟨b, o + 4, none⟩ = some (.int .i64 k1) := by rw [hbc]; simpa using d0
      have x1 : wr.cell? ⟨b, o + 4 + 1, none⟩ = some (S n1) := by rw [hbc]; simpa using d1
      have x2 : wr.cell? ⟨b, o + 4 + 2, none⟩ = some (.int .i64 p1) := by rw [hbc]; simpa using d2
      have x3 : wr.cell? ⟨b, o + 4 + 3, none⟩ = some (.slice B us.length c1) := by rw [hbc]; simpa using d3
      obtain ⟨s1, s2, s3, s4, g1, g2, g3, g4, ⟨z0, z1, z2, z3⟩, ⟨f0, f1, f2, f3⟩, hq2, ho⟩ := tput4 hq (.int .i64 k1) (S n1) (.int .i64 p1) (.slice B us.length c1)
      have HN : Hid (Lfc.piCh j = .node k1 n1 p1 us ∧ s4.heap[w.heap.size]? = some (.cells #[.int .i64 k1, S n1, .int .i64 p1, .slice B us.length c1] 51 (0, 0)) ∧ s4.heap[w1.heap.size]? = some (.cells #[.int .i64 0, S [], .int .i64 0, .slice none 0 0] 51 (0, 0)) ∧ TreeV w (Lfc.piCh j) (.agg #[.int .i64 k1, S n1, .int .i64 p1, .slice B us.length c1]) ∧ Below w.heap.size w s4) :=
        Lib.hid ⟨by simpa using ht, hq2, (ho.block _ (lt_of_block hr) (fun e => by have := Option.some.inj e; omega)).trans hr, by simpa using hT2, Oth.below hb ho (by omega) (by have := hb.size; omega)⟩
      clear HI hT hq hr hv hb hq2 ho hcj d0 d1 d2 d3 ht hB hT2 hbc
      have hw3 : IntKind.i64.wrap ((m : Int) + 1) = (m : Int) + 1 := IntWalk.i64_in _ (by omega)
      go_wp2_with fail
      go_roundw
      case rel => exact ⟨j, m + 1, k1, n1, p1, us, B, c1, by omega, by go_num, HN⟩
      case measure => simp [intOf]; omega

set_option maxRecDepth 100000 in
set_option maxHeartbeats 4000000 in
theorem oParams_any (k : Nat) (hk : k ≤ 1000) (v : Value) (w : World) (hv : TreeV w (Lfc.piCh k) v) :
    Calls Tryz.prog 55 #[v] w fun e w' => e = .returned (.int .i64 (k : Int)) ∧ Below w.heap.size w w' := by
  obtain ⟨kd, n, p, ts, hT⟩ : ∃ kd n p ts, Lfc.piCh k = .node kd n p ts := by
    cases Lfc.piCh k with
    | node kd n p ts => exact ⟨kd, n, p, ts, rfl⟩
  have hv' := hv
  rw [hT] at hv
  obtain ⟨A, c, rfl, hc, hA⟩ := hv.open_
  obtain ⟨w1, hw1⟩ : ∃ w1, w.alloc (.cells #[.int .i64 kd, S n, .int .i64 p, .slice A ts.length c] 51) = w1 := ⟨_, rfl⟩
  have b1 : Below w.heap.size w w1 := by rw [← hw1]; exact (Below.refl _ _).alloc (Nat.le_refl _) _
  have q1 : w1.heap[w.heap.size]? = some (.cells #[.int .i64 kd, S n, .int .i64 p, .slice A ts.length c] 51 (0, 0)) := by rw [← hw1]; exact heap_alloc_new _ _
  have s1 := b1.size
  obtain ⟨y0, y1, y2, y3⟩ := cells4t q1
  have C := Lib.hid (oRest_any k hk _ w1 (hv'.below b1))
  have HB := Lib.hid b1
  clear hT hA hv hv' q1 b1 hc
  go_enter Tryz.func55, Tryz.ntmps55
  go_wp2_with fail
  refine C.out.mono ?_
  rintro e w2 ⟨⟨A9, c9, rfl⟩, hb2⟩
  go_wp2_with fail
  go_ret
  exact ⟨rfl, (HB.out.trans (hb2.mono s1)).alloc (Nat.le_trans s1 hb2.size) _⟩

end Go.Proofs.YtadjpadieljjlaaGreat
