/- Contracts of the resolver's operator and lowest. -/
import Derived.Test.YtkhfnkokdmoipaaDoorOpMap
set_option linter.unusedVariables false
set_option linter.unusedSimpArgs false
namespace Go.Proofs.YtkhfnkokdmoipaaDoor
open Go.RowKit Go.Maps Go.WideMaps

set_option maxRecDepth 100000 in
set_option maxHeartbeats 2000000 in
theorem operator_any (w0 : World) (Rb Mb : Nat) (l : List Lfc.Op) (x : Lfc.Opd) (v : Value) (w : World) (hv : OpdV w x v) (h : EnvR w0 Rb Mb l w) :
    Calls Tryd.prog 66 #[.pointer (some ⟨Rb, 0, none⟩), v] w fun e w' => e = .returned (.tuple #[opV ((Lfc.opOf l x).getD opZ), .bool (Lfc.opOf l x).isSome]) ∧ Below w.heap.size w w' := by
  obtain ⟨⟨k, n, p, ts⟩, cl⟩ := x
  obtain ⟨k', n', p', ts', A, c, e, rfl, hT⟩ := hv
  cases e
  have hnn := hT.name_le
  obtain ⟨wa, hwa⟩ : ∃ wa, (w.alloc (.cells #[.int .i64 k, S n, .int .i64 p, .slice A ts.length c, .bool cl] 42)).alloc (.cells #[S [], .int .i64 0, .int .i64 0] 36) = wa := ⟨_, rfl⟩
  have ba : Below w.heap.size w wa := by rw [← hwa]; exact ((Below.refl _ _).alloc (Nat.le_refl _) _).alloc (by simp) _
  have qo : wa.heap[w.heap.size]? = some (.cells #[.int .i64 k, S n, .int .i64 p, .slice A ts.length c, .bool cl] 42 (0, 0)) := by rw [← hwa]; exact heap_alloc_old _ _ _ _ (heap_alloc_new _ _)
  have qr : wa.heap[w.heap.size + 1]? = some (.cells #[S [], .int .i64 0, .int .i64 0] 36 (0, 0)) := by
    rw [← hwa]
    have := heap_alloc_new (w.alloc (.cells #[.int .i64 k, S n, .int .i64 p, .slice A ts.length c, .bool cl] 42)) (.cells #[S [], .int .i64 0, .int .i64 0] 36)
    simpa using this
  have hsa := eq2 (show wa.heap.size = w.heap.size + 2 by rw [← hwa]; simp)
  have x0 : wa.cell? ⟨w.heap.size, 0, none⟩ = some (.int .i64 k) := Lib.cell_of_heap qo 0
  have x1 : wa.cell? ⟨w.heap.size, 1, none⟩ = some (S n) := Lib.cell_of_heap qo 1
  have x4 : wa.cell? ⟨w.heap.size, 4, none⟩ = some (.bool cl) := Lib.cell_of_heap qo 4
  have HE := Lib.hid (h.new ba)
  have BA := Lib.hid ba
  have QR := Lib.hid qr
  have QO := Lib.hid qo
  clear qo hT h ba
  by_cases hc : cl = true ∨ k ≠ 1
  · have he : Lfc.opOf l ⟨.node k n p ts, cl⟩ = none := by
      unfold Lfc.opOf
      rw [if_pos]
      rcases hc with h1 | h1
      · simp [h1]
      · simp [Lfc.Raw.kind, h1]
    rw [he]
    obtain ⟨s1, s2, s3, g1, g2, g3, ⟨y0, y1, y2⟩, ⟨f0, f1, f2⟩, hq, ho⟩ := put3 qr (S []) (.int .i64 0) (.int .i64 0)
    have HQ := Lib.hid hq
    have HO := Lib.hid ho
    clear hq ho qr he
    cases cl
    · have hk : ¬ k = 1 := by simpa using hc
      have hk2 : (k != 1) = true := by simpa using hk
      clear hc hk
      go_enter Tryd.func66, Tryd.ntmps66
      go_upto_region 1 with fail
      clear hwa
      go_wp2_with fail
      refine bodyPost_ret (results_op2 rfl _ _ _ _ _ _ rfl HQ.out) rfl ?_
      exact ⟨rfl, Oth.below BA.out HO.out (by omega) (by omega)⟩
    · clear hc
      go_enter Tryd.func66, Tryd.ntmps66
      go_upto_region 1 with fail
      clear hwa
      go_wp2_with fail
      refine bodyPost_ret (results_op2 rfl _ _ _ _ _ _ rfl HQ.out) rfl ?_
      exact ⟨rfl, Oth.below BA.out HO.out (by omega) (by omega)⟩
  · obtain rfl : cl = false := by cases cl; rfl; exact absurd (.inl rfl) hc
    obtain rfl : k = 1 := by
      by_cases e : k = 1
      · exact e
      · exact absurd (.inr e) hc
    clear hc
    have he : Lfc.opOf l ⟨.node 1 n p ts, false⟩ = Lfc.look l n := by
      unfold Lfc.opOf
      rw [if_neg (by simp [Lfc.Raw.kind])]; rfl
    rw [he]
    clear he
    obtain ⟨N, hm⟩ := HE.out.map
    have hm2 := hm.kept (World.grownBy_alloc wa (.cells #[S [], .int .i64 0, .int .i64 0] 36) none) (by simp)
    have hlk1 : (Instr.lookup 66 (.map (some Mb)) (S n) true).run Tryd.prog wa.drew = .ok (.tuple #[opV ((Lfc.look l n).getD opZ), .bool (Lfc.look l n).isSome]) wa.drew := OpMap.look (w := wa.drew) hm n hnn
    have hlk2 : (Instr.lookup 66 (.map (some Mb)) (S n) true).run Tryd.prog (wa.alloc (.cells #[S [], .int .i64 0, .int .i64 0] 36)).drew = .ok (.tuple #[opV ((Lfc.look l n).getD opZ), .bool (Lfc.look l n).isSome]) (wa.alloc (.cells #[S [], .int .i64 0, .int .i64 0] 36)).drew := OpMap.look (w := (wa.alloc (.cells #[S [], .int .i64 0, .int .i64 0] 36)).drew) hm2 n hnn
    have m0 := HE.out.m0
    have hrb := HE.out.lt
    have r1 : (wa.alloc (.cells #[S [], .int .i64 0, .int .i64 0] 36)).cell? ⟨Rb, 0, none⟩ = some (.map (some Mb)) := (World.cell?_of_block (Lib.alloc_old wa _ _ hrb)).trans m0
    have r2 : (wa.alloc (.cells #[S [], .int .i64 0, .int .i64 0] 36)).cell? ⟨w.heap.size, 1, none⟩ = some (S n) := (World.cell?_of_block (Lib.alloc_old wa _ _ (by simp only; omega))).trans x1
    clear hm hm2
    unfold opV at hlk1 hlk2 ⊢
    generalize hO : (Lfc.look l n).getD opZ = o at *
    generalize (Lfc.look l n).isSome = f at *
    obtain ⟨on, of, op⟩ := o
    simp only at hlk1 hlk2 ⊢
    clear hO
    go_enter Tryd.func66, Tryd.ntmps66
    go_upto_region 1 with fail
    clear hwa
    go_wp2_with fail
    go_region_held3 (fun W => W.cell? ⟨Rb, 0, none⟩ = some (.map (some Mb)) ∧ W.cell? ⟨w.heap.size, 1, none⟩ = some (S n))
      (first | exact ⟨m0, x1⟩ | exact ⟨r1, r2⟩ | go_keep)
      (fail)
    all_goals
      obtain ⟨wz, hwz⟩ : ∃ wz, (wa.alloc (.cells #[S on, .int .i64 of, .int .i64 op] 36)).drew = wz := ⟨_, rfl⟩
      have bz : Below wa.heap.size wa wz := by rw [← hwz]; exact ((Below.refl _ _).alloc (Nat.le_refl _) _).drew
      have qz : wz.heap[wa.heap.size]? = some (.cells #[S on, .int .i64 of, .int .i64 op] 36 (0, 0)) := by rw [← hwz]; exact heap_alloc_new _ _
      obtain ⟨u0, u1, u2⟩ := cells3 qz
      obtain ⟨s1, s2, s3, g1, g2, g3, ⟨y0, y1, y2⟩, ⟨f0, f1, f2⟩, hq, ho⟩ := put3 ((bz.block _ (lt_of_block QR.out)).trans QR.out) (S on) (.int .i64 of) (.int .i64 op)
      have HQ := Lib.hid hq
      have HO := Lib.hid ho
      have BZ := Lib.hid bz
      have hsz := bz.size
      clear hq ho bz qz qr hlk1 hlk2
      go_upto_region 4 with fail
      rw [hwz]
      clear hwz
      go_wp2_with fail
      refine bodyPost_ret (results_op2 rfl _ _ _ _ _ _ rfl HQ.out) rfl ?_
      exact ⟨rfl, Oth.below (BA.out.trans (BZ.out.mono (by omega))) HO.out (by omega) (by omega)⟩
end Go.Proofs.YtkhfnkokdmoipaaDoor
