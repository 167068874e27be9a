/- Contract of the writer's constants, at terms without an error. -/
import Derived.Test.YtlcikiiijelpjaaDoorDkKnown
import Derived.Test.YtlcikiiijelpjaaDoorRawMem
import Derived.Deep.CutBlock
import Derived.Deep.DeepCutAuto
set_option linter.unusedVariables false
set_option linter.unusedSimpArgs false
namespace Go.Proofs.YtlcikiiijelpjaaDoor
open Go.RowKit Go.Maps Go.WideMaps

mutual
/-- All constants are declared and have enough arguments. -/
def consOK (ds : List DVal) : Lfc.Raw → Bool
  | .node k n p ts => (!decide (k = 4) || (match ds.find? (fun d => decide (d.n = n)) with | none => false | some d => decide (d.p ≤ (ts.length : Int)))) && consOKs ds ts
def consOKs (ds : List DVal) : List Lfc.Raw → Bool
  | [] => true
  | a :: r => consOK ds a && consOKs ds r
end
theorem consOKs_at (ds : List DVal) : ∀ (ts : List Lfc.Raw), consOKs ds ts = true → ∀ k (h : k < ts.length), consOK ds ts[k] = true
  | [], _, k, h => by simp at h
  | a :: r, hc, k, h => by
    rw [consOKs, Bool.and_eq_true] at hc
    cases k with
    | zero => exact hc.1
    | succ k => exact consOKs_at ds r hc.2 k (by simpa using h)

set_option maxRecDepth 100000 in
set_option maxHeartbeats 4000000 in
theorem dConst_any (ds : List DVal) (M1 M2 N1 : Nat) (m : Nat) (hmm : m ≤ 1000000000) : ∀ (t : Lfc.Raw) (v : Value) (w : World), t.size ≤ m → TreeV w t v → VMap zD w M1 N1 (gD ds) → consOK ds t = true →
    Calls Tryd.prog 19 #[.agg #[.map (some M1), .map (some M2), .bool false], v] w fun e w' => e = .returned (.int .i64 0) ∧ Below w.heap.size w w' := by
  induction m with
  | zero => intro t v w h _ _; have := t.size_pos; omega
  | succ m ih0 =>
    intro t v w hsz hv hmap hok
    have ih := ih0 (by omega)
    clear ih0
    obtain ⟨k, n, p, ts⟩ := t
    have hn := hv.name_le
    obtain ⟨A, c, rfl, hc, hA⟩ := hv.open_
    have hsz' := hsz
    simp only [Lfc.Raw.size] at hsz'
    have hlen := Lfc.Raw.sizes_len ts
    rw [consOK, Bool.and_eq_true] at hok
    obtain ⟨hok1, hok2⟩ := hok
    obtain ⟨wa, hwa⟩ : ∃ wa, w.alloc (.cells #[.map (some M1), .map (some M2), .bool false] 48) = wa := ⟨_, rfl⟩
    obtain ⟨wb, hwb⟩ : ∃ wb, wa.alloc (.cells #[.int .i64 k, S n, .int .i64 p, .slice A ts.length c] 31) = wb := ⟨_, rfl⟩
    have ba : Below w.heap.size w wa := by rw [← hwa]; exact (Below.refl _ _).alloc (Nat.le_refl _) _
    have sa : w.heap.size < wa.heap.size := by rw [← hwa]; simp
    have bab : Below wa.heap.size wa wb := by rw [← hwb]; exact (Below.refl _ _).alloc (Nat.le_refl _) _
    have sb : wa.heap.size < wb.heap.size := by rw [← hwb]; simp
    have qa : wa.heap[w.heap.size]? = some (.cells #[.map (some M1), .map (some M2), .bool false] 48 (0, 0)) := by rw [← hwa]; exact heap_alloc_new _ _
    have qb : wb.heap[wa.heap.size]? = some (.cells #[.int .i64 k, S n, .int .i64 p, .slice A ts.length c] 31 (0, 0)) := by rw [← hwb]; exact heap_alloc_new _ _
    have qab := (bab.block _ sa).trans qa
    have bb : Below w.heap.size w wb := ba.trans (bab.mono (by omega))
    obtain ⟨a0, a1, a2⟩ := cells3d qab
    have x0 : wb.cell? ⟨wa.heap.size, 0, none⟩ = some (.int .i64 k) := Lib.cell_of_heap qb 0
    have x1 : wb.cell? ⟨wa.heap.size, 1, none⟩ = some (S n) := Lib.cell_of_heap qb 1
    have x3 : wb.cell? ⟨wa.heap.size, 3, none⟩ = some (.slice A ts.length c) := Lib.cell_of_heap qb 3
    have HM := Lib.hid (hmap.below bb)
    have HB := Lib.hid bb
    have HA := Lib.hid (hA.below bb)
    have HQ := Lib.hid qab
    have HOK := Lib.hid (consOKs_at ds ts hok2)
    have IH := Lib.hid ih
    have LOOP : Hid (∀ (W : World) (a : Nat), True) := Lib.hid (fun _ _ => trivial)
    clear ih hmap hv hA ba bab qa qab hok2 LOOP bb
    by_cases hk4 : k = 4
    · subst hk4
      have HD : ∃ d, ds.find? (fun d => decide (d.n = n)) = some d ∧ d.p ≤ (ts.length : Int) := by
        cases hf : ds.find? (fun d => decide (d.n = n)) with
        | none => simp [hf] at hok1
        | some d => exact ⟨d, rfl, by simpa [hf] using hok1⟩
      obtain ⟨d, hf, hdp⟩ := HD
      have hlk := HM.out.look 45 33 Tryd.underlying45 zD_run n (by omega)
      rw [show gD ds n = some d.v from by unfold gD; rw [hf]; rfl] at hlk
      obtain ⟨dn, dk, dm, di, dA, dl, dc, dp⟩ := d
      simp only [Option.getD_some, Option.isSome_some, DVal.v] at hlk
      simp only at hdp
      obtain ⟨wd, hwd⟩ : ∃ wd, wb.alloc (.cells #[S dn, .int .i64 dk, S dm, .int .i64 di, .slice dA dl dc, .int .i64 dp] 33) = wd := ⟨_, rfl⟩
      have bd : Below wb.heap.size wb wd := by rw [← hwd]; exact (Below.refl _ _).alloc (Nat.le_refl _) _
      have qd : wd.heap[wb.heap.size]? = some (.cells #[S dn, .int .i64 dk, S dm, .int .i64 di, .slice dA dl dc, .int .i64 dp] 33 (0, 0)) := by rw [← hwd]; exact heap_alloc_new _ _
      have e5 : wd.cell? ⟨wb.heap.size, 5, none⟩ = some (.int .i64 dp) := Lib.cell_of_heap qd 5
      have x3d := (bd.cell (p := ⟨wa.heap.size, 3, none⟩) sb).trans x3
      have hlt2 : decide ((ts.length : Int) < dp) = false := by simp; omega
      have sd := bd.size
      have HBD := Lib.hid (HB.out.trans (bd.mono (by omega)))
      have HAD := Lib.hid (HA.out.below bd)
      have HMD := Lib.hid (HM.out.below bd)
      have HQD := Lib.hid ((bd.block _ (by omega)).trans HQ.out)
      have HWD := Lib.hid hwd
      clear hwd bd qd hf hok1
      go_enter Tryd.func19, Tryd.ntmps19
      go_upto_region 3 with fail
      rw [HWD.out]
      go_wp2_with fail
      go_loopw [34] (fun i wr => ∃ j : Nat, j ≤ ts.length ∧ i = .int .i64 j ∧ Below wd.heap.size wd wr) (fun i _ => ts.length - (intOf i).toNat)
      case atStart => exact ⟨0, Nat.zero_le _, rfl, Below.refl _ _⟩
      case round =>
        obtain ⟨j, hj, rfl, hbw⟩ := hrel
        by_cases hlt : j < ts.length
        · obtain ⟨b, o, k1, n1, p1, us, D1, c1, rfl, hbb, ht, d0, d1, d2, d3, hcu, hD1, hT⟩ := (HAD.out.below hbw).at_ hlt
          have hmem := Lfc.Raw.sizes_mem ts ts[j] (List.getElem_mem _)
          obtain ⟨y0, y1, y2⟩ := cells3d ((hbw.block _ (by omega)).trans HQD.out)
          obtain ⟨wc, hwc⟩ : ∃ wc, wr.alloc (.cells #[.int .i64 k1, S n1, .int .i64 p1, .slice D1 us.length c1] 31) = wc := ⟨_, rfl⟩
          have bc : Below wr.heap.size wr wc := by rw [← hwc]; exact (Below.refl _ _).alloc (Nat.le_refl _) _
          have qc : wc.heap[wr.heap.size]? = some (.cells #[.int .i64 k1, S n1, .int .i64 p1, .slice D1 us.length c1] 31 (0, 0)) := by rw [← hwc]; exact heap_alloc_new _ _
          have u0 : wc.cell? ⟨wr.heap.size, 0, none⟩ = some (.int .i64 k1) := Lib.cell_of_heap qc 0
          have u1 : wc.cell? ⟨wr.heap.size, 1, none⟩ = some (S n1) := Lib.cell_of_heap qc 1
          have u2 : wc.cell? ⟨wr.heap.size, 2, none⟩ = some (.int .i64 p1) := Lib.cell_of_heap qc 2
          have u3 : wc.cell? ⟨wr.heap.size, 3, none⟩ = some (.slice D1 us.length c1) := Lib.cell_of_heap qc 3
          have hrs := hbw.size
          obtain ⟨z0, z1, z2⟩ := cells3d ((bc.block _ (by omega)).trans ((hbw.block _ (by omega)).trans HQD.out))
          have CALL := Lib.hid (IH.out ts[j] _ wc (by omega) (hT.below bc) ((HMD.out.below hbw).below bc) (HOK.out j hlt))
          clear hD1 ht hT
          go_wp2_with fail
          refine CALL.out.mono ?_
          rintro e w2 ⟨rfl, hb2⟩
          have bc2 := bc.size
          go_wp2_with fail
          go_roundw
          case rel => exact ⟨j + 1, by omega, by go_num, hbw.trans ((bc.trans (hb2.mono bc2)).mono hrs)⟩
          case measure => simp [intOf]; omega
        · have hrs := hbw.size
          go_wp2_with fail
          go_ret
          exact ⟨rfl, HBD.out.trans (hbw.mono (by omega))⟩
    · have hk4f : (k == 4) = false := by simpa using hk4
      clear hok1
      go_enter Tryd.func19, Tryd.ntmps19
      go_wp2_with fail
      go_loopw [34] (fun i wr => ∃ j : Nat, j ≤ ts.length ∧ i = .int .i64 j ∧ Below wb.heap.size wb wr) (fun i _ => ts.length - (intOf i).toNat)
      case atStart => exact ⟨0, Nat.zero_le _, rfl, Below.refl _ _⟩
      case round =>
        obtain ⟨j, hj, rfl, hbw⟩ := hrel
        by_cases hlt : j < ts.length
        · obtain ⟨b, o, k1, n1, p1, us, D1, c1, rfl, hbb, ht, d0, d1, d2, d3, hcu, hD1, hT⟩ := (HA.out.below hbw).at_ hlt
          have hmem := Lfc.Raw.sizes_mem ts ts[j] (List.getElem_mem _)
          obtain ⟨y0, y1, y2⟩ := cells3d ((hbw.block _ (by omega)).trans HQ.out)
          obtain ⟨wc, hwc⟩ : ∃ wc, wr.alloc (.cells #[.int .i64 k1, S n1, .int .i64 p1, .slice D1 us.length c1] 31) = wc := ⟨_, rfl⟩
          have bc : Below wr.heap.size wr wc := by rw [← hwc]; exact (Below.refl _ _).alloc (Nat.le_refl _) _
          have qc : wc.heap[wr.heap.size]? = some (.cells #[.int .i64 k1, S n1, .int .i64 p1, .slice D1 us.length c1] 31 (0, 0)) := by rw [← hwc]; exact heap_alloc_new _ _
          have u0 : wc.cell? ⟨wr.heap.size, 0, none⟩ = some (.int .i64 k1) := Lib.cell_of_heap qc 0
          have u1 : wc.cell? ⟨wr.heap.size, 1, none⟩ = some (S n1) := Lib.cell_of_heap qc 1
          have u2 : wc.cell? ⟨wr.heap.size, 2, none⟩ = some (.int .i64 p1) := Lib.cell_of_heap qc 2
          have u3 : wc.cell? ⟨wr.heap.size, 3, none⟩ = some (.slice D1 us.length c1) := Lib.cell_of_heap qc 3
          have hrs := hbw.size
          obtain ⟨z0, z1, z2⟩ := cells3d ((bc.block _ (by omega)).trans ((hbw.block _ (by omega)).trans HQ.out))
          have CALL := Lib.hid (IH.out ts[j] _ wc (by omega) (hT.below bc) ((HM.out.below hbw).below bc) (HOK.out j hlt))
          clear hD1 ht hT
          go_wp2_with fail
          refine CALL.out.mono ?_
          rintro e w2 ⟨rfl, hb2⟩
          have bc2 := bc.size
          go_wp2_with fail
          go_roundw
          case rel => exact ⟨j + 1, by omega, by go_num, hbw.trans ((bc.trans (hb2.mono bc2)).mono hrs)⟩
          case measure => simp [intOf]; omega
        · have hrs := hbw.size
          go_wp2_with fail
          go_ret
          exact ⟨rfl, HB.out.trans (hbw.mono (by omega))⟩
end Go.Proofs.YtlcikiiijelpjaaDoor
