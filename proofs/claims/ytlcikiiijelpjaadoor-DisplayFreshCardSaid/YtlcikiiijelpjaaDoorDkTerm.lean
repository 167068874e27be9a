/- Contracts of the writer at a variable, at an infix constant and at a lambda. -/
import Derived.Test.YtlcikiiijelpjaaDoorDkConst
import Derived.StillTailTactics
import Derived.Deep.RegionHeld3
import Derived.ArgAppend
import Derived.Deep.RegionLawGrows
import Derived.Deep.DrawnRows
import Derived.Test.YtlcikiiijelpjaaDoorDispF
set_option linter.unusedVariables false
set_option linter.unusedSimpArgs false
namespace Go.Proofs.YtlcikiiijelpjaaDoor
open Go.RowKit Go.Maps Go.WideMaps

set_option maxRecDepth 100000 in
set_option maxHeartbeats 1000000 in
theorem dApp0_any (M1 M2 : Nat) (h : List UInt8) (A U : Option Addr) (c ul uc : Nat) (w : World) :
    Calls Tryd.prog 34 #[.agg #[.map (some M1), .map (some M2), .bool false], S h, .slice A 0 c, .slice U ul uc] w fun e w' => e = .returned (S h) ∧ Below w.heap.size w w' := by
  have b0 : Below w.heap.size w (w.alloc (.cells #[.map (some M1), .map (some M2), .bool false] 48)) := (Below.refl _ _).alloc (Nat.le_refl _) _
  go_enter Tryd.func34, Tryd.ntmps34
  go_wp2_with fail
  go_ret
  exact ⟨rfl, b0⟩

set_option maxRecDepth 100000 in
set_option maxHeartbeats 2000000 in
theorem dVar_any (M1 M2 : Nat) (i : Nat) (u : List (List UInt8)) (A U : Option Addr) (c uc : Nat) (w : World) (hu : u.length ≤ 1000000) (hi : i < u.length) (hU : NamesAt w U u) :
    Calls Tryd.prog 20 #[.agg #[.map (some M1), .map (some M2), .bool false], .agg #[.int .i64 5, S [], .int .i64 i, .slice A 0 c], .slice U u.length uc] w fun e w' => e = .returned (S (u[u.length - 1 - i]'(by omega))) ∧ Below w.heap.size w w' := by
  obtain ⟨wa, hwa⟩ : ∃ wa, w.alloc (.cells #[.map (some M1), .map (some M2), .bool false] 48) = wa := ⟨_, rfl⟩
  obtain ⟨wb, hwb⟩ : ∃ wb, wa.alloc (.cells #[.int .i64 5, S [], .int .i64 i, .slice A 0 c] 31) = wb := ⟨_, rfl⟩
  have ba : Below w.heap.size w wa := by rw [← hwa]; exact (Below.refl _ _).alloc (Nat.le_refl _) _
  have bab : Below wa.heap.size wa wb := by rw [← hwb]; exact (Below.refl _ _).alloc (Nat.le_refl _) _
  have sa := ba.size
  have qa : wa.heap[w.heap.size]? = some (.cells #[.map (some M1), .map (some M2), .bool false] 48 (0, 0)) := by rw [← hwa]; exact heap_alloc_new _ _
  have qb : wb.heap[wa.heap.size]? = some (.cells #[.int .i64 5, S [], .int .i64 i, .slice A 0 c] 31 (0, 0)) := by rw [← hwb]; exact heap_alloc_new _ _
  have bb : Below w.heap.size w wb := ba.trans (bab.mono (by omega))
  obtain ⟨a0, a1, a2⟩ := cells3d ((bab.block _ (lt_of_block qa)).trans qa)
  have x0 : wb.cell? ⟨wa.heap.size, 0, none⟩ = some (.int .i64 5) := Lib.cell_of_heap qb 0
  have x2 : wb.cell? ⟨wa.heap.size, 2, none⟩ = some (.int .i64 i) := Lib.cell_of_heap qb 2
  have x3 : wb.cell? ⟨wa.heap.size, 3, none⟩ = some (.slice A 0 c) := Lib.cell_of_heap qb 3
  have HA := Lib.hid (fun h W => dApp0_any M1 M2 h A U c u.length uc W)
  obtain ⟨b, o, rfl, hb, hc⟩ := (hU.below bb) (by omega)
  obtain ⟨K, hK⟩ : ∃ K, u.length - 1 - i = K := ⟨_, rfl⟩
  have hcell := hc (u.length - 1 - i) (by omega)
  have hK2 : K < u.length := by omega
  generalize u[u.length - 1 - i]'(by omega) = nm at *
  rw [hK] at hcell
  have hw1 : IntKind.i64.wrap ((u.length : Int) - 1) = (u.length : Int) - 1 := IntWalk.i64_in _ (by omega)
  have hw2 : IntKind.i64.wrap ((u.length : Int) - 1 - (i : Int)) = (K : Int) := by rw [IntWalk.i64_in _ (by omega)]; omega
  have hk0 : (0 : Int) ≤ (K : Int) := Int.natCast_nonneg _
  have hk1 : (K : Int) < (u.length : Int) := by omega
  have hB := Lib.hid bb
  clear hU hc qa qb ba bab bb hK
  go_enter Tryd.func20, Tryd.ntmps20
  go_wp2_with fail
  refine wp_region_still_tail 13 (by kernel_rfl) (by kernel_rfl) ?_
  simp only [List.take_succ_cons, List.take_zero, List.drop_succ_cons, List.drop_zero]
  change wpStill Tryd.prog _ wb.drew _ _ _
  repeat still_step
  try refine wpStill_nil ?_
  change wpList _ _ _ _ _ wb.drew
  have HD : Hid (Below w.heap.size w wb.drew) := Lib.hid hB.out.drew
  go_wp2_with fail
  refine (HA.out _ _).mono ?_
  rintro e w2 ⟨rfl, hb2⟩
  go_wp2_with fail
  go_ret
  exact ⟨rfl, HD.out.trans (hb2.mono HD.out.size)⟩

theorem tm_size : (Tryd.prog.info? 31).map (·.size) = some 4 := by kernel_rfl
/-- A slice of terms from its beginning. -/
theorem slice_tm0 (b o n c : Nat) (hn : n ≤ c) (hc : 0 < c) (W : World) : (Instr.sliceAt 29 (.slice (some ⟨b, o, none⟩) n c) (some (.int .i64 0)) none none).run Tryd.prog W = .ok (.slice (some ⟨b, o, none⟩) n c) W := by
  have hsz : (sizeOf (Tryd.prog.elem 29)).run Tryd.prog W = .ok 4 W := by kernel_rfl
  rw [run_sliceAt_slice _ _ _ _ _ _ (by kernel_rfl), run_slice_l _ _ _ _ _ (by kernel_rfl) .i64 0 (by omega) (by omega), hsz]
  simp [Result.andThen, sliced, Go.WideShapes.add_plain, Nat.ne_of_gt hc]

theorem scat7 (a b c d e f g : List UInt8) : Value.string (⟨a.toArray⟩ ++ ⟨b.toArray⟩ ++ ⟨c.toArray⟩ ++ ⟨d.toArray⟩ ++ ⟨e.toArray⟩ ++ ⟨f.toArray⟩ ++ ⟨g.toArray⟩) = S (a ++ b ++ c ++ d ++ e ++ f ++ g) := congrArg Value.string (by apply ByteArray.ext; simp [ByteArray.data_append])
theorem scat5 (a b c d e : List UInt8) : Value.string (⟨a.toArray⟩ ++ ⟨b.toArray⟩ ++ ⟨c.toArray⟩ ++ ⟨d.toArray⟩ ++ ⟨e.toArray⟩) = S (a ++ b ++ c ++ d ++ e) := congrArg Value.string (by apply ByteArray.ext; simp [ByteArray.data_append])

set_option maxRecDepth 100000 in
set_option maxHeartbeats 8000000 in
theorem dInfix_any (ds : List DVal) (os : List OVal) (M1 M2 N1 N2 : Nat) (n : List UInt8) (d : DVal) (oo : OVal) (hn : n.length ≤ 1000) (hd : ds.find? (fun d => decide (d.n = n)) = some d) (hdp : d.p = 0) (ho : os.find? (fun d => decide (d.n = n)) = some oo) (hof : 3 ≤ oo.f)
    (ka kb pa pb : Int) (na nb sa sb : List UInt8) (la lb ca cb : Nat) (Aa Ab U : Option Addr) (ul uc b o c : Nat) (hc : 2 ≤ c) (hsa : sa.length ≤ 1000000) (hsb : sb.length ≤ 1000000) (w : World)
    (h1 : VMap zD w M1 N1 (gD ds)) (h2 : VMap zO w M2 N2 (gO os)) (hb : b < w.heap.size)
    (a0 : w.cell? ⟨b, o, none⟩ = some (.int .i64 ka)) (a1 : w.cell? ⟨b, o + 1, none⟩ = some (S na)) (a2 : w.cell? ⟨b, o + 2, none⟩ = some (.int .i64 pa)) (a3 : w.cell? ⟨b, o + 3, none⟩ = some (.slice Aa la ca))
    (b0 : w.cell? ⟨b, o + 4, none⟩ = some (.int .i64 kb)) (b1 : w.cell? ⟨b, o + 4 + 1, none⟩ = some (S nb)) (b2 : w.cell? ⟨b, o + 4 + 2, none⟩ = some (.int .i64 pb)) (b3 : w.cell? ⟨b, o + 4 + 3, none⟩ = some (.slice Ab lb cb))
    (CA : ∀ W, Below w.heap.size w W → Calls Tryd.prog 20 #[.agg #[.map (some M1), .map (some M2), .bool false], .agg #[.int .i64 ka, S na, .int .i64 pa, .slice Aa la ca], .slice U ul uc] W fun e w' => e = .returned (S sa) ∧ Below W.heap.size W w')
    (CB : ∀ W, Below w.heap.size w W → Calls Tryd.prog 20 #[.agg #[.map (some M1), .map (some M2), .bool false], .agg #[.int .i64 kb, S nb, .int .i64 pb, .slice Ab lb cb], .slice U ul uc] W fun e w' => e = .returned (S sb) ∧ Below W.heap.size W w') :
    Calls Tryd.prog 35 #[.agg #[.map (some M1), .map (some M2), .bool false], .agg #[.int .i64 4, S n, .int .i64 0, .slice (some ⟨b, o, none⟩) 2 c], .slice U ul uc] w fun e w' => e = .returned (S ([40] ++ sa ++ [32] ++ n ++ [32] ++ sb ++ [41])) ∧ Below w.heap.size w w' := by
  obtain ⟨dn, dk, dm, di, dA, dl, dc, dp⟩ := d
  obtain ⟨on, of, op⟩ := oo
  simp only at hdp hof
  subst hdp
  obtain ⟨wa, hwa⟩ : ∃ wa, w.alloc (.cells #[.map (some M1), .map (some M2), .bool false] 48) = wa := ⟨_, rfl⟩
  obtain ⟨wb, hwb⟩ : ∃ wb, wa.alloc (.cells #[.int .i64 4, S n, .int .i64 0, .slice (some ⟨b, o, none⟩) 2 c] 31) = wb := ⟨_, rfl⟩
  obtain ⟨wc, hwc⟩ : ∃ wc, wb.alloc (.cells #[S dn, .int .i64 dk, S dm, .int .i64 di, .slice dA dl dc, .int .i64 0] 33) = wc := ⟨_, rfl⟩
  obtain ⟨wd, hwd⟩ : ∃ wd, wc.alloc (.cells #[S on, .int .i64 of, .int .i64 op] 36) = wd := ⟨_, rfl⟩
  have ba : Below w.heap.size w wa := by rw [← hwa]; exact (Below.refl _ _).alloc (Nat.le_refl _) _
  have bab : Below wa.heap.size wa wb := by rw [← hwb]; exact (Below.refl _ _).alloc (Nat.le_refl _) _
  have bbc : Below wb.heap.size wb wc := by rw [← hwc]; exact (Below.refl _ _).alloc (Nat.le_refl _) _
  have bcd : Below wc.heap.size wc wd := by rw [← hwd]; exact (Below.refl _ _).alloc (Nat.le_refl _) _
  have qa : wa.heap[w.heap.size]? = some (.cells #[.map (some M1), .map (some M2), .bool false] 48 (0, 0)) := by rw [← hwa]; exact heap_alloc_new _ _
  have qb : wb.heap[wa.heap.size]? = some (.cells #[.int .i64 4, S n, .int .i64 0, .slice (some ⟨b, o, none⟩) 2 c] 31 (0, 0)) := by rw [← hwb]; exact heap_alloc_new _ _
  have qc : wc.heap[wb.heap.size]? = some (.cells #[S dn, .int .i64 dk, S dm, .int .i64 di, .slice dA dl dc, .int .i64 0] 33 (0, 0)) := by rw [← hwc]; exact heap_alloc_new _ _
  have qd : wd.heap[wc.heap.size]? = some (.cells #[S on, .int .i64 of, .int .i64 op] 36 (0, 0)) := by rw [← hwd]; exact heap_alloc_new _ _
  have s1 := lt_of_block qa
  have s2 := lt_of_block qb
  have s3 := lt_of_block qc
  have t2 := bab.size
  have t3 := bbc.size
  have t4 := bcd.size
  -- what is read in each of the worlds
  have qab := (bab.block _ s1).trans qa
  have qac := (bbc.block _ (by omega)).trans qab
  have qad := (bcd.block _ (by omega)).trans qac
  have qbc := (bbc.block _ s2).trans qb
  have qbd := (bcd.block _ (by omega)).trans qbc
  have qcd := (bcd.block _ s3).trans qc
  obtain ⟨ma0, ma1, ma2⟩ := cells3d qab
  obtain ⟨mc0, mc1, mc2⟩ := cells3d qac
  obtain ⟨md0, md1, md2⟩ := cells3d qad
  have tb1 : wb.cell? ⟨wa.heap.size, 1, none⟩ = some (S n) := Lib.cell_of_heap qb 1
  have tc1 : wc.cell? ⟨wa.heap.size, 1, none⟩ = some (S n) := Lib.cell_of_heap qbc 1
  have tc3 : wc.cell? ⟨wa.heap.size, 3, none⟩ = some (.slice (some ⟨b, o, none⟩) 2 c) := Lib.cell_of_heap qbc 3
  have tc5 : wc.cell? ⟨wb.heap.size, 5, none⟩ = some (.int .i64 0) := Lib.cell_of_heap qc 5
  have td1 : wd.cell? ⟨wa.heap.size, 1, none⟩ = some (S n) := Lib.cell_of_heap qbd 1
  have td6 : wd.cell? ⟨wc.heap.size, 1, none⟩ = some (.int .i64 of) := Lib.cell_of_heap qd 1
  have bb2 : Below w.heap.size w wb := ba.trans (bab.mono (by omega))
  have bc2 : Below w.heap.size w wc := bb2.trans (bbc.mono (by omega))
  have bd2 : Below w.heap.size w wd := bc2.trans (bcd.mono (by omega))
  have hl1 := (h1.below bb2).look1 45 33 Tryd.underlying45 zD_run n (by omega)
  rw [show gD ds n = some (DVal.v ⟨dn, dk, dm, di, dA, dl, dc, 0⟩) from by unfold gD; rw [hd]; rfl] at hl1
  simp only [Option.getD_some, DVal.v] at hl1
  have hl2 := (h2.below bc2).look 46 36 Tryd.underlying46 zO_run n (by omega)
  rw [show gO os n = some (OVal.v ⟨on, of, op⟩) from by unfold gO; rw [ho]; rfl] at hl2
  simp only [Option.getD_some, Option.isSome_some, OVal.v] at hl2
  have hsl := slice_tm0 b o 2 c hc (by omega)
  have hge : decide (of ≥ 3) = true := by simpa using hof
  have SC : Hid (∀ W, Below wd.heap.size wd W → (W.cell? ⟨w.heap.size, 0, none⟩ = some (.map (some M1)) ∧ W.cell? ⟨w.heap.size, 1, none⟩ = some (.map (some M2)) ∧ W.cell? ⟨w.heap.size, 2, none⟩ = some (.bool false)) ∧ W.cell? ⟨wa.heap.size, 1, none⟩ = some (S n) ∧
      (W.cell? ⟨b, o, none⟩ = some (.int .i64 ka) ∧ W.cell? ⟨b, o + 1, none⟩ = some (S na) ∧ W.cell? ⟨b, o + 2, none⟩ = some (.int .i64 pa) ∧ W.cell? ⟨b, o + 3, none⟩ = some (.slice Aa la ca)) ∧
      (W.cell? ⟨b, o + 4, none⟩ = some (.int .i64 kb) ∧ W.cell? ⟨b, o + 4 + 1, none⟩ = some (S nb) ∧ W.cell? ⟨b, o + 4 + 2, none⟩ = some (.int .i64 pb) ∧ W.cell? ⟨b, o + 4 + 3, none⟩ = some (.slice Ab lb cb))) := Lib.hid fun W hW => by
    have hw2 := bd2.trans (hW.mono bd2.size)
    exact ⟨cells3d ((hW.block _ (by omega)).trans qad), Lib.cell_of_heap ((hW.block _ (by omega)).trans qbd) 1,
      ⟨(hw2.cell (p := ⟨b, _, none⟩) hb).trans a0, (hw2.cell (p := ⟨b, _, none⟩) hb).trans a1, (hw2.cell (p := ⟨b, _, none⟩) hb).trans a2, (hw2.cell (p := ⟨b, _, none⟩) hb).trans a3⟩,
      ⟨(hw2.cell (p := ⟨b, _, none⟩) hb).trans b0, (hw2.cell (p := ⟨b, _, none⟩) hb).trans b1, (hw2.cell (p := ⟨b, _, none⟩) hb).trans b2, (hw2.cell (p := ⟨b, _, none⟩) hb).trans b3⟩⟩
  have CA2 := Lib.hid (fun W (hW : Below wd.heap.size wd W) => CA W (bd2.trans (hW.mono bd2.size)))
  have CB2 := Lib.hid (fun W (hW : Below wd.heap.size wd W) => CB W (bd2.trans (hW.mono bd2.size)))
  have BD2 := Lib.hid bd2
  have HWC := Lib.hid hwc
  have HWD := Lib.hid hwd
  have hcat1 : ¬ 9223372036854775807 < 1 + sa.length := by omega
  have hcat2 : ¬ 9223372036854775807 < 1 + sa.length + 1 := by omega
  have hcat3 : ¬ 9223372036854775807 < 1 + sa.length + 1 + n.length := by omega
  have hcat4 : ¬ 9223372036854775807 < 1 + sa.length + 1 + n.length + 1 := by omega
  have hcat5 : ¬ 9223372036854775807 < 1 + sa.length + 1 + n.length + 1 + sb.length := by omega
  have hcat6 : ¬ 9223372036854775807 < 1 + sa.length + 1 + n.length + 1 + sb.length + 1 := by omega
  clear h1 h2 CA CB ba bab bbc bcd qa qb qc qd qab qac qad qbc qbd qcd bb2 bc2 bd2 hd ho hwc hwd a0 a1 a2 a3 b0 b1 b2 b3
  go_enter Tryd.func35, Tryd.ntmps35
  go_upto_region 2 with fail
  rw [HWC.out]
  go_upto_region 8 with fail
  rw [HWD.out]
  go_upto_region 11 with fail
  have G0 : Below wd.heap.size wd wd.drew := (Below.refl _ _).drew
  have AA : ∀ A B : World, Below wd.heap.size wd A → Below A.heap.size A B → Below wd.heap.size wd B := fun A B h k => h.trans (k.mono h.size)
  go_region_held3 (fun W => (W.cell? ⟨w.heap.size, 0, none⟩ = some (.map (some M1)) ∧ W.cell? ⟨w.heap.size, 1, none⟩ = some (.map (some M2)) ∧ W.cell? ⟨w.heap.size, 2, none⟩ = some (.bool false)) ∧ W.cell? ⟨wa.heap.size, 1, none⟩ = some (S n) ∧
      (W.cell? ⟨b, o, none⟩ = some (.int .i64 ka) ∧ W.cell? ⟨b, o + 1, none⟩ = some (S na) ∧ W.cell? ⟨b, o + 2, none⟩ = some (.int .i64 pa) ∧ W.cell? ⟨b, o + 3, none⟩ = some (.slice Aa la ca)) ∧
      (W.cell? ⟨b, o + 4, none⟩ = some (.int .i64 kb) ∧ W.cell? ⟨b, o + 4 + 1, none⟩ = some (S nb) ∧ W.cell? ⟨b, o + 4 + 2, none⟩ = some (.int .i64 pb) ∧ W.cell? ⟨b, o + 4 + 3, none⟩ = some (.slice Ab lb cb)))
    (first | exact SC.out _ G0 | (refine SC.out _ ?_; assumption))
    (first
      | (go_at_call 20; ((with_reducible refine (CA2.out _ ?_).mono ?_)); assumption; rintro e w6 ⟨rfl, hb6'⟩; have hb6 := AA _ _ (by assumption) hb6')
      | (go_at_call 20; ((with_reducible refine (CB2.out _ ?_).mono ?_)); assumption; rintro e w7 ⟨rfl, hb7'⟩; have hb7 := AA _ _ (by assumption) hb7'))
  all_goals
    clear hcat1 hcat2 hcat3 hcat4 hcat5 hcat6
    go_wp2_with fail
    go_ret
    exact ⟨congrArg Ending.returned (scat7 _ _ _ _ _ _ _), BD2.out.trans (hb7.mono BD2.out.size)⟩

set_option maxRecDepth 100000 in
set_option maxHeartbeats 2000000 in
theorem dTermC_any (M1 M2 : Nat) (n s : List UInt8) (p : Int) (A U : Option Addr) (l c ul uc : Nat) (w : World)
    (CC : ∀ W, Below w.heap.size w W → Calls Tryd.prog 35 #[.agg #[.map (some M1), .map (some M2), .bool false], .agg #[.int .i64 4, S n, .int .i64 p, .slice A l c], .slice U ul uc] W fun e w' => e = .returned (S s) ∧ Below W.heap.size W w') :
    Calls Tryd.prog 20 #[.agg #[.map (some M1), .map (some M2), .bool false], .agg #[.int .i64 4, S n, .int .i64 p, .slice A l c], .slice U ul uc] w fun e w' => e = .returned (S s) ∧ Below w.heap.size w w' := by
  obtain ⟨wa, hwa⟩ : ∃ wa, w.alloc (.cells #[.map (some M1), .map (some M2), .bool false] 48) = wa := ⟨_, rfl⟩
  obtain ⟨wb, hwb⟩ : ∃ wb, wa.alloc (.cells #[.int .i64 4, S n, .int .i64 p, .slice A l c] 31) = wb := ⟨_, rfl⟩
  have ba : Below w.heap.size w wa := by rw [← hwa]; exact (Below.refl _ _).alloc (Nat.le_refl _) _
  have bab : Below wa.heap.size wa wb := by rw [← hwb]; exact (Below.refl _ _).alloc (Nat.le_refl _) _
  have sa := ba.size
  have qa : wa.heap[w.heap.size]? = some (.cells #[.map (some M1), .map (some M2), .bool false] 48 (0, 0)) := by rw [← hwa]; exact heap_alloc_new _ _
  have qb : wb.heap[wa.heap.size]? = some (.cells #[.int .i64 4, S n, .int .i64 p, .slice A l c] 31 (0, 0)) := by rw [← hwb]; exact heap_alloc_new _ _
  have bb : Below w.heap.size w wb := ba.trans (bab.mono (by omega))
  obtain ⟨a0, a1, a2⟩ := cells3d ((bab.block _ (lt_of_block qa)).trans qa)
  have x0 : wb.cell? ⟨wa.heap.size, 0, none⟩ = some (.int .i64 4) := Lib.cell_of_heap qb 0
  have x1 : wb.cell? ⟨wa.heap.size, 1, none⟩ = some (S n) := Lib.cell_of_heap qb 1
  have x2 : wb.cell? ⟨wa.heap.size, 2, none⟩ = some (.int .i64 p) := Lib.cell_of_heap qb 2
  have x3 : wb.cell? ⟨wa.heap.size, 3, none⟩ = some (.slice A l c) := Lib.cell_of_heap qb 3
  have C := Lib.hid (CC wb bb)
  have B := Lib.hid bb
  clear CC ba bab qa qb bb
  go_enter Tryd.func20, Tryd.ntmps20
  go_wp2_with fail
  refine C.out.mono ?_
  rintro e w2 ⟨rfl, hb2⟩
  go_wp2_with fail
  go_ret
  exact ⟨rfl, B.out.trans (hb2.mono B.out.size)⟩

/-- A slice of names up to its length, without spare room. -/
theorem slice_full (b o n c : Nat) (hc : n ≤ c) (h0 : 0 < n) (W : World) : (Instr.sliceAt 24 (.slice (some ⟨b, o, none⟩) n c) none (some (.int .i64 (n : Int))) (some (.int .i64 (n : Int)))).run Tryd.prog W = .ok (.slice (some ⟨b, o, none⟩) n n) W := by
  have hsz : (sizeOf (Tryd.prog.elem 24)).run Tryd.prog W = .ok 1 W := by kernel_rfl
  rw [run_sliceAt_slice _ _ _ _ _ _ (by kernel_rfl), run_slice_hm _ _ _ _ _ (by kernel_rfl) .i64 .i64 (n : Int) (n : Int) (by omega) (by omega) (by omega), hsz]
  simp [Result.andThen, sliced, Go.WideShapes.add_plain, Nat.ne_of_gt h0]

set_option maxRecDepth 100000 in
set_option maxHeartbeats 8000000 in
theorem dLam_any (M1 M2 : Nat) (n nm sx : List UInt8) (p kx px : Int) (nx : List UInt8) (lx cx : Nat) (Ax : Option Addr) (b o c : Nat) (u : List (List UInt8)) (U : Option Addr) (uc : Nat) (hc : 1 ≤ c) (hn : n.length ≤ 1000000) (hnm : nm.length ≤ 1000000) (hsx : sx.length ≤ 1000000) (hu : u.length ≤ 50) (hu0 : 0 < u.length) (huc : u.length ≤ uc)
    (w : World) (hU : NamesAt w U u) (hF : Lfc.FirstFree (Lfc.hintOf n) u nm) (hb : b < w.heap.size)
    (a0 : w.cell? ⟨b, o, none⟩ = some (.int .i64 kx)) (a1 : w.cell? ⟨b, o + 1, none⟩ = some (S nx)) (a2 : w.cell? ⟨b, o + 2, none⟩ = some (.int .i64 px)) (a3 : w.cell? ⟨b, o + 3, none⟩ = some (.slice Ax lx cx))
    (CX : ∀ W U' c', Below w.heap.size w W → NamesAt W U' (u ++ [nm]) → u.length + 1 ≤ c' → Calls Tryd.prog 20 #[.agg #[.map (some M1), .map (some M2), .bool false], .agg #[.int .i64 kx, S nx, .int .i64 px, .slice Ax lx cx], .slice U' (u.length + 1) c'] W fun e w' => e = .returned (S sx) ∧ Below W.heap.size W w') :
    Calls Tryd.prog 20 #[.agg #[.map (some M1), .map (some M2), .bool false], .agg #[.int .i64 3, S n, .int .i64 p, .slice (some ⟨b, o, none⟩) 1 c], .slice U u.length uc] w fun e w' => e = .returned (S ([40, 91] ++ nm ++ [93, 32] ++ sx ++ [41])) ∧ Below w.heap.size w w' := by
  obtain ⟨it, hi, hz0, hz1, hz2⟩ := str_info
  obtain ⟨wa, hwa⟩ : ∃ wa, w.alloc (.cells #[.map (some M1), .map (some M2), .bool false] 48) = wa := ⟨_, rfl⟩
  obtain ⟨wb, hwb⟩ : ∃ wb, wa.alloc (.cells #[.int .i64 3, S n, .int .i64 p, .slice (some ⟨b, o, none⟩) 1 c] 31) = wb := ⟨_, rfl⟩
  have ba : Below w.heap.size w wa := by rw [← hwa]; exact (Below.refl _ _).alloc (Nat.le_refl _) _
  have bab : Below wa.heap.size wa wb := by rw [← hwb]; exact (Below.refl _ _).alloc (Nat.le_refl _) _
  have sa := ba.size
  have qa : wa.heap[w.heap.size]? = some (.cells #[.map (some M1), .map (some M2), .bool false] 48 (0, 0)) := by rw [← hwa]; exact heap_alloc_new _ _
  have qb : wb.heap[wa.heap.size]? = some (.cells #[.int .i64 3, S n, .int .i64 p, .slice (some ⟨b, o, none⟩) 1 c] 31 (0, 0)) := by rw [← hwb]; exact heap_alloc_new _ _
  have bb : Below w.heap.size w wb := ba.trans (bab.mono (by omega))
  obtain ⟨x0', x1', x2'⟩ := cells3d ((bab.block _ (lt_of_block qa)).trans qa)
  have x0 : wb.cell? ⟨wa.heap.size, 0, none⟩ = some (.int .i64 3) := Lib.cell_of_heap qb 0
  have x1 : wb.cell? ⟨wa.heap.size, 1, none⟩ = some (S n) := Lib.cell_of_heap qb 1
  have x3 : wb.cell? ⟨wa.heap.size, 3, none⟩ = some (.slice (some ⟨b, o, none⟩) 1 c) := Lib.cell_of_heap qb 3
  have c0 := (bb.cell (p := ⟨b, _, none⟩) hb).trans a0
  have c1 := (bb.cell (p := ⟨b, _, none⟩) hb).trans a1
  have c2 := (bb.cell (p := ⟨b, _, none⟩) hb).trans a2
  have c3 := (bb.cell (p := ⟨b, _, none⟩) hb).trans a3
  have hUb := hU.below bb
  have FR := Lib.hid (dFresh_any n u U uc wb hn (by omega) hUb)
  have HF := Lib.hid hF
  have HX := Lib.hid CX
  have HB := Lib.hid bb
  obtain ⟨g, og, rfl, hg, hgc⟩ := hUb hu0
  have hsl := slice_full g og u.length uc huc hu0
  have hcat1 : ¬ 9223372036854775807 < 2 + nm.length := by omega
  have hcat2 : ¬ 9223372036854775807 < 2 + nm.length + 2 := by omega
  have hcat3 : ¬ 9223372036854775807 < 2 + nm.length + 2 + sx.length := by omega
  have hcat4 : ¬ 9223372036854775807 < 2 + nm.length + 2 + sx.length + 1 := by omega
  have bt : Below wb.heap.size wb ((wb.alloc (.cells #[S nm] 9)).drew) := ((Below.refl _ _).alloc (Nat.le_refl _) _).drew
  have ht0 : ((wb.alloc (.cells #[S nm] 9)).drew).cell? ⟨wb.heap.size, 0, none⟩ = some (S nm) := Lib.cell_of_heap (heap_alloc_new wb (.cells #[S nm] 9)) 0
  have HG : Hid (∀ ad : Addr, some (⟨g, og, none⟩ : Addr) = some ad → ∀ (j : Nat) (v : Value), (strCells u)[j]? = some v → ((wb.alloc (.cells #[S nm] 9)).drew).cell? (ad.add j) = some v) := Lib.hid (fun ad h j v hj => by
    cases h
    rw [Addr.add_lit]
    have hjl : j < u.length := by
      rcases Nat.lt_or_ge j u.length with h1 | h1
      · exact h1
      · rw [List.getElem?_eq_none (by simpa [strCells] using h1)] at hj; cases hj
    have := (bt.cell (p := ⟨g, og + j, none⟩) hg).trans (hgc j hjl)
    rw [this]
    simpa [strCells, hjl] using hj)
  have HNT : Hid (∀ (j : Nat) (v : Value), [S nm][j]? = some v → ((wb.alloc (.cells #[S nm] 9)).drew).cell? ((⟨wb.heap.size, 0, none⟩ : Addr).add j) = some v) := Lib.hid (fun j v hj => by
    cases j with
    | zero => rw [addr_add]; simp at hj; rw [← hj]; exact ht0
    | succ j => simp at hj)
  have H1C : ∀ v ∈ [S nm], v.oneCell' = true := by intro v hv; simp at hv; subst hv; rfl
  have HLN : (strCells u).length = u.length * 1 := by simp [strCells]
  have hlm : u.length + 1 ≤ maxLen := by unfold maxLen; omega
  have hl16 : (u.length + 1) * 16 ≤ 140737488355328 := by omega
  have hfull : u.length < u.length + 1 := by omega
  have OWN9 : Hid (∀ (v9 : Value) (w9 : World), w9.ownsRow ((wb.alloc (.cells #[S nm] 9)).drew).heap.size 9 1 v9 (u.length + 1) (strCells u ++ [S nm]) → ((wb.alloc (.cells #[S nm] 9)).drew).grownBy w9 none → ∃ A9 c9, v9 = .slice A9 (u.length + 1) c9 ∧ Below wb.heap.size wb w9 ∧ NamesAt w9 A9 (u ++ [nm]) ∧ u.length + 1 ≤ c9) := Lib.hid (fun v9 w9 ho hg9 => by
    obtain ⟨A9, c9, rfl⟩ := own_form ho
    refine ⟨A9, c9, rfl, bt.grown hg9 (by simp) (fun k e => by cases e), ?_, ?_⟩
    · have h2 : w9.ownsRow ((wb.alloc (.cells #[S nm] 9)).drew).heap.size 9 1 (.slice A9 (u ++ [nm]).length c9) (u ++ [nm]).length (strCells (u ++ [nm])) := by
        rw [strCells_snoc, List.length_append]; exact ho
      exact own_strs h2
    · rcases ho.2 with ⟨_, h0⟩ | ⟨g, cap, cur, hv, _, _, hcap, _⟩
      · omega
      · injection hv with _ _ e3; rw [e3]; exact hcap)
  have SC : Hid (∀ W, Below wb.heap.size wb W → (W.cell? ⟨w.heap.size, 0, none⟩ = some (.map (some M1)) ∧ W.cell? ⟨w.heap.size, 1, none⟩ = some (.map (some M2)) ∧ W.cell? ⟨w.heap.size, 2, none⟩ = some (.bool false)) ∧ W.cell? ⟨wa.heap.size, 3, none⟩ = some (.slice (some ⟨b, o, none⟩) 1 c) ∧
      (W.cell? ⟨b, o, none⟩ = some (.int .i64 kx) ∧ W.cell? ⟨b, o + 1, none⟩ = some (S nx) ∧ W.cell? ⟨b, o + 2, none⟩ = some (.int .i64 px) ∧ W.cell? ⟨b, o + 3, none⟩ = some (.slice Ax lx cx))) := Lib.hid fun W hW => by
    have hw2 := HB.out.trans (hW.mono HB.out.size)
    exact ⟨cells3d ((hW.block _ (lt_of_block ((bab.block _ (lt_of_block qa)).trans qa))).trans ((bab.block _ (lt_of_block qa)).trans qa)), Lib.cell_of_heap ((hW.block _ (lt_of_block qb)).trans qb) 3,
      ⟨(hw2.cell (p := ⟨b, _, none⟩) hb).trans a0, (hw2.cell (p := ⟨b, _, none⟩) hb).trans a1, (hw2.cell (p := ⟨b, _, none⟩) hb).trans a2, (hw2.cell (p := ⟨b, _, none⟩) hb).trans a3⟩⟩
  have HX2 := Lib.hid (fun W U' c' (hW : Below wb.heap.size wb W) h1 h2 => HX.out W U' c' (HB.out.trans (hW.mono HB.out.size)) h1 h2)
  have G0 : Below wb.heap.size wb wb.drew := (Below.refl _ _).drew
  clear hU hF CX ba bab qa qb bb a0 a1 a2 a3 hUb hgc ht0 HX
  go_enter Tryd.func20, Tryd.ntmps20
  go_wp2_with fail
  refine FR.out.mono ?_
  rintro e w2 ⟨⟨s1, rfl, F1⟩, hw2⟩
  obtain rfl := hw2
  obtain rfl := (F1.unique HF.out).symm
  clear F1
  go_upto_region 12 with fail
  go_region_held3 (fun W => (W.cell? ⟨w.heap.size, 0, none⟩ = some (.map (some M1)) ∧ W.cell? ⟨w.heap.size, 1, none⟩ = some (.map (some M2)) ∧ W.cell? ⟨w.heap.size, 2, none⟩ = some (.bool false)) ∧ W.cell? ⟨wa.heap.size, 3, none⟩ = some (.slice (some ⟨b, o, none⟩) 1 c) ∧
      (W.cell? ⟨b, o, none⟩ = some (.int .i64 kx) ∧ W.cell? ⟨b, o + 1, none⟩ = some (S nx) ∧ W.cell? ⟨b, o + 2, none⟩ = some (.int .i64 px) ∧ W.cell? ⟨b, o + 3, none⟩ = some (.slice Ax lx cx)))
    (first | exact SC.out _ G0 | exact SC.out _ bt | (refine SC.out _ ?_; assumption))
    (first
      | (refine step_append_grows (by rfl) (.tmp 83) (.tmp 85) 24 (by rfl) 9 it (S []) 1 16 Tryd.underlying24 hi hz0 hz1 hz2 rfl (by decide) (some ⟨g, og, none⟩) u.length u.length (strCells u) (by rfl) (by intro h; cases h) HLN HG.out ⟨wb.heap.size, 0, none⟩ 1 1 [S nm] (by rfl) (by rfl) HNT.out H1C hfull hlm hl16 ?_; intro v9 w9 hown9 hg9; obtain ⟨A9, c9, rfl, b9, hn9, hc9⟩ := OWN9.out _ _ hown9 hg9; clear hown9 hg9)
      | (go_at_call 20; ((with_reducible refine (HX2.out _ _ _ ?_ ?_ ?_).mono ?_)); assumption; assumption; assumption; rintro e w6 ⟨rfl, hb6'⟩; have hb6 := b9.trans (hb6'.mono b9.size)))
  all_goals
    clear hcat1 hcat2 hcat3 hcat4
    go_wp2_with fail
    go_ret
    exact ⟨congrArg Ending.returned (scat5 _ _ _ _ _), HB.out.trans (hb6.mono HB.out.size)⟩
end Go.Proofs.YtlcikiiijelpjaaDoor
