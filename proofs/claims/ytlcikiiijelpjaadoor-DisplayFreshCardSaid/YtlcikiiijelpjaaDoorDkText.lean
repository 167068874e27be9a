/- Contract of display.Text: at a term whose variables are named, and at one with a variable without a name. -/
import Derived.Test.YtlcikiiijelpjaaDoorDkTerm
import Derived.Test.YtlcikiiijelpjaaDoorTmScope
import Derived.Test.YtlcikiiijelpjaaDoorStepApp
set_option linter.unusedVariables false
set_option linter.unusedSimpArgs false
namespace Go.Proofs.YtlcikiiijelpjaaDoor
open Go.RowKit Go.Maps Go.WideMaps

/-- A part of a slice of names. -/
theorem slice_take (b o n c k : Nat) (hk : k < n) (hc : n ≤ c) (W : World) : (Instr.sliceAt 24 (.slice (some ⟨b, o, none⟩) n c) none (some (.int .i64 (k : Int))) none).run Tryd.prog W = .ok (.slice (some ⟨b, o, none⟩) k c) W := by
  have hsz : (sizeOf (Tryd.prog.elem 24)).run Tryd.prog W = .ok 1 W := by kernel_rfl
  rw [run_sliceAt_slice _ _ _ _ _ _ (by kernel_rfl), run_slice_h _ _ _ _ _ (by kernel_rfl) .i64 (k : Int) (by omega) (by omega), hsz]
  simp [Result.andThen, sliced, Go.WideShapes.add_plain]
  try omega
theorem cells4d {W : World} {g : Nat} {v0 v1 v2 v3 : Value} {t : TypeId} (h : W.heap[g]? = some (.cells #[v0, v1, v2, v3] t (0, 0))) : W.cell? ⟨g, 0, none⟩ = some v0 ∧ W.cell? ⟨g, 1, none⟩ = some v1 ∧ W.cell? ⟨g, 2, none⟩ = some v2 ∧ W.cell? ⟨g, 3, none⟩ = some v3 :=
  ⟨Lib.cell_of_heap h 0, Lib.cell_of_heap h 1, Lib.cell_of_heap h 2, Lib.cell_of_heap h 3⟩
/-- The names of the variables may be there. -/
def NamesOK (used ns : List (List UInt8)) : Prop := ∀ k (h : k < ns.length), ns[k].length ≤ 1000 ∧ Lfc.isName ns[k] = true ∧ decide (ns[k] ∈ used) = false ∧ decide (ns[k] ∈ ns.take k) = false

set_option maxRecDepth 100000 in
set_option maxHeartbeats 8000000 in
theorem dText_scope (ds : List DVal) (os : List OVal) (ns : List (List UInt8)) (T : Lfc.Raw) (A1 A2 A3 : Option Addr) (c1 c2 c3 : Nat) (v : Value) (w : World) (hd : ds.length ≤ 1000) (ho : os.length ≤ 1000) (hns : ns.length ≤ 1000) (hc3 : ns.length ≤ c3) (hdn : ∀ d ∈ ds, d.n.length ≤ 1000000) (hon : ∀ d ∈ os, d.n.length ≤ 1000000)
    (h1 : DeclsAt w A1 ds) (h2 : OValsAt w A2 os) (h3 : NamesAt w A3 ns) (hok : NamesOK (ds.map DVal.n ++ os.map OVal.n) ns) (hv : TreeV w T v) (hsz : T.size ≤ 1000000) (hwf : T.twf = 0) (hpos : ∀ y ∈ T.nodes 0, -1000000000 ≤ y.2.pos ∧ y.2.pos ≤ 1000000000)
    (hsc : (ns.length : Int) < Lfc.scopeN (T.nodes 0)) :
    Calls Tryd.prog 10 #[.slice A1 ds.length c1, .slice A2 os.length c2, .slice A3 ns.length c3, v, .bool false] w fun e w' => e = .returned (.tuple #[S [], .int .i64 3]) ∧ Below w.heap.size w w' := by
  obtain ⟨k, nm, p, ts⟩ := T
  obtain ⟨A, c, rfl, hc, hA⟩ := hv.open_
  obtain ⟨wa, hwa⟩ : ∃ wa, w.alloc (.cells #[.int .i64 k, S nm, .int .i64 p, .slice A ts.length c] 31) = wa := ⟨_, rfl⟩
  have ba : Below w.heap.size w wa := by rw [← hwa]; exact (Below.refl _ _).alloc (Nat.le_refl _) _
  have qa : wa.heap[w.heap.size]? = some (.cells #[.int .i64 k, S nm, .int .i64 p, .slice A ts.length c] 31 (0, 0)) := by rw [← hwa]; exact heap_alloc_new _ _
  have sa := lt_of_block qa
  have h1a : DeclsAt wa A1 ds := fun h => by
    obtain ⟨b, o, e, hb, hc⟩ := h1 h
    exact ⟨b, o, e, Nat.lt_of_lt_of_le hb ba.size, fun i hi => by
      obtain ⟨d0, d1, d2, d3, d4, d5⟩ := hc i hi
      exact ⟨(ba.cell (p := ⟨b, _, none⟩) hb).trans d0, (ba.cell (p := ⟨b, _, none⟩) hb).trans d1, (ba.cell (p := ⟨b, _, none⟩) hb).trans d2, (ba.cell (p := ⟨b, _, none⟩) hb).trans d3, (ba.cell (p := ⟨b, _, none⟩) hb).trans d4, (ba.cell (p := ⟨b, _, none⟩) hb).trans d5⟩⟩
  have h2a : OValsAt wa A2 os := fun h => by
    obtain ⟨b, o, e, hb, hc⟩ := h2 h
    exact ⟨b, o, e, Nat.lt_of_lt_of_le hb ba.size, fun i hi => by
      obtain ⟨d0, d1, d2⟩ := hc i hi
      exact ⟨(ba.cell (p := ⟨b, _, none⟩) hb).trans d0, (ba.cell (p := ⟨b, _, none⟩) hb).trans d1, (ba.cell (p := ⟨b, _, none⟩) hb).trans d2⟩⟩
  have KN := Lib.hid (known_any ds os A1 A2 c1 c2 wa hd ho hdn hon h1a h2a)
  have HA := Lib.hid ba
  have H3 := Lib.hid h3
  have HV := Lib.hid hv
  have HOK := Lib.hid hok
  have QA := Lib.hid qa
  have CW := Lib.hid (fun W (hW : Below w.heap.size w W) => tWf_any _ _ W (by omega) (hv.below hW))
  have CS := Lib.hid (fun W (hW : Below w.heap.size w W) => tScope_any _ _ W (by omega) (hv.below hW) hpos)
  rw [hwf] at CW
  rw [if_pos hwf] at CS

  generalize Lfc.scopeN (Lfc.Raw.nodes 0 (.node k nm p ts)) = sc at *
  clear ba qa h1a h2a h1 h2 h3 hok hv hwf hpos hsz hA
  go_enter Tryd.func10, Tryd.ntmps10
  go_wp2_with fail
  refine KN.out.mono ?_
  rintro e w2 ⟨B, N1, N2, Au, cu, rfl, b2, vm1, vm2, own2, hB, hB2⟩
  obtain ⟨w3, hw3⟩ : ∃ w3, w2.alloc (.cells #[.map (some (wa.heap.size + 1)), .map (some (wa.heap.size + 2)), .bool false] 48) = w3 := ⟨_, rfl⟩
  have b3 : Below w2.heap.size w2 w3 := by rw [← hw3]; exact (Below.refl _ _).alloc (Nat.le_refl _) _
  have s23 := b3.size
  have q3 : w3.heap[w2.heap.size]? = some (.cells #[.map (some (wa.heap.size + 1)), .map (some (wa.heap.size + 2)), .bool false] 48 (0, 0)) := by rw [← hw3]; exact heap_alloc_new _ _
  have b23 : Below wa.heap.size wa w3 := b2.trans (b3.mono b2.size)
  have B3 := Lib.hid (HA.out.trans (b23.mono HA.out.size))
  have QA3 := Lib.hid ((b23.block _ sa).trans QA.out)
  have VM1 := Lib.hid (vm1.below b3)
  have VM2 := Lib.hid (vm2.below b3)
  have OWN := Lib.hid (own2.kept (row := none) ⟨b3.os, b3.tape, b3.output, b3.size, fun k hk _ => b3.block k hk⟩ (by
    rcases own2.2 with ⟨e, _⟩ | ⟨g, cap, cur, e, _⟩
    · injection e with e1 _ _; rw [e1]; exact .inl rfl
    · rw [e]; exact .inr (fun h => by cases h)))
  have OB : Hid (∀ g, (Value.slice Au (ds.length + os.length) cu).ownBlock = some g → B ≤ g ∧ g < w2.heap.size) := Lib.hid (fun g hg => ⟨own_block_ge own2 g hg, by
    rcases own2.2 with ⟨e, _⟩ | ⟨g', cap, cur, e, _, hg', _⟩
    · injection e with e1 _ _; rw [e1] at hg; cases hg
    · rw [e] at hg; cases hg; exact lt_of_block hg'⟩)
  have hlu : (ds.map DVal.n ++ os.map OVal.n).length = ds.length + os.length := by simp
  have NU : Hid (NamesAt w3 Au (ds.map DVal.n ++ os.map OVal.n)) := Lib.hid (own_strs (c := cu) (by rw [hlu]; exact OWN.out))
  have Q3 := Lib.hid q3
  have HW3 := Lib.hid hw3
  have hBw := hB2
  clear hw3 q3 b3 b23 vm1 vm2 own2 b2
  go_upto_region 3 with fail
  rw [HW3.out]
  clear HW3
  have K1 := Lib.hid (fun (x : List UInt8) => contains_any (ds.map DVal.n ++ os.map OVal.n) x Au cu w3 (by rw [hlu]; omega) NU.out)
  rw [hlu] at K1
  go_wp2_with fail
  go_loopw [28] (fun i wr => ∃ j : Nat, j ≤ ns.length ∧ i = .int .i64 j ∧ wr = w3) (fun i _ => ns.length - (intOf i).toNat)
  case atStart => exact ⟨0, Nat.zero_le _, rfl, rfl⟩
  case round =>
    obtain ⟨j, hj, rfl, hwr⟩ := hrel
    obtain rfl := hwr.symm
    clear hwr
    by_cases hlt : j < ns.length
    · obtain ⟨b3', o3, hA3, hb3, hcs⟩ := (H3.out.below B3.out) (by omega)
      subst hA3
      have hnc := hcs j hlt
      obtain ⟨hnl, hn1, hn2, hn3⟩ := HOK.out j hlt
      have I1 := Lib.hid (isName_any ns[j] w3 (by omega))
      have I2 := Lib.hid (K1.out ns[j])
      have HNT : NamesAt w3 (some ⟨b3', o3, none⟩) (ns.take j) := fun h => ⟨b3', o3, rfl, hb3, fun q hq => by
        rw [List.getElem_take]; exact hcs q (by rw [List.length_take] at hq; omega)⟩
      have I3 := Lib.hid (contains_any (ns.take j) ns[j] _ c3 w3 (by rw [List.length_take]; omega) HNT)
      rw [List.length_take, Nat.min_eq_left (by omega)] at I3
      rw [hn1] at I1
      rw [hn2] at I2
      rw [hn3] at I3
      have hsl := slice_take b3' o3 ns.length c3 j hlt hc3
      have hi0 : (0 : Int) ≤ (j : Int) := Int.natCast_nonneg _
      have hi1 : (j : Int) < (ns.length : Int) := by omega
      generalize ns[j] = x at *
      clear hcs HNT hn1 hn2 hn3
      go_wp2_with fail
      refine I1.out.mono ?_
      rintro e w4 ⟨rfl, hw4⟩
      obtain rfl := hw4
      go_wp2_with fail
      refine I2.out.mono ?_
      rintro e w4 ⟨rfl, hw4⟩
      obtain rfl := hw4
      go_wp2_with fail
      refine I3.out.mono ?_
      rintro e w4 ⟨rfl, hw4⟩
      obtain rfl := hw4
      go_wp2_with fail
      go_roundw
      case rel => exact ⟨j + 1, by omega, by go_num, by first | rfl | trivial⟩
      case measure => simp [intOf]; omega
    · obtain rfl : j = ns.length := by omega
      obtain ⟨y0, y1, y2, y3⟩ := cells4d QA3.out
      have hsw : w.heap.size ≤ w3.heap.size := B3.out.size
      go_wp2_with fail
      refine (CW.out _ B3.out).mono ?_
      rintro e w4 ⟨rfl, hb4⟩
      have b4 := Lib.hid (B3.out.trans (hb4.mono hsw))
      have s34 := hb4.size
      have sa3 := lt_of_block QA3.out
      have QA4 := Lib.hid ((hb4.block _ sa3).trans QA3.out)
      have B34 := Lib.hid hb4
      obtain ⟨y0, y1, y2, y3⟩ := cells4d QA4.out
      clear hb4
      go_wp2_with fail
      refine (CS.out _ b4.out).mono ?_
      rintro e w5 ⟨rfl, hb5⟩
      have B35 := Lib.hid (B34.out.trans (hb5.mono s34))
      have s35 := B35.out.size
      have b5 := Lib.hid (B3.out.trans (B35.out.mono hsw))

      clear hb5
      have hg1 : decide (sc > (ns.length : Int)) = true := by simpa using hsc
      have hg2 : decide ((ns.length : Int) < sc) = true := by simpa using hsc
      go_wp2_with fail
      refine bodyPost_ret (results_tmp2 rfl _ _ _) rfl ?_
      exact ⟨rfl, b5.out⟩

set_option maxRecDepth 100000 in
set_option maxHeartbeats 8000000 in
theorem dText_ok (ds : List DVal) (os : List OVal) (ns : List (List UInt8)) (T : Lfc.Raw) (A1 A2 A3 : Option Addr) (c1 c2 c3 : Nat) (v : Value) (w : World) (hd : ds.length ≤ 1000) (ho : os.length ≤ 1000) (hns : ns.length ≤ 1000) (hc3 : ns.length ≤ c3) (hdn : ∀ d ∈ ds, d.n.length ≤ 1000000) (hon : ∀ d ∈ os, d.n.length ≤ 1000000)
    (h1 : DeclsAt w A1 ds) (h2 : OValsAt w A2 os) (h3 : NamesAt w A3 ns) (hok : NamesOK (ds.map DVal.n ++ os.map OVal.n) ns) (hv : TreeV w T v) (hsz : T.size ≤ 1000000) (hwf : T.twf = 0) (hpos : ∀ y ∈ T.nodes 0, -1000000000 ≤ y.2.pos ∧ y.2.pos ≤ 1000000000)
    (hsc : ¬ (ns.length : Int) < Lfc.scopeN (T.nodes 0)) (hcons : consOK ds T = true) (hns0 : 0 < ns.length) (s : List UInt8)
    (CT : ∀ (W : World) (M1 M2 N1 N2 : Nat) (A : Option Addr) (c : Nat), Below w.heap.size w W → VMap zD W M1 N1 (gD ds) → VMap zO W M2 N2 (gO os) → NamesAt W A (ds.map DVal.n ++ os.map OVal.n ++ ns) → ds.length + os.length + ns.length ≤ c →
      Calls Tryd.prog 20 #[.agg #[.map (some M1), .map (some M2), .bool false], v, .slice A (ds.length + os.length + ns.length) c] W fun e w' => e = .returned (S s) ∧ Below W.heap.size W w') :
    Calls Tryd.prog 10 #[.slice A1 ds.length c1, .slice A2 os.length c2, .slice A3 ns.length c3, v, .bool false] w fun e w' => e = .returned (.tuple #[S s, .int .i64 0]) ∧ Below w.heap.size w w' := by
  obtain ⟨k, nm, p, ts⟩ := T
  obtain ⟨A, c, rfl, hc, hA⟩ := hv.open_
  obtain ⟨wa, hwa⟩ : ∃ wa, w.alloc (.cells #[.int .i64 k, S nm, .int .i64 p, .slice A ts.length c] 31) = wa := ⟨_, rfl⟩
  have ba : Below w.heap.size w wa := by rw [← hwa]; exact (Below.refl _ _).alloc (Nat.le_refl _) _
  have qa : wa.heap[w.heap.size]? = some (.cells #[.int .i64 k, S nm, .int .i64 p, .slice A ts.length c] 31 (0, 0)) := by rw [← hwa]; exact heap_alloc_new _ _
  have sa := lt_of_block qa
  have h1a : DeclsAt wa A1 ds := fun h => by
    obtain ⟨b, o, e, hb, hc⟩ := h1 h
    exact ⟨b, o, e, Nat.lt_of_lt_of_le hb ba.size, fun i hi => by
      obtain ⟨d0, d1, d2, d3, d4, d5⟩ := hc i hi
      exact ⟨(ba.cell (p := ⟨b, _, none⟩) hb).trans d0, (ba.cell (p := ⟨b, _, none⟩) hb).trans d1, (ba.cell (p := ⟨b, _, none⟩) hb).trans d2, (ba.cell (p := ⟨b, _, none⟩) hb).trans d3, (ba.cell (p := ⟨b, _, none⟩) hb).trans d4, (ba.cell (p := ⟨b, _, none⟩) hb).trans d5⟩⟩
  have h2a : OValsAt wa A2 os := fun h => by
    obtain ⟨b, o, e, hb, hc⟩ := h2 h
    exact ⟨b, o, e, Nat.lt_of_lt_of_le hb ba.size, fun i hi => by
      obtain ⟨d0, d1, d2⟩ := hc i hi
      exact ⟨(ba.cell (p := ⟨b, _, none⟩) hb).trans d0, (ba.cell (p := ⟨b, _, none⟩) hb).trans d1, (ba.cell (p := ⟨b, _, none⟩) hb).trans d2⟩⟩
  have KN := Lib.hid (known_any ds os A1 A2 c1 c2 wa hd ho hdn hon h1a h2a)
  have HA := Lib.hid ba
  have H3 := Lib.hid h3
  have HV := Lib.hid hv
  have HOK := Lib.hid hok
  have QA := Lib.hid qa
  have CW := Lib.hid (fun W (hW : Below w.heap.size w W) => tWf_any _ _ W (by omega) (hv.below hW))
  have CS := Lib.hid (fun W (hW : Below w.heap.size w W) => tScope_any _ _ W (by omega) (hv.below hW) hpos)
  rw [hwf] at CW
  rw [if_pos hwf] at CS

  have CC := Lib.hid (fun W M1 M2 N1 (hW : Below w.heap.size w W) (hm : VMap zD W M1 N1 (gD ds)) => dConst_any ds M1 M2 N1 _ (by omega : (Lfc.Raw.node k nm p ts).size ≤ 1000000000) _ _ W (Nat.le_refl _) (hv.below hW) hm hcons)
  have HCT := Lib.hid CT
  clear CT

  generalize Lfc.scopeN (Lfc.Raw.nodes 0 (.node k nm p ts)) = sc at *
  clear ba qa h1a h2a h1 h2 h3 hok hv hwf hpos hsz hA
  go_enter Tryd.func10, Tryd.ntmps10
  go_wp2_with fail
  refine KN.out.mono ?_
  rintro e w2 ⟨B, N1, N2, Au, cu, rfl, b2, vm1, vm2, own2, hB, hB2⟩
  obtain ⟨w3, hw3⟩ : ∃ w3, w2.alloc (.cells #[.map (some (wa.heap.size + 1)), .map (some (wa.heap.size + 2)), .bool false] 48) = w3 := ⟨_, rfl⟩
  have b3 : Below w2.heap.size w2 w3 := by rw [← hw3]; exact (Below.refl _ _).alloc (Nat.le_refl _) _
  have s23 := b3.size
  have q3 : w3.heap[w2.heap.size]? = some (.cells #[.map (some (wa.heap.size + 1)), .map (some (wa.heap.size + 2)), .bool false] 48 (0, 0)) := by rw [← hw3]; exact heap_alloc_new _ _
  have b23 : Below wa.heap.size wa w3 := b2.trans (b3.mono b2.size)
  have B3 := Lib.hid (HA.out.trans (b23.mono HA.out.size))
  have QA3 := Lib.hid ((b23.block _ sa).trans QA.out)
  have VM1 := Lib.hid (vm1.below b3)
  have VM2 := Lib.hid (vm2.below b3)
  have OWN := Lib.hid (own2.kept (row := none) ⟨b3.os, b3.tape, b3.output, b3.size, fun k hk _ => b3.block k hk⟩ (by
    rcases own2.2 with ⟨e, _⟩ | ⟨g, cap, cur, e, _⟩
    · injection e with e1 _ _; rw [e1]; exact .inl rfl
    · rw [e]; exact .inr (fun h => by cases h)))
  have OB : Hid (∀ g, (Value.slice Au (ds.length + os.length) cu).ownBlock = some g → B ≤ g ∧ g < w2.heap.size) := Lib.hid (fun g hg => ⟨own_block_ge own2 g hg, by
    rcases own2.2 with ⟨e, _⟩ | ⟨g', cap, cur, e, _, hg', _⟩
    · injection e with e1 _ _; rw [e1] at hg; cases hg
    · rw [e] at hg; cases hg; exact lt_of_block hg'⟩)
  have hlu : (ds.map DVal.n ++ os.map OVal.n).length = ds.length + os.length := by simp
  have NU : Hid (NamesAt w3 Au (ds.map DVal.n ++ os.map OVal.n)) := Lib.hid (own_strs (c := cu) (by rw [hlu]; exact OWN.out))
  have Q3 := Lib.hid q3
  have HW3 := Lib.hid hw3
  have hBw := hB2
  clear hw3 q3 b3 b23 vm1 vm2 own2 b2
  go_upto_region 3 with fail
  rw [HW3.out]
  clear HW3
  have K1 := Lib.hid (fun (x : List UInt8) => contains_any (ds.map DVal.n ++ os.map OVal.n) x Au cu w3 (by rw [hlu]; omega) NU.out)
  rw [hlu] at K1
  go_wp2_with fail
  go_loopw [28] (fun i wr => ∃ j : Nat, j ≤ ns.length ∧ i = .int .i64 j ∧ wr = w3) (fun i _ => ns.length - (intOf i).toNat)
  case atStart => exact ⟨0, Nat.zero_le _, rfl, rfl⟩
  case round =>
    obtain ⟨j, hj, rfl, hwr⟩ := hrel
    obtain rfl := hwr.symm
    clear hwr
    by_cases hlt : j < ns.length
    · obtain ⟨b3', o3, hA3, hb3, hcs⟩ := (H3.out.below B3.out) (by omega)
      subst hA3
      have hnc := hcs j hlt
      obtain ⟨hnl, hn1, hn2, hn3⟩ := HOK.out j hlt
      have I1 := Lib.hid (isName_any ns[j] w3 (by omega))
      have I2 := Lib.hid (K1.out ns[j])
      have HNT : NamesAt w3 (some ⟨b3', o3, none⟩) (ns.take j) := fun h => ⟨b3', o3, rfl, hb3, fun q hq => by
        rw [List.getElem_take]; exact hcs q (by rw [List.length_take] at hq; omega)⟩
      have I3 := Lib.hid (contains_any (ns.take j) ns[j] _ c3 w3 (by rw [List.length_take]; omega) HNT)
      rw [List.length_take, Nat.min_eq_left (by omega)] at I3
      rw [hn1] at I1
      rw [hn2] at I2
      rw [hn3] at I3
      have hsl := slice_take b3' o3 ns.length c3 j hlt hc3
      have hi0 : (0 : Int) ≤ (j : Int) := Int.natCast_nonneg _
      have hi1 : (j : Int) < (ns.length : Int) := by omega
      generalize ns[j] = x at *
      clear hcs HNT hn1 hn2 hn3
      go_wp2_with fail
      refine I1.out.mono ?_
      rintro e w4 ⟨rfl, hw4⟩
      obtain rfl := hw4
      go_wp2_with fail
      refine I2.out.mono ?_
      rintro e w4 ⟨rfl, hw4⟩
      obtain rfl := hw4
      go_wp2_with fail
      refine I3.out.mono ?_
      rintro e w4 ⟨rfl, hw4⟩
      obtain rfl := hw4
      go_wp2_with fail
      go_roundw
      case rel => exact ⟨j + 1, by omega, by go_num, by first | rfl | trivial⟩
      case measure => simp [intOf]; omega
    · obtain rfl : j = ns.length := by omega
      obtain ⟨y0, y1, y2, y3⟩ := cells4d QA3.out
      have hsw : w.heap.size ≤ w3.heap.size := B3.out.size
      go_wp2_with fail
      refine (CW.out _ B3.out).mono ?_
      rintro e w4 ⟨rfl, hb4⟩
      have b4 := Lib.hid (B3.out.trans (hb4.mono hsw))
      have s34 := hb4.size
      have sa3 := lt_of_block QA3.out
      have QA4 := Lib.hid ((hb4.block _ sa3).trans QA3.out)
      have B34 := Lib.hid hb4
      obtain ⟨y0, y1, y2, y3⟩ := cells4d QA4.out
      clear hb4
      go_wp2_with fail
      refine (CS.out _ b4.out).mono ?_
      rintro e w5 ⟨rfl, hb5⟩
      have B35 := Lib.hid (B34.out.trans (hb5.mono s34))
      have s35 := B35.out.size
      have b5 := Lib.hid (B3.out.trans (B35.out.mono hsw))

      have QA5 := Lib.hid ((B35.out.block _ sa3).trans QA3.out)
      have Q5 := Lib.hid ((B35.out.block _ (lt_of_block Q3.out)).trans Q3.out)
      obtain ⟨y0, y1, y2, y3⟩ := cells4d QA5.out
      obtain ⟨z0, z1, z2⟩ := cells3d Q5.out
      clear hb5
      have hg1 : decide (sc > (ns.length : Int)) = false := by simpa using hsc
      have hg2 : decide ((ns.length : Int) < sc) = false := by simpa using hsc
      clear hsc
      have VM5 := Lib.hid (VM1.out.below B35.out)
      go_wp2_with fail
      refine (CC.out _ _ _ _ b5.out VM5.out).mono ?_
      rintro e w6 ⟨rfl, hb6⟩
      have B36 := Lib.hid (B35.out.trans (hb6.mono s35))
      have b6 := Lib.hid (B3.out.trans (B36.out.mono hsw))
      have QA6 := Lib.hid ((B36.out.block _ sa3).trans QA3.out)
      have Q6 := Lib.hid ((B36.out.block _ (lt_of_block Q3.out)).trans Q3.out)
      have s36 := B36.out.size
      have hqlt := lt_of_block Q3.out
      have V61 := Lib.hid (VM1.out.below B36.out)
      have V62 := Lib.hid (VM2.out.below B36.out)
      have O6 := Lib.hid (OWN.out.kept (row := none) ⟨B36.out.os, B36.out.tape, B36.out.output, B36.out.size, fun k hk _ => B36.out.block k hk⟩ (by
        cases hbk : (Value.slice Au (ds.length + os.length) cu).ownBlock with
        | none => exact .inl rfl
        | some g => exact .inr (fun h => by cases h)))
      obtain ⟨b3', o3, hA3, hb3, hcs⟩ := (H3.out.below b6.out) (by omega)
      subst hA3
      have HNW : Hid (∀ (j : Nat) (u : Value), (strCells ns)[j]? = some u → w6.drew.cell? ((⟨b3', o3, none⟩ : Addr).add j) = some u) := Lib.hid (fun j u hj => by
        rw [Addr.add_lit]
        have hjl : j < ns.length := by
          rcases Nat.lt_or_ge j ns.length with h1 | h1
          · exact h1
          · rw [List.getElem?_eq_none (by simpa [strCells] using h1)] at hj; cases hj
        have := hcs j hjl
        rw [show w6.drew.cell? ⟨b3', o3 + j, none⟩ = w6.cell? ⟨b3', o3 + j, none⟩ from rfl, this]
        simpa [strCells, hjl] using hj)
      have H1C : ∀ u ∈ strCells ns, u.oneCell' = true := by
        intro u hu
        simp [strCells] at hu
        obtain ⟨x, _, rfl⟩ := hu
        rfl
      have HLN : (strCells ns).length = ns.length * 1 := by simp [strCells]
      have hlm : ds.length + os.length + ns.length ≤ maxLen := by unfold maxLen; omega
      have hl16 : (ds.length + os.length + ns.length) * 16 ≤ 140737488355328 := by omega
      have hbs : B ≤ w6.drew.heap.size := by show B ≤ w6.heap.size; omega
      obtain ⟨it, hi, hz0, hz1, hz2⟩ := str_info
      have AFT : Hid (∀ (v9 : Value) (w9 : World), w9.ownsRow B 9 1 v9 (ds.length + os.length + ns.length) (strCells (ds.map DVal.n ++ os.map OVal.n) ++ strCells ns) → w6.drew.grownBy w9 (Value.slice Au (ds.length + os.length) cu).ownBlock →
          ∃ A9 c9, v9 = .slice A9 (ds.length + os.length + ns.length) c9 ∧ Below w.heap.size w w9 ∧ NamesAt w9 A9 (ds.map DVal.n ++ os.map OVal.n ++ ns) ∧ ds.length + os.length + ns.length ≤ c9 ∧ VMap zD w9 (wa.heap.size + 1) N1 (gD ds) ∧ VMap zO w9 (wa.heap.size + 2) N2 (gO os) ∧
          w9.heap[w.heap.size]? = some (.cells #[.int .i64 k, S nm, .int .i64 p, .slice A ts.length c] 31 (0, 0)) ∧ w9.heap[w2.heap.size]? = some (.cells #[.map (some (wa.heap.size + 1)), .map (some (wa.heap.size + 2)), .bool false] 48 (0, 0))) := Lib.hid (fun v9 w9 ho9 hg9 => by
        obtain ⟨A9, c9, rfl⟩ := own_form ho9
        have hg : w6.grownBy w9 (Value.slice Au (ds.length + os.length) cu).ownBlock := ⟨hg9.os, hg9.tape, hg9.output, hg9.size, hg9.block⟩
        have hob := OB.out
        have hlen9 : (ds.map DVal.n ++ os.map OVal.n ++ ns).length = ds.length + os.length + ns.length := by simp [Nat.add_assoc]
        have h2 : w9.ownsRow B 9 1 (.slice A9 (ds.map DVal.n ++ os.map OVal.n ++ ns).length c9) (ds.map DVal.n ++ os.map OVal.n ++ ns).length (strCells (ds.map DVal.n ++ os.map OVal.n ++ ns)) := by
          rw [hlen9, show strCells (ds.map DVal.n ++ os.map OVal.n ++ ns) = strCells (ds.map DVal.n ++ os.map OVal.n) ++ strCells ns from by simp [strCells]]
          exact ho9
        have ha1 := HA.out.size
        have hb6 := b6.out.size
        refine ⟨A9, c9, rfl, b6.out.grown hg (by omega) (fun g e => by have := hob g e; omega), own_strs h2, ?_, V61.out.kept hg (fun e => by have := hob _ e.symm; omega), V62.out.kept hg (fun e => by have := hob _ e.symm; omega), ?_, ?_⟩
        · rcases ho9.2 with ⟨_, h0⟩ | ⟨g, cap, cur, hv, _, _, hcap, _⟩
          · omega
          · injection hv with _ _ e3; rw [e3]; exact hcap
        · exact (hg.block _ (lt_of_block QA6.out) (fun e => by have := hob _ e.symm; omega)).trans QA6.out
        · exact (hg.block _ (lt_of_block Q6.out) (fun e => by have := hob _ e.symm; omega)).trans Q6.out)
      obtain ⟨y0, y1, y2, y3⟩ := cells4d QA6.out
      obtain ⟨z0, z1, z2⟩ := cells3d Q6.out
      clear hb6 hcs
      go_upto_region 17 with fail
      go_region_held3 (fun W => (W.cell? ⟨w2.heap.size, 0, none⟩ = some (.map (some (wa.heap.size + 1))) ∧ W.cell? ⟨w2.heap.size, 1, none⟩ = some (.map (some (wa.heap.size + 2))) ∧ W.cell? ⟨w2.heap.size, 2, none⟩ = some (.bool false)) ∧
          (W.cell? ⟨w.heap.size, 0, none⟩ = some (.int .i64 k) ∧ W.cell? ⟨w.heap.size, 1, none⟩ = some (S nm) ∧ W.cell? ⟨w.heap.size, 2, none⟩ = some (.int .i64 p) ∧ W.cell? ⟨w.heap.size, 3, none⟩ = some (.slice A ts.length c)))
        (first | exact ⟨cells3d Q6.out, cells4d QA6.out⟩ | exact ⟨cells3d Q7, cells4d QA7⟩ | exact ⟨cells3d Q8, cells4d QA8⟩)
        (first
          | (refine step_append_own_at _ (by rfl) _ _ 24 (by rfl) B 9 it (S []) 1 16 Tryd.underlying24 hi hz0 hz1 hz2 rfl (by decide) _ _ _ (by rfl) O6.out ⟨b3', o3, none⟩ ns.length c3 (strCells ns) (by rfl) HLN HNW.out H1C hlm hl16 hbs ?_; intro v9 w9 hown9 hg9 _; obtain ⟨A9, c9, rfl, b9, hn9, hc9, m91, m92, QA7, Q7⟩ := AFT.out _ _ hown9 hg9; clear hown9 hg9)
          | (go_at_call 20; ((with_reducible refine (HCT.out _ _ _ N1 N2 _ _ ?_ ?_ ?_ ?_ ?_).mono ?_)); assumption; assumption; assumption; assumption; assumption; rintro e w8 ⟨rfl, hb8⟩; have QA8 := (hb8.block _ (lt_of_block QA7)).trans QA7; have Q8 := (hb8.block _ (lt_of_block Q7)).trans Q7))
      all_goals
        go_wp2_with fail
        refine bodyPost_ret (results_tmp2 rfl _ _ _) rfl ?_
        exact ⟨rfl, b9.trans (hb8.mono b9.size)⟩

end Go.Proofs.YtlcikiiijelpjaaDoor
