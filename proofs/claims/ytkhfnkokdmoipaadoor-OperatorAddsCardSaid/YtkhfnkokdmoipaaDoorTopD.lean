/- Parts of the proof: RawTree, Frame, OpRegion, OpRefC, OpRefD, OpWalkR, OpArr4, OpWalkD, RowOperatorAdds. -/
import Derived.Test.YtkhfnkokdmoipaaDoorRawSpoil
import Derived.StillTailTactics
import Derived.Test.YtkhfnkokdmoipaaDoorCards
import Derived.Test.YtkhfnkokdmoipaaDoorTie
import Derived.Test.YtkhfnkokdmoipaaDoorText
import Derived.ProofKit
import Derived.OpenShut
import Derived.LaidMore
import Derived.Deep.DeepHandedRow
import Derived.Deep.DeepWitnessRowRef
import Derived.Deep.RegionHeld3
import Derived.Deep.DrawnRows
import Derived.Test.YtkhfnkokdmoipaaDoorLeaf
import Derived.Test.YtkhfnkokdmoipaaDoorOpRefBZ
import Derived.Test.YtkhfnkokdmoipaaDoorOpM4
import Derived.Test.YtkhfnkokdmoipaaDoorOpM7
import Derived.Laws.AppendOwnNone
import Derived.Test.YtkhfnkokdmoipaaDoorOpM5
import Derived.Laws.IdiomArrays
import Derived.Deep.DeepCutAuto
import Derived.Deep.CutBlock
/- The contract of layer 2's tree: some tree; well formed, where nothing is spoilt. -/
set_option linter.unusedVariables false
set_option linter.unusedSimpArgs false
namespace Go.Proofs.YtkhfnkokdmoipaaDoor
open Go.RowKit

theorem tapeAt_new {w wT : World} {vl : Value} {zl : List Int} (hl : IntsAt w vl zl) (hw : WordsAt w) (T : Nat) (hT : w.heap.size ≤ T) (hb : Below w.heap.size w wT) (ht : wT.heap[T]? = some (.cells #[vl, .int .i64 0] 27 (0, 0))) : TapeAt T wT := by
  obtain ⟨A, c, rfl, h1, h2⟩ := hl
  obtain ⟨b, o, cw, w1, w2, w3, w4⟩ := hw
  refine ⟨⟨A, zl.length, c, 0, ht, Nat.zero_le _, h1, fun hp => ?_⟩, ⟨b, o, cw, (hb.cell (p := ⟨_, 0, none⟩) w3).trans w1, by omega, by omega, fun k hk => (hb.cell (p := ⟨b, o + k, none⟩) w2).trans (w4 k hk)⟩⟩
  obtain ⟨b, o, hA, hlt, hc⟩ := h2 hp
  exact ⟨b, o, hA, by omega, fun k hk => ⟨_, (hb.cell (p := ⟨b, o + k, none⟩) hlt).trans (hc k hk)⟩⟩

/-- The loop's state: the tree in r, the result's box. -/
structure TrI (w : World) (R X j l : Nat) (wr : World) : Prop where
  tr : ∃ (k : Int) (n : List UInt8) (p : Int) (ts : List Lfc.Raw) (A : Option Addr) (c : Nat), wr.heap[X]? = some (.cells #[.int .i64 k, S n, .int .i64 p, .slice A ts.length c] 39 (0, 0)) ∧ TreesAtP (fun b => b ≠ X ∧ b ≠ R) wr A ts ∧ n.length ≤ 1000000 ∧ ts.length ≤ c ∧ Lfc.Raw.sizes ts + 1 ≤ 31 + j ∧ (j = 0 → (Lfc.Raw.node k n p ts).form = true ∧ (Lfc.Raw.node k n p ts).depth ≤ 5)
  res : wr.heap[R]? = some (.cells #[.int .i64 0, S [], .int .i64 0, .slice none 0 0] 39 (0, 0))
  bel : Below w.heap.size w wr
  jl : 0 < j → 2 * j ≤ l

end Go.Proofs.YtkhfnkokdmoipaaDoor

/- The frame of a law's row: what comes in and what is left, where only new memory is made. -/
namespace Go.Proofs.YtkhfnkokdmoipaaDoor
open Go.ChangeShapes Go.WideShapes Go.ChangeAt Go.RowKit

theorem own : ownKnob Tryd.prog.godebug = none := by kernel_rfl
theorem laidOut : laidOutB Tryd.prog = true := by kernel_rfl

section
variable {H : Type} {enc : TypeId × Value → H}
theorem lt_of_cell {w : World} {a : Addr} {v : Value} (h : w.cell? a = some v) : a.block < w.heap.size := by
  rcases Nat.lt_or_ge a.block w.heap.size with h1 | h1
  · exact h1
  · unfold World.cell? at h
    rw [Array.getElem?_eq_none h1] at h
    cases h

theorem belowAll {W W' : World} (hb : Below W.heap.size W W') : ∀ {ts : List TypeId} {vs : List Value} {ds : List (DataW H)} {ps : List MemPlace}, (∀ t ∈ ts, Tryd.prog.readableRec t = true ∧ t < Tryd.prog.types.size) →
    DataW.TrodAll enc Tryd.prog W 0 (fun _ => true) true ts vs ds ps → (∀ x ∈ ps, x.block < W.heap.size) → DataW.TrodAll enc Tryd.prog W' 0 (fun b => decide (b < W.heap.size)) true ts vs ds ps
  | [], [], [], _, _, h, _ => h
  | t :: ts, v :: vs, d :: ds, ps, ht, h, hlt => by
    obtain ⟨p, q, h1, h2, rfl⟩ := h
    obtain ⟨hr, hrow⟩ := ht t List.mem_cons_self
    exact ⟨p, q, Below.trod laidOut hr hrow h1 hb fun x hx => hlt x (List.mem_append_left _ hx), belowAll hb (fun u hu => ht u (List.mem_cons_of_mem _ hu)) h2 fun x hx => hlt x (List.mem_append_right _ hx), rfl⟩

/-- True is returned, only new memory is made: the law's row. -/
theorem law_post {f : Func} {s : ChangeSpec} {W W' : World} {args : Array Value} {ds : List (DataW H)} {before : List MemPlace}
    (hs : s.vars = []) (hfn : (s.fn H (ds ++ [])).results = [.lit (.bool true)] ∧ (s.fn H (ds ++ [])).args = ds ∧ (s.fn H (ds ++ [])).vars = [])
    (hr : f.resultTypes = #[4]) (hp : ∀ t ∈ f.params.toList, Tryd.prog.readableRec t = true ∧ t < Tryd.prog.types.size)
    (hW : DataW.Whole enc Tryd.prog f.params.toList s.vars false W args.toList ds [] before) (hb : Below W.heap.size W W') :
    s.post enc Tryd.prog f false true false false W args (.bool true) W' := by
  have hlt : ∀ p ∈ before, p.block < W.heap.size := fun p hp => hW.lt p hp
  have hW' := hW
  obtain ⟨p, q, hA, hV, rfl, hz, hn⟩ := hW'
  rw [hs] at hV
  obtain ⟨_, rfl⟩ := trodVars_none hV
  refine ⟨ds, [], p ++ [], [], p, [], hW, ?_, ?_, ?_, World.keptBut_mono (fun x hx => ⟨hx, .inr (.inl (by simpa using hx))⟩) (hb.frame (· ∈ p ++ [])), fun h => by cases h⟩
  · rw [hfn.1, hr]
    exact trodAll_mk1 (shut_bool Tryd.underlying4 _)
  · rw [hfn.2.1]
    exact belowAll hb hp hA fun x hx => hlt x (by simpa using hx)
  · rw [hfn.2.2, hs]
    rfl

/-- An argument that is a slice of numbers. -/
theorem intsAt_of {W : World} {v : Value} {d : DataW H} {p : List MemPlace} {r : Reach} {base : Nat} (hok : Value.okWide Tryd.prog W r base 22 v) (h : DataW.Trod enc Tryd.prog W 0 (fun _ => true) true 22 v d p) : ∃ zs, IntsAt W v zs := by
  obtain ⟨a0, len, cap, rfl⟩ := okWide_slice Tryd.underlying22 hok
  obtain ⟨fuel, hf⟩ := h
  rcases open_ints Tryd.underlying22 Tryd.underlying3 (by kernel_rfl) hf with ⟨hcs, _⟩ | ⟨a, len', cap', zs, hcs, _, hl, hm, hz, _, hcell, _⟩
  · simp only [Value.cells, List.cons.injEq, Value.slice.injEq, and_true] at hcs
    obtain ⟨rfl, rfl, rfl⟩ := hcs
    exact ⟨[], none, 0, rfl, by simp, fun hp => by simp at hp⟩
  · simp only [Value.cells, List.cons.injEq, Value.slice.injEq, and_true] at hcs
    obtain ⟨rfl, rfl, rfl⟩ := hcs
    simp only [if_true] at hz
    have hlen : (zs.take len).length = len := by rw [List.length_take]; omega
    refine ⟨zs.take len, some a, cap, by rw [hlen], by rw [hlen]; omega, fun hp => ?_⟩
    rw [hlen] at hp
    obtain ⟨b, o, rfl, hc⟩ := ints_at hcell (by omega)
    refine ⟨b, o, rfl, lt_of_cell (hc 0 (by omega)), fun k hk => ?_⟩
    rw [hlen] at hk
    rw [hc k (by omega)]
    simp [List.getD, hk]
end

end Go.Proofs.YtkhfnkokdmoipaaDoor

/- A drawn region's condition may be strengthened on the way. -/
namespace Go.Proofs.YtkhfnkokdmoipaaDoor
theorem wpAnyH_mono {P : Program} {ops : Array Oper} {Q : Exit → Act → World → Prop} {md : Region.Mode} {S S' : World → Prop} (hS : ∀ w, S' w → S w) : ∀ (fuel : Nat) (listed : Array Bool) (a : Act) (w : World), wpAnyH P md ops Q S' fuel listed a w → wpAnyH P md ops Q S fuel listed a w
  | 0, _, _, _, h => h
  | fuel + 1, _, _, _, h => ⟨h.1, fun i hi => wpOp_mono (fun a' w' h' => ⟨hS _ h'.1, wpAnyH_mono hS fuel _ a' w' h'.2⟩) (h.2 i hi)⟩
end Go.Proofs.YtkhfnkokdmoipaaDoor

/- The reference's Resolve: the same contract as the program's. -/
set_option linter.unusedVariables false
set_option linter.unusedSimpArgs false
namespace Lfc
theorem arrow_rarrow {x : Opd} (h : x.arrow = true) : x.rarrow = true := by
  unfold Opd.arrow at h
  unfold Opd.rarrow
  simp only [Bool.and_eq_true] at h ⊢
  exact ⟨h.1.1, h.2⟩
theorem rarrow_args (x : Opd) : x.arrow = (x.rarrow && decide (x.tree.args.length = 0)) := by
  unfold Opd.arrow Opd.rarrow
  cases x.closed <;> cases decide (x.tree.kind = 1) <;> cases decide (x.tree.args.length = 0) <;> simp
/-- A name of the right form has no arguments. -/
theorem form_args {x : Opd} (h : x.rarrow = true) (hf : x.tree.form = true) : x.arrow = true := by
  rw [rarrow_args, h]
  obtain ⟨⟨k, n, p, ts⟩, c⟩ := x
  unfold Opd.rarrow at h
  simp only [Bool.and_eq_true, decide_eq_true_eq, Raw.kind] at h
  obtain ⟨⟨_, hk⟩, _⟩ := h
  obtain rfl := of_decide_eq_true hk
  simp only [Raw.form, formed, Bool.and_eq_true] at hf
  simp only [Raw.args]
  simp_all
end Lfc
namespace Go.Proofs.YtkhfnkokdmoipaaDoor
open Go.RowKit Go.Maps Go.WideMaps

set_option maxRecDepth 100000 in
set_option maxHeartbeats 2000000 in
theorem rres_nil (l : List Lfc.Op) (Al A : Option Addr) (cl c : Nat) (w : World) :
    Calls Tryd.prog 36 #[.slice Al l.length cl, .slice A 0 c] w fun e w' => e = .returned (.tuple #[.agg #[.int .i64 0, S [], .int .i64 0, .slice none 0 0], .int .i64 21]) ∧ Below w.heap.size w w' := by
  obtain ⟨wa, hwa⟩ : ∃ wa, w.alloc (.cells #[.int .i64 0, S [], .int .i64 0, .slice none 0 0] 39) = wa := ⟨_, rfl⟩
  have ba : Below w.heap.size w wa := by rw [← hwa]; exact (Below.refl _ _).alloc (Nat.le_refl _) _
  have qr : wa.heap[w.heap.size]? = some (.cells #[.int .i64 0, S [], .int .i64 0, .slice none 0 0] 39 (0, 0)) := by rw [← hwa]; exact heap_alloc_new _ _
  obtain ⟨s1, s2, s3, s4, g1, g2, g3, g4, ⟨y0, y1, y2, y3⟩, ⟨f0, f1, f2, f3⟩, hq, ho⟩ := put4 qr (.int .i64 0) (S []) (.int .i64 0) (.slice none 0 0)
  have HQ := Lib.hid hq
  have HB := Lib.hid (Oth.below ba ho (Nat.le_refl _) ba.size)
  clear hq ho ba qr
  go_enter Tryd.func36, Tryd.ntmps36
  go_upto_region 1 with fail
  clear hwa
  go_wp2_with fail
  refine bodyPost_ret (results_raw2 rfl _ _ _ _ _ _ _ rfl HQ.out) rfl ?_
  exact ⟨rfl, HB.out⟩
theorem rres_upto (w0 : World) (l : List Lfc.Op) (Al : Option Addr) (cl : Nat) (hll : l.length ≤ 1000000) (hl : OpsAt w0 Al l) : ∀ m, RefUpto w0 l Al cl m
  | 0 => fun s A c w hm hsl hc hs hb => by
    have h0 : s.length = 0 := by omega
    rw [h0]
    exact (rres_nil l Al A cl c w).mono fun e w' h => h
  | m + 1 => fun s A c w hm hsl hc hs hb => by
    by_cases h0 : s.length = 0
    · rw [Lfc.refP, if_pos h0, h0]
      exact (rres_nil l Al A cl c w).mono fun e w' h => h
    · rw [Lfc.refP, if_neg h0]
      exact rres_step w0 l Al cl m hll hl (rres_upto w0 l Al cl hll hl m) s A c w hm hsl hc hs hb h0

set_option maxRecDepth 100000 in
set_option maxHeartbeats 8000000 in
theorem rResolve_any (l : List Lfc.Op) (s : List Lfc.Opd) (Al As : Option Addr) (cl cs : Nat) (w : World) (hll : l.length ≤ 1000000) (hsl : s.length ≤ 1000000) (hcs : s.length ≤ cs) (hws : Lfc.wsum s ≤ 100000000) (hl : OpsAt w Al l) (hs : OpdsAt w As s) :
    Calls Tryd.prog 17 #[.slice Al l.length cl, .slice As s.length cs] w fun e w' => (∃ v, e = .returned (.tuple #[v, .int .i64 (Lfc.resolved l s).2]) ∧ TreeV w' (Lfc.resolved l s).1 v) ∧ Below w.heap.size w w' := by
  obtain ⟨wa, hwa⟩ : ∃ wa, w.alloc (.cells #[.int .i64 0, S [], .int .i64 0, .slice none 0 0] 39) = wa := ⟨_, rfl⟩
  have ba : Below w.heap.size w wa := by rw [← hwa]; exact (Below.refl _ _).alloc (Nat.le_refl _) _
  have qr : wa.heap[w.heap.size]? = some (.cells #[.int .i64 0, S [], .int .i64 0, .slice none 0 0] 39 (0, 0)) := by rw [← hwa]; exact heap_alloc_new _ _
  have hsa := eq2 (show wa.heap.size = w.heap.size + 1 by rw [← hwa]; simp)
  have BA := Lib.hid ba
  have QR := Lib.hid qr
  have HL := Lib.hid hl
  have HS := Lib.hid hs
  have HSM : Hid (∀ x ∈ s, x.tree.size ≤ 100000000) := Lib.hid (fun x hx => by have := Lfc.wsum_mem s x hx; omega)
  clear ba qr hl hs
  go_enter Tryd.func17, Tryd.ntmps17
  go_upto_region 1 with fail
  clear hwa
  go_wp2_with fail
  go_loopw [6] (fun i wr => ∃ j : Nat, j ≤ l.length ∧ i = .int .i64 j ∧ Hid (∀ x ∈ l.take j, x.bad = 0) ∧ Hid (Below wa.heap.size wa wr)) (fun i _ => l.length - (intOf i).toNat)
  case atStart => exact ⟨0, Nat.zero_le _, rfl, Lib.hid (by simp), Lib.hid (Below.refl _ _)⟩
  case round =>
    obtain ⟨j, hj, rfl, HO, HB1⟩ := hrel
    by_cases hlt : j < l.length
    · have belx : Below w.heap.size w wr := BA.out.trans (HB1.out.mono BA.out.size)
      obtain ⟨b, o, rfl, hb, hcs1⟩ := (HL.out.below belx).2 (by intro e; rw [e] at hlt; simp at hlt)
      obtain ⟨d0, d1, d2⟩ := hcs1 j hlt
      have hnl := (HL.out.1 _ (List.getElem_mem hlt))
      have CF := Lib.hid (refuse_any l[j] wr hnl)
      unfold opV at CF
      have HTK : Hid (∀ x ∈ l.take (j + 1), x.bad = 0 ∨ x = l[j]) := Lib.hid (fun x hx => by
        rw [List.take_succ_eq_append_getElem hlt] at hx
        rcases List.mem_append.1 hx with hx | hx
        · exact .inl (HO.out x hx)
        · simp at hx; exact .inr hx)
      have HANY : Hid (l[j].bad ≠ 0 → Lfc.resolved l s = (Lfc.rawZ, 1)) := Lib.hid (fun h => by
        rw [Lfc.resolved_tail, if_pos]
        exact List.any_eq_true.2 ⟨l[j], List.getElem_mem hlt, by simpa using h⟩)
      have hi0 : (0 : Int) ≤ (j : Int) := Int.natCast_nonneg _
      have hi1 : (j : Int) < (l.length : Int) := by omega
      generalize hm : l[j] = y at *
      obtain ⟨yn, yf, yp⟩ := y
      simp only at d0 d1 d2 CF hnl
      generalize hbd : Lfc.Op.bad ⟨yn, yf, yp⟩ = bd at *
      clear hcs1 hm hnl belx
      by_cases hbz : bd = 0
      · subst hbz
        have HN : Hid (∀ x ∈ l.take (j + 1), x.bad = 0) := Lib.hid (fun x hx => by
          rcases HTK.out x hx with h | h
          · exact h
          · rw [h]; exact hbd)
        clear HANY HTK hbd
        go_wp2_with fail
        refine CF.out.mono ?_
        rintro e w3 ⟨rfl, b3⟩
        have HBN := Lib.hid (HB1.out.trans (b3.mono HB1.out.size))
        clear b3 CF
        go_wp2_with fail
        go_roundw
        case rel => exact ⟨j + 1, by omega, by go_num, HN, HBN⟩
        case measure => simp [intOf]; omega
      · have hb2 : (bd != 0) = true := by simpa using hbz
        have hb3 : (bd == 0) = false := by simpa using hbz
        have HRES := Lib.hid (HANY.out hbz)
        clear HANY HTK hbd hbz
        go_wp2_with fail
        refine CF.out.mono ?_
        rintro e w3 ⟨rfl, b3⟩
        have HBN := Lib.hid (HB1.out.trans (b3.mono HB1.out.size))
        clear b3 CF
        have bwa : Below wa.heap.size wa w3 := HBN.out
        have bwW := BA.out.trans (bwa.mono BA.out.size)
        obtain ⟨s1, s2, s3, s4, g1, g2, g3, g4, ⟨y0, y1, y2, y3⟩, ⟨f0, f1, f2, f3⟩, hq, ho⟩ := put4 ((bwa.block _ (lt_of_block QR.out)).trans QR.out) (.int .i64 0) (S []) (.int .i64 0) (.slice none 0 0)
        have HQ := Lib.hid hq
        have HB := Lib.hid (Oth.below bwW ho (Nat.le_refl _) bwW.size)
        clear hq ho bwa bwW
        go_wp2_with fail
        refine bodyPost_ret (results_raw2 rfl _ _ _ _ _ _ _ rfl HQ.out) rfl ?_
        rw [HRES.out]
        exact ⟨⟨_, rfl, treeV_nil _ _ _ _ (by simp)⟩, HB.out⟩
    · obtain rfl : j = l.length := by omega
      have HOK : Hid (∀ x ∈ l, x.bad = 0) := Lib.hid (fun x hx => HO.out x (by rw [List.take_length]; exact hx))
      have hd0 : ¬ (l.length : Int) < (l.length : Int) := by omega
      obtain ⟨w1, rfl⟩ : ∃ w1, w1 = wr := ⟨_, rfl⟩
      have HANY0 : Hid (l.any (fun o => decide (o.bad ≠ 0)) = false) := Lib.hid (List.any_eq_false.2 (fun x hx => by simp [HOK.out x hx]))
      clear HO
      go_wp2_with fail
      go_loopw [7] (fun i wr => ∃ j : Nat, j ≤ s.length ∧ i = .int .i64 j ∧ Hid (∀ x ∈ s.take j, x.arrow = true ∨ x.tree.form = true) ∧ Hid (Below wa.heap.size wa wr)) (fun i _ => s.length - (intOf i).toNat)
      case atStart => exact ⟨0, Nat.zero_le _, rfl, Lib.hid (by simp), HB1⟩
      case round =>
        obtain ⟨j, hj, rfl, HO, HB2⟩ := hrel
        clear HB1
        by_cases hlt : j < s.length
        · have belx : Below w.heap.size w wr := BA.out.trans (HB2.out.mono BA.out.size)
          obtain ⟨b, o, k, n, p, ts, B, c1, rfl, hb, ht, d0, d1, d2, d3, d4, hT⟩ := (HS.out.below belx).at_ hlt
          have CA := Lib.hid (rarrow_any s[j] _ wr ⟨k, n, p, ts, B, c1, ht, rfl, hT⟩)
          have hszx := HSM.out s[j] (List.getElem_mem hlt)
          have CF := Lib.hid (fun W (hW : Below wr.heap.size wr W) => rForm_any 100000000 (by omega) s[j].tree (.agg #[.int .i64 k, S n, .int .i64 p, .slice B ts.length c1]) W hszx (by rw [ht]; exact hT.below hW))
          have HCC := Lib.hid (show ∀ W, Below wr.heap.size wr W → W.cell? ⟨b, o + j * 5, none⟩ = some (.int .i64 k) ∧ W.cell? ⟨b, o + j * 5 + 1, none⟩ = some (S n) ∧ W.cell? ⟨b, o + j * 5 + 2, none⟩ = some (.int .i64 p) ∧ W.cell? ⟨b, o + j * 5 + 3, none⟩ = some (.slice B ts.length c1) from fun W hW => ⟨(hW.cell (p := ⟨b, _, none⟩) hb).trans d0, (hW.cell (p := ⟨b, _, none⟩) hb).trans d1, (hW.cell (p := ⟨b, _, none⟩) hb).trans d2, (hW.cell (p := ⟨b, _, none⟩) hb).trans d3⟩)
          have HTK : Hid ((s[j].arrow = true ∨ s[j].tree.form = true) → ∀ x ∈ s.take (j + 1), x.arrow = true ∨ x.tree.form = true) := Lib.hid (fun h x hx => by
            rw [List.take_succ_eq_append_getElem hlt] at hx
            rcases List.mem_append.1 hx with hx | hx
            · exact HO.out x hx
            · simp at hx; subst hx; exact h)
          have HANY : Hid (s[j].arrow = false → s[j].tree.form = false → Lfc.resolved l s = (Lfc.rawZ, 1)) := Lib.hid (fun h1 h2 => by
            rw [Lfc.resolved_tail, HANY0.out, if_neg (by simp), if_pos]
            exact List.any_eq_true.2 ⟨s[j], List.getElem_mem hlt, by simp [h1, Lfc.Raw.wf, h2]⟩)
          have har := Lfc.rarrow_args s[j]
          have hta : s[j].tree.args.length = ts.length := by rw [ht]; rfl
          rw [hta] at har
          have hi0 : (0 : Int) ≤ (j : Int) := Int.natCast_nonneg _
          have hi1 : (j : Int) < (s.length : Int) := by omega
          generalize s[j].tree.form = fm at *
          generalize s[j].rarrow = ra at *
          generalize s[j].arrow = aw at *
          generalize s[j].closed = cq at *
          clear ht hT hszx hta belx
          have HAR := Lib.hid har
          clear har
          by_cases hra : ra = true ∧ ts.length = 0
          · obtain ⟨rfl, hl0⟩ := hra
            have hl1 : ((ts.length : Int) == 0) = true := by simp [hl0]
            have haw : aw = true := by rw [HAR.out, hl0]; rfl
            have HN := Lib.hid (HTK.out (.inl haw))
            clear hl0 haw HANY HTK HAR CF
            go_wp2_with fail
            refine CA.out.mono ?_
            rintro e w3 ⟨rfl, b3⟩
            have HBN := Lib.hid (HB2.out.trans (b3.mono HB2.out.size))
            clear d0 d1 d2 d3 d4
            obtain ⟨d0, d1, d2, d3⟩ := HCC.out w3 b3
            clear b3 CA
            go_wp2_with fail
            go_roundw
            case rel => exact ⟨j + 1, by omega, by go_num, HN, HBN⟩
            case measure => simp [intOf]; omega
          · have haw : aw = false := by
              rw [HAR.out]
              cases ra
              · rfl
              · have : ts.length ≠ 0 := fun e => hra ⟨rfl, e⟩
                simp [this]
            have hway : ra = false ∨ (ra = true ∧ ((ts.length : Int) == 0) = false) := by
              cases ra
              · exact .inl rfl
              · refine .inr ⟨rfl, ?_⟩
                have : ts.length ≠ 0 := fun e => hra ⟨rfl, e⟩
                simp
                intro e
                exact this (by simp [e])
            subst haw
            have HN := Lib.hid (fun (h : fm = true) => HTK.out (.inr h))
            have HE := Lib.hid (fun (h : fm = false) => HANY.out rfl h)
            clear hra HAR HANY HTK
            rcases hway with rfl | ⟨rfl, hl1⟩
            all_goals
              go_wp2_with fail
              refine CA.out.mono ?_
              rintro e w3 ⟨rfl, b3⟩
              have HBN := Lib.hid (HB2.out.trans (b3.mono HB2.out.size))
              have CF3 := Lib.hid (CF.out w3 b3)
              clear d0 d1 d2 d3 d4
              obtain ⟨d0, d1, d2, d3⟩ := HCC.out w3 b3
              clear b3 CA CF
              go_wp2_with fail
              refine CF3.out.mono ?_
              rintro e w4 ⟨rfl, b4⟩
              have HBM := Lib.hid (HBN.out.trans (b4.mono HBN.out.size))
              clear d0 d1 d2 d3 b4 CF3
              cases fm
              · have HRES := Lib.hid (HE.out rfl)
                clear HE HN
                have bwa : Below wa.heap.size wa w4 := HBM.out
                have bwW := BA.out.trans (bwa.mono BA.out.size)
                obtain ⟨s1, s2, s3, s4, g1, g2, g3, g4, ⟨y0, y1, y2, y3⟩, ⟨f0, f1, f2, f3⟩, hq, ho⟩ := put4 ((bwa.block _ (lt_of_block QR.out)).trans QR.out) (.int .i64 0) (S []) (.int .i64 0) (.slice none 0 0)
                have HQ := Lib.hid hq
                have HB := Lib.hid (Oth.below bwW ho (Nat.le_refl _) bwW.size)
                clear hq ho bwa bwW
                go_wp2_with fail
                refine bodyPost_ret (results_raw2 rfl _ _ _ _ _ _ _ rfl HQ.out) rfl ?_
                rw [HRES.out]
                exact ⟨⟨_, rfl, treeV_nil _ _ _ _ (by simp)⟩, HB.out⟩
              · have HNN := Lib.hid (HN.out rfl)
                clear HE HN
                go_wp2_with fail
                go_roundw
                case rel => exact ⟨j + 1, by omega, by go_num, HNN, HBM⟩
                case measure => simp [intOf]; omega
        · obtain rfl : j = s.length := by omega
          have HFM : Hid (∀ x ∈ s, x.arrow = true ∨ x.tree.form = true) := Lib.hid (fun x hx => HO.out x (by rw [List.take_length]; exact hx))
          have hd1 : ¬ (s.length : Int) < (s.length : Int) := by omega
          obtain ⟨w2, rfl⟩ : ∃ w2, w2 = wr := ⟨_, rfl⟩
          have HANY1 : Hid (s.any (fun x => !x.arrow && decide (x.tree.wf = 1)) = false) := Lib.hid (List.any_eq_false.2 (fun x hx => by
            rcases HFM.out x hx with h | h
            · simp [h]
            · simp only [Lfc.Raw.wf, h]
              simp
              intro _
              split <;> omega))
          clear HO
          go_wp2_with fail
          go_loopw [8] (fun i wr => ∃ j : Nat, j ≤ s.length ∧ i = .int .i64 j ∧ Hid (∀ x ∈ s.take j, x.rarrow = true ∨ x.tree.wf = 0) ∧ Hid (Below wa.heap.size wa wr)) (fun i _ => s.length - (intOf i).toNat)
          case atStart => exact ⟨0, Nat.zero_le _, rfl, Lib.hid (by simp), HB2⟩
          case round =>
            obtain ⟨j, hj, rfl, HO, HB3⟩ := hrel
            clear HB2
            by_cases hlt : j < s.length
            · have belx : Below w.heap.size w wr := BA.out.trans (HB3.out.mono BA.out.size)
              obtain ⟨b, o, k, n, p, ts, B, c1, rfl, hb, ht, d0, d1, d2, d3, d4, hT⟩ := (HS.out.below belx).at_ hlt
              have CA := Lib.hid (rarrow_any s[j] _ wr ⟨k, n, p, ts, B, c1, ht, rfl, hT⟩)
              have hszx := HSM.out s[j] (List.getElem_mem hlt)
              have CF := Lib.hid (fun W (hW : Below wr.heap.size wr W) => rWf_any s[j].tree (.agg #[.int .i64 k, S n, .int .i64 p, .slice B ts.length c1]) W (by omega) (by rw [ht]; exact hT.below hW))
              have HCC := Lib.hid (show ∀ W, Below wr.heap.size wr W → W.cell? ⟨b, o + j * 5, none⟩ = some (.int .i64 k) ∧ W.cell? ⟨b, o + j * 5 + 1, none⟩ = some (S n) ∧ W.cell? ⟨b, o + j * 5 + 2, none⟩ = some (.int .i64 p) ∧ W.cell? ⟨b, o + j * 5 + 3, none⟩ = some (.slice B ts.length c1) from fun W hW => ⟨(hW.cell (p := ⟨b, _, none⟩) hb).trans d0, (hW.cell (p := ⟨b, _, none⟩) hb).trans d1, (hW.cell (p := ⟨b, _, none⟩) hb).trans d2, (hW.cell (p := ⟨b, _, none⟩) hb).trans d3⟩)
              have HTK : Hid ((s[j].rarrow = true ∨ s[j].tree.wf = 0) → ∀ x ∈ s.take (j + 1), x.rarrow = true ∨ x.tree.wf = 0) := Lib.hid (fun h x hx => by
                rw [List.take_succ_eq_append_getElem hlt] at hx
                rcases List.mem_append.1 hx with hx | hx
                · exact HO.out x hx
                · simp at hx; subst hx; exact h)
              have HANY : Hid (s[j].rarrow = false → s[j].tree.wf ≠ 0 → Lfc.resolved l s = (Lfc.rawZ, 2)) := Lib.hid (fun h1 h2 => by
                have h3 : s[j].arrow = false := by
                  cases e : s[j].arrow
                  · rfl
                  · rw [Lfc.arrow_rarrow e] at h1; cases h1
                have h4 : s[j].tree.form = true := by
                  rcases HFM.out s[j] (List.getElem_mem hlt) with h | h
                  · rw [h3] at h; cases h
                  · exact h
                rw [Lfc.resolved_tail, HANY0.out, if_neg (by simp), HANY1.out, if_neg (by simp), if_pos]
                refine List.any_eq_true.2 ⟨s[j], List.getElem_mem hlt, ?_⟩
                have h5 : s[j].tree.wf = 2 := by
                  unfold Lfc.Raw.wf at h2 ⊢
                  rw [h4] at h2 ⊢
                  simp only [Bool.not_true, Bool.false_eq_true, if_false] at h2 ⊢
                  split
                  · rfl
                  · rename_i h6; rw [if_neg h6] at h2; exact absurd rfl h2
                simp [h3, h5])
              have hi0 : (0 : Int) ≤ (j : Int) := Int.natCast_nonneg _
              have hi1 : (j : Int) < (s.length : Int) := by omega
              generalize s[j].tree.wf = wf at *
              generalize s[j].rarrow = ra at *
              generalize s[j].closed = cq at *
              clear ht hT hszx belx
              cases ra
              · go_wp2_with fail
                refine CA.out.mono ?_
                rintro e w3 ⟨rfl, b3⟩
                have HBN := Lib.hid (HB3.out.trans (b3.mono HB3.out.size))
                have CF3 := Lib.hid (CF.out w3 b3)
                clear d0 d1 d2 d3 d4
                obtain ⟨d0, d1, d2, d3⟩ := HCC.out w3 b3
                clear b3 CA CF
                go_wp2_with fail
                refine CF3.out.mono ?_
                rintro e w4 ⟨rfl, b4⟩
                have HBM := Lib.hid (HBN.out.trans (b4.mono HBN.out.size))
                clear d0 d1 d2 d3 b4 CF3
                by_cases hwf : wf = 0
                · subst hwf
                  have HN := Lib.hid (HTK.out (.inr rfl))
                  clear HTK HANY
                  go_wp2_with fail
                  go_roundw
                  case rel => exact ⟨j + 1, by omega, by go_num, HN, HBM⟩
                  case measure => simp [intOf]; omega
                · have HRES := Lib.hid (HANY.out (by first | rfl | trivial) hwf)
                  have hwf2 : (wf != 0) = true := by simpa using hwf
                  have hwf3 : (wf == 0) = false := by simpa using hwf
                  clear HTK HANY hwf
                  have bwa : Below wa.heap.size wa w4 := HBM.out
                  have bwW := BA.out.trans (bwa.mono BA.out.size)
                  obtain ⟨s1, s2, s3, s4, g1, g2, g3, g4, ⟨y0, y1, y2, y3⟩, ⟨f0, f1, f2, f3⟩, hq, ho⟩ := put4 ((bwa.block _ (lt_of_block QR.out)).trans QR.out) (.int .i64 0) (S []) (.int .i64 0) (.slice none 0 0)
                  have HQ := Lib.hid hq
                  have HB := Lib.hid (Oth.below bwW ho (Nat.le_refl _) bwW.size)
                  clear hq ho bwa bwW
                  go_wp2_with fail
                  refine bodyPost_ret (results_raw2 rfl _ _ _ _ _ _ _ rfl HQ.out) rfl ?_
                  rw [HRES.out]
                  exact ⟨⟨_, rfl, treeV_nil _ _ _ _ (by simp)⟩, HB.out⟩
              · have HN := Lib.hid (HTK.out (.inl rfl))
                clear HTK HANY CF
                go_wp2_with fail
                refine CA.out.mono ?_
                rintro e w3 ⟨rfl, b3⟩
                have HBN := Lib.hid (HB3.out.trans (b3.mono HB3.out.size))
                clear d0 d1 d2 d3 d4 b3 CA
                go_wp2_with fail
                go_roundw
                case rel => exact ⟨j + 1, by omega, by go_num, HN, HBN⟩
                case measure => simp [intOf]; omega
            · obtain rfl : j = s.length := by omega
              have hd2 : ¬ (s.length : Int) < (s.length : Int) := by omega
              have HT : Hid (Lfc.resolved l s = Lfc.resTail l s) := Lib.hid (by
                rw [Lfc.resolved_tail, HANY0.out, if_neg (by simp), HANY1.out, if_neg (by simp), if_neg]
                intro h
                obtain ⟨x, hx, h⟩ := List.any_eq_true.1 h
                simp only [Bool.and_eq_true, Bool.not_eq_true', decide_eq_true_eq] at h
                rcases HO.out x (by rw [List.take_length]; exact hx) with h1 | h1
                · rcases HFM.out x hx with h2 | h2
                  · rw [h2] at h; cases h.1
                  · rw [Lfc.form_args h1 h2] at h; cases h.1
                · rw [h1] at h; cases h.2)
              have bwr := BA.out.trans (HB3.out.mono BA.out.size)
              have BWR := Lib.hid bwr
              have QRr := Lib.hid ((HB3.out.block _ (lt_of_block QR.out)).trans QR.out)
              have HSr := Lib.hid (HS.out.below bwr)
              clear HO HANY1 hd0 hd1 bwr
              by_cases hone : s.length = 1
              · have hpos : 0 < s.length := by omega
                have hone2 : ((s.length : Int) == 1) = true := by simp [hone]
                have hposi : (0 : Int) < (s.length : Int) := by omega
                obtain ⟨b, o, k, n, p, ts, B, c1, rfl, hb, ht, d0, d1, d2, d3, d4, hT⟩ := HSr.out.at_ hpos
                simp only [Nat.zero_mul, Nat.add_zero] at d0 d1 d2 d3 d4
                have CA := Lib.hid (rarrow_any s[0] _ wr ⟨k, n, p, ts, B, c1, ht, rfl, hT⟩)
                have har : s[0].rarrow = s[0].arrow := by
                  cases e : s[0].arrow
                  · cases e2 : s[0].rarrow
                    · rfl
                    · rcases HFM.out s[0] (List.getElem_mem hpos) with h | h
                      · rw [e] at h; cases h
                      · rw [Lfc.form_args e2 h] at e; cases e
                  · exact Lfc.arrow_rarrow e
                rw [har] at CA
                have HCC := Lib.hid (show ∀ W, Below wr.heap.size wr W → W.cell? ⟨b, o, none⟩ = some (.int .i64 k) ∧ W.cell? ⟨b, o + 1, none⟩ = some (S n) ∧ W.cell? ⟨b, o + 2, none⟩ = some (.int .i64 p) ∧ W.cell? ⟨b, o + 3, none⟩ = some (.slice B ts.length c1) from fun W hW => ⟨(hW.cell (p := ⟨b, _, none⟩) hb).trans d0, (hW.cell (p := ⟨b, _, none⟩) hb).trans d1, (hW.cell (p := ⟨b, _, none⟩) hb).trans d2, (hW.cell (p := ⟨b, _, none⟩) hb).trans d3⟩)
                have HG : Hid (s.getD 0 Lfc.opdZ = s[0]) := Lib.hid (by simp [hpos])
                have HONE : Hid (Lfc.resolved l s = if s[0].arrow then (Lfc.rawZ, (21 : Int)) else (s[0].tree, (0 : Int))) := Lib.hid (by
                  rw [HT.out]
                  unfold Lfc.resTail
                  rw [if_pos hone, HG.out])
                have HTR : Hid (TreeV w s[0].tree (.agg #[.int .i64 k, S n, .int .i64 p, .slice B ts.length c1])) := Lib.hid (by
                  obtain ⟨b', o', k', n', p', ts', B', c', hA', hb', ht', c0', c1', c2', c3', c4', hT'⟩ := HS.out.at_ hpos
                  cases hA'
                  simp only [Nat.zero_mul, Nat.add_zero] at c0' c1' c2' c3'
                  rw [ht] at ht'
                  cases ht'
                  have e3 := (BWR.out.cell (p := ⟨b, _, none⟩) hb').trans c3'
                  rw [d3] at e3
                  cases e3
                  rw [ht]
                  exact hT')
                generalize s[0].closed = cq at *
                generalize s[0].arrow = aw at *
                generalize s[0].tree = t0 at *
                clear hone ht hT har HG
                cases aw
                · have HRES : Hid (Lfc.resolved l s = (t0, 0)) := Lib.hid (by rw [HONE.out]; rfl)
                  go_wp2_with fail
                  refine CA.out.mono ?_
                  rintro e w3 ⟨rfl, b3⟩
                  clear d0 d1 d2 d3 d4
                  obtain ⟨d0, d1, d2, d3⟩ := HCC.out w3 b3
                  have bw3 := BWR.out.trans (b3.mono BWR.out.size)
                  obtain ⟨s1, s2, s3, s4, g1, g2, g3, g4, ⟨y0, y1, y2, y3⟩, ⟨f0, f1, f2, f3⟩, hq, ho⟩ := put4 ((b3.block _ (lt_of_block QRr.out)).trans QRr.out) (.int .i64 k) (S n) (.int .i64 p) (.slice B ts.length c1)
                  have HQ := Lib.hid hq
                  have HB := Lib.hid (Oth.below bw3 ho (Nat.le_refl _) bw3.size)
                  clear hq ho b3 bw3 CA
                  go_wp2_with fail
                  refine bodyPost_ret (results_raw2 rfl _ _ _ _ _ _ _ rfl HQ.out) rfl ?_
                  rw [HRES.out]
                  exact ⟨⟨_, rfl, HTR.out.below HB.out⟩, HB.out⟩
                · have HRES : Hid (Lfc.resolved l s = (Lfc.rawZ, 21)) := Lib.hid (by rw [HONE.out]; rfl)
                  go_wp2_with fail
                  refine CA.out.mono ?_
                  rintro e w3 ⟨rfl, b3⟩
                  have HBN := Lib.hid (HB3.out.trans (b3.mono HB3.out.size))
                  clear d0 d1 d2 d3 d4 b3 CA
                  have bwa : Below wa.heap.size wa w3 := HBN.out
                  have bwW := BA.out.trans (bwa.mono BA.out.size)
                  obtain ⟨s1, s2, s3, s4, g1, g2, g3, g4, ⟨y0, y1, y2, y3⟩, ⟨f0, f1, f2, f3⟩, hq, ho⟩ := put4 ((bwa.block _ (lt_of_block QR.out)).trans QR.out) (.int .i64 0) (S []) (.int .i64 0) (.slice none 0 0)
                  have HQ := Lib.hid hq
                  have HB := Lib.hid (Oth.below bwW ho (Nat.le_refl _) bwW.size)
                  clear hq ho bwa bwW
                  go_wp2_with fail
                  refine bodyPost_ret (results_raw2 rfl _ _ _ _ _ _ _ rfl HQ.out) rfl ?_
                  rw [HRES.out]
                  exact ⟨⟨_, rfl, treeV_nil _ _ _ _ (by simp)⟩, HB.out⟩
              · have hone2 : ((s.length : Int) == 1) = false := by simpa using (by omega : ¬ (s.length : Int) = 1)
                have CR := Lib.hid (rres_upto w l Al cl hll HL.out s.length s As cs wr (Nat.le_refl _) hsl hcs HS.out BWR.out)
                have hreq := Lfc.ref_eq l HOK.out s.length s (Nat.le_refl _)
                have HT2 : Hid (Lfc.resolved l s = match Lfc.resP l s.length s with | .error e => (Lfc.rawZ, e) | .ok t => if t.wf = 0 then (t, 0) else (Lfc.rawZ, 2)) := Lib.hid (by rw [HT.out]; unfold Lfc.resTail; rw [if_neg hone]; rfl)
                have hRlt : w.heap.size < wr.heap.size := lt_of_block QRr.out
                rw [hreq] at CR
                cases hres : Lfc.resP l s.length s with
                | error e =>
                  rw [hres] at CR
                  have hek := refP_err l s.length s e (by rw [hreq]; exact hres)
                  have he0 : (e != 0) = true := by rcases hek with rfl | rfl <;> rfl
                  have he1 : (e == 0) = false := by rcases hek with rfl | rfl <;> rfl
                  have HRES : Hid (Lfc.resolved l s = (Lfc.rawZ, e)) := Lib.hid (by rw [HT2.out, hres])
                  unfold RefPost at CR
                  simp only at CR
                  clear hres hreq hone hek
                  go_wp2_with fail
                  refine CR.out.mono ?_
                  rintro ee w5 ⟨rfl, b5⟩
                  obtain ⟨w6, hw6⟩ : ∃ w6, w5.alloc (.cells #[.int .i64 0, S [], .int .i64 0, .slice none 0 0] 39) = w6 := ⟨_, rfl⟩
                  have b6 : Below w5.heap.size w5 w6 := by rw [← hw6]; exact (Below.refl _ _).alloc (Nat.le_refl _) _
                  have HBN := Lib.hid (HB3.out.trans ((b5.trans (b6.mono b5.size)).mono HB3.out.size))
                  have HW6 := Lib.hid hw6
                  clear hw6 b5 b6 CR
                  go_upto_region 22 with fail
                  rw [HW6.out]
                  have bwa : Below wa.heap.size wa w6 := HBN.out
                  have bwW := BA.out.trans (bwa.mono BA.out.size)
                  obtain ⟨s1, s2, s3, s4, g1, g2, g3, g4, ⟨y0, y1, y2, y3⟩, ⟨f0, f1, f2, f3⟩, hq, ho⟩ := put4 ((bwa.block _ (lt_of_block QR.out)).trans QR.out) (.int .i64 0) (S []) (.int .i64 0) (.slice none 0 0)
                  have HQ := Lib.hid hq
                  have HB := Lib.hid (Oth.below bwW ho (Nat.le_refl _) bwW.size)
                  clear hq ho bwa bwW
                  go_wp2_with fail
                  refine bodyPost_ret (results_raw2 rfl _ _ _ _ _ _ _ rfl HQ.out) rfl ?_
                  rw [HRES.out]
                  exact ⟨⟨_, rfl, treeV_nil _ _ _ _ (by simp)⟩, HB.out⟩
                | ok t =>
                  rw [hres] at CR
                  have HSZ : Hid (t.size ≤ 100000000) := Lib.hid (Nat.le_trans (Lfc.resP_size l _ s t hres) hws)
                  have HFO : Hid (t.form = true) := Lib.hid (Lfc.resP_form l _ s t (fun x hx => (HFM.out x hx).symm) hres)
                  have HR2 : Hid (Lfc.resolved l s = if t.wf = 0 then (t, 0) else (Lfc.rawZ, 2)) := Lib.hid (by rw [HT2.out, hres])
                  unfold RefPost at CR
                  simp only at CR
                  clear hres hreq hone
                  go_wp2_with fail
                  refine CR.out.mono ?_
                  rintro ee w5 ⟨⟨v5, rfl, hv5⟩, b5⟩
                  obtain ⟨k5, n5, p5, us5, A5, c5, e5, rfl, tp5⟩ := hv5.parts4
                  obtain ⟨w6, hw6⟩ : ∃ w6, w5.alloc (.cells #[.int .i64 k5, S n5, .int .i64 p5, .slice A5 us5.length c5] 39) = w6 := ⟨_, rfl⟩
                  have b6 : Below w5.heap.size w5 w6 := by rw [← hw6]; exact (Below.refl _ _).alloc (Nat.le_refl _) _
                  have q6 : w6.heap[w5.heap.size]? = some (.cells #[.int .i64 k5, S n5, .int .i64 p5, .slice A5 us5.length c5] 39 (0, 0)) := by rw [← hw6]; exact heap_alloc_new _ _
                  have B36 := Lib.hid (HB3.out.trans ((b5.trans (b6.mono b5.size)).mono HB3.out.size))
                  have TP6 : Hid (TreeP (fun b => b < w.heap.size ∨ wr.heap.size ≤ b) w6 t (.int .i64 k5) (S n5) (.int .i64 p5) (.slice A5 us5.length c5)) := Lib.hid (TreeP.keep (fun b _ hlt => b6.block b hlt) b6.size (fun _ _ h => h) _ _ _ _ _ tp5)
                  have TV6 : Hid (TreeV w6 t (.agg #[.int .i64 k5, S n5, .int .i64 p5, .slice A5 us5.length c5])) := Lib.hid (TreeVP.toV ⟨_, _, _, _, rfl, TP6.out⟩)
                  have CS := Lib.hid (rSize_any 100000000 t _ w6 HSZ.out (by have := HSZ.out; omega) TV6.out)
                  have CD := Lib.hid (fun W (hW : Below w6.heap.size w6 W) => rDepth_any 100000000 t _ W HSZ.out (by have := HSZ.out; omega) (TV6.out.below hW))
                  have Q6 := Lib.hid q6
                  obtain ⟨x0, x1, x2, x3⟩ := cells4 q6
                  have HW6 := Lib.hid hw6
                  have hdz := Lfc.Raw.depth_le_size t.size t (Nat.le_refl _)
                  clear hw6 b5 b6 q6 hv5 tp5 e5 CR
                  go_upto_region 22 with fail
                  rw [HW6.out]
                  by_cases hsz : 4096 < t.size
                  · have HRES : Hid (Lfc.resolved l s = (Lfc.rawZ, 2)) := Lib.hid (by rw [HR2.out, if_neg]; unfold Lfc.Raw.wf; rw [HFO.out, if_neg (by simp), if_pos (.inl hsz)]; decide)
                    have hs1 : (4096 : Int) < (t.size : Int) := by omega
                    have hs2 : decide ((t.size : Int) > 4096) = true := by simp; omega
                    clear hsz
                    go_wp2_with fail
                    refine CS.out.mono ?_
                    rintro ee w7 ⟨rfl, b7⟩
                    have HBN := Lib.hid (B36.out.trans (b7.mono B36.out.size))
                    clear b7 CS x0 x1 x2 x3
                    have bwa : Below wa.heap.size wa w7 := HBN.out
                    have bwW := BA.out.trans (bwa.mono BA.out.size)
                    obtain ⟨s1, s2, s3, s4, g1, g2, g3, g4, ⟨y0, y1, y2, y3⟩, ⟨f0, f1, f2, f3⟩, hq, ho⟩ := put4 ((bwa.block _ (lt_of_block QR.out)).trans QR.out) (.int .i64 0) (S []) (.int .i64 0) (.slice none 0 0)
                    have HQ := Lib.hid hq
                    have HB := Lib.hid (Oth.below bwW ho (Nat.le_refl _) bwW.size)
                    clear hq ho bwa bwW
                    go_wp2_with fail
                    refine bodyPost_ret (results_raw2 rfl _ _ _ _ _ _ _ rfl HQ.out) rfl ?_
                    rw [HRES.out]
                    exact ⟨⟨_, rfl, treeV_nil _ _ _ _ (by simp)⟩, HB.out⟩
                  · have hs1 : ¬ (4096 : Int) < (t.size : Int) := by omega
                    have hs2 : decide ((t.size : Int) > 4096) = false := by simp; omega
                    have HNS := Lib.hid hsz
                    clear hsz
                    go_wp2_with fail
                    refine CS.out.mono ?_
                    rintro ee w7 ⟨rfl, b7⟩
                    have B7 := Lib.hid b7
                    clear x0 x1 x2 x3
                    obtain ⟨x0, x1, x2, x3⟩ := cells4 ((b7.block _ (lt_of_block Q6.out)).trans Q6.out)
                    have CD7 := Lib.hid (CD.out w7 b7)
                    clear b7 CS CD
                    by_cases hdp : 128 < t.depth
                    · have HRES : Hid (Lfc.resolved l s = (Lfc.rawZ, 2)) := Lib.hid (by rw [HR2.out, if_neg]; unfold Lfc.Raw.wf; rw [HFO.out, if_neg (by simp), if_pos (.inr hdp)]; decide)
                      have hs3 : (128 : Int) < (t.depth : Int) := by omega
                      clear hdp
                      go_wp2_with fail
                      refine CD7.out.mono ?_
                      rintro ee w8 ⟨rfl, b8⟩
                      have HBN := Lib.hid (B36.out.trans ((B7.out.trans (b8.mono B7.out.size)).mono B36.out.size))
                      clear b8 CD7 x0 x1 x2 x3
                      have bwa : Below wa.heap.size wa w8 := HBN.out
                      have bwW := BA.out.trans (bwa.mono BA.out.size)
                      obtain ⟨s1, s2, s3, s4, g1, g2, g3, g4, ⟨y0, y1, y2, y3⟩, ⟨f0, f1, f2, f3⟩, hq, ho⟩ := put4 ((bwa.block _ (lt_of_block QR.out)).trans QR.out) (.int .i64 0) (S []) (.int .i64 0) (.slice none 0 0)
                      have HQ := Lib.hid hq
                      have HB := Lib.hid (Oth.below bwW ho (Nat.le_refl _) bwW.size)
                      clear hq ho bwa bwW
                      go_wp2_with fail
                      refine bodyPost_ret (results_raw2 rfl _ _ _ _ _ _ _ rfl HQ.out) rfl ?_
                      rw [HRES.out]
                      exact ⟨⟨_, rfl, treeV_nil _ _ _ _ (by simp)⟩, HB.out⟩
                    · have HRES : Hid (Lfc.resolved l s = (t, 0)) := Lib.hid (by rw [HR2.out, if_pos]; unfold Lfc.Raw.wf; rw [HFO.out, if_neg (by simp), if_neg]; have := HNS.out; omega)
                      have hs3 : ¬ (128 : Int) < (t.depth : Int) := by omega
                      clear hdp
                      go_wp2_with fail
                      refine CD7.out.mono ?_
                      rintro ee w8 ⟨rfl, b8⟩
                      have b68 := B7.out.trans (b8.mono B7.out.size)
                      clear x0 x1 x2 x3
                      obtain ⟨x0, x1, x2, x3⟩ := cells4 ((b68.block _ (lt_of_block Q6.out)).trans Q6.out)
                      have bwa := B36.out.trans (b68.mono B36.out.size)
                      have bwW := BA.out.trans (bwa.mono BA.out.size)
                      have TP8 := Lib.hid (TreeP.keep (q' := fun b => b < w.heap.size ∨ wr.heap.size ≤ b) (fun b _ hlt => b68.block b hlt) b68.size (fun _ _ h => h) _ _ _ _ _ TP6.out)
                      obtain ⟨s1, s2, s3, s4, g1, g2, g3, g4, ⟨y0, y1, y2, y3⟩, ⟨f0, f1, f2, f3⟩, hq, ho⟩ := put4 ((bwa.block _ (lt_of_block QR.out)).trans QR.out) (.int .i64 k5) (S n5) (.int .i64 p5) (.slice A5 us5.length c5)
                      have HQ := Lib.hid hq
                      have HO4 := Lib.hid ho
                      have HB := Lib.hid (Oth.below bwW ho (Nat.le_refl _) bwW.size)
                      clear hq ho bwa bwW b8 b68 CD7
                      go_wp2_with fail
                      refine bodyPost_ret (results_raw2 rfl _ _ _ _ _ _ _ rfl HQ.out) rfl ?_
                      rw [HRES.out]
                      refine ⟨⟨_, rfl, TreeVP.toV (q := fun _ => True) ⟨_, _, _, _, rfl, ?_⟩⟩, HB.out⟩
                      exact TreeP.keep (fun b hb hlt => HO4.out.block b hlt (fun e => by have := Option.some.inj e; omega)) HO4.out.size (fun _ _ _ => trivial) _ _ _ _ _ TP8.out
end Go.Proofs.YtkhfnkokdmoipaaDoor

/- The contract of the reference's Add. -/
set_option linter.unusedVariables false
set_option linter.unusedSimpArgs false
namespace Go.Proofs.YtkhfnkokdmoipaaDoor
open Go.RowKit Go.Maps Go.WideMaps
attribute [local go_sem ↓] Go.wp_at_zero Go.wp_at_succ

theorem step_append_nil {P : Program} {w : World} {ops : Array Oper} {o : Oper} {a : Act} {K : Act → World → Prop} {Q : Exit → Act → World → Prop} {E : Prop} (hgd : o.guard = none) (s x : Operand) (t : TypeId)
    (ho : o.op = .call { callee := .builtin .append, args := #[s, x], argTypes := #[t, t] }) (e : TypeId) (i : TypeInfo) (ht : P.underlying t = some (.slice e)) (hi : P.info? e = some i)
    (hs : a.eval s = .slice none 0 0) (hx : a.eval x = .slice none 0 0) (h : K (a.put o.dst (.slice none 0 0)) w) :
    if Region.wanted o (yielded ops a.tmps) = true then Oper.wp P o a w K Q else E := by
  have hw : Region.wanted o (yielded ops a.tmps) = true := by simp [Region.wanted, hgd]
  rw [if_pos hw]
  have hrun := run_append_owned_none (P := P) (w := w) 0 t o.type e i 0 ht hi (.slice none 0 0) 0 [] (own_nil _ _ _ _)
  unfold Oper.wp execOp
  simp only [ho, resolve, invoke, builtin, Sem.run_bind, Sem.run_pure, Result.andThen_ok, List.map_toArray, List.map_cons, List.map_nil, hs, hx, hrun]
  exact h

set_option maxRecDepth 100000 in
set_option maxHeartbeats 1000000 in
theorem rAdd_any (l : List Lfc.Op) (o : Lfc.Op) (A : Option Addr) (c : Nat) (w : World) (hl : l.length ≤ 1000000) (hn : o.name.length ≤ 1000000) (h : OpsAt w A l) (hA : A = none → c = 0) :
    Calls Tryd.prog 13 #[.slice A l.length c, opV o] w (AddPost w l o) := by
  obtain ⟨i0, hi, hz0, hz1, hz2⟩ := op_info
  obtain ⟨n, f, p⟩ := o
  obtain ⟨wa, hwa⟩ : ∃ wa, w.alloc (.cells #[S n, .int .i64 f, .int .i64 p] 36) = wa := ⟨_, rfl⟩
  have ba : Below w.heap.size w wa := by rw [← hwa]; exact (Below.refl _ _).alloc (Nat.le_refl _) _
  have qa : wa.heap[w.heap.size]? = some (.cells #[S n, .int .i64 f, .int .i64 p] 36 (0, 0)) := by rw [← hwa]; exact heap_alloc_new _ _
  have CK := Lib.hid (refuse_any ⟨n, f, p⟩ wa hn)
  have BA := Lib.hid ba
  have QA := Lib.hid qa
  have HL := Lib.hid (h.below ba)
  obtain ⟨x0, x1, x2⟩ := cells3 qa
  unfold opV at CK ⊢
  have HWA := Lib.hid hwa
  have HAD0 : Hid (Lfc.added l ⟨n, f, p⟩ = if Lfc.Op.bad ⟨n, f, p⟩ ≠ 0 then (l, Lfc.Op.bad ⟨n, f, p⟩) else if l.any (fun x => decide (x.name = n)) = true then (l, 30) else if 512 ≤ l.length then (l, 7) else (l ++ [⟨n, f, p⟩], 0)) := Lib.hid (by unfold Lfc.added; rfl)
  generalize hzb : Lfc.Op.bad ⟨n, f, p⟩ = z at *
  have same : ∀ (k : Int) (W : World), Lfc.added l ⟨n, f, p⟩ = (l, k) → Below wa.heap.size wa W → AddPost w l ⟨n, f, p⟩ (.returned (.tuple #[.slice A l.length c, .int .i64 k])) W := fun k W ha hb => by
    unfold AddPost
    rw [ha]
    exact ⟨⟨A, c, rfl, HL.out.below hb⟩, BA.out.trans (hb.mono BA.out.size)⟩
  have SAME := Lib.hid same
  clear ba qa h hwa hzb same
  by_cases hz : z = 0
  · subst hz
    go_enter Tryd.func13, Tryd.ntmps13
    go_upto_region 1 with fail
    rw [HWA.out]
    go_wp2_with fail
    refine CK.out.mono ?_
    rintro e w1 ⟨rfl, b1⟩
    have B1 := Lib.hid b1
    clear b1 CK HWA
    go_wp2_with fail
    go_loopw [7] (fun i wr => ∃ j : Nat, j ≤ l.length ∧ i = .int .i64 j ∧ Hid (∀ o ∈ l.take j, o.name ≠ n) ∧ Hid (Below wa.heap.size wa wr)) (fun i _ => l.length - (intOf i).toNat)
    case atStart => exact ⟨0, Nat.zero_le _, rfl, Lib.hid (by simp), B1⟩
    case round =>
      obtain ⟨j, hj, rfl, HN, HB⟩ := hrel
      clear x0 x1 x2 B1
      by_cases hlt : j < l.length
      · obtain ⟨b, o, rfl, hb, hcs⟩ := HL.out.2 (by intro e; rw [e] at hlt; simp at hlt)
        obtain ⟨c0, c1, c2⟩ := hcs j hlt
        have d0 := (HB.out.cell (p := ⟨b, _, none⟩) hb).trans c0
        have x0 : wr.cell? ⟨w.heap.size, 0, none⟩ = some (S n) := (HB.out.cell (p := ⟨w.heap.size, 0, none⟩) (lt_of_block QA.out)).trans (Lib.cell_of_heap QA.out 0)
        have hi0 : (0 : Int) ≤ (j : Int) := Int.natCast_nonneg _
        have hi1 : (j : Int) < (l.length : Int) := by omega
        have HBD := Lib.hid (HB.out.drew)
        have HMEM := Lib.hid (List.getElem_mem hlt)
        have HTK : Hid (∀ o ∈ l.take (j + 1), o.name ≠ n ∨ o = l[j]) := Lib.hid (fun o ho => by
          rw [List.take_succ_eq_append_getElem hlt] at ho
          rcases List.mem_append.1 ho with ho | ho
          · exact .inl (HN.out o ho)
          · simp at ho; exact .inr ho)
        generalize hm : l[j] = y at *
        clear c0 c1 c2 hcs hm
        obtain ⟨yn, yf, yp⟩ := y
        by_cases hy : yn = n
        · subst hy
          have HAD : Hid (Lfc.added l ⟨yn, f, p⟩ = (l, 30)) := Lib.hid (by
            rw [HAD0.out, if_neg (by simp), if_pos]
            exact List.any_eq_true.2 ⟨_, HMEM.out, by simp⟩)
          clear HTK HN HB
          go_wp2_with fail
          go_region
          all_goals
            go_wp2_with fail
            go_ret2
            exact SAME.out 30 _ HAD.out HBD.out
        · have hy2 : (yn == n) = false := by simpa using hy
          have HN2 : Hid (∀ o ∈ l.take (j + 1), o.name ≠ n) := Lib.hid (fun o ho => by
            rcases HTK.out o ho with h | h
            · exact h
            · rw [h]; exact hy)
          clear hy HTK HN HB
          go_wp2_with fail
          go_region
          all_goals
            go_wp2_with fail
            go_roundw
            case rel => exact ⟨j + 1, by omega, by go_num, HN2, HBD⟩
            case measure => simp [intOf]; omega
      · obtain rfl : j = l.length := by omega
        have hno : l.any (fun x => decide (x.name = n)) = false := by
          rw [List.any_eq_false]
          intro x hx
          have := HN.out x (by rw [List.take_length]; exact hx)
          simpa using this
        by_cases h5 : 512 ≤ l.length
        · have HAD : Hid (Lfc.added l ⟨n, f, p⟩ = (l, 7)) := Lib.hid (by rw [HAD0.out]; simp [h5, hno])
          have h5i : (512 : Int) ≤ (l.length : Int) := by omega
          have h5g : (l.length : Int) ≥ 512 := by omega
          clear HN hno
          go_wp2_with fail
          go_ret2
          exact SAME.out 7 _ HAD.out HB.out
        · have HAD : Hid (Lfc.added l ⟨n, f, p⟩ = (l ++ [⟨n, f, p⟩], 0)) := Lib.hid (by rw [HAD0.out]; simp [h5, hno])
          have h5i : ¬ (512 : Int) ≤ (l.length : Int) := by omega
          have h5g : ¬ (l.length : Int) ≥ 512 := by omega
          have h5l : (l.length : Int) < 512 := by omega
          have hlm0 : l.length ≤ maxLen := by unfold maxLen; omega
          have hl320 : l.length * 32 ≤ 140737488355328 := by omega
          have hlm : l.length + 1 ≤ maxLen := by unfold maxLen; omega
          have hl32 : (l.length + 1) * 32 ≤ 140737488355328 := by omega
          have hone3 : ∀ u ∈ [S n, Value.int .i64 f, .int .i64 p], u.oneCell' = true := by intro u hu; simp at hu; rcases hu with rfl | rfl | rfl <;> rfl
          clear HN hno HAD0 SAME
          rcases A with _ | ad
          · obtain rfl := hA rfl
            have hts : l = [] := by
              by_cases e : l = []
              · exact e
              · obtain ⟨b, o, hA, _⟩ := HL.out.2 e; cases hA
            subst hts
            simp only [List.length_nil] at *
            have SC := Lib.hid (show ∀ W, Below wr.heap.size wr W → W.cell? ⟨w.heap.size, 0, none⟩ = some (S n) ∧ W.cell? ⟨w.heap.size, 1, none⟩ = some (.int .i64 f) ∧ W.cell? ⟨w.heap.size, 2, none⟩ = some (.int .i64 p) from fun W hW => cells3 (((HB.out.trans (hW.mono HB.out.size)).block _ (lt_of_block QA.out)).trans QA.out))
            have G0 : Below wr.heap.size wr wr.drew := (Below.refl _ _).drew
            clear QA
            go_wp2_with fail
            refine wp_region_held_drew (S := fun W => W.cell? ⟨w.heap.size, 0, none⟩ = some (S n) ∧ W.cell? ⟨w.heap.size, 1, none⟩ = some (.int .i64 f) ∧ W.cell? ⟨w.heap.size, 2, none⟩ = some (.int .i64 p)) (by kernel_rfl) ?_ (fun hHeld => ?_)
            · exact SC.out _ G0
            refine wpAnyH_take (i := 0) (v := ?_) rfl (by kernel_rfl) (by kernel_rfl) (by kernel_rfl) (fun _ _ _ h => h) (Or.inl ⟨by rfl, ?_⟩) (by assumption) ?_
            rotate_left
            · (intro w hSw; (try dsimp only at hSw); go_simp; try with_reducible rfl)
            try simp only [Act.put, List.getElem_toArray, List.getElem_cons_zero, List.getElem_cons_succ, List.setIfInBounds_toArray, List.set_cons_zero, List.set_cons_succ]
            refine wpAnyH_take (i := 2) (v := ?_) rfl (by kernel_rfl) (by kernel_rfl) (by kernel_rfl) (fun _ _ _ h => h) (Or.inl ⟨by rfl, ?_⟩) (by assumption) ?_
            rotate_left
            · (intro w hSw; (try dsimp only at hSw); go_simp; try with_reducible rfl)
            try simp only [Act.put, List.getElem_toArray, List.getElem_cons_zero, List.getElem_cons_succ, List.setIfInBounds_toArray, List.set_cons_zero, List.set_cons_succ]
            refine wpAnyH_ready (rs := [1, 3]) (by kernel_rfl) (by simp) ?_
            refine AllReadyH.cons rfl (fun K hK => ?_) ?_
            · refine step_append_nil (by rfl) _ _ 23 (by rfl) 36 i0 Tryd.underlying23 hi (by rfl) (by rfl) ?_
              refine hK.out _ _ ?_ (fun hHeld => ?_)
              · (try dsimp only)
                exact SC.out _ G0
              clear hK K
              try simp only [Act.put, List.getElem_toArray, List.getElem_cons_zero, List.getElem_cons_succ, List.setIfInBounds_toArray, List.set_cons_zero, List.set_cons_succ]
              refine wpAnyH_ready (rs := [3]) (by kernel_rfl) (by simp) ?_
              refine AllReadyH.cons rfl (fun K hK => ?_) ?_
              · go_simp
                refine hK.out _ _ ?_ (fun hHeld => ?_)
                · (try dsimp only)
                  exact SC.out _ (G0.alloc (Nat.le_refl _) _)
                clear hK K
                try simp only [Act.put, List.getElem_toArray, List.getElem_cons_zero, List.getElem_cons_succ, List.setIfInBounds_toArray, List.set_cons_zero, List.set_cons_succ]
                refine wpAnyH_ready (rs := [4]) (by kernel_rfl) (by simp) ?_
                refine AllReadyH.cons rfl (fun K hK => ?_) ?_
                · refine step_append_own_at _ (by rfl) _ _ 23 (by rfl) wr.heap.size 36 i0 (.agg #[S [], .int .i64 0, .int .i64 0]) 3 32 Tryd.underlying23 hi hz0 hz1 hz2 rfl (by decide) _ _ _ (by rfl) (show World.ownsRow _ wr.heap.size 36 3 (.slice none 0 0) 0 (opCells []) from own_nil _ _ _ _) ⟨wr.drew.heap.size, 0, none⟩ 1 1 [S n, .int .i64 f, .int .i64 p] (by rfl) (by rfl) (fun j u h => cells_new wr.drew _ (by rfl) [S n, .int .i64 f, .int .i64 p] _ j u h) hone3 hlm hl32 (by simp) ?_
                  intro v9 w9 hown9 hg9 _
                  obtain ⟨A9, c9, rfl⟩ := own_form hown9
                  have b9 := (G0.alloc (Nat.le_refl _) _).grown hg9 (by simp) (show ∀ k, (Value.slice none 0 0).ownBlock = some k → _ from fun k hk => by cases hk)
                  have HF : Hid (AddPost w ([] : List Lfc.Op) ⟨n, f, p⟩ (.returned (.tuple #[.slice A9 (([] : List Lfc.Op).length + 1) c9, .int .i64 0])) w9) := Lib.hid (by
                    have e1 : opCells (([] : List Lfc.Op) ++ [⟨n, f, p⟩]) = opCells ([] : List Lfc.Op) ++ [S n, .int .i64 f, .int .i64 p] := by rw [opCells_app]; rfl
                    have ho : w9.ownsRow wr.heap.size 36 3 (.slice A9 (([] : List Lfc.Op) ++ [(⟨n, f, p⟩ : Lfc.Op)]).length c9) (([] : List Lfc.Op) ++ [(⟨n, f, p⟩ : Lfc.Op)]).length (opCells (([] : List Lfc.Op) ++ [⟨n, f, p⟩])) := by rw [e1, List.length_append]; exact hown9
                    have bz : Below wr.heap.size wr w9 := b9
                    unfold AddPost
                    rw [HAD.out]
                    refine ⟨⟨A9, c9, by simp, OpsAt.of_own (fun x hx => ?_) ho⟩, BA.out.trans ((HB.out.trans (bz.mono HB.out.size)).mono BA.out.size)⟩
                    rcases List.mem_append.1 hx with hx | hx
                    · exact HL.out.1 x hx
                    · simp at hx; subst hx; exact hn)
                  refine hK.out _ _ ?_ (fun hHeld => ?_)
                  · (try dsimp only)
                    exact SC.out _ b9
                  clear hK K
                  try simp only [Act.put, List.getElem_toArray, List.getElem_cons_zero, List.getElem_cons_succ, List.setIfInBounds_toArray, List.set_cons_zero, List.set_cons_succ]
                  clear hown9 hg9 b9
                  refine wpAnyH_take (i := 5) (v := ?_) rfl (by kernel_rfl) (by kernel_rfl) (by kernel_rfl) (fun _ _ _ h => h) (Or.inl ⟨by rfl, ?_⟩) (by assumption) ?_
                  rotate_left
                  · (intro w hSw; (try dsimp only at hSw); go_simp; try with_reducible rfl)
                  try simp only [Act.put, List.getElem_toArray, List.getElem_cons_zero, List.getElem_cons_succ, List.setIfInBounds_toArray, List.set_cons_zero, List.set_cons_succ]
                  refine wpAnyH_take (i := 6) (v := ?_) rfl (by kernel_rfl) (by kernel_rfl) (by kernel_rfl) (fun _ _ _ h => h) (Or.inl ⟨by rfl, ?_⟩) (by assumption) ?_
                  rotate_left
                  · (intro w hSw; (try dsimp only at hSw); go_simp; try with_reducible rfl)
                  try simp only [Act.put, List.getElem_toArray, List.getElem_cons_zero, List.getElem_cons_succ, List.setIfInBounds_toArray, List.set_cons_zero, List.set_cons_succ]
                  refine wpAnyH_done (by kernel_rfl) ?_ _
                  go_wp2_with fail
                  go_ret2
                  exact HF.out
                exact AllReadyH.nil
              exact AllReadyH.nil
            refine AllReadyH.cons rfl (fun K hK => ?_) ?_
            · go_simp
              refine hK.out _ _ ?_ (fun hHeld => ?_)
              · (try dsimp only)
                exact SC.out _ (G0.alloc (Nat.le_refl _) _)
              clear hK K
              try simp only [Act.put, List.getElem_toArray, List.getElem_cons_zero, List.getElem_cons_succ, List.setIfInBounds_toArray, List.set_cons_zero, List.set_cons_succ]
              refine wpAnyH_ready (rs := [1]) (by kernel_rfl) (by simp) ?_
              refine AllReadyH.cons rfl (fun K hK => ?_) ?_
              · refine step_append_nil (by rfl) _ _ 23 (by rfl) 36 i0 Tryd.underlying23 hi (by rfl) (by rfl) ?_
                refine hK.out _ _ ?_ (fun hHeld => ?_)
                · (try dsimp only)
                  exact SC.out _ (G0.alloc (Nat.le_refl _) _)
                clear hK K
                try simp only [Act.put, List.getElem_toArray, List.getElem_cons_zero, List.getElem_cons_succ, List.setIfInBounds_toArray, List.set_cons_zero, List.set_cons_succ]
                refine wpAnyH_ready (rs := [4]) (by kernel_rfl) (by simp) ?_
                refine AllReadyH.cons rfl (fun K hK => ?_) ?_
                · refine step_append_own_at _ (by rfl) _ _ 23 (by rfl) wr.heap.size 36 i0 (.agg #[S [], .int .i64 0, .int .i64 0]) 3 32 Tryd.underlying23 hi hz0 hz1 hz2 rfl (by decide) _ _ _ (by rfl) (show World.ownsRow _ wr.heap.size 36 3 (.slice none 0 0) 0 (opCells []) from own_nil _ _ _ _) ⟨wr.drew.heap.size, 0, none⟩ 1 1 [S n, .int .i64 f, .int .i64 p] (by rfl) (by rfl) (fun j u h => cells_new wr.drew _ (by rfl) [S n, .int .i64 f, .int .i64 p] _ j u h) hone3 hlm hl32 (by simp) ?_
                  intro v9 w9 hown9 hg9 _
                  obtain ⟨A9, c9, rfl⟩ := own_form hown9
                  have b9 := (G0.alloc (Nat.le_refl _) _).grown hg9 (by simp) (show ∀ k, (Value.slice none 0 0).ownBlock = some k → _ from fun k hk => by cases hk)
                  have HF : Hid (AddPost w ([] : List Lfc.Op) ⟨n, f, p⟩ (.returned (.tuple #[.slice A9 (([] : List Lfc.Op).length + 1) c9, .int .i64 0])) w9) := Lib.hid (by
                    have e1 : opCells (([] : List Lfc.Op) ++ [⟨n, f, p⟩]) = opCells ([] : List Lfc.Op) ++ [S n, .int .i64 f, .int .i64 p] := by rw [opCells_app]; rfl
                    have ho : w9.ownsRow wr.heap.size 36 3 (.slice A9 (([] : List Lfc.Op) ++ [(⟨n, f, p⟩ : Lfc.Op)]).length c9) (([] : List Lfc.Op) ++ [(⟨n, f, p⟩ : Lfc.Op)]).length (opCells (([] : List Lfc.Op) ++ [⟨n, f, p⟩])) := by rw [e1, List.length_append]; exact hown9
                    have bz : Below wr.heap.size wr w9 := b9
                    unfold AddPost
                    rw [HAD.out]
                    refine ⟨⟨A9, c9, by simp, OpsAt.of_own (fun x hx => ?_) ho⟩, BA.out.trans ((HB.out.trans (bz.mono HB.out.size)).mono BA.out.size)⟩
                    rcases List.mem_append.1 hx with hx | hx
                    · exact HL.out.1 x hx
                    · simp at hx; subst hx; exact hn)
                  refine hK.out _ _ ?_ (fun hHeld => ?_)
                  · (try dsimp only)
                    exact SC.out _ b9
                  clear hK K
                  try simp only [Act.put, List.getElem_toArray, List.getElem_cons_zero, List.getElem_cons_succ, List.setIfInBounds_toArray, List.set_cons_zero, List.set_cons_succ]
                  clear hown9 hg9 b9
                  refine wpAnyH_take (i := 5) (v := ?_) rfl (by kernel_rfl) (by kernel_rfl) (by kernel_rfl) (fun _ _ _ h => h) (Or.inl ⟨by rfl, ?_⟩) (by assumption) ?_
                  rotate_left
                  · (intro w hSw; (try dsimp only at hSw); go_simp; try with_reducible rfl)
                  try simp only [Act.put, List.getElem_toArray, List.getElem_cons_zero, List.getElem_cons_succ, List.setIfInBounds_toArray, List.set_cons_zero, List.set_cons_succ]
                  refine wpAnyH_take (i := 6) (v := ?_) rfl (by kernel_rfl) (by kernel_rfl) (by kernel_rfl) (fun _ _ _ h => h) (Or.inl ⟨by rfl, ?_⟩) (by assumption) ?_
                  rotate_left
                  · (intro w hSw; (try dsimp only at hSw); go_simp; try with_reducible rfl)
                  try simp only [Act.put, List.getElem_toArray, List.getElem_cons_zero, List.getElem_cons_succ, List.setIfInBounds_toArray, List.set_cons_zero, List.set_cons_succ]
                  refine wpAnyH_done (by kernel_rfl) ?_ _
                  go_wp2_with fail
                  go_ret2
                  exact HF.out
                exact AllReadyH.nil
              exact AllReadyH.nil
            exact AllReadyH.nil
          · have hcells : ∀ j u, (opCells l)[j]? = some u → wa.cell? (ad.add j) = some u := fun j u hj => by
              by_cases e : l = []
              · subst e; simp [opCells] at hj
              · obtain ⟨b, o, hA, hb, hc⟩ := HL.out.2 e
                cases hA
                rw [Go.WideShapes.add_plain]
                exact ops_cells l o hc j u hj
            have HC := Lib.hid (show ∀ W, Below wr.heap.size wr W → ∀ j u, (opCells l)[j]? = some u → W.cell? (ad.add j) = some u from fun W hW j u hj => by
              have h1 := hcells j u hj
              have h2 : (ad.add j).block < wa.heap.size := by
                rcases Nat.lt_or_ge (ad.add j).block wa.heap.size with h3 | h3
                · exact h3
                · unfold World.cell? at h1; rw [Array.getElem?_eq_none h3] at h1; cases h1
              exact ((HB.out.trans (hW.mono HB.out.size)).cell h2).trans h1)
            have hx := opCells_len l
            have hone := opCells_one l
            clear hcells
            have SC := Lib.hid (show ∀ W, Below wr.heap.size wr W → W.cell? ⟨w.heap.size, 0, none⟩ = some (S n) ∧ W.cell? ⟨w.heap.size, 1, none⟩ = some (.int .i64 f) ∧ W.cell? ⟨w.heap.size, 2, none⟩ = some (.int .i64 p) from fun W hW => cells3 (((HB.out.trans (hW.mono HB.out.size)).block _ (lt_of_block QA.out)).trans QA.out))
            have G0 : Below wr.heap.size wr wr.drew := (Below.refl _ _).drew
            clear QA
            go_wp2_with fail
            refine wp_region_held_drew (S := fun W => W.cell? ⟨w.heap.size, 0, none⟩ = some (S n) ∧ W.cell? ⟨w.heap.size, 1, none⟩ = some (.int .i64 f) ∧ W.cell? ⟨w.heap.size, 2, none⟩ = some (.int .i64 p)) (by kernel_rfl) ?_ (fun hHeld => ?_)
            · exact SC.out _ G0
            refine wpAnyH_take (i := 0) (v := ?_) rfl (by kernel_rfl) (by kernel_rfl) (by kernel_rfl) (fun _ _ _ h => h) (Or.inl ⟨by rfl, ?_⟩) (by assumption) ?_
            rotate_left
            · (intro w hSw; (try dsimp only at hSw); go_simp; try with_reducible rfl)
            try simp only [Act.put, List.getElem_toArray, List.getElem_cons_zero, List.getElem_cons_succ, List.setIfInBounds_toArray, List.set_cons_zero, List.set_cons_succ]
            refine wpAnyH_take (i := 2) (v := ?_) rfl (by kernel_rfl) (by kernel_rfl) (by kernel_rfl) (fun _ _ _ h => h) (Or.inl ⟨by rfl, ?_⟩) (by assumption) ?_
            rotate_left
            · (intro w hSw; (try dsimp only at hSw); go_simp; try with_reducible rfl)
            try simp only [Act.put, List.getElem_toArray, List.getElem_cons_zero, List.getElem_cons_succ, List.setIfInBounds_toArray, List.set_cons_zero, List.set_cons_succ]
            refine wpAnyH_ready (rs := [1, 3]) (by kernel_rfl) (by simp) ?_
            refine AllReadyH.cons rfl (fun K hK => ?_) ?_
            · refine step_append_own_at _ (by rfl) _ _ 23 (by rfl) wr.heap.size 36 i0 (.agg #[S [], .int .i64 0, .int .i64 0]) 3 32 Tryd.underlying23 hi hz0 hz1 hz2 rfl (by decide) _ _ _ (by rfl) (own_nil _ _ _ _) ad l.length c (opCells l) (by rfl) hx (HC.out _ G0) hone (by simpa using hlm0) (by simpa using hl320) (by simp) ?_
              intro v1 w1 hown1 hg1 _
              simp only [Nat.zero_add, List.nil_append] at hown1
              obtain ⟨A1, c1, rfl⟩ := own_form hown1
              have B1 := G0.grown hg1 (by simp) (show ∀ k, (Value.slice none 0 0).ownBlock = some k → _ from fun k hk => by cases hk)
              refine hK.out _ _ ?_ (fun hHeld => ?_)
              · (try dsimp only)
                exact SC.out _ B1
              clear hK K
              try simp only [Act.put, List.getElem_toArray, List.getElem_cons_zero, List.getElem_cons_succ, List.setIfInBounds_toArray, List.set_cons_zero, List.set_cons_succ]
              refine wpAnyH_ready (rs := [3]) (by kernel_rfl) (by simp) ?_
              refine AllReadyH.cons rfl (fun K hK => ?_) ?_
              · go_simp
                refine hK.out _ _ ?_ (fun hHeld => ?_)
                · (try dsimp only)
                  exact SC.out _ (B1.alloc B1.size _)
                clear hK K
                try simp only [Act.put, List.getElem_toArray, List.getElem_cons_zero, List.getElem_cons_succ, List.setIfInBounds_toArray, List.set_cons_zero, List.set_cons_succ]
                refine wpAnyH_ready (rs := [4]) (by kernel_rfl) (by simp) ?_
                refine AllReadyH.cons rfl (fun K hK => ?_) ?_
                · refine step_append_own_at _ (by rfl) _ _ 23 (by rfl) wr.heap.size 36 i0 (.agg #[S [], .int .i64 0, .int .i64 0]) 3 32 Tryd.underlying23 hi hz0 hz1 hz2 rfl (by decide) _ _ _ (by rfl) (hown1.alloc _) ⟨w1.heap.size, 0, none⟩ 1 1 [S n, .int .i64 f, .int .i64 p] (by rfl) (by rfl) (fun j u h => cells_new w1 _ (by simp) [S n, .int .i64 f, .int .i64 p] _ j u h) hone3 hlm hl32 (alloc_le B1.size) ?_
                  intro v9 w9 hown9 hg9 _
                  obtain ⟨A9, c9, rfl⟩ := own_form hown9
                  have b9 := (B1.alloc B1.size _).grown hg9 (by have := B1.size; simp; omega) (own_block_ge hown1)
                  have HF : Hid (AddPost w l ⟨n, f, p⟩ (.returned (.tuple #[.slice A9 (l.length + 1) c9, .int .i64 0])) w9) := Lib.hid (by
                    have e1 : opCells (l ++ [⟨n, f, p⟩]) = opCells l ++ [S n, .int .i64 f, .int .i64 p] := by rw [opCells_app]; rfl
                    have ho : w9.ownsRow wr.heap.size 36 3 (.slice A9 (l ++ [(⟨n, f, p⟩ : Lfc.Op)]).length c9) (l ++ [(⟨n, f, p⟩ : Lfc.Op)]).length (opCells (l ++ [⟨n, f, p⟩])) := by rw [e1, List.length_append]; exact hown9
                    have bz : Below wr.heap.size wr w9 := b9
                    unfold AddPost
                    rw [HAD.out]
                    refine ⟨⟨A9, c9, by simp, OpsAt.of_own (fun x hx => ?_) ho⟩, BA.out.trans ((HB.out.trans (bz.mono HB.out.size)).mono BA.out.size)⟩
                    rcases List.mem_append.1 hx with hx | hx
                    · exact HL.out.1 x hx
                    · simp at hx; subst hx; exact hn)
                  refine hK.out _ _ ?_ (fun hHeld => ?_)
                  · (try dsimp only)
                    exact SC.out _ b9
                  clear hK K
                  try simp only [Act.put, List.getElem_toArray, List.getElem_cons_zero, List.getElem_cons_succ, List.setIfInBounds_toArray, List.set_cons_zero, List.set_cons_succ]
                  clear hown9 hg9 b9
                  refine wpAnyH_take (i := 5) (v := ?_) rfl (by kernel_rfl) (by kernel_rfl) (by kernel_rfl) (fun _ _ _ h => h) (Or.inl ⟨by rfl, ?_⟩) (by assumption) ?_
                  rotate_left
                  · (intro w hSw; (try dsimp only at hSw); go_simp; try with_reducible rfl)
                  try simp only [Act.put, List.getElem_toArray, List.getElem_cons_zero, List.getElem_cons_succ, List.setIfInBounds_toArray, List.set_cons_zero, List.set_cons_succ]
                  refine wpAnyH_take (i := 6) (v := ?_) rfl (by kernel_rfl) (by kernel_rfl) (by kernel_rfl) (fun _ _ _ h => h) (Or.inl ⟨by rfl, ?_⟩) (by assumption) ?_
                  rotate_left
                  · (intro w hSw; (try dsimp only at hSw); go_simp; try with_reducible rfl)
                  try simp only [Act.put, List.getElem_toArray, List.getElem_cons_zero, List.getElem_cons_succ, List.setIfInBounds_toArray, List.set_cons_zero, List.set_cons_succ]
                  refine wpAnyH_done (by kernel_rfl) ?_ _
                  go_wp2_with fail
                  go_ret2
                  exact HF.out
                exact AllReadyH.nil
              exact AllReadyH.nil
            refine AllReadyH.cons rfl (fun K hK => ?_) ?_
            · go_simp
              refine hK.out _ _ ?_ (fun hHeld => ?_)
              · (try dsimp only)
                exact SC.out _ (G0.alloc (Nat.le_refl _) _)
              clear hK K
              try simp only [Act.put, List.getElem_toArray, List.getElem_cons_zero, List.getElem_cons_succ, List.setIfInBounds_toArray, List.set_cons_zero, List.set_cons_succ]
              refine wpAnyH_ready (rs := [1]) (by kernel_rfl) (by simp) ?_
              refine AllReadyH.cons rfl (fun K hK => ?_) ?_
              · have G1 : Below wr.heap.size wr (wr.drew.alloc (.cells #[S n, .int .i64 f, .int .i64 p] 36)) := G0.alloc (Nat.le_refl _) _
                refine step_append_own_at _ (by rfl) _ _ 23 (by rfl) (wr.drew.alloc (.cells #[S n, .int .i64 f, .int .i64 p] 36)).heap.size 36 i0 (.agg #[S [], .int .i64 0, .int .i64 0]) 3 32 Tryd.underlying23 hi hz0 hz1 hz2 rfl (by decide) _ _ _ (by rfl) (own_nil _ _ _ _) ad l.length c (opCells l) (by rfl) hx (HC.out _ G1) hone (by simpa using hlm0) (by simpa using hl320) (by simp) ?_
                intro v1 w1 hown1 hg1 _
                simp only [Nat.zero_add, List.nil_append] at hown1
                obtain ⟨A1, c1, rfl⟩ := own_form hown1
                have B2 := (Below.refl (wr.drew.alloc (.cells #[S n, .int .i64 f, .int .i64 p] 36)).heap.size (wr.drew.alloc (.cells #[S n, .int .i64 f, .int .i64 p] 36))).grown hg1 (by simp) (show ∀ k, (Value.slice none 0 0).ownBlock = some k → _ from fun k hk => by cases hk)
                have B1 : Below wr.heap.size wr w1 := G1.trans (B2.mono G1.size)
                refine hK.out _ _ ?_ (fun hHeld => ?_)
                · (try dsimp only)
                  exact SC.out _ B1
                clear hK K
                try simp only [Act.put, List.getElem_toArray, List.getElem_cons_zero, List.getElem_cons_succ, List.setIfInBounds_toArray, List.set_cons_zero, List.set_cons_succ]
                refine wpAnyH_ready (rs := [4]) (by kernel_rfl) (by simp) ?_
                refine AllReadyH.cons rfl (fun K hK => ?_) ?_
                · refine step_append_own_at _ (by rfl) _ _ 23 (by rfl) (wr.drew.alloc (.cells #[S n, .int .i64 f, .int .i64 p] 36)).heap.size 36 i0 (.agg #[S [], .int .i64 0, .int .i64 0]) 3 32 Tryd.underlying23 hi hz0 hz1 hz2 rfl (by decide) _ _ _ (by rfl) hown1 ⟨wr.drew.heap.size, 0, none⟩ 1 1 [S n, .int .i64 f, .int .i64 p] (by rfl) (by rfl) (fun j u h => (B2.cell (p := (⟨wr.drew.heap.size, 0, none⟩ : Addr).add j) (by rw [Go.WideShapes.add_plain]; simp)).trans (cells_new wr.drew _ (by rfl) [S n, .int .i64 f, .int .i64 p] _ j u h)) hone3 hlm hl32 B2.size ?_
                  intro v9 w9 hown9 hg9 _
                  obtain ⟨A9, c9, rfl⟩ := own_form hown9
                  have b9 := B1.grown hg9 (by have := B2.size; have := G1.size; omega) (fun k hk => Nat.le_trans G1.size (own_block_ge hown1 k hk))
                  have HF : Hid (AddPost w l ⟨n, f, p⟩ (.returned (.tuple #[.slice A9 (l.length + 1) c9, .int .i64 0])) w9) := Lib.hid (by
                    have e1 : opCells (l ++ [⟨n, f, p⟩]) = opCells l ++ [S n, .int .i64 f, .int .i64 p] := by rw [opCells_app]; rfl
                    have ho : w9.ownsRow (wr.drew.alloc (.cells #[S n, .int .i64 f, .int .i64 p] 36)).heap.size 36 3 (.slice A9 (l ++ [(⟨n, f, p⟩ : Lfc.Op)]).length c9) (l ++ [(⟨n, f, p⟩ : Lfc.Op)]).length (opCells (l ++ [⟨n, f, p⟩])) := by rw [e1, List.length_append]; exact hown9
                    have bz : Below wr.heap.size wr w9 := b9
                    unfold AddPost
                    rw [HAD.out]
                    refine ⟨⟨A9, c9, by simp, OpsAt.of_own (fun x hx => ?_) ho⟩, BA.out.trans ((HB.out.trans (bz.mono HB.out.size)).mono BA.out.size)⟩
                    rcases List.mem_append.1 hx with hx | hx
                    · exact HL.out.1 x hx
                    · simp at hx; subst hx; exact hn)
                  refine hK.out _ _ ?_ (fun hHeld => ?_)
                  · (try dsimp only)
                    exact SC.out _ b9
                  clear hK K
                  try simp only [Act.put, List.getElem_toArray, List.getElem_cons_zero, List.getElem_cons_succ, List.setIfInBounds_toArray, List.set_cons_zero, List.set_cons_succ]
                  clear hown9 hg9 b9
                  refine wpAnyH_take (i := 5) (v := ?_) rfl (by kernel_rfl) (by kernel_rfl) (by kernel_rfl) (fun _ _ _ h => h) (Or.inl ⟨by rfl, ?_⟩) (by assumption) ?_
                  rotate_left
                  · (intro w hSw; (try dsimp only at hSw); go_simp; try with_reducible rfl)
                  try simp only [Act.put, List.getElem_toArray, List.getElem_cons_zero, List.getElem_cons_succ, List.setIfInBounds_toArray, List.set_cons_zero, List.set_cons_succ]
                  refine wpAnyH_take (i := 6) (v := ?_) rfl (by kernel_rfl) (by kernel_rfl) (by kernel_rfl) (fun _ _ _ h => h) (Or.inl ⟨by rfl, ?_⟩) (by assumption) ?_
                  rotate_left
                  · (intro w hSw; (try dsimp only at hSw); go_simp; try with_reducible rfl)
                  try simp only [Act.put, List.getElem_toArray, List.getElem_cons_zero, List.getElem_cons_succ, List.setIfInBounds_toArray, List.set_cons_zero, List.set_cons_succ]
                  refine wpAnyH_done (by kernel_rfl) ?_ _
                  go_wp2_with fail
                  go_ret2
                  exact HF.out
                exact AllReadyH.nil
              exact AllReadyH.nil
            exact AllReadyH.nil
  · have HAD : Hid (Lfc.added l ⟨n, f, p⟩ = (l, z)) := Lib.hid (by rw [HAD0.out]; simp [hz])
    have hz2 : (z != 0) = true := by simpa using hz
    have hz3 : (z == 0) = false := by simpa using hz
    clear hz
    go_enter Tryd.func13, Tryd.ntmps13
    go_upto_region 1 with fail
    rw [HWA.out]
    go_wp2_with fail
    refine CK.out.mono ?_
    rintro e w1 ⟨rfl, b1⟩
    go_wp2_with fail
    go_ret2
    exact SAME.out z _ HAD.out b1
end Go.Proofs.YtkhfnkokdmoipaaDoor

/- lfchecklaw03.same, and the walk of the law OperatorResolves. -/
set_option linter.unusedVariables false
set_option linter.unusedSimpArgs false
namespace Lfc
theorem resolved_size (l : List Op) (s : List Opd) (h : wsum s ≤ 100000000) : (resolved l s).1.size ≤ 100000000 := by
  have hz : rawZ.size ≤ 100000000 := by decide
  unfold resolved
  split
  · exact hz
  · split
    · exact hz
    · split
      · exact hz
      · split
        · rename_i h1
          split
          · exact hz
          · obtain ⟨x, rfl⟩ := List.length_eq_one_iff.1 h1
            have := wsum_mem [x] x List.mem_cons_self
            show x.tree.size ≤ _
            omega
        · cases e : resP l s.length s with
          | error k => exact hz
          | ok t =>
            simp only
            split
            · exact Nat.le_trans (resP_size l _ s t e) h
            · exact hz
end Lfc
namespace Go.Proofs.YtkhfnkokdmoipaaDoor
open Go.RowKit Go.Maps Go.WideMaps

def oWordsName : String := Rows.operatorResolvesRow.named.headD default
theorem ogWords : Tryd.prog.globalNamed oWordsName = some 0 := by kernel_rfl
theorem ogWordsType : (Tryd.prog.globals[0]?).map (·.type) = some 44 := by kernel_rfl
def oWordsLaid : List (String × DataW Unit) := [(oWordsName, Rows.laid_lfcheck_lfcheckmade_words)]
theorem oWords_datum {H : Type} : (Rows.laid_lfcheck_lfcheckmade_words : DataW H) = .slice (Lfc.words.map fun l => .lit (.string l)) [] := rfl
theorem oWordsAt_of {W : World} (h : laidMetH Tryd.prog oWordsLaid W) : WordsAt W := by
  rw [MakeChecks.laidMetH_plain _ _ _ (by kernel_rfl)] at h
  obtain ⟨ps, ⟨g0, t0, cs0, f0, p0, q0, hg0, ht0, hv0, hd0, _⟩, _⟩ := h
  obtain rfl := Option.some.inj (ogWords.symm.trans hg0)
  obtain rfl := Option.some.inj (ogWordsType.symm.trans ht0)
  rw [oWords_datum] at hd0
  obtain ⟨a, cap, hcs, hcap, hel⟩ := open_row Tryd.underlying44 (by kernel_rfl) hd0
  obtain ⟨b, o, spot⟩ := a
  have each : ∀ k, k < 13 → W.cell? ((⟨b, o, spot⟩ : Addr).add k) = some (S (Lfc.words.getD k [])) := by
    intro k hk
    have hk' : k < Lfc.words.length := hk
    obtain ⟨v, n, q, hc, ht⟩ := hel k (.lit (.string Lfc.words[k])) (by rw [List.getElem?_map, List.getElem?_eq_getElem hk']; rfl)
    obtain ⟨s, hs, hx, _⟩ := DataW.trod_string Tryd.underlying9 ht
    simp only [List.cons.injEq, and_true] at hs
    subst hs
    simp only [Prod.mk.injEq, DataW.lit.injEq, Lit.string.injEq] at hx
    rw [hc, List.getD_eq_getElem?_getD, List.getElem?_eq_getElem hk', Option.getD_some, hx.1]
  have hspot : spot = none := by simpa [Addr.add] using World.cell?_spot (each 0 (by decide))
  subst hspot
  have hcell : W.cell? ⟨0, 0, none⟩ = some (.slice (some ⟨b, o, none⟩) 13 cap) := by
    have := World.var?_cell hg0 hv0 0
    rw [Array.eq_one_of_toList hcs, List.length_map, show Lfc.words.length = 13 from rfl] at this
    simpa using this
  have each' : ∀ k, k < 13 → W.cell? ⟨b, o + k, none⟩ = some (S (Lfc.words.getD k [])) := fun k hk => by
    rw [← Go.WideShapes.add_plain]; exact each k hk
  exact ⟨b, o, cap, hcell, lt_of_cell (each' 0 (by decide)), lt_of_cell hcell, each'⟩

set_option maxRecDepth 100000 in
set_option maxHeartbeats 4000000 in
theorem same3_any (l : List Lfc.Op) (s : List Lfc.Opd) (Al As : Option Addr) (cl cs : Nat) (w : World) (hll : l.length ≤ 1000000) (hsl : s.length ≤ 1000000) (hcs : s.length ≤ cs) (hws : Lfc.wsum s ≤ 100000000) (hl : OpsAt w Al l) (hs : OpdsAt w As s) :
    Calls Tryd.prog 8 #[.slice Al l.length cl, .slice As s.length cs] w fun e w' => e = .returned (.bool true) ∧ Below w.heap.size w w' := by
  have HSZ := Lib.hid (Lfc.resolved_size l s hws)
  have C1 := Lib.hid (resolve_any l s Al As cl cs w hll hsl hcs hws hl hs)
  have C2 := Lib.hid (fun W (hW : Below w.heap.size w W) => rResolve_any l s Al As cl cs W hll hsl hcs hws (hl.below hW) (hs.below hW))
  generalize (Lfc.resolved l s).1 = t at *
  generalize (Lfc.resolved l s).2 = k at *
  clear hl hs hws
  go_enter Tryd.func8, Tryd.ntmps8
  go_wp2_with fail
  refine C1.out.mono ?_
  rintro e w1 ⟨⟨v1, rfl, hv1⟩, b1⟩
  obtain ⟨k1, n1, p1, us1, A1, c1, e1, rfl⟩ := TreeV.node3 hv1
  obtain ⟨w2, hw2⟩ : ∃ w2, w1.alloc (.cells #[.int .i64 k1, S n1, .int .i64 p1, .slice A1 us1.length c1] 39) = w2 := ⟨_, rfl⟩
  have b2 : Below w1.heap.size w1 w2 := by rw [← hw2]; exact (Below.refl _ _).alloc (Nat.le_refl _) _
  have q2 : w2.heap[w1.heap.size]? = some (.cells #[.int .i64 k1, S n1, .int .i64 p1, .slice A1 us1.length c1] 39 (0, 0)) := by rw [← hw2]; exact heap_alloc_new _ _
  have B2 := Lib.hid (b1.trans (b2.mono b1.size))
  have HV1 := Lib.hid (hv1.below b2)
  have Q2 := Lib.hid q2
  have HW2 := Lib.hid hw2
  have C22 := Lib.hid (C2.out w2 B2.out)
  clear hv1 b1 b2 q2 hw2 e1 C1 C2
  go_upto_region 2 with fail
  rw [HW2.out]
  go_wp2_with fail
  refine C22.out.mono ?_
  rintro e w3 ⟨⟨v3, rfl, hv3⟩, b3⟩
  obtain ⟨k3, n3, p3, us3, A3, c3, e3, rfl⟩ := TreeV.node3 hv3
  obtain ⟨w4, hw4⟩ : ∃ w4, w3.alloc (.cells #[.int .i64 k3, S n3, .int .i64 p3, .slice A3 us3.length c3] 39) = w4 := ⟨_, rfl⟩
  have b4 : Below w3.heap.size w3 w4 := by rw [← hw4]; exact (Below.refl _ _).alloc (Nat.le_refl _) _
  have q4 : w4.heap[w3.heap.size]? = some (.cells #[.int .i64 k3, S n3, .int .i64 p3, .slice A3 us3.length c3] 39 (0, 0)) := by rw [← hw4]; exact heap_alloc_new _ _
  have b24 := b3.trans (b4.mono b3.size)
  have B4 := Lib.hid (B2.out.trans (b24.mono B2.out.size))
  obtain ⟨x0, x1, x2, x3⟩ := cells4 ((b24.block _ (lt_of_block Q2.out)).trans Q2.out)
  obtain ⟨y0, y1, y2, y3⟩ := cells4 q4
  have CS := Lib.hid (rSame_any true t t _ _ w4 (by have := HSZ.out; omega) (HV1.out.below b24) (hv3.below b4))
  rw [Lfc.lvSame true t] at CS
  have HW4 := Lib.hid hw4
  clear hv3 b3 b4 q4 hw4 e3 b24 C22
  go_upto_region 3 with fail
  rw [HW4.out]
  go_wp2_with fail
  refine CS.out.mono ?_
  rintro e w5 ⟨rfl, b5⟩
  go_wp2_with fail
  go_ret
  exact ⟨rfl, B4.out.trans (b5.mono B4.out.size)⟩
theorem wsum_le (s : List Lfc.Opd) (h : ∀ x ∈ s, x.tree.size ≤ 2000) : Lfc.wsum s ≤ 2002 * s.length := by
  induction s with
  | nil => simp [Lfc.wsum]
  | cons x r ih =>
    have h1 := h x List.mem_cons_self
    have h2 := ih (fun y hy => h y (List.mem_cons_of_mem _ hy))
    rw [Lfc.wsum, List.length_cons]
    omega
/-- The operators and the operands that a law makes. -/
theorem cap_le {w : World} {base : Nat} {e : TypeId} {size n c : Nat} {A : Option Addr} {xs : List Value} (h : w.ownsRow base e size (.slice A n c) n xs) : n ≤ c := by
  obtain ⟨A', c', hv, hc⟩ := own_cap h
  injection hv with _ _ e3
  omega

set_option maxRecDepth 100000 in
set_option maxHeartbeats 4000000 in
theorem operatorResolves_walk (v0 v1 : Value) (z0 z1 : List Int) (w : World) (i0 : IntsAt w v0 z0) (i1 : IntsAt w v1 z1) (hw : WordsAt w) :
    Calls Tryd.prog 3 #[v0, v1] w fun e w' => e = .returned (.bool true) ∧ Below w.heap.size w w' := by
  obtain ⟨wT, hwT⟩ : ∃ wT, w.alloc (.cells #[v0, .int .i64 0] 27) = wT := ⟨_, rfl⟩
  have bT : Below w.heap.size w wT := by rw [← hwT]; exact (Below.refl _ _).alloc (Nat.le_refl _) _
  have qT : wT.heap[w.heap.size]? = some (.cells #[v0, .int .i64 0] 27 (0, 0)) := by rw [← hwT]; exact heap_alloc_new _ _
  have C1 := Lib.hid (madeOps_any w.heap.size wT (tapeAt_new i0 hw w.heap.size (Nat.le_refl _) bT qT))
  have BT := Lib.hid bT
  have I1 := Lib.hid i1
  have WW := Lib.hid hw
  have HI0 := Lib.hid i0
  obtain ⟨A0, c0, rfl, _⟩ := i0
  obtain ⟨A1, c1, rfl, _⟩ := i1
  clear bT qT hw
  go_enter Tryd.func3, Tryd.ntmps3
  go_wp2_with fail
  refine C1.out.mono ?_
  unfold OpsPost
  rintro e w2 ⟨l, Al, cl, rfl, hm, hll⟩
  have b2 : Below w.heap.size w w2 := Oth.below BT.out hm.oth (Nat.le_refl _) BT.out.size
  obtain ⟨w3, hw3⟩ : ∃ w3, w2.alloc (.cells #[.slice A1 z1.length c1, .int .i64 0] 27) = w3 := ⟨_, rfl⟩
  have b3 : Below w2.heap.size w2 w3 := by rw [← hw3]; exact (Below.refl _ _).alloc (Nat.le_refl _) _
  have q3 : w3.heap[w2.heap.size]? = some (.cells #[.slice A1 z1.length c1, .int .i64 0] 27 (0, 0)) := by rw [← hw3]; exact heap_alloc_new _ _
  have C3 := Lib.hid (madeOperands_any w2.heap.size 12 w3 (by omega) (tapeAt_new (I1.out.below b2) (WW.out.below b2) w2.heap.size (Nat.le_refl _) b3 q3))
  have HLO := Lib.hid (OpsAt.of_own hm.names hm.own)
  have B2 := Lib.hid b2
  have B3 := Lib.hid b3
  have HCL := Lib.hid (cap_le hm.own)
  clear hm b2 b3 q3 C1 hwT
  go_wp2_with fail
  refine C3.out.mono ?_
  unfold OpdsPost
  rintro e w4 ⟨s, As, cs, xs, rfl, hmp, hsl⟩
  have b4 : Below w2.heap.size w2 w4 := Oth.below B3.out hmp.oth (Nat.le_refl _) B3.out.size
  have CS := Lib.hid (same3_any l s Al As cl cs w4 (by omega) (by omega) (cap_le hmp.own) (by have := wsum_le s (fun x hx => by have := hmp.sizes x hx; omega); omega) (HLO.out.below b4) (RowO.opds hmp.own hmp.row))
  have B4 := Lib.hid (B2.out.trans (b4.mono B2.out.size))
  clear hmp b4 hw3 C3
  go_wp2_with fail
  refine CS.out.mono ?_
  rintro e w5 ⟨rfl, b5⟩
  go_wp2_with fail
  refine (awake3_any _).mono ?_
  rintro e w6 ⟨rfl, b6⟩
  go_wp2_with fail
  go_ret
  exact ⟨rfl, B4.out.trans ((b5.trans (b6.mono b5.size)).mono B4.out.size)⟩
end Go.Proofs.YtkhfnkokdmoipaaDoor

/- A parameter that is an array of four ints. -/
set_option linter.unusedVariables false
set_option linter.unusedSimpArgs false
namespace Go.Proofs.YtkhfnkokdmoipaaDoor
open Go.RowKit Go.ChangeShapes Go.WideShapes

theorem open_arr4 {H : Type} {enc : TypeId × Value → H} {W : World} {r : Reach} {base : Nat} {v : Value} {d : DataW H} {p : List MemPlace} (hok : Value.okWide Tryd.prog W r base 33 v) (h : DataW.Trod enc Tryd.prog W 0 (fun _ => true) true 33 v d p) : ∃ a b c e : Int, v = .agg #[.int .i64 a, .int .i64 b, .int .i64 c, .int .i64 e] := by
  simp only [Value.okWide, Tryd.underlying33] at hok
  obtain ⟨cs, rfl, hsz, _⟩ := hok
  have hsz4 : cs.size = 4 := by
    rw [hsz]
    kernel_rfl
  obtain ⟨c0, c1, c2, c3, rfl⟩ : ∃ c0 c1 c2 c3, cs = #[c0, c1, c2, c3] := by
    obtain ⟨l⟩ := cs
    match l, hsz4 with
    | [a, b, c, d], _ => exact ⟨a, b, c, d, rfl⟩
  obtain ⟨fuel, hf⟩ := h
  obtain ⟨y0, y1, y2, y3, n, _, h0, h1, h2, h3⟩ := trod_array4 Tryd.underlying33 (by kernel_rfl) hf
  obtain ⟨a0, e0, _⟩ := DataW.trod_int Tryd.underlying3 h0
  obtain ⟨a1, e1, _⟩ := DataW.trod_int Tryd.underlying3 h1
  obtain ⟨a2, e2, _⟩ := DataW.trod_int Tryd.underlying3 h2
  obtain ⟨a3, e3, _⟩ := DataW.trod_int Tryd.underlying3 h3
  cases e0
  cases e1
  cases e2
  cases e3
  exact ⟨a0, a1, a2, a3, rfl⟩
end Go.Proofs.YtkhfnkokdmoipaaDoor

/- The walk of the law OperatorAdds. -/
set_option linter.unusedVariables false
set_option linter.unusedSimpArgs false
namespace Lfc
theorem added_len (l : List Op) (o : Op) : (added l o).1.length ≤ l.length + 1 := by
  unfold added
  split
  · simp
  · split
    · simp
    · split
      · simp
      · simp
def five : List (List UInt8) := [[43], [42], [110, 101, 119], [116, 121, 112, 101], []]
end Lfc
namespace Go.Proofs.YtkhfnkokdmoipaaDoor
open Go.RowKit Go.Maps Go.WideMaps
attribute [local go_sem ↓] Go.wp_at_zero Go.wp_at_succ

theorem five_cell (w : World) (k : Nat) (h : k < 5) : (w.alloc (.cells #[.string ⟨#[43]⟩, .string ⟨#[42]⟩, .string ⟨#[110, 101, 119]⟩, .string ⟨#[116, 121, 112, 101]⟩, .string ⟨#[]⟩] 9)).cell? ⟨w.heap.size, k, none⟩ = some (S (Lfc.five.getD k [])) := by
  have q := heap_alloc_new w (.cells #[.string ⟨#[43]⟩, .string ⟨#[42]⟩, .string ⟨#[110, 101, 119]⟩, .string ⟨#[116, 121, 112, 101]⟩, .string ⟨#[]⟩] 9)
  match k, h with
  | 0, _ => exact Lib.cell_of_heap q 0
  | 1, _ => exact Lib.cell_of_heap q 1
  | 2, _ => exact Lib.cell_of_heap q 2
  | 3, _ => exact Lib.cell_of_heap q 3
  | 4, _ => exact Lib.cell_of_heap q 4
theorem five_len (k : Nat) : (Lfc.five.getD k []).length ≤ 10 := by
  by_cases h : k < 5
  · match k, h with
    | 0, _ => decide
    | 1, _ => decide
    | 2, _ => decide
    | 3, _ => decide
    | 4, _ => decide
  · rw [List.getD_eq_getElem?_getD, List.getElem?_eq_none (by simp [Lfc.five]; omega)]; simp
def zeroOps : Obj := .cells (madeCells (Value.agg #[S [], .int .i64 0, .int .i64 0]).cells (512 * 3)) 36
theorem zero_ops (W : World) : OpsAt (W.alloc zeroOps) (some ⟨W.heap.size, 0, none⟩) (List.replicate 512 ⟨[], 0, 0⟩) := by
  have q : (W.alloc zeroOps).heap[W.heap.size]? = some (.cells (madeCells #[S [], .int .i64 0, .int .i64 0] 1536) 36 (0, 0)) := heap_alloc_new W _
  have h : ∀ k, k < 1536 → (W.alloc zeroOps).cell? ⟨W.heap.size, k, none⟩ = some ((#[S [], .int .i64 0, .int .i64 0] : Array Value)[k % 3]!) := fun k hk => (Lib.cell_of_heap q k).trans (by
    unfold madeCells
    rw [Array.getElem?_map, Array.getElem?_range, if_pos hk]
    rfl)
  refine ⟨fun o ho => ?_, fun _ => ⟨W.heap.size, 0, rfl, by simp, fun i hi => ?_⟩⟩
  · rw [List.mem_replicate] at ho
    rw [ho.2]; simp
  · rw [List.length_replicate] at hi
    rw [List.getElem_replicate]
    have c0 := h (0 + i * 3) (by omega)
    have c1 := h (0 + i * 3 + 1) (by omega)
    have c2 := h (0 + i * 3 + 2) (by omega)
    rw [show (0 + i * 3) % 3 = 0 by omega] at c0
    rw [show (0 + i * 3 + 1) % 3 = 1 by omega] at c1
    rw [show (0 + i * 3 + 2) % 3 = 2 by omega] at c2
    exact ⟨c0, c1, c2⟩
/-- The state behind the operator. -/
structure AddI (w : World) (n3 : Int) (l : List Lfc.Op) (Al : Option Addr) (o : Lfc.Op) (g : Nat) (W : World) : Prop where
  bel : Below w.heap.size w W
  ops : OpsAt W Al l
  op : W.heap[g]? = some (.cells #[S o.name, .int .i64 o.fix, .int .i64 o.prec] 36 (0, 0))
  x3 : W.cell? ⟨w.heap.size, 3, none⟩ = some (.int .i64 n3)
  hw : w.heap.size < W.heap.size
theorem AddI.below {w W W' : World} {n3 : Int} {l : List Lfc.Op} {Al : Option Addr} {o : Lfc.Op} {g : Nat} (h : AddI w n3 l Al o g W) (hb : Below W.heap.size W W') : AddI w n3 l Al o g W' :=
  ⟨h.bel.trans (hb.mono h.bel.size), h.ops.below hb, (hb.block _ (lt_of_block h.op)).trans h.op, (hb.cell (p := ⟨w.heap.size, 3, none⟩) h.hw).trans h.x3, Nat.lt_of_lt_of_le h.hw hb.size⟩

theorem AddI.zero {w W : World} {n3 : Int} {l : List Lfc.Op} {Al : Option Addr} {o : Lfc.Op} {g : Nat} (h : AddI w n3 l Al o g W) : AddI w n3 (List.replicate 512 ⟨[], 0, 0⟩) (some ⟨W.heap.size, 0, none⟩) o g (W.alloc zeroOps) := by
  have h1 := h.below ((Below.refl W.heap.size W).alloc (Nat.le_refl _) zeroOps)
  exact ⟨h1.bel, zero_ops W, h1.op, h1.x3, h1.hw⟩

set_option maxRecDepth 100000 in
set_option maxHeartbeats 8000000 in
theorem operatorAdds_walk (v0 : Value) (z0 : List Int) (n0 n1 n2 n3 : Int) (w : World) (i0 : IntsAt w v0 z0) (hw : WordsAt w) :
    Calls Tryd.prog 5 #[v0, .agg #[.int .i64 n0, .int .i64 n1, .int .i64 n2, .int .i64 n3]] w fun e w' => e = .returned (.bool true) ∧ Below w.heap.size w w' := by
  obtain ⟨wN, hwN⟩ : ∃ wN, w.alloc (.cells #[.int .i64 n0, .int .i64 n1, .int .i64 n2, .int .i64 n3] 33) = wN := ⟨_, rfl⟩
  have bN : Below w.heap.size w wN := by rw [← hwN]; exact (Below.refl _ _).alloc (Nat.le_refl _) _
  have qN : wN.heap[w.heap.size]? = some (.cells #[.int .i64 n0, .int .i64 n1, .int .i64 n2, .int .i64 n3] 33 (0, 0)) := by rw [← hwN]; exact heap_alloc_new _ _
  obtain ⟨wT, hwT⟩ : ∃ wT, wN.alloc (.cells #[v0, .int .i64 0] 27) = wT := ⟨_, rfl⟩
  have bT : Below wN.heap.size wN wT := by rw [← hwT]; exact (Below.refl _ _).alloc (Nat.le_refl _) _
  have qT : wT.heap[wN.heap.size]? = some (.cells #[v0, .int .i64 0] 27 (0, 0)) := by rw [← hwT]; exact heap_alloc_new _ _
  have C1 := Lib.hid (madeOps_any wN.heap.size wT (tapeAt_new (i0.below bN) (hw.below bN) wN.heap.size (Nat.le_refl _) bT qT))
  obtain ⟨it, hi, hz0, hz1, hz2⟩ := op_infoM
  have HMK : Hid (∀ W : World, (Instr.makeSlice 23 (.int .i64 512) (.int .i64 512)).run Tryd.prog W = .ok (.slice (some ⟨W.heap.size, 0, none⟩) 512 512) (W.alloc zeroOps)) := Lib.hid (fun W => by
    have h := run_make_rowN (P := Tryd.prog) 23 36 it (.agg #[S [], .int .i64 0, .int .i64 0]) Tryd.underlying23 hi hz0 .i64 .i64 512 512 (Nat.le_refl _) (by rw [hz2]; omega) (by omega) W
    rw [hz1] at h
    exact h)
  have BN := Lib.hid bN
  have BT := Lib.hid bT
  have QN := Lib.hid qN
  have hNs := lt_of_block qN
  obtain ⟨A0, c0, rfl, _⟩ := i0
  clear bN qN bT qT hw hi hz0 hz1 hz2
  go_enter Tryd.func5, Tryd.ntmps5
  go_wp2_with fail
  refine C1.out.mono ?_
  unfold OpsPost
  rintro e w2 ⟨l, Al, cl, rfl, hm, hll⟩
  have bN2 : Below wN.heap.size wN w2 := Oth.below BT.out hm.oth (Nat.le_refl _) BT.out.size
  have b2 : Below w.heap.size w w2 := BN.out.trans (bN2.mono BN.out.size)
  have B2 := Lib.hid b2
  have Q2 := Lib.hid ((bN2.block _ hNs).trans QN.out)
  have OPS := Lib.hid (OpsAt.of_own hm.names hm.own)
  have HCL : Hid (Al = none → cl = 0) := Lib.hid (fun hA => by
    rcases hm.own.2 with ⟨hv, _⟩ | ⟨g, cap, cur, hv, _⟩
    · injection hv
    · injection hv with e1 _ _
      rw [hA] at e1; cases e1)
  have hs2 : w.heap.size < w2.heap.size := lt_of_block Q2.out
  have SC := Lib.hid (show ∀ W, Below w2.heap.size w2 W → W.cell? ⟨w.heap.size, 0, none⟩ = some (.int .i64 n0) ∧ W.cell? ⟨w.heap.size, 1, none⟩ = some (.int .i64 n1) ∧ W.cell? ⟨w.heap.size, 2, none⟩ = some (.int .i64 n2) from fun W hW => by
    obtain ⟨e0, e1, e2, _⟩ := cells4 ((hW.block _ hs2).trans Q2.out)
    exact ⟨e0, e1, e2⟩)
  have K0 := Lib.hid (show ∀ W, Calls Tryd.prog 10 #[.int .i64 n0, .int .i64 5] W fun e w' => e = .returned (.int .i64 (cutI n0 5 : Int)) ∧ w' = W from fun W => cut_any n0 5 W (by omega) (by omega))
  have K1 := Lib.hid (show ∀ W, Calls Tryd.prog 10 #[.int .i64 n1, .int .i64 7] W fun e w' => e = .returned (.int .i64 (cutI n1 7 : Int)) ∧ w' = W from fun W => cut_any n1 7 W (by omega) (by omega))
  have K2 := Lib.hid (show ∀ W, Calls Tryd.prog 10 #[.int .i64 n2, .int .i64 104] W fun e w' => e = .returned (.int .i64 (cutI n2 104 : Int)) ∧ w' = W from fun W => cut_any n2 104 W (by omega) (by omega))
  have K3 := Lib.hid (show ∀ W, Calls Tryd.prog 10 #[.int .i64 n3, .int .i64 8] W fun e w' => e = .returned (.int .i64 (cutI n3 8 : Int)) ∧ w' = W from fun W => cut_any n3 8 W (by omega) (by omega))
  have hq0 := cutI_lt n0 5 (by omega)
  have hq1 := cutI_lt n1 7 (by omega)
  have hq2 := cutI_lt n2 104 (by omega)
  generalize cutI n0 5 = q0 at *
  generalize cutI n1 7 = q1 at *
  generalize cutI n2 104 = q2 at *
  generalize cutI n3 8 = q3 at *
  clear hm bN2 b2 C1 hwT hwN BT BN QN
  go_upto_region 2 with fail
  go_cut [6] (fun pv wx => ∃ (g : Nat) (o : Lfc.Op), pv = .pointer (some ⟨g, 0, none⟩) ∧ o.name.length ≤ 10 ∧ Hid (AddI w n3 l Al o g wx))
  case first =>
    have hi0 : (0 : Int) ≤ (q0 : Int) := Int.natCast_nonneg _
    have hi1 : (q0 : Int) < 5 := by omega
    have hi2 : IntKind.i64.wrap ((q2 : Int) - 2) = (q2 : Int) - 2 := IntWalk.i64_in _ (by omega)
    have FC := Lib.hid five_cell
    have hnl := five_len q0
    generalize hnm : Lfc.five.getD q0 [] = nm at *
    have FIVE : Hid (∀ W : World, (W.alloc (.cells #[.string ⟨#[43]⟩, .string ⟨#[42]⟩, .string ⟨#[110, 101, 119]⟩, .string ⟨#[116, 121, 112, 101]⟩, .string ⟨#[]⟩] 9)).cell? ⟨W.heap.size, q0, none⟩ = some (S nm)) := Lib.hid (fun W => by rw [← hnm]; exact FC.out W q0 hq0)
    have LEAF : Hid (∀ (g : Nat) (s3 : World), Below w2.heap.size w2 s3 → s3.heap[g]? = some (.cells #[S nm, .int .i64 (q1 : Int), .int .i64 ((q2 : Int) - 2)] 36 (0, 0)) → AddI w n3 l Al ⟨nm, q1, (q2 : Int) - 2⟩ g s3) := Lib.hid (fun g s3 bb hq => by
      obtain ⟨_, _, _, e3⟩ := cells4 ((bb.block _ hs2).trans Q2.out)
      exact ⟨B2.out.trans (bb.mono B2.out.size), OPS.out.below bb, hq, e3, Nat.lt_of_lt_of_le hs2 bb.size⟩)
    have G0 : Below w2.heap.size w2 w2.drew := (Below.refl _ _).drew
    clear hnm FC
    have GA := Lib.hid (show Below w2.heap.size w2 (w2.drew.alloc (.cells #[.string ⟨#[43]⟩, .string ⟨#[42]⟩, .string ⟨#[110, 101, 119]⟩, .string ⟨#[116, 121, 112, 101]⟩, .string ⟨#[]⟩] 9)) from G0.alloc G0.size _)
    have GB := Lib.hid (show Below w2.heap.size w2 (w2.drew.alloc (.cells #[S [], .int .i64 0, .int .i64 0] 36)) from G0.alloc G0.size _)
    have GAB := Lib.hid (show Below w2.heap.size w2 ((w2.drew.alloc (.cells #[.string ⟨#[43]⟩, .string ⟨#[42]⟩, .string ⟨#[110, 101, 119]⟩, .string ⟨#[116, 121, 112, 101]⟩, .string ⟨#[]⟩] 9)).alloc (.cells #[S [], .int .i64 0, .int .i64 0] 36)) from GA.out.alloc GA.out.size _)
    have GBA := Lib.hid (show Below w2.heap.size w2 ((w2.drew.alloc (.cells #[S [], .int .i64 0, .int .i64 0] 36)).alloc (.cells #[.string ⟨#[43]⟩, .string ⟨#[42]⟩, .string ⟨#[110, 101, 119]⟩, .string ⟨#[116, 121, 112, 101]⟩, .string ⟨#[]⟩] 9)) from GB.out.alloc GB.out.size _)
    have hsA : (w2.drew.alloc (.cells #[.string ⟨#[43]⟩, .string ⟨#[42]⟩, .string ⟨#[110, 101, 119]⟩, .string ⟨#[116, 121, 112, 101]⟩, .string ⟨#[]⟩] 9)).heap.size = w2.heap.size + 1 := by simp
    have hsB : (w2.drew.alloc (.cells #[S [], .int .i64 0, .int .i64 0] 36)).heap.size = w2.heap.size + 1 := by simp
    have CA := Lib.hid (show (w2.drew.alloc (.cells #[.string ⟨#[43]⟩, .string ⟨#[42]⟩, .string ⟨#[110, 101, 119]⟩, .string ⟨#[116, 121, 112, 101]⟩, .string ⟨#[]⟩] 9)).cell? ⟨w2.heap.size, q0, none⟩ = some (S nm) from FIVE.out w2.drew)
    have CAB := Lib.hid (show ((w2.drew.alloc (.cells #[.string ⟨#[43]⟩, .string ⟨#[42]⟩, .string ⟨#[110, 101, 119]⟩, .string ⟨#[116, 121, 112, 101]⟩, .string ⟨#[]⟩] 9)).alloc (.cells #[S [], .int .i64 0, .int .i64 0] 36)).cell? ⟨w2.heap.size, q0, none⟩ = some (S nm) from (((Below.refl (w2.drew.alloc (.cells #[.string ⟨#[43]⟩, .string ⟨#[42]⟩, .string ⟨#[110, 101, 119]⟩, .string ⟨#[116, 121, 112, 101]⟩, .string ⟨#[]⟩] 9)).heap.size (w2.drew.alloc (.cells #[.string ⟨#[43]⟩, .string ⟨#[42]⟩, .string ⟨#[110, 101, 119]⟩, .string ⟨#[116, 121, 112, 101]⟩, .string ⟨#[]⟩] 9))).alloc (Nat.le_refl _) (.cells #[S [], .int .i64 0, .int .i64 0] 36)).cell (p := ⟨w2.heap.size, q0, none⟩) (by simp only; omega)).trans CA.out)
    have CBA := Lib.hid (show ((w2.drew.alloc (.cells #[S [], .int .i64 0, .int .i64 0] 36)).alloc (.cells #[.string ⟨#[43]⟩, .string ⟨#[42]⟩, .string ⟨#[110, 101, 119]⟩, .string ⟨#[116, 121, 112, 101]⟩, .string ⟨#[]⟩] 9)).cell? ⟨w2.heap.size + 1, q0, none⟩ = some (S nm) from by have h := FIVE.out (w2.drew.alloc (.cells #[S [], .int .i64 0, .int .i64 0] 36)); rw [hsB] at h; exact h)
    have QB := Lib.hid (show (w2.drew.alloc (.cells #[S [], .int .i64 0, .int .i64 0] 36)).heap[w2.heap.size]? = some (.cells #[S [], .int .i64 0, .int .i64 0] 36 (0, 0)) from heap_alloc_new w2.drew _)
    have QAB := Lib.hid (show ((w2.drew.alloc (.cells #[.string ⟨#[43]⟩, .string ⟨#[42]⟩, .string ⟨#[110, 101, 119]⟩, .string ⟨#[116, 121, 112, 101]⟩, .string ⟨#[]⟩] 9)).alloc (.cells #[S [], .int .i64 0, .int .i64 0] 36)).heap[w2.heap.size + 1]? = some (.cells #[S [], .int .i64 0, .int .i64 0] 36 (0, 0)) from by have h := heap_alloc_new (w2.drew.alloc (.cells #[.string ⟨#[43]⟩, .string ⟨#[42]⟩, .string ⟨#[110, 101, 119]⟩, .string ⟨#[116, 121, 112, 101]⟩, .string ⟨#[]⟩] 9)) (.cells #[S [], .int .i64 0, .int .i64 0] 36); rw [hsA] at h; exact h)
    have QBA := Lib.hid (show ((w2.drew.alloc (.cells #[S [], .int .i64 0, .int .i64 0] 36)).alloc (.cells #[.string ⟨#[43]⟩, .string ⟨#[42]⟩, .string ⟨#[110, 101, 119]⟩, .string ⟨#[116, 121, 112, 101]⟩, .string ⟨#[]⟩] 9)).heap[w2.heap.size]? = some (.cells #[S [], .int .i64 0, .int .i64 0] 36 (0, 0)) from heap_alloc_old _ _ _ _ QB.out)
    have GFAB := Lib.hid (show Below w2.heap.size w2 ((w2.alloc (.cells #[.string ⟨#[43]⟩, .string ⟨#[42]⟩, .string ⟨#[110, 101, 119]⟩, .string ⟨#[116, 121, 112, 101]⟩, .string ⟨#[]⟩] 9)).alloc (.cells #[S nm, .int .i64 (q1 : Int), .int .i64 ((q2 : Int) - 2)] 36)).drew from (((Below.refl w2.heap.size w2).alloc (Nat.le_refl _) (.cells #[.string ⟨#[43]⟩, .string ⟨#[42]⟩, .string ⟨#[110, 101, 119]⟩, .string ⟨#[116, 121, 112, 101]⟩, .string ⟨#[]⟩] 9)).alloc (by simp) (.cells #[S nm, .int .i64 (q1 : Int), .int .i64 ((q2 : Int) - 2)] 36)).drew)
    have GFBA := Lib.hid (show Below w2.heap.size w2 ((w2.alloc (.cells #[S nm, .int .i64 (q1 : Int), .int .i64 ((q2 : Int) - 2)] 36)).alloc (.cells #[.string ⟨#[43]⟩, .string ⟨#[42]⟩, .string ⟨#[110, 101, 119]⟩, .string ⟨#[116, 121, 112, 101]⟩, .string ⟨#[]⟩] 9)).drew from (((Below.refl w2.heap.size w2).alloc (Nat.le_refl _) (.cells #[S nm, .int .i64 (q1 : Int), .int .i64 ((q2 : Int) - 2)] 36)).alloc (by simp) (.cells #[.string ⟨#[43]⟩, .string ⟨#[42]⟩, .string ⟨#[110, 101, 119]⟩, .string ⟨#[116, 121, 112, 101]⟩, .string ⟨#[]⟩] 9)).drew)
    have hsA2 : (w2.alloc (.cells #[.string ⟨#[43]⟩, .string ⟨#[42]⟩, .string ⟨#[110, 101, 119]⟩, .string ⟨#[116, 121, 112, 101]⟩, .string ⟨#[]⟩] 9)).heap.size = w2.heap.size + 1 := by simp
    have hsB2 : (w2.alloc (.cells #[S nm, .int .i64 (q1 : Int), .int .i64 ((q2 : Int) - 2)] 36)).heap.size = w2.heap.size + 1 := by simp
    have CFAB := Lib.hid (show ((w2.alloc (.cells #[.string ⟨#[43]⟩, .string ⟨#[42]⟩, .string ⟨#[110, 101, 119]⟩, .string ⟨#[116, 121, 112, 101]⟩, .string ⟨#[]⟩] 9)).alloc (.cells #[S nm, .int .i64 (q1 : Int), .int .i64 ((q2 : Int) - 2)] 36)).drew.cell? ⟨w2.heap.size, q0, none⟩ = some (S nm) from (((Below.refl (w2.alloc (.cells #[.string ⟨#[43]⟩, .string ⟨#[42]⟩, .string ⟨#[110, 101, 119]⟩, .string ⟨#[116, 121, 112, 101]⟩, .string ⟨#[]⟩] 9)).heap.size (w2.alloc (.cells #[.string ⟨#[43]⟩, .string ⟨#[42]⟩, .string ⟨#[110, 101, 119]⟩, .string ⟨#[116, 121, 112, 101]⟩, .string ⟨#[]⟩] 9))).alloc (Nat.le_refl _) (.cells #[S nm, .int .i64 (q1 : Int), .int .i64 ((q2 : Int) - 2)] 36)).cell (p := ⟨w2.heap.size, q0, none⟩) (by simp only; omega)).trans (FIVE.out w2))
    have CFBA := Lib.hid (show ((w2.alloc (.cells #[S nm, .int .i64 (q1 : Int), .int .i64 ((q2 : Int) - 2)] 36)).alloc (.cells #[.string ⟨#[43]⟩, .string ⟨#[42]⟩, .string ⟨#[110, 101, 119]⟩, .string ⟨#[116, 121, 112, 101]⟩, .string ⟨#[]⟩] 9)).drew.cell? ⟨w2.heap.size + 1, q0, none⟩ = some (S nm) from by have h := FIVE.out (w2.alloc (.cells #[S nm, .int .i64 (q1 : Int), .int .i64 ((q2 : Int) - 2)] 36)); rw [hsB2] at h; exact h)
    have HFAB := Lib.hid (LEAF.out (w2.heap.size + 1) ((w2.alloc (.cells #[.string ⟨#[43]⟩, .string ⟨#[42]⟩, .string ⟨#[110, 101, 119]⟩, .string ⟨#[116, 121, 112, 101]⟩, .string ⟨#[]⟩] 9)).alloc (.cells #[S nm, .int .i64 (q1 : Int), .int .i64 ((q2 : Int) - 2)] 36)).drew GFAB.out (by have h := heap_alloc_new (w2.alloc (.cells #[.string ⟨#[43]⟩, .string ⟨#[42]⟩, .string ⟨#[110, 101, 119]⟩, .string ⟨#[116, 121, 112, 101]⟩, .string ⟨#[]⟩] 9)) (.cells #[S nm, .int .i64 (q1 : Int), .int .i64 ((q2 : Int) - 2)] 36); rw [hsA2] at h; exact h))
    have HFBA := Lib.hid (LEAF.out w2.heap.size ((w2.alloc (.cells #[S nm, .int .i64 (q1 : Int), .int .i64 ((q2 : Int) - 2)] 36)).alloc (.cells #[.string ⟨#[43]⟩, .string ⟨#[42]⟩, .string ⟨#[110, 101, 119]⟩, .string ⟨#[116, 121, 112, 101]⟩, .string ⟨#[]⟩] 9)).drew GFBA.out (heap_alloc_old _ _ _ _ (heap_alloc_new w2 (.cells #[S nm, .int .i64 (q1 : Int), .int .i64 ((q2 : Int) - 2)] 36))))
    clear hsA hsB hsA2 hsB2 FIVE LEAF
    go_wp2_with fail
    refine wp_region_held_drew (S := fun W => W.cell? ⟨w.heap.size, 0, none⟩ = some (.int .i64 n0) ∧ W.cell? ⟨w.heap.size, 1, none⟩ = some (.int .i64 n1) ∧ W.cell? ⟨w.heap.size, 2, none⟩ = some (.int .i64 n2)) (by kernel_rfl) ?_ (fun hHeld => ?_)
    · exact SC.out _ G0
    refine wpAnyH_take (i := 1) (v := ?_) rfl (by kernel_rfl) (by kernel_rfl) (by kernel_rfl) (fun _ _ _ h => h) (Or.inl ⟨by rfl, ?_⟩) (by assumption) ?_
    rotate_left
    · (intro w hSw; (try dsimp only at hSw); go_simp; try with_reducible rfl)
    try simp only [Act.put, List.getElem_toArray, List.getElem_cons_zero, List.getElem_cons_succ, List.setIfInBounds_toArray, List.set_cons_zero, List.set_cons_succ]
    refine wpAnyH_take (i := 2) (v := ?_) rfl (by kernel_rfl) (by kernel_rfl) (by kernel_rfl) (fun _ _ _ h => h) (Or.inl ⟨by rfl, ?_⟩) (by assumption) ?_
    rotate_left
    · (intro w hSw; (try dsimp only at hSw); go_simp; try with_reducible rfl)
    try simp only [Act.put, List.getElem_toArray, List.getElem_cons_zero, List.getElem_cons_succ, List.setIfInBounds_toArray, List.set_cons_zero, List.set_cons_succ]
    refine wpAnyH_take (i := 6) (v := ?_) rfl (by kernel_rfl) (by kernel_rfl) (by kernel_rfl) (fun _ _ _ h => h) (Or.inl ⟨by rfl, ?_⟩) (by assumption) ?_
    rotate_left
    · (intro w hSw; (try dsimp only at hSw); go_simp; try with_reducible rfl)
    try simp only [Act.put, List.getElem_toArray, List.getElem_cons_zero, List.getElem_cons_succ, List.setIfInBounds_toArray, List.set_cons_zero, List.set_cons_succ]
    refine wpAnyH_take (i := 7) (v := ?_) rfl (by kernel_rfl) (by kernel_rfl) (by kernel_rfl) (fun _ _ _ h => h) (Or.inl ⟨by rfl, ?_⟩) (by assumption) ?_
    rotate_left
    · (intro w hSw; (try dsimp only at hSw); go_simp; try with_reducible rfl)
    try simp only [Act.put, List.getElem_toArray, List.getElem_cons_zero, List.getElem_cons_succ, List.setIfInBounds_toArray, List.set_cons_zero, List.set_cons_succ]
    refine wpAnyH_take (i := 9) (v := ?_) rfl (by kernel_rfl) (by kernel_rfl) (by kernel_rfl) (fun _ _ _ h => h) (Or.inl ⟨by rfl, ?_⟩) (by assumption) ?_
    rotate_left
    · (intro w hSw; (try dsimp only at hSw); go_simp; try with_reducible rfl)
    try simp only [Act.put, List.getElem_toArray, List.getElem_cons_zero, List.getElem_cons_succ, List.setIfInBounds_toArray, List.set_cons_zero, List.set_cons_succ]
    refine wpAnyH_take (i := 10) (v := ?_) rfl (by kernel_rfl) (by kernel_rfl) (by kernel_rfl) (fun _ _ _ h => h) (Or.inl ⟨by rfl, ?_⟩) (by assumption) ?_
    rotate_left
    · (intro w hSw; (try dsimp only at hSw); go_simp; try with_reducible rfl)
    try simp only [Act.put, List.getElem_toArray, List.getElem_cons_zero, List.getElem_cons_succ, List.setIfInBounds_toArray, List.set_cons_zero, List.set_cons_succ]
    refine wpAnyH_ready (rs := [0, 3, 14]) (by kernel_rfl) (by simp) ?_
    refine AllReadyH.cons rfl (fun K hK => ?_) ?_
    · go_simp
      refine hK.out _ _ ?_ (fun hHeld => ?_)
      · (try dsimp only)
        exact SC.out _ GA.out
      clear hK K
      try simp only [Act.put, List.getElem_toArray, List.getElem_cons_zero, List.getElem_cons_succ, List.setIfInBounds_toArray, List.set_cons_zero, List.set_cons_succ]
      refine wpAnyH_mono (S' := (fun W => (W.cell? ⟨w.heap.size, 0, none⟩ = some (.int .i64 n0) ∧ W.cell? ⟨w.heap.size, 1, none⟩ = some (.int .i64 n1) ∧ W.cell? ⟨w.heap.size, 2, none⟩ = some (.int .i64 n2)) ∧ W.cell? ⟨w2.heap.size, q0, none⟩ = some (S nm))) (fun _ h => h.1) _ _ _ _ ?_
      have hH1 : (fun W => (W.cell? ⟨w.heap.size, 0, none⟩ = some (.int .i64 n0) ∧ W.cell? ⟨w.heap.size, 1, none⟩ = some (.int .i64 n1) ∧ W.cell? ⟨w.heap.size, 2, none⟩ = some (.int .i64 n2)) ∧ W.cell? ⟨w2.heap.size, q0, none⟩ = some (S nm)) (w2.drew.alloc (.cells #[.string ⟨#[43]⟩, .string ⟨#[42]⟩, .string ⟨#[110, 101, 119]⟩, .string ⟨#[116, 121, 112, 101]⟩, .string ⟨#[]⟩] 9)) := ⟨SC.out _ GA.out, CA.out⟩
      refine wpAnyH_ready (rs := [3, 14]) (by kernel_rfl) (by simp) ?_
      refine AllReadyH.cons rfl (fun K hK => ?_) ?_
      · go_simp
        go_at_call 10
        refine (K0.out _).mono ?_
        rintro e _ ⟨rfl, rfl⟩
        refine hK.out _ _ ?_ (fun hHeld => ?_)
        · (try dsimp only)
          exact ⟨SC.out _ GA.out, CA.out⟩
        clear hK K
        try simp only [Act.put, List.getElem_toArray, List.getElem_cons_zero, List.getElem_cons_succ, List.setIfInBounds_toArray, List.set_cons_zero, List.set_cons_succ]
        refine wpAnyH_take (i := 4) (v := ?_) rfl (by kernel_rfl) (by kernel_rfl) (by kernel_rfl) (fun _ _ _ h => h) (Or.inl ⟨by rfl, ?_⟩) (by assumption) ?_
        rotate_left
        · (intro w hSw; (try dsimp only at hSw); go_simp; try with_reducible rfl)
        try simp only [Act.put, List.getElem_toArray, List.getElem_cons_zero, List.getElem_cons_succ, List.setIfInBounds_toArray, List.set_cons_zero, List.set_cons_succ]
        refine wpAnyH_take (i := 5) (v := ?_) rfl (by kernel_rfl) (by kernel_rfl) (by kernel_rfl) (fun _ _ _ h => h) (Or.inl ⟨by rfl, ?_⟩) (by assumption) ?_
        rotate_left
        · (intro w hSw; (try dsimp only at hSw); go_simp; try with_reducible rfl)
        try simp only [Act.put, List.getElem_toArray, List.getElem_cons_zero, List.getElem_cons_succ, List.setIfInBounds_toArray, List.set_cons_zero, List.set_cons_succ]
        refine wpAnyH_ready (rs := [8, 14]) (by kernel_rfl) (by simp) ?_
        refine AllReadyH.cons rfl (fun K hK => ?_) ?_
        · go_simp
          go_at_call 10
          refine (K1.out _).mono ?_
          rintro e _ ⟨rfl, rfl⟩
          refine hK.out _ _ ?_ (fun hHeld => ?_)
          · (try dsimp only)
            exact ⟨SC.out _ GA.out, CA.out⟩
          clear hK K
          try simp only [Act.put, List.getElem_toArray, List.getElem_cons_zero, List.getElem_cons_succ, List.setIfInBounds_toArray, List.set_cons_zero, List.set_cons_succ]
          refine wpAnyH_ready (rs := [11, 14]) (by kernel_rfl) (by simp) ?_
          refine AllReadyH.cons rfl (fun K hK => ?_) ?_
          · go_simp
            go_at_call 10
            refine (K2.out _).mono ?_
            rintro e _ ⟨rfl, rfl⟩
            refine hK.out _ _ ?_ (fun hHeld => ?_)
            · (try dsimp only)
              exact ⟨SC.out _ GA.out, CA.out⟩
            clear hK K
            try simp only [Act.put, List.getElem_toArray, List.getElem_cons_zero, List.getElem_cons_succ, List.setIfInBounds_toArray, List.set_cons_zero, List.set_cons_succ]
            refine wpAnyH_take (i := 12) (v := ?_) rfl (by kernel_rfl) (by kernel_rfl) (by kernel_rfl) (fun _ _ _ h => h) (Or.inl ⟨by rfl, ?_⟩) (by assumption) ?_
            rotate_left
            · (intro w hSw; (try dsimp only at hSw); go_simp; try with_reducible rfl)
            try simp only [Act.put, List.getElem_toArray, List.getElem_cons_zero, List.getElem_cons_succ, List.setIfInBounds_toArray, List.set_cons_zero, List.set_cons_succ]
            refine wpAnyH_take (i := 13) (v := ?_) rfl (by kernel_rfl) (by kernel_rfl) (by kernel_rfl) (fun _ _ _ h => h) (Or.inl ⟨by rfl, ?_⟩) (by assumption) ?_
            rotate_left
            · (intro w hSw; (try dsimp only at hSw); go_simp; try with_reducible rfl)
            try simp only [Act.put, List.getElem_toArray, List.getElem_cons_zero, List.getElem_cons_succ, List.setIfInBounds_toArray, List.set_cons_zero, List.set_cons_succ]
            refine wpAnyH_ready (rs := [14]) (by kernel_rfl) (by simp) ?_
            refine AllReadyH.cons rfl (fun K hK => ?_) ?_
            · go_simp
              refine hK.out _ _ ?_ (fun hHeld => ?_)
              · (try dsimp only)
                exact ⟨SC.out _ GAB.out, CAB.out⟩
              clear hK K
              try simp only [Act.put, List.getElem_toArray, List.getElem_cons_zero, List.getElem_cons_succ, List.setIfInBounds_toArray, List.set_cons_zero, List.set_cons_succ]
              refine wpAnyH_ready (rs := [15]) (by kernel_rfl) (by simp) ?_
              refine AllReadyH.cons rfl (fun K hK => ?_) ?_
              · go_simp
                refine hK.out _ _ ?_ (fun hHeld => ?_)
                · (try dsimp only)
                  exact ⟨SC.out _ GFAB.out, CFAB.out⟩
                clear hK K
                try simp only [Act.put, List.getElem_toArray, List.getElem_cons_zero, List.getElem_cons_succ, List.setIfInBounds_toArray, List.set_cons_zero, List.set_cons_succ]
                refine wpAnyH_done (by kernel_rfl) ?_ _
                go_wp2_with fail
                go_meet
                exact ⟨_, _, rfl, hnl, HFAB⟩
              exact AllReadyH.nil
            exact AllReadyH.nil
          refine AllReadyH.cons rfl (fun K hK => ?_) ?_
          · go_simp
            refine hK.out _ _ ?_ (fun hHeld => ?_)
            · (try dsimp only)
              exact ⟨SC.out _ GAB.out, CAB.out⟩
            clear hK K
            try simp only [Act.put, List.getElem_toArray, List.getElem_cons_zero, List.getElem_cons_succ, List.setIfInBounds_toArray, List.set_cons_zero, List.set_cons_succ]
            refine wpAnyH_ready (rs := [11]) (by kernel_rfl) (by simp) ?_
            refine AllReadyH.cons rfl (fun K hK => ?_) ?_
            · go_simp
              go_at_call 10
              refine (K2.out _).mono ?_
              rintro e _ ⟨rfl, rfl⟩
              refine hK.out _ _ ?_ (fun hHeld => ?_)
              · (try dsimp only)
                exact ⟨SC.out _ GAB.out, CAB.out⟩
              clear hK K
              try simp only [Act.put, List.getElem_toArray, List.getElem_cons_zero, List.getElem_cons_succ, List.setIfInBounds_toArray, List.set_cons_zero, List.set_cons_succ]
              refine wpAnyH_take (i := 12) (v := ?_) rfl (by kernel_rfl) (by kernel_rfl) (by kernel_rfl) (fun _ _ _ h => h) (Or.inl ⟨by rfl, ?_⟩) (by assumption) ?_
              rotate_left
              · (intro w hSw; (try dsimp only at hSw); go_simp; try with_reducible rfl)
              try simp only [Act.put, List.getElem_toArray, List.getElem_cons_zero, List.getElem_cons_succ, List.setIfInBounds_toArray, List.set_cons_zero, List.set_cons_succ]
              refine wpAnyH_take (i := 13) (v := ?_) rfl (by kernel_rfl) (by kernel_rfl) (by kernel_rfl) (fun _ _ _ h => h) (Or.inl ⟨by rfl, ?_⟩) (by assumption) ?_
              rotate_left
              · (intro w hSw; (try dsimp only at hSw); go_simp; try with_reducible rfl)
              try simp only [Act.put, List.getElem_toArray, List.getElem_cons_zero, List.getElem_cons_succ, List.setIfInBounds_toArray, List.set_cons_zero, List.set_cons_succ]
              refine wpAnyH_ready (rs := [15]) (by kernel_rfl) (by simp) ?_
              refine AllReadyH.cons rfl (fun K hK => ?_) ?_
              · go_simp
                refine hK.out _ _ ?_ (fun hHeld => ?_)
                · (try dsimp only)
                  exact ⟨SC.out _ GFAB.out, CFAB.out⟩
                clear hK K
                try simp only [Act.put, List.getElem_toArray, List.getElem_cons_zero, List.getElem_cons_succ, List.setIfInBounds_toArray, List.set_cons_zero, List.set_cons_succ]
                refine wpAnyH_done (by kernel_rfl) ?_ _
                go_wp2_with fail
                go_meet
                exact ⟨_, _, rfl, hnl, HFAB⟩
              exact AllReadyH.nil
            exact AllReadyH.nil
          exact AllReadyH.nil
        refine AllReadyH.cons rfl (fun K hK => ?_) ?_
        · go_simp
          refine hK.out _ _ ?_ (fun hHeld => ?_)
          · (try dsimp only)
            exact ⟨SC.out _ GAB.out, CAB.out⟩
          clear hK K
          try simp only [Act.put, List.getElem_toArray, List.getElem_cons_zero, List.getElem_cons_succ, List.setIfInBounds_toArray, List.set_cons_zero, List.set_cons_succ]
          refine wpAnyH_ready (rs := [8]) (by kernel_rfl) (by simp) ?_
          refine AllReadyH.cons rfl (fun K hK => ?_) ?_
          · go_simp
            go_at_call 10
            refine (K1.out _).mono ?_
            rintro e _ ⟨rfl, rfl⟩
            refine hK.out _ _ ?_ (fun hHeld => ?_)
            · (try dsimp only)
              exact ⟨SC.out _ GAB.out, CAB.out⟩
            clear hK K
            try simp only [Act.put, List.getElem_toArray, List.getElem_cons_zero, List.getElem_cons_succ, List.setIfInBounds_toArray, List.set_cons_zero, List.set_cons_succ]
            refine wpAnyH_ready (rs := [11]) (by kernel_rfl) (by simp) ?_
            refine AllReadyH.cons rfl (fun K hK => ?_) ?_
            · go_simp
              go_at_call 10
              refine (K2.out _).mono ?_
              rintro e _ ⟨rfl, rfl⟩
              refine hK.out _ _ ?_ (fun hHeld => ?_)
              · (try dsimp only)
                exact ⟨SC.out _ GAB.out, CAB.out⟩
              clear hK K
              try simp only [Act.put, List.getElem_toArray, List.getElem_cons_zero, List.getElem_cons_succ, List.setIfInBounds_toArray, List.set_cons_zero, List.set_cons_succ]
              refine wpAnyH_take (i := 12) (v := ?_) rfl (by kernel_rfl) (by kernel_rfl) (by kernel_rfl) (fun _ _ _ h => h) (Or.inl ⟨by rfl, ?_⟩) (by assumption) ?_
              rotate_left
              · (intro w hSw; (try dsimp only at hSw); go_simp; try with_reducible rfl)
              try simp only [Act.put, List.getElem_toArray, List.getElem_cons_zero, List.getElem_cons_succ, List.setIfInBounds_toArray, List.set_cons_zero, List.set_cons_succ]
              refine wpAnyH_take (i := 13) (v := ?_) rfl (by kernel_rfl) (by kernel_rfl) (by kernel_rfl) (fun _ _ _ h => h) (Or.inl ⟨by rfl, ?_⟩) (by assumption) ?_
              rotate_left
              · (intro w hSw; (try dsimp only at hSw); go_simp; try with_reducible rfl)
              try simp only [Act.put, List.getElem_toArray, List.getElem_cons_zero, List.getElem_cons_succ, List.setIfInBounds_toArray, List.set_cons_zero, List.set_cons_succ]
              refine wpAnyH_ready (rs := [15]) (by kernel_rfl) (by simp) ?_
              refine AllReadyH.cons rfl (fun K hK => ?_) ?_
              · go_simp
                refine hK.out _ _ ?_ (fun hHeld => ?_)
                · (try dsimp only)
                  exact ⟨SC.out _ GFAB.out, CFAB.out⟩
                clear hK K
                try simp only [Act.put, List.getElem_toArray, List.getElem_cons_zero, List.getElem_cons_succ, List.setIfInBounds_toArray, List.set_cons_zero, List.set_cons_succ]
                refine wpAnyH_done (by kernel_rfl) ?_ _
                go_wp2_with fail
                go_meet
                exact ⟨_, _, rfl, hnl, HFAB⟩
              exact AllReadyH.nil
            exact AllReadyH.nil
          exact AllReadyH.nil
        exact AllReadyH.nil
      refine AllReadyH.cons rfl (fun K hK => ?_) ?_
      · go_simp
        refine hK.out _ _ ?_ (fun hHeld => ?_)
        · (try dsimp only)
          exact ⟨SC.out _ GAB.out, CAB.out⟩
        clear hK K
        try simp only [Act.put, List.getElem_toArray, List.getElem_cons_zero, List.getElem_cons_succ, List.setIfInBounds_toArray, List.set_cons_zero, List.set_cons_succ]
        refine wpAnyH_ready (rs := [3]) (by kernel_rfl) (by simp) ?_
        refine AllReadyH.cons rfl (fun K hK => ?_) ?_
        · go_simp
          go_at_call 10
          refine (K0.out _).mono ?_
          rintro e _ ⟨rfl, rfl⟩
          refine hK.out _ _ ?_ (fun hHeld => ?_)
          · (try dsimp only)
            exact ⟨SC.out _ GAB.out, CAB.out⟩
          clear hK K
          try simp only [Act.put, List.getElem_toArray, List.getElem_cons_zero, List.getElem_cons_succ, List.setIfInBounds_toArray, List.set_cons_zero, List.set_cons_succ]
          refine wpAnyH_take (i := 4) (v := ?_) rfl (by kernel_rfl) (by kernel_rfl) (by kernel_rfl) (fun _ _ _ h => h) (Or.inl ⟨by rfl, ?_⟩) (by assumption) ?_
          rotate_left
          · (intro w hSw; (try dsimp only at hSw); go_simp; try with_reducible rfl)
          try simp only [Act.put, List.getElem_toArray, List.getElem_cons_zero, List.getElem_cons_succ, List.setIfInBounds_toArray, List.set_cons_zero, List.set_cons_succ]
          refine wpAnyH_take (i := 5) (v := ?_) rfl (by kernel_rfl) (by kernel_rfl) (by kernel_rfl) (fun _ _ _ h => h) (Or.inl ⟨by rfl, ?_⟩) (by assumption) ?_
          rotate_left
          · (intro w hSw; (try dsimp only at hSw); go_simp; try with_reducible rfl)
          try simp only [Act.put, List.getElem_toArray, List.getElem_cons_zero, List.getElem_cons_succ, List.setIfInBounds_toArray, List.set_cons_zero, List.set_cons_succ]
          refine wpAnyH_ready (rs := [8]) (by kernel_rfl) (by simp) ?_
          refine AllReadyH.cons rfl (fun K hK => ?_) ?_
          · go_simp
            go_at_call 10
            refine (K1.out _).mono ?_
            rintro e _ ⟨rfl, rfl⟩
            refine hK.out _ _ ?_ (fun hHeld => ?_)
            · (try dsimp only)
              exact ⟨SC.out _ GAB.out, CAB.out⟩
            clear hK K
            try simp only [Act.put, List.getElem_toArray, List.getElem_cons_zero, List.getElem_cons_succ, List.setIfInBounds_toArray, List.set_cons_zero, List.set_cons_succ]
            refine wpAnyH_ready (rs := [11]) (by kernel_rfl) (by simp) ?_
            refine AllReadyH.cons rfl (fun K hK => ?_) ?_
            · go_simp
              go_at_call 10
              refine (K2.out _).mono ?_
              rintro e _ ⟨rfl, rfl⟩
              refine hK.out _ _ ?_ (fun hHeld => ?_)
              · (try dsimp only)
                exact ⟨SC.out _ GAB.out, CAB.out⟩
              clear hK K
              try simp only [Act.put, List.getElem_toArray, List.getElem_cons_zero, List.getElem_cons_succ, List.setIfInBounds_toArray, List.set_cons_zero, List.set_cons_succ]
              refine wpAnyH_take (i := 12) (v := ?_) rfl (by kernel_rfl) (by kernel_rfl) (by kernel_rfl) (fun _ _ _ h => h) (Or.inl ⟨by rfl, ?_⟩) (by assumption) ?_
              rotate_left
              · (intro w hSw; (try dsimp only at hSw); go_simp; try with_reducible rfl)
              try simp only [Act.put, List.getElem_toArray, List.getElem_cons_zero, List.getElem_cons_succ, List.setIfInBounds_toArray, List.set_cons_zero, List.set_cons_succ]
              refine wpAnyH_take (i := 13) (v := ?_) rfl (by kernel_rfl) (by kernel_rfl) (by kernel_rfl) (fun _ _ _ h => h) (Or.inl ⟨by rfl, ?_⟩) (by assumption) ?_
              rotate_left
              · (intro w hSw; (try dsimp only at hSw); go_simp; try with_reducible rfl)
              try simp only [Act.put, List.getElem_toArray, List.getElem_cons_zero, List.getElem_cons_succ, List.setIfInBounds_toArray, List.set_cons_zero, List.set_cons_succ]
              refine wpAnyH_ready (rs := [15]) (by kernel_rfl) (by simp) ?_
              refine AllReadyH.cons rfl (fun K hK => ?_) ?_
              · go_simp
                refine hK.out _ _ ?_ (fun hHeld => ?_)
                · (try dsimp only)
                  exact ⟨SC.out _ GFAB.out, CFAB.out⟩
                clear hK K
                try simp only [Act.put, List.getElem_toArray, List.getElem_cons_zero, List.getElem_cons_succ, List.setIfInBounds_toArray, List.set_cons_zero, List.set_cons_succ]
                refine wpAnyH_done (by kernel_rfl) ?_ _
                go_wp2_with fail
                go_meet
                exact ⟨_, _, rfl, hnl, HFAB⟩
              exact AllReadyH.nil
            exact AllReadyH.nil
          exact AllReadyH.nil
        exact AllReadyH.nil
      exact AllReadyH.nil
    refine AllReadyH.cons rfl (fun K hK => ?_) ?_
    · go_simp
      go_at_call 10
      refine (K0.out _).mono ?_
      rintro e _ ⟨rfl, rfl⟩
      refine hK.out _ _ ?_ (fun hHeld => ?_)
      · (try dsimp only)
        exact SC.out _ G0
      clear hK K
      try simp only [Act.put, List.getElem_toArray, List.getElem_cons_zero, List.getElem_cons_succ, List.setIfInBounds_toArray, List.set_cons_zero, List.set_cons_succ]
      refine wpAnyH_ready (rs := [0, 8, 14]) (by kernel_rfl) (by simp) ?_
      refine AllReadyH.cons rfl (fun K hK => ?_) ?_
      · go_simp
        refine hK.out _ _ ?_ (fun hHeld => ?_)
        · (try dsimp only)
          exact SC.out _ GA.out
        clear hK K
        try simp only [Act.put, List.getElem_toArray, List.getElem_cons_zero, List.getElem_cons_succ, List.setIfInBounds_toArray, List.set_cons_zero, List.set_cons_succ]
        refine wpAnyH_mono (S' := (fun W => (W.cell? ⟨w.heap.size, 0, none⟩ = some (.int .i64 n0) ∧ W.cell? ⟨w.heap.size, 1, none⟩ = some (.int .i64 n1) ∧ W.cell? ⟨w.heap.size, 2, none⟩ = some (.int .i64 n2)) ∧ W.cell? ⟨w2.heap.size, q0, none⟩ = some (S nm))) (fun _ h => h.1) _ _ _ _ ?_
        have hH2 : (fun W => (W.cell? ⟨w.heap.size, 0, none⟩ = some (.int .i64 n0) ∧ W.cell? ⟨w.heap.size, 1, none⟩ = some (.int .i64 n1) ∧ W.cell? ⟨w.heap.size, 2, none⟩ = some (.int .i64 n2)) ∧ W.cell? ⟨w2.heap.size, q0, none⟩ = some (S nm)) (w2.drew.alloc (.cells #[.string ⟨#[43]⟩, .string ⟨#[42]⟩, .string ⟨#[110, 101, 119]⟩, .string ⟨#[116, 121, 112, 101]⟩, .string ⟨#[]⟩] 9)) := ⟨SC.out _ GA.out, CA.out⟩
        refine wpAnyH_take (i := 4) (v := ?_) rfl (by kernel_rfl) (by kernel_rfl) (by kernel_rfl) (fun _ _ _ h => h) (Or.inl ⟨by rfl, ?_⟩) (by assumption) ?_
        rotate_left
        · (intro w hSw; (try dsimp only at hSw); go_simp; try with_reducible rfl)
        try simp only [Act.put, List.getElem_toArray, List.getElem_cons_zero, List.getElem_cons_succ, List.setIfInBounds_toArray, List.set_cons_zero, List.set_cons_succ]
        refine wpAnyH_take (i := 5) (v := ?_) rfl (by kernel_rfl) (by kernel_rfl) (by kernel_rfl) (fun _ _ _ h => h) (Or.inl ⟨by rfl, ?_⟩) (by assumption) ?_
        rotate_left
        · (intro w hSw; (try dsimp only at hSw); go_simp; try with_reducible rfl)
        try simp only [Act.put, List.getElem_toArray, List.getElem_cons_zero, List.getElem_cons_succ, List.setIfInBounds_toArray, List.set_cons_zero, List.set_cons_succ]
        refine wpAnyH_ready (rs := [8, 14]) (by kernel_rfl) (by simp) ?_
        refine AllReadyH.cons rfl (fun K hK => ?_) ?_
        · go_simp
          go_at_call 10
          refine (K1.out _).mono ?_
          rintro e _ ⟨rfl, rfl⟩
          refine hK.out _ _ ?_ (fun hHeld => ?_)
          · (try dsimp only)
            exact ⟨SC.out _ GA.out, CA.out⟩
          clear hK K
          try simp only [Act.put, List.getElem_toArray, List.getElem_cons_zero, List.getElem_cons_succ, List.setIfInBounds_toArray, List.set_cons_zero, List.set_cons_succ]
          refine wpAnyH_ready (rs := [11, 14]) (by kernel_rfl) (by simp) ?_
          refine AllReadyH.cons rfl (fun K hK => ?_) ?_
          · go_simp
            go_at_call 10
            refine (K2.out _).mono ?_
            rintro e _ ⟨rfl, rfl⟩
            refine hK.out _ _ ?_ (fun hHeld => ?_)
            · (try dsimp only)
              exact ⟨SC.out _ GA.out, CA.out⟩
            clear hK K
            try simp only [Act.put, List.getElem_toArray, List.getElem_cons_zero, List.getElem_cons_succ, List.setIfInBounds_toArray, List.set_cons_zero, List.set_cons_succ]
            refine wpAnyH_take (i := 12) (v := ?_) rfl (by kernel_rfl) (by kernel_rfl) (by kernel_rfl) (fun _ _ _ h => h) (Or.inl ⟨by rfl, ?_⟩) (by assumption) ?_
            rotate_left
            · (intro w hSw; (try dsimp only at hSw); go_simp; try with_reducible rfl)
            try simp only [Act.put, List.getElem_toArray, List.getElem_cons_zero, List.getElem_cons_succ, List.setIfInBounds_toArray, List.set_cons_zero, List.set_cons_succ]
            refine wpAnyH_take (i := 13) (v := ?_) rfl (by kernel_rfl) (by kernel_rfl) (by kernel_rfl) (fun _ _ _ h => h) (Or.inl ⟨by rfl, ?_⟩) (by assumption) ?_
            rotate_left
            · (intro w hSw; (try dsimp only at hSw); go_simp; try with_reducible rfl)
            try simp only [Act.put, List.getElem_toArray, List.getElem_cons_zero, List.getElem_cons_succ, List.setIfInBounds_toArray, List.set_cons_zero, List.set_cons_succ]
            refine wpAnyH_ready (rs := [14]) (by kernel_rfl) (by simp) ?_
            refine AllReadyH.cons rfl (fun K hK => ?_) ?_
            · go_simp
              refine hK.out _ _ ?_ (fun hHeld => ?_)
              · (try dsimp only)
                exact ⟨SC.out _ GAB.out, CAB.out⟩
              clear hK K
              try simp only [Act.put, List.getElem_toArray, List.getElem_cons_zero, List.getElem_cons_succ, List.setIfInBounds_toArray, List.set_cons_zero, List.set_cons_succ]
              refine wpAnyH_ready (rs := [15]) (by kernel_rfl) (by simp) ?_
              refine AllReadyH.cons rfl (fun K hK => ?_) ?_
              · go_simp
                refine hK.out _ _ ?_ (fun hHeld => ?_)
                · (try dsimp only)
                  exact ⟨SC.out _ GFAB.out, CFAB.out⟩
                clear hK K
                try simp only [Act.put, List.getElem_toArray, List.getElem_cons_zero, List.getElem_cons_succ, List.setIfInBounds_toArray, List.set_cons_zero, List.set_cons_succ]
                refine wpAnyH_done (by kernel_rfl) ?_ _
                go_wp2_with fail
                go_meet
                exact ⟨_, _, rfl, hnl, HFAB⟩
              exact AllReadyH.nil
            exact AllReadyH.nil
          refine AllReadyH.cons rfl (fun K hK => ?_) ?_
          · go_simp
            refine hK.out _ _ ?_ (fun hHeld => ?_)
            · (try dsimp only)
              exact ⟨SC.out _ GAB.out, CAB.out⟩
            clear hK K
            try simp only [Act.put, List.getElem_toArray, List.getElem_cons_zero, List.getElem_cons_succ, List.setIfInBounds_toArray, List.set_cons_zero, List.set_cons_succ]
            refine wpAnyH_ready (rs := [11]) (by kernel_rfl) (by simp) ?_
            refine AllReadyH.cons rfl (fun K hK => ?_) ?_
            · go_simp
              go_at_call 10
              refine (K2.out _).mono ?_
              rintro e _ ⟨rfl, rfl⟩
              refine hK.out _ _ ?_ (fun hHeld => ?_)
              · (try dsimp only)
                exact ⟨SC.out _ GAB.out, CAB.out⟩
              clear hK K
              try simp only [Act.put, List.getElem_toArray, List.getElem_cons_zero, List.getElem_cons_succ, List.setIfInBounds_toArray, List.set_cons_zero, List.set_cons_succ]
              refine wpAnyH_take (i := 12) (v := ?_) rfl (by kernel_rfl) (by kernel_rfl) (by kernel_rfl) (fun _ _ _ h => h) (Or.inl ⟨by rfl, ?_⟩) (by assumption) ?_
              rotate_left
              · (intro w hSw; (try dsimp only at hSw); go_simp; try with_reducible rfl)
              try simp only [Act.put, List.getElem_toArray, List.getElem_cons_zero, List.getElem_cons_succ, List.setIfInBounds_toArray, List.set_cons_zero, List.set_cons_succ]
              refine wpAnyH_take (i := 13) (v := ?_) rfl (by kernel_rfl) (by kernel_rfl) (by kernel_rfl) (fun _ _ _ h => h) (Or.inl ⟨by rfl, ?_⟩) (by assumption) ?_
              rotate_left
              · (intro w hSw; (try dsimp only at hSw); go_simp; try with_reducible rfl)
              try simp only [Act.put, List.getElem_toArray, List.getElem_cons_zero, List.getElem_cons_succ, List.setIfInBounds_toArray, List.set_cons_zero, List.set_cons_succ]
              refine wpAnyH_ready (rs := [15]) (by kernel_rfl) (by simp) ?_
              refine AllReadyH.cons rfl (fun K hK => ?_) ?_
              · go_simp
                refine hK.out _ _ ?_ (fun hHeld => ?_)
                · (try dsimp only)
                  exact ⟨SC.out _ GFAB.out, CFAB.out⟩
                clear hK K
                try simp only [Act.put, List.getElem_toArray, List.getElem_cons_zero, List.getElem_cons_succ, List.setIfInBounds_toArray, List.set_cons_zero, List.set_cons_succ]
                refine wpAnyH_done (by kernel_rfl) ?_ _
                go_wp2_with fail
                go_meet
                exact ⟨_, _, rfl, hnl, HFAB⟩
              exact AllReadyH.nil
            exact AllReadyH.nil
          exact AllReadyH.nil
        refine AllReadyH.cons rfl (fun K hK => ?_) ?_
        · go_simp
          refine hK.out _ _ ?_ (fun hHeld => ?_)
          · (try dsimp only)
            exact ⟨SC.out _ GAB.out, CAB.out⟩
          clear hK K
          try simp only [Act.put, List.getElem_toArray, List.getElem_cons_zero, List.getElem_cons_succ, List.setIfInBounds_toArray, List.set_cons_zero, List.set_cons_succ]
          refine wpAnyH_ready (rs := [8]) (by kernel_rfl) (by simp) ?_
          refine AllReadyH.cons rfl (fun K hK => ?_) ?_
          · go_simp
            go_at_call 10
            refine (K1.out _).mono ?_
            rintro e _ ⟨rfl, rfl⟩
            refine hK.out _ _ ?_ (fun hHeld => ?_)
            · (try dsimp only)
              exact ⟨SC.out _ GAB.out, CAB.out⟩
            clear hK K
            try simp only [Act.put, List.getElem_toArray, List.getElem_cons_zero, List.getElem_cons_succ, List.setIfInBounds_toArray, List.set_cons_zero, List.set_cons_succ]
            refine wpAnyH_ready (rs := [11]) (by kernel_rfl) (by simp) ?_
            refine AllReadyH.cons rfl (fun K hK => ?_) ?_
            · go_simp
              go_at_call 10
              refine (K2.out _).mono ?_
              rintro e _ ⟨rfl, rfl⟩
              refine hK.out _ _ ?_ (fun hHeld => ?_)
              · (try dsimp only)
                exact ⟨SC.out _ GAB.out, CAB.out⟩
              clear hK K
              try simp only [Act.put, List.getElem_toArray, List.getElem_cons_zero, List.getElem_cons_succ, List.setIfInBounds_toArray, List.set_cons_zero, List.set_cons_succ]
              refine wpAnyH_take (i := 12) (v := ?_) rfl (by kernel_rfl) (by kernel_rfl) (by kernel_rfl) (fun _ _ _ h => h) (Or.inl ⟨by rfl, ?_⟩) (by assumption) ?_
              rotate_left
              · (intro w hSw; (try dsimp only at hSw); go_simp; try with_reducible rfl)
              try simp only [Act.put, List.getElem_toArray, List.getElem_cons_zero, List.getElem_cons_succ, List.setIfInBounds_toArray, List.set_cons_zero, List.set_cons_succ]
              refine wpAnyH_take (i := 13) (v := ?_) rfl (by kernel_rfl) (by kernel_rfl) (by kernel_rfl) (fun _ _ _ h => h) (Or.inl ⟨by rfl, ?_⟩) (by assumption) ?_
              rotate_left
              · (intro w hSw; (try dsimp only at hSw); go_simp; try with_reducible rfl)
              try simp only [Act.put, List.getElem_toArray, List.getElem_cons_zero, List.getElem_cons_succ, List.setIfInBounds_toArray, List.set_cons_zero, List.set_cons_succ]
              refine wpAnyH_ready (rs := [15]) (by kernel_rfl) (by simp) ?_
              refine AllReadyH.cons rfl (fun K hK => ?_) ?_
              · go_simp
                refine hK.out _ _ ?_ (fun hHeld => ?_)
                · (try dsimp only)
                  exact ⟨SC.out _ GFAB.out, CFAB.out⟩
                clear hK K
                try simp only [Act.put, List.getElem_toArray, List.getElem_cons_zero, List.getElem_cons_succ, List.setIfInBounds_toArray, List.set_cons_zero, List.set_cons_succ]
                refine wpAnyH_done (by kernel_rfl) ?_ _
                go_wp2_with fail
                go_meet
                exact ⟨_, _, rfl, hnl, HFAB⟩
              exact AllReadyH.nil
            exact AllReadyH.nil
          exact AllReadyH.nil
        exact AllReadyH.nil
      refine AllReadyH.cons rfl (fun K hK => ?_) ?_
      · go_simp
        go_at_call 10
        refine (K1.out _).mono ?_
        rintro e _ ⟨rfl, rfl⟩
        refine hK.out _ _ ?_ (fun hHeld => ?_)
        · (try dsimp only)
          exact SC.out _ G0
        clear hK K
        try simp only [Act.put, List.getElem_toArray, List.getElem_cons_zero, List.getElem_cons_succ, List.setIfInBounds_toArray, List.set_cons_zero, List.set_cons_succ]
        refine wpAnyH_ready (rs := [0, 11, 14]) (by kernel_rfl) (by simp) ?_
        refine AllReadyH.cons rfl (fun K hK => ?_) ?_
        · go_simp
          refine hK.out _ _ ?_ (fun hHeld => ?_)
          · (try dsimp only)
            exact SC.out _ GA.out
          clear hK K
          try simp only [Act.put, List.getElem_toArray, List.getElem_cons_zero, List.getElem_cons_succ, List.setIfInBounds_toArray, List.set_cons_zero, List.set_cons_succ]
          refine wpAnyH_mono (S' := (fun W => (W.cell? ⟨w.heap.size, 0, none⟩ = some (.int .i64 n0) ∧ W.cell? ⟨w.heap.size, 1, none⟩ = some (.int .i64 n1) ∧ W.cell? ⟨w.heap.size, 2, none⟩ = some (.int .i64 n2)) ∧ W.cell? ⟨w2.heap.size, q0, none⟩ = some (S nm))) (fun _ h => h.1) _ _ _ _ ?_
          have hH3 : (fun W => (W.cell? ⟨w.heap.size, 0, none⟩ = some (.int .i64 n0) ∧ W.cell? ⟨w.heap.size, 1, none⟩ = some (.int .i64 n1) ∧ W.cell? ⟨w.heap.size, 2, none⟩ = some (.int .i64 n2)) ∧ W.cell? ⟨w2.heap.size, q0, none⟩ = some (S nm)) (w2.drew.alloc (.cells #[.string ⟨#[43]⟩, .string ⟨#[42]⟩, .string ⟨#[110, 101, 119]⟩, .string ⟨#[116, 121, 112, 101]⟩, .string ⟨#[]⟩] 9)) := ⟨SC.out _ GA.out, CA.out⟩
          refine wpAnyH_take (i := 4) (v := ?_) rfl (by kernel_rfl) (by kernel_rfl) (by kernel_rfl) (fun _ _ _ h => h) (Or.inl ⟨by rfl, ?_⟩) (by assumption) ?_
          rotate_left
          · (intro w hSw; (try dsimp only at hSw); go_simp; try with_reducible rfl)
          try simp only [Act.put, List.getElem_toArray, List.getElem_cons_zero, List.getElem_cons_succ, List.setIfInBounds_toArray, List.set_cons_zero, List.set_cons_succ]
          refine wpAnyH_take (i := 5) (v := ?_) rfl (by kernel_rfl) (by kernel_rfl) (by kernel_rfl) (fun _ _ _ h => h) (Or.inl ⟨by rfl, ?_⟩) (by assumption) ?_
          rotate_left
          · (intro w hSw; (try dsimp only at hSw); go_simp; try with_reducible rfl)
          try simp only [Act.put, List.getElem_toArray, List.getElem_cons_zero, List.getElem_cons_succ, List.setIfInBounds_toArray, List.set_cons_zero, List.set_cons_succ]
          refine wpAnyH_ready (rs := [11, 14]) (by kernel_rfl) (by simp) ?_
          refine AllReadyH.cons rfl (fun K hK => ?_) ?_
          · go_simp
            go_at_call 10
            refine (K2.out _).mono ?_
            rintro e _ ⟨rfl, rfl⟩
            refine hK.out _ _ ?_ (fun hHeld => ?_)
            · (try dsimp only)
              exact ⟨SC.out _ GA.out, CA.out⟩
            clear hK K
            try simp only [Act.put, List.getElem_toArray, List.getElem_cons_zero, List.getElem_cons_succ, List.setIfInBounds_toArray, List.set_cons_zero, List.set_cons_succ]
            refine wpAnyH_take (i := 12) (v := ?_) rfl (by kernel_rfl) (by kernel_rfl) (by kernel_rfl) (fun _ _ _ h => h) (Or.inl ⟨by rfl, ?_⟩) (by assumption) ?_
            rotate_left
            · (intro w hSw; (try dsimp only at hSw); go_simp; try with_reducible rfl)
            try simp only [Act.put, List.getElem_toArray, List.getElem_cons_zero, List.getElem_cons_succ, List.setIfInBounds_toArray, List.set_cons_zero, List.set_cons_succ]
            refine wpAnyH_take (i := 13) (v := ?_) rfl (by kernel_rfl) (by kernel_rfl) (by kernel_rfl) (fun _ _ _ h => h) (Or.inl ⟨by rfl, ?_⟩) (by assumption) ?_
            rotate_left
            · (intro w hSw; (try dsimp only at hSw); go_simp; try with_reducible rfl)
            try simp only [Act.put, List.getElem_toArray, List.getElem_cons_zero, List.getElem_cons_succ, List.setIfInBounds_toArray, List.set_cons_zero, List.set_cons_succ]
            refine wpAnyH_ready (rs := [14]) (by kernel_rfl) (by simp) ?_
            refine AllReadyH.cons rfl (fun K hK => ?_) ?_
            · go_simp
              refine hK.out _ _ ?_ (fun hHeld => ?_)
              · (try dsimp only)
                exact ⟨SC.out _ GAB.out, CAB.out⟩
              clear hK K
              try simp only [Act.put, List.getElem_toArray, List.getElem_cons_zero, List.getElem_cons_succ, List.setIfInBounds_toArray, List.set_cons_zero, List.set_cons_succ]
              refine wpAnyH_ready (rs := [15]) (by kernel_rfl) (by simp) ?_
              refine AllReadyH.cons rfl (fun K hK => ?_) ?_
              · go_simp
                refine hK.out _ _ ?_ (fun hHeld => ?_)
                · (try dsimp only)
                  exact ⟨SC.out _ GFAB.out, CFAB.out⟩
                clear hK K
                try simp only [Act.put, List.getElem_toArray, List.getElem_cons_zero, List.getElem_cons_succ, List.setIfInBounds_toArray, List.set_cons_zero, List.set_cons_succ]
                refine wpAnyH_done (by kernel_rfl) ?_ _
                go_wp2_with fail
                go_meet
                exact ⟨_, _, rfl, hnl, HFAB⟩
              exact AllReadyH.nil
            exact AllReadyH.nil
          refine AllReadyH.cons rfl (fun K hK => ?_) ?_
          · go_simp
            refine hK.out _ _ ?_ (fun hHeld => ?_)
            · (try dsimp only)
              exact ⟨SC.out _ GAB.out, CAB.out⟩
            clear hK K
            try simp only [Act.put, List.getElem_toArray, List.getElem_cons_zero, List.getElem_cons_succ, List.setIfInBounds_toArray, List.set_cons_zero, List.set_cons_succ]
            refine wpAnyH_ready (rs := [11]) (by kernel_rfl) (by simp) ?_
            refine AllReadyH.cons rfl (fun K hK => ?_) ?_
            · go_simp
              go_at_call 10
              refine (K2.out _).mono ?_
              rintro e _ ⟨rfl, rfl⟩
              refine hK.out _ _ ?_ (fun hHeld => ?_)
              · (try dsimp only)
                exact ⟨SC.out _ GAB.out, CAB.out⟩
              clear hK K
              try simp only [Act.put, List.getElem_toArray, List.getElem_cons_zero, List.getElem_cons_succ, List.setIfInBounds_toArray, List.set_cons_zero, List.set_cons_succ]
              refine wpAnyH_take (i := 12) (v := ?_) rfl (by kernel_rfl) (by kernel_rfl) (by kernel_rfl) (fun _ _ _ h => h) (Or.inl ⟨by rfl, ?_⟩) (by assumption) ?_
              rotate_left
              · (intro w hSw; (try dsimp only at hSw); go_simp; try with_reducible rfl)
              try simp only [Act.put, List.getElem_toArray, List.getElem_cons_zero, List.getElem_cons_succ, List.setIfInBounds_toArray, List.set_cons_zero, List.set_cons_succ]
              refine wpAnyH_take (i := 13) (v := ?_) rfl (by kernel_rfl) (by kernel_rfl) (by kernel_rfl) (fun _ _ _ h => h) (Or.inl ⟨by rfl, ?_⟩) (by assumption) ?_
              rotate_left
              · (intro w hSw; (try dsimp only at hSw); go_simp; try with_reducible rfl)
              try simp only [Act.put, List.getElem_toArray, List.getElem_cons_zero, List.getElem_cons_succ, List.setIfInBounds_toArray, List.set_cons_zero, List.set_cons_succ]
              refine wpAnyH_ready (rs := [15]) (by kernel_rfl) (by simp) ?_
              refine AllReadyH.cons rfl (fun K hK => ?_) ?_
              · go_simp
                refine hK.out _ _ ?_ (fun hHeld => ?_)
                · (try dsimp only)
                  exact ⟨SC.out _ GFAB.out, CFAB.out⟩
                clear hK K
                try simp only [Act.put, List.getElem_toArray, List.getElem_cons_zero, List.getElem_cons_succ, List.setIfInBounds_toArray, List.set_cons_zero, List.set_cons_succ]
                refine wpAnyH_done (by kernel_rfl) ?_ _
                go_wp2_with fail
                go_meet
                exact ⟨_, _, rfl, hnl, HFAB⟩
              exact AllReadyH.nil
            exact AllReadyH.nil
          exact AllReadyH.nil
        refine AllReadyH.cons rfl (fun K hK => ?_) ?_
        · go_simp
          go_at_call 10
          refine (K2.out _).mono ?_
          rintro e _ ⟨rfl, rfl⟩
          refine hK.out _ _ ?_ (fun hHeld => ?_)
          · (try dsimp only)
            exact SC.out _ G0
          clear hK K
          try simp only [Act.put, List.getElem_toArray, List.getElem_cons_zero, List.getElem_cons_succ, List.setIfInBounds_toArray, List.set_cons_zero, List.set_cons_succ]
          refine wpAnyH_take (i := 12) (v := ?_) rfl (by kernel_rfl) (by kernel_rfl) (by kernel_rfl) (fun _ _ _ h => h) (Or.inl ⟨by rfl, ?_⟩) (by assumption) ?_
          rotate_left
          · (intro w hSw; (try dsimp only at hSw); go_simp; try with_reducible rfl)
          try simp only [Act.put, List.getElem_toArray, List.getElem_cons_zero, List.getElem_cons_succ, List.setIfInBounds_toArray, List.set_cons_zero, List.set_cons_succ]
          refine wpAnyH_ready (rs := [0, 14]) (by kernel_rfl) (by simp) ?_
          refine AllReadyH.cons rfl (fun K hK => ?_) ?_
          · go_simp
            refine hK.out _ _ ?_ (fun hHeld => ?_)
            · (try dsimp only)
              exact SC.out _ GA.out
            clear hK K
            try simp only [Act.put, List.getElem_toArray, List.getElem_cons_zero, List.getElem_cons_succ, List.setIfInBounds_toArray, List.set_cons_zero, List.set_cons_succ]
            refine wpAnyH_mono (S' := (fun W => (W.cell? ⟨w.heap.size, 0, none⟩ = some (.int .i64 n0) ∧ W.cell? ⟨w.heap.size, 1, none⟩ = some (.int .i64 n1) ∧ W.cell? ⟨w.heap.size, 2, none⟩ = some (.int .i64 n2)) ∧ W.cell? ⟨w2.heap.size, q0, none⟩ = some (S nm))) (fun _ h => h.1) _ _ _ _ ?_
            have hH4 : (fun W => (W.cell? ⟨w.heap.size, 0, none⟩ = some (.int .i64 n0) ∧ W.cell? ⟨w.heap.size, 1, none⟩ = some (.int .i64 n1) ∧ W.cell? ⟨w.heap.size, 2, none⟩ = some (.int .i64 n2)) ∧ W.cell? ⟨w2.heap.size, q0, none⟩ = some (S nm)) (w2.drew.alloc (.cells #[.string ⟨#[43]⟩, .string ⟨#[42]⟩, .string ⟨#[110, 101, 119]⟩, .string ⟨#[116, 121, 112, 101]⟩, .string ⟨#[]⟩] 9)) := ⟨SC.out _ GA.out, CA.out⟩
            refine wpAnyH_take (i := 4) (v := ?_) rfl (by kernel_rfl) (by kernel_rfl) (by kernel_rfl) (fun _ _ _ h => h) (Or.inl ⟨by rfl, ?_⟩) (by assumption) ?_
            rotate_left
            · (intro w hSw; (try dsimp only at hSw); go_simp; try with_reducible rfl)
            try simp only [Act.put, List.getElem_toArray, List.getElem_cons_zero, List.getElem_cons_succ, List.setIfInBounds_toArray, List.set_cons_zero, List.set_cons_succ]
            refine wpAnyH_take (i := 5) (v := ?_) rfl (by kernel_rfl) (by kernel_rfl) (by kernel_rfl) (fun _ _ _ h => h) (Or.inl ⟨by rfl, ?_⟩) (by assumption) ?_
            rotate_left
            · (intro w hSw; (try dsimp only at hSw); go_simp; try with_reducible rfl)
            try simp only [Act.put, List.getElem_toArray, List.getElem_cons_zero, List.getElem_cons_succ, List.setIfInBounds_toArray, List.set_cons_zero, List.set_cons_succ]
            refine wpAnyH_take (i := 13) (v := ?_) rfl (by kernel_rfl) (by kernel_rfl) (by kernel_rfl) (fun _ _ _ h => h) (Or.inl ⟨by rfl, ?_⟩) (by assumption) ?_
            rotate_left
            · (intro w hSw; (try dsimp only at hSw); go_simp; try with_reducible rfl)
            try simp only [Act.put, List.getElem_toArray, List.getElem_cons_zero, List.getElem_cons_succ, List.setIfInBounds_toArray, List.set_cons_zero, List.set_cons_succ]
            refine wpAnyH_ready (rs := [14]) (by kernel_rfl) (by simp) ?_
            refine AllReadyH.cons rfl (fun K hK => ?_) ?_
            · go_simp
              refine hK.out _ _ ?_ (fun hHeld => ?_)
              · (try dsimp only)
                exact ⟨SC.out _ GAB.out, CAB.out⟩
              clear hK K
              try simp only [Act.put, List.getElem_toArray, List.getElem_cons_zero, List.getElem_cons_succ, List.setIfInBounds_toArray, List.set_cons_zero, List.set_cons_succ]
              refine wpAnyH_ready (rs := [15]) (by kernel_rfl) (by simp) ?_
              refine AllReadyH.cons rfl (fun K hK => ?_) ?_
              · go_simp
                refine hK.out _ _ ?_ (fun hHeld => ?_)
                · (try dsimp only)
                  exact ⟨SC.out _ GFAB.out, CFAB.out⟩
                clear hK K
                try simp only [Act.put, List.getElem_toArray, List.getElem_cons_zero, List.getElem_cons_succ, List.setIfInBounds_toArray, List.set_cons_zero, List.set_cons_succ]
                refine wpAnyH_done (by kernel_rfl) ?_ _
                go_wp2_with fail
                go_meet
                exact ⟨_, _, rfl, hnl, HFAB⟩
              exact AllReadyH.nil
            exact AllReadyH.nil
          refine AllReadyH.cons rfl (fun K hK => ?_) ?_
          · go_simp
            refine hK.out _ _ ?_ (fun hHeld => ?_)
            · (try dsimp only)
              exact SC.out _ GB.out
            clear hK K
            try simp only [Act.put, List.getElem_toArray, List.getElem_cons_zero, List.getElem_cons_succ, List.setIfInBounds_toArray, List.set_cons_zero, List.set_cons_succ]
            refine wpAnyH_ready (rs := [0]) (by kernel_rfl) (by simp) ?_
            refine AllReadyH.cons rfl (fun K hK => ?_) ?_
            · go_simp
              refine hK.out _ _ ?_ (fun hHeld => ?_)
              · (try dsimp only)
                exact SC.out _ GBA.out
              clear hK K
              try simp only [Act.put, List.getElem_toArray, List.getElem_cons_zero, List.getElem_cons_succ, List.setIfInBounds_toArray, List.set_cons_zero, List.set_cons_succ]
              refine wpAnyH_mono (S' := (fun W => (W.cell? ⟨w.heap.size, 0, none⟩ = some (.int .i64 n0) ∧ W.cell? ⟨w.heap.size, 1, none⟩ = some (.int .i64 n1) ∧ W.cell? ⟨w.heap.size, 2, none⟩ = some (.int .i64 n2)) ∧ W.cell? ⟨(w2.heap.size + 1), q0, none⟩ = some (S nm))) (fun _ h => h.1) _ _ _ _ ?_
              have hH5 : (fun W => (W.cell? ⟨w.heap.size, 0, none⟩ = some (.int .i64 n0) ∧ W.cell? ⟨w.heap.size, 1, none⟩ = some (.int .i64 n1) ∧ W.cell? ⟨w.heap.size, 2, none⟩ = some (.int .i64 n2)) ∧ W.cell? ⟨(w2.heap.size + 1), q0, none⟩ = some (S nm)) ((w2.drew.alloc (.cells #[S [], .int .i64 0, .int .i64 0] 36)).alloc (.cells #[.string ⟨#[43]⟩, .string ⟨#[42]⟩, .string ⟨#[110, 101, 119]⟩, .string ⟨#[116, 121, 112, 101]⟩, .string ⟨#[]⟩] 9)) := ⟨SC.out _ GBA.out, CBA.out⟩
              refine wpAnyH_take (i := 4) (v := ?_) rfl (by kernel_rfl) (by kernel_rfl) (by kernel_rfl) (fun _ _ _ h => h) (Or.inl ⟨by rfl, ?_⟩) (by assumption) ?_
              rotate_left
              · (intro w hSw; (try dsimp only at hSw); go_simp; try with_reducible rfl)
              try simp only [Act.put, List.getElem_toArray, List.getElem_cons_zero, List.getElem_cons_succ, List.setIfInBounds_toArray, List.set_cons_zero, List.set_cons_succ]
              refine wpAnyH_take (i := 5) (v := ?_) rfl (by kernel_rfl) (by kernel_rfl) (by kernel_rfl) (fun _ _ _ h => h) (Or.inl ⟨by rfl, ?_⟩) (by assumption) ?_
              rotate_left
              · (intro w hSw; (try dsimp only at hSw); go_simp; try with_reducible rfl)
              try simp only [Act.put, List.getElem_toArray, List.getElem_cons_zero, List.getElem_cons_succ, List.setIfInBounds_toArray, List.set_cons_zero, List.set_cons_succ]
              refine wpAnyH_take (i := 13) (v := ?_) rfl (by kernel_rfl) (by kernel_rfl) (by kernel_rfl) (fun _ _ _ h => h) (Or.inl ⟨by rfl, ?_⟩) (by assumption) ?_
              rotate_left
              · (intro w hSw; (try dsimp only at hSw); go_simp; try with_reducible rfl)
              try simp only [Act.put, List.getElem_toArray, List.getElem_cons_zero, List.getElem_cons_succ, List.setIfInBounds_toArray, List.set_cons_zero, List.set_cons_succ]
              refine wpAnyH_ready (rs := [15]) (by kernel_rfl) (by simp) ?_
              refine AllReadyH.cons rfl (fun K hK => ?_) ?_
              · go_simp
                refine hK.out _ _ ?_ (fun hHeld => ?_)
                · (try dsimp only)
                  exact ⟨SC.out _ GFBA.out, CFBA.out⟩
                clear hK K
                try simp only [Act.put, List.getElem_toArray, List.getElem_cons_zero, List.getElem_cons_succ, List.setIfInBounds_toArray, List.set_cons_zero, List.set_cons_succ]
                refine wpAnyH_done (by kernel_rfl) ?_ _
                go_wp2_with fail
                go_meet
                exact ⟨_, _, rfl, hnl, HFBA⟩
              exact AllReadyH.nil
            exact AllReadyH.nil
          exact AllReadyH.nil
        refine AllReadyH.cons rfl (fun K hK => ?_) ?_
        · go_simp
          refine hK.out _ _ ?_ (fun hHeld => ?_)
          · (try dsimp only)
            exact SC.out _ GB.out
          clear hK K
          try simp only [Act.put, List.getElem_toArray, List.getElem_cons_zero, List.getElem_cons_succ, List.setIfInBounds_toArray, List.set_cons_zero, List.set_cons_succ]
          refine wpAnyH_ready (rs := [0, 11]) (by kernel_rfl) (by simp) ?_
          refine AllReadyH.cons rfl (fun K hK => ?_) ?_
          · go_simp
            refine hK.out _ _ ?_ (fun hHeld => ?_)
            · (try dsimp only)
              exact SC.out _ GBA.out
            clear hK K
            try simp only [Act.put, List.getElem_toArray, List.getElem_cons_zero, List.getElem_cons_succ, List.setIfInBounds_toArray, List.set_cons_zero, List.set_cons_succ]
            refine wpAnyH_mono (S' := (fun W => (W.cell? ⟨w.heap.size, 0, none⟩ = some (.int .i64 n0) ∧ W.cell? ⟨w.heap.size, 1, none⟩ = some (.int .i64 n1) ∧ W.cell? ⟨w.heap.size, 2, none⟩ = some (.int .i64 n2)) ∧ W.cell? ⟨(w2.heap.size + 1), q0, none⟩ = some (S nm))) (fun _ h => h.1) _ _ _ _ ?_
            have hH4 : (fun W => (W.cell? ⟨w.heap.size, 0, none⟩ = some (.int .i64 n0) ∧ W.cell? ⟨w.heap.size, 1, none⟩ = some (.int .i64 n1) ∧ W.cell? ⟨w.heap.size, 2, none⟩ = some (.int .i64 n2)) ∧ W.cell? ⟨(w2.heap.size + 1), q0, none⟩ = some (S nm)) ((w2.drew.alloc (.cells #[S [], .int .i64 0, .int .i64 0] 36)).alloc (.cells #[.string ⟨#[43]⟩, .string ⟨#[42]⟩, .string ⟨#[110, 101, 119]⟩, .string ⟨#[116, 121, 112, 101]⟩, .string ⟨#[]⟩] 9)) := ⟨SC.out _ GBA.out, CBA.out⟩
            refine wpAnyH_take (i := 4) (v := ?_) rfl (by kernel_rfl) (by kernel_rfl) (by kernel_rfl) (fun _ _ _ h => h) (Or.inl ⟨by rfl, ?_⟩) (by assumption) ?_
            rotate_left
            · (intro w hSw; (try dsimp only at hSw); go_simp; try with_reducible rfl)
            try simp only [Act.put, List.getElem_toArray, List.getElem_cons_zero, List.getElem_cons_succ, List.setIfInBounds_toArray, List.set_cons_zero, List.set_cons_succ]
            refine wpAnyH_take (i := 5) (v := ?_) rfl (by kernel_rfl) (by kernel_rfl) (by kernel_rfl) (fun _ _ _ h => h) (Or.inl ⟨by rfl, ?_⟩) (by assumption) ?_
            rotate_left
            · (intro w hSw; (try dsimp only at hSw); go_simp; try with_reducible rfl)
            try simp only [Act.put, List.getElem_toArray, List.getElem_cons_zero, List.getElem_cons_succ, List.setIfInBounds_toArray, List.set_cons_zero, List.set_cons_succ]
            refine wpAnyH_ready (rs := [11]) (by kernel_rfl) (by simp) ?_
            refine AllReadyH.cons rfl (fun K hK => ?_) ?_
            · go_simp
              go_at_call 10
              refine (K2.out _).mono ?_
              rintro e _ ⟨rfl, rfl⟩
              refine hK.out _ _ ?_ (fun hHeld => ?_)
              · (try dsimp only)
                exact ⟨SC.out _ GBA.out, CBA.out⟩
              clear hK K
              try simp only [Act.put, List.getElem_toArray, List.getElem_cons_zero, List.getElem_cons_succ, List.setIfInBounds_toArray, List.set_cons_zero, List.set_cons_succ]
              refine wpAnyH_take (i := 12) (v := ?_) rfl (by kernel_rfl) (by kernel_rfl) (by kernel_rfl) (fun _ _ _ h => h) (Or.inl ⟨by rfl, ?_⟩) (by assumption) ?_
              rotate_left
              · (intro w hSw; (try dsimp only at hSw); go_simp; try with_reducible rfl)
              try simp only [Act.put, List.getElem_toArray, List.getElem_cons_zero, List.getElem_cons_succ, List.setIfInBounds_toArray, List.set_cons_zero, List.set_cons_succ]
              refine wpAnyH_take (i := 13) (v := ?_) rfl (by kernel_rfl) (by kernel_rfl) (by kernel_rfl) (fun _ _ _ h => h) (Or.inl ⟨by rfl, ?_⟩) (by assumption) ?_
              rotate_left
              · (intro w hSw; (try dsimp only at hSw); go_simp; try with_reducible rfl)
              try simp only [Act.put, List.getElem_toArray, List.getElem_cons_zero, List.getElem_cons_succ, List.setIfInBounds_toArray, List.set_cons_zero, List.set_cons_succ]
              refine wpAnyH_ready (rs := [15]) (by kernel_rfl) (by simp) ?_
              refine AllReadyH.cons rfl (fun K hK => ?_) ?_
              · go_simp
                refine hK.out _ _ ?_ (fun hHeld => ?_)
                · (try dsimp only)
                  exact ⟨SC.out _ GFBA.out, CFBA.out⟩
                clear hK K
                try simp only [Act.put, List.getElem_toArray, List.getElem_cons_zero, List.getElem_cons_succ, List.setIfInBounds_toArray, List.set_cons_zero, List.set_cons_succ]
                refine wpAnyH_done (by kernel_rfl) ?_ _
                go_wp2_with fail
                go_meet
                exact ⟨_, _, rfl, hnl, HFBA⟩
              exact AllReadyH.nil
            exact AllReadyH.nil
          refine AllReadyH.cons rfl (fun K hK => ?_) ?_
          · go_simp
            go_at_call 10
            refine (K2.out _).mono ?_
            rintro e _ ⟨rfl, rfl⟩
            refine hK.out _ _ ?_ (fun hHeld => ?_)
            · (try dsimp only)
              exact SC.out _ GB.out
            clear hK K
            try simp only [Act.put, List.getElem_toArray, List.getElem_cons_zero, List.getElem_cons_succ, List.setIfInBounds_toArray, List.set_cons_zero, List.set_cons_succ]
            refine wpAnyH_take (i := 12) (v := ?_) rfl (by kernel_rfl) (by kernel_rfl) (by kernel_rfl) (fun _ _ _ h => h) (Or.inl ⟨by rfl, ?_⟩) (by assumption) ?_
            rotate_left
            · (intro w hSw; (try dsimp only at hSw); go_simp; try with_reducible rfl)
            try simp only [Act.put, List.getElem_toArray, List.getElem_cons_zero, List.getElem_cons_succ, List.setIfInBounds_toArray, List.set_cons_zero, List.set_cons_succ]
            refine wpAnyH_ready (rs := [0]) (by kernel_rfl) (by simp) ?_
            refine AllReadyH.cons rfl (fun K hK => ?_) ?_
            · go_simp
              refine hK.out _ _ ?_ (fun hHeld => ?_)
              · (try dsimp only)
                exact SC.out _ GBA.out
              clear hK K
              try simp only [Act.put, List.getElem_toArray, List.getElem_cons_zero, List.getElem_cons_succ, List.setIfInBounds_toArray, List.set_cons_zero, List.set_cons_succ]
              refine wpAnyH_mono (S' := (fun W => (W.cell? ⟨w.heap.size, 0, none⟩ = some (.int .i64 n0) ∧ W.cell? ⟨w.heap.size, 1, none⟩ = some (.int .i64 n1) ∧ W.cell? ⟨w.heap.size, 2, none⟩ = some (.int .i64 n2)) ∧ W.cell? ⟨(w2.heap.size + 1), q0, none⟩ = some (S nm))) (fun _ h => h.1) _ _ _ _ ?_
              have hH5 : (fun W => (W.cell? ⟨w.heap.size, 0, none⟩ = some (.int .i64 n0) ∧ W.cell? ⟨w.heap.size, 1, none⟩ = some (.int .i64 n1) ∧ W.cell? ⟨w.heap.size, 2, none⟩ = some (.int .i64 n2)) ∧ W.cell? ⟨(w2.heap.size + 1), q0, none⟩ = some (S nm)) ((w2.drew.alloc (.cells #[S [], .int .i64 0, .int .i64 0] 36)).alloc (.cells #[.string ⟨#[43]⟩, .string ⟨#[42]⟩, .string ⟨#[110, 101, 119]⟩, .string ⟨#[116, 121, 112, 101]⟩, .string ⟨#[]⟩] 9)) := ⟨SC.out _ GBA.out, CBA.out⟩
              refine wpAnyH_take (i := 4) (v := ?_) rfl (by kernel_rfl) (by kernel_rfl) (by kernel_rfl) (fun _ _ _ h => h) (Or.inl ⟨by rfl, ?_⟩) (by assumption) ?_
              rotate_left
              · (intro w hSw; (try dsimp only at hSw); go_simp; try with_reducible rfl)
              try simp only [Act.put, List.getElem_toArray, List.getElem_cons_zero, List.getElem_cons_succ, List.setIfInBounds_toArray, List.set_cons_zero, List.set_cons_succ]
              refine wpAnyH_take (i := 5) (v := ?_) rfl (by kernel_rfl) (by kernel_rfl) (by kernel_rfl) (fun _ _ _ h => h) (Or.inl ⟨by rfl, ?_⟩) (by assumption) ?_
              rotate_left
              · (intro w hSw; (try dsimp only at hSw); go_simp; try with_reducible rfl)
              try simp only [Act.put, List.getElem_toArray, List.getElem_cons_zero, List.getElem_cons_succ, List.setIfInBounds_toArray, List.set_cons_zero, List.set_cons_succ]
              refine wpAnyH_take (i := 13) (v := ?_) rfl (by kernel_rfl) (by kernel_rfl) (by kernel_rfl) (fun _ _ _ h => h) (Or.inl ⟨by rfl, ?_⟩) (by assumption) ?_
              rotate_left
              · (intro w hSw; (try dsimp only at hSw); go_simp; try with_reducible rfl)
              try simp only [Act.put, List.getElem_toArray, List.getElem_cons_zero, List.getElem_cons_succ, List.setIfInBounds_toArray, List.set_cons_zero, List.set_cons_succ]
              refine wpAnyH_ready (rs := [15]) (by kernel_rfl) (by simp) ?_
              refine AllReadyH.cons rfl (fun K hK => ?_) ?_
              · go_simp
                refine hK.out _ _ ?_ (fun hHeld => ?_)
                · (try dsimp only)
                  exact ⟨SC.out _ GFBA.out, CFBA.out⟩
                clear hK K
                try simp only [Act.put, List.getElem_toArray, List.getElem_cons_zero, List.getElem_cons_succ, List.setIfInBounds_toArray, List.set_cons_zero, List.set_cons_succ]
                refine wpAnyH_done (by kernel_rfl) ?_ _
                go_wp2_with fail
                go_meet
                exact ⟨_, _, rfl, hnl, HFBA⟩
              exact AllReadyH.nil
            exact AllReadyH.nil
          exact AllReadyH.nil
        exact AllReadyH.nil
      refine AllReadyH.cons rfl (fun K hK => ?_) ?_
      · go_simp
        refine hK.out _ _ ?_ (fun hHeld => ?_)
        · (try dsimp only)
          exact SC.out _ GB.out
        clear hK K
        try simp only [Act.put, List.getElem_toArray, List.getElem_cons_zero, List.getElem_cons_succ, List.setIfInBounds_toArray, List.set_cons_zero, List.set_cons_succ]
        refine wpAnyH_ready (rs := [0, 8]) (by kernel_rfl) (by simp) ?_
        refine AllReadyH.cons rfl (fun K hK => ?_) ?_
        · go_simp
          refine hK.out _ _ ?_ (fun hHeld => ?_)
          · (try dsimp only)
            exact SC.out _ GBA.out
          clear hK K
          try simp only [Act.put, List.getElem_toArray, List.getElem_cons_zero, List.getElem_cons_succ, List.setIfInBounds_toArray, List.set_cons_zero, List.set_cons_succ]
          refine wpAnyH_mono (S' := (fun W => (W.cell? ⟨w.heap.size, 0, none⟩ = some (.int .i64 n0) ∧ W.cell? ⟨w.heap.size, 1, none⟩ = some (.int .i64 n1) ∧ W.cell? ⟨w.heap.size, 2, none⟩ = some (.int .i64 n2)) ∧ W.cell? ⟨(w2.heap.size + 1), q0, none⟩ = some (S nm))) (fun _ h => h.1) _ _ _ _ ?_
          have hH3 : (fun W => (W.cell? ⟨w.heap.size, 0, none⟩ = some (.int .i64 n0) ∧ W.cell? ⟨w.heap.size, 1, none⟩ = some (.int .i64 n1) ∧ W.cell? ⟨w.heap.size, 2, none⟩ = some (.int .i64 n2)) ∧ W.cell? ⟨(w2.heap.size + 1), q0, none⟩ = some (S nm)) ((w2.drew.alloc (.cells #[S [], .int .i64 0, .int .i64 0] 36)).alloc (.cells #[.string ⟨#[43]⟩, .string ⟨#[42]⟩, .string ⟨#[110, 101, 119]⟩, .string ⟨#[116, 121, 112, 101]⟩, .string ⟨#[]⟩] 9)) := ⟨SC.out _ GBA.out, CBA.out⟩
          refine wpAnyH_take (i := 4) (v := ?_) rfl (by kernel_rfl) (by kernel_rfl) (by kernel_rfl) (fun _ _ _ h => h) (Or.inl ⟨by rfl, ?_⟩) (by assumption) ?_
          rotate_left
          · (intro w hSw; (try dsimp only at hSw); go_simp; try with_reducible rfl)
          try simp only [Act.put, List.getElem_toArray, List.getElem_cons_zero, List.getElem_cons_succ, List.setIfInBounds_toArray, List.set_cons_zero, List.set_cons_succ]
          refine wpAnyH_take (i := 5) (v := ?_) rfl (by kernel_rfl) (by kernel_rfl) (by kernel_rfl) (fun _ _ _ h => h) (Or.inl ⟨by rfl, ?_⟩) (by assumption) ?_
          rotate_left
          · (intro w hSw; (try dsimp only at hSw); go_simp; try with_reducible rfl)
          try simp only [Act.put, List.getElem_toArray, List.getElem_cons_zero, List.getElem_cons_succ, List.setIfInBounds_toArray, List.set_cons_zero, List.set_cons_succ]
          refine wpAnyH_ready (rs := [8]) (by kernel_rfl) (by simp) ?_
          refine AllReadyH.cons rfl (fun K hK => ?_) ?_
          · go_simp
            go_at_call 10
            refine (K1.out _).mono ?_
            rintro e _ ⟨rfl, rfl⟩
            refine hK.out _ _ ?_ (fun hHeld => ?_)
            · (try dsimp only)
              exact ⟨SC.out _ GBA.out, CBA.out⟩
            clear hK K
            try simp only [Act.put, List.getElem_toArray, List.getElem_cons_zero, List.getElem_cons_succ, List.setIfInBounds_toArray, List.set_cons_zero, List.set_cons_succ]
            refine wpAnyH_ready (rs := [11]) (by kernel_rfl) (by simp) ?_
            refine AllReadyH.cons rfl (fun K hK => ?_) ?_
            · go_simp
              go_at_call 10
              refine (K2.out _).mono ?_
              rintro e _ ⟨rfl, rfl⟩
              refine hK.out _ _ ?_ (fun hHeld => ?_)
              · (try dsimp only)
                exact ⟨SC.out _ GBA.out, CBA.out⟩
              clear hK K
              try simp only [Act.put, List.getElem_toArray, List.getElem_cons_zero, List.getElem_cons_succ, List.setIfInBounds_toArray, List.set_cons_zero, List.set_cons_succ]
              refine wpAnyH_take (i := 12) (v := ?_) rfl (by kernel_rfl) (by kernel_rfl) (by kernel_rfl) (fun _ _ _ h => h) (Or.inl ⟨by rfl, ?_⟩) (by assumption) ?_
              rotate_left
              · (intro w hSw; (try dsimp only at hSw); go_simp; try with_reducible rfl)
              try simp only [Act.put, List.getElem_toArray, List.getElem_cons_zero, List.getElem_cons_succ, List.setIfInBounds_toArray, List.set_cons_zero, List.set_cons_succ]
              refine wpAnyH_take (i := 13) (v := ?_) rfl (by kernel_rfl) (by kernel_rfl) (by kernel_rfl) (fun _ _ _ h => h) (Or.inl ⟨by rfl, ?_⟩) (by assumption) ?_
              rotate_left
              · (intro w hSw; (try dsimp only at hSw); go_simp; try with_reducible rfl)
              try simp only [Act.put, List.getElem_toArray, List.getElem_cons_zero, List.getElem_cons_succ, List.setIfInBounds_toArray, List.set_cons_zero, List.set_cons_succ]
              refine wpAnyH_ready (rs := [15]) (by kernel_rfl) (by simp) ?_
              refine AllReadyH.cons rfl (fun K hK => ?_) ?_
              · go_simp
                refine hK.out _ _ ?_ (fun hHeld => ?_)
                · (try dsimp only)
                  exact ⟨SC.out _ GFBA.out, CFBA.out⟩
                clear hK K
                try simp only [Act.put, List.getElem_toArray, List.getElem_cons_zero, List.getElem_cons_succ, List.setIfInBounds_toArray, List.set_cons_zero, List.set_cons_succ]
                refine wpAnyH_done (by kernel_rfl) ?_ _
                go_wp2_with fail
                go_meet
                exact ⟨_, _, rfl, hnl, HFBA⟩
              exact AllReadyH.nil
            exact AllReadyH.nil
          exact AllReadyH.nil
        refine AllReadyH.cons rfl (fun K hK => ?_) ?_
        · go_simp
          go_at_call 10
          refine (K1.out _).mono ?_
          rintro e _ ⟨rfl, rfl⟩
          refine hK.out _ _ ?_ (fun hHeld => ?_)
          · (try dsimp only)
            exact SC.out _ GB.out
          clear hK K
          try simp only [Act.put, List.getElem_toArray, List.getElem_cons_zero, List.getElem_cons_succ, List.setIfInBounds_toArray, List.set_cons_zero, List.set_cons_succ]
          refine wpAnyH_ready (rs := [0, 11]) (by kernel_rfl) (by simp) ?_
          refine AllReadyH.cons rfl (fun K hK => ?_) ?_
          · go_simp
            refine hK.out _ _ ?_ (fun hHeld => ?_)
            · (try dsimp only)
              exact SC.out _ GBA.out
            clear hK K
            try simp only [Act.put, List.getElem_toArray, List.getElem_cons_zero, List.getElem_cons_succ, List.setIfInBounds_toArray, List.set_cons_zero, List.set_cons_succ]
            refine wpAnyH_mono (S' := (fun W => (W.cell? ⟨w.heap.size, 0, none⟩ = some (.int .i64 n0) ∧ W.cell? ⟨w.heap.size, 1, none⟩ = some (.int .i64 n1) ∧ W.cell? ⟨w.heap.size, 2, none⟩ = some (.int .i64 n2)) ∧ W.cell? ⟨(w2.heap.size + 1), q0, none⟩ = some (S nm))) (fun _ h => h.1) _ _ _ _ ?_
            have hH4 : (fun W => (W.cell? ⟨w.heap.size, 0, none⟩ = some (.int .i64 n0) ∧ W.cell? ⟨w.heap.size, 1, none⟩ = some (.int .i64 n1) ∧ W.cell? ⟨w.heap.size, 2, none⟩ = some (.int .i64 n2)) ∧ W.cell? ⟨(w2.heap.size + 1), q0, none⟩ = some (S nm)) ((w2.drew.alloc (.cells #[S [], .int .i64 0, .int .i64 0] 36)).alloc (.cells #[.string ⟨#[43]⟩, .string ⟨#[42]⟩, .string ⟨#[110, 101, 119]⟩, .string ⟨#[116, 121, 112, 101]⟩, .string ⟨#[]⟩] 9)) := ⟨SC.out _ GBA.out, CBA.out⟩
            refine wpAnyH_take (i := 4) (v := ?_) rfl (by kernel_rfl) (by kernel_rfl) (by kernel_rfl) (fun _ _ _ h => h) (Or.inl ⟨by rfl, ?_⟩) (by assumption) ?_
            rotate_left
            · (intro w hSw; (try dsimp only at hSw); go_simp; try with_reducible rfl)
            try simp only [Act.put, List.getElem_toArray, List.getElem_cons_zero, List.getElem_cons_succ, List.setIfInBounds_toArray, List.set_cons_zero, List.set_cons_succ]
            refine wpAnyH_take (i := 5) (v := ?_) rfl (by kernel_rfl) (by kernel_rfl) (by kernel_rfl) (fun _ _ _ h => h) (Or.inl ⟨by rfl, ?_⟩) (by assumption) ?_
            rotate_left
            · (intro w hSw; (try dsimp only at hSw); go_simp; try with_reducible rfl)
            try simp only [Act.put, List.getElem_toArray, List.getElem_cons_zero, List.getElem_cons_succ, List.setIfInBounds_toArray, List.set_cons_zero, List.set_cons_succ]
            refine wpAnyH_ready (rs := [11]) (by kernel_rfl) (by simp) ?_
            refine AllReadyH.cons rfl (fun K hK => ?_) ?_
            · go_simp
              go_at_call 10
              refine (K2.out _).mono ?_
              rintro e _ ⟨rfl, rfl⟩
              refine hK.out _ _ ?_ (fun hHeld => ?_)
              · (try dsimp only)
                exact ⟨SC.out _ GBA.out, CBA.out⟩
              clear hK K
              try simp only [Act.put, List.getElem_toArray, List.getElem_cons_zero, List.getElem_cons_succ, List.setIfInBounds_toArray, List.set_cons_zero, List.set_cons_succ]
              refine wpAnyH_take (i := 12) (v := ?_) rfl (by kernel_rfl) (by kernel_rfl) (by kernel_rfl) (fun _ _ _ h => h) (Or.inl ⟨by rfl, ?_⟩) (by assumption) ?_
              rotate_left
              · (intro w hSw; (try dsimp only at hSw); go_simp; try with_reducible rfl)
              try simp only [Act.put, List.getElem_toArray, List.getElem_cons_zero, List.getElem_cons_succ, List.setIfInBounds_toArray, List.set_cons_zero, List.set_cons_succ]
              refine wpAnyH_take (i := 13) (v := ?_) rfl (by kernel_rfl) (by kernel_rfl) (by kernel_rfl) (fun _ _ _ h => h) (Or.inl ⟨by rfl, ?_⟩) (by assumption) ?_
              rotate_left
              · (intro w hSw; (try dsimp only at hSw); go_simp; try with_reducible rfl)
              try simp only [Act.put, List.getElem_toArray, List.getElem_cons_zero, List.getElem_cons_succ, List.setIfInBounds_toArray, List.set_cons_zero, List.set_cons_succ]
              refine wpAnyH_ready (rs := [15]) (by kernel_rfl) (by simp) ?_
              refine AllReadyH.cons rfl (fun K hK => ?_) ?_
              · go_simp
                refine hK.out _ _ ?_ (fun hHeld => ?_)
                · (try dsimp only)
                  exact ⟨SC.out _ GFBA.out, CFBA.out⟩
                clear hK K
                try simp only [Act.put, List.getElem_toArray, List.getElem_cons_zero, List.getElem_cons_succ, List.setIfInBounds_toArray, List.set_cons_zero, List.set_cons_succ]
                refine wpAnyH_done (by kernel_rfl) ?_ _
                go_wp2_with fail
                go_meet
                exact ⟨_, _, rfl, hnl, HFBA⟩
              exact AllReadyH.nil
            exact AllReadyH.nil
          refine AllReadyH.cons rfl (fun K hK => ?_) ?_
          · go_simp
            go_at_call 10
            refine (K2.out _).mono ?_
            rintro e _ ⟨rfl, rfl⟩
            refine hK.out _ _ ?_ (fun hHeld => ?_)
            · (try dsimp only)
              exact SC.out _ GB.out
            clear hK K
            try simp only [Act.put, List.getElem_toArray, List.getElem_cons_zero, List.getElem_cons_succ, List.setIfInBounds_toArray, List.set_cons_zero, List.set_cons_succ]
            refine wpAnyH_take (i := 12) (v := ?_) rfl (by kernel_rfl) (by kernel_rfl) (by kernel_rfl) (fun _ _ _ h => h) (Or.inl ⟨by rfl, ?_⟩) (by assumption) ?_
            rotate_left
            · (intro w hSw; (try dsimp only at hSw); go_simp; try with_reducible rfl)
            try simp only [Act.put, List.getElem_toArray, List.getElem_cons_zero, List.getElem_cons_succ, List.setIfInBounds_toArray, List.set_cons_zero, List.set_cons_succ]
            refine wpAnyH_ready (rs := [0]) (by kernel_rfl) (by simp) ?_
            refine AllReadyH.cons rfl (fun K hK => ?_) ?_
            · go_simp
              refine hK.out _ _ ?_ (fun hHeld => ?_)
              · (try dsimp only)
                exact SC.out _ GBA.out
              clear hK K
              try simp only [Act.put, List.getElem_toArray, List.getElem_cons_zero, List.getElem_cons_succ, List.setIfInBounds_toArray, List.set_cons_zero, List.set_cons_succ]
              refine wpAnyH_mono (S' := (fun W => (W.cell? ⟨w.heap.size, 0, none⟩ = some (.int .i64 n0) ∧ W.cell? ⟨w.heap.size, 1, none⟩ = some (.int .i64 n1) ∧ W.cell? ⟨w.heap.size, 2, none⟩ = some (.int .i64 n2)) ∧ W.cell? ⟨(w2.heap.size + 1), q0, none⟩ = some (S nm))) (fun _ h => h.1) _ _ _ _ ?_
              have hH5 : (fun W => (W.cell? ⟨w.heap.size, 0, none⟩ = some (.int .i64 n0) ∧ W.cell? ⟨w.heap.size, 1, none⟩ = some (.int .i64 n1) ∧ W.cell? ⟨w.heap.size, 2, none⟩ = some (.int .i64 n2)) ∧ W.cell? ⟨(w2.heap.size + 1), q0, none⟩ = some (S nm)) ((w2.drew.alloc (.cells #[S [], .int .i64 0, .int .i64 0] 36)).alloc (.cells #[.string ⟨#[43]⟩, .string ⟨#[42]⟩, .string ⟨#[110, 101, 119]⟩, .string ⟨#[116, 121, 112, 101]⟩, .string ⟨#[]⟩] 9)) := ⟨SC.out _ GBA.out, CBA.out⟩
              refine wpAnyH_take (i := 4) (v := ?_) rfl (by kernel_rfl) (by kernel_rfl) (by kernel_rfl) (fun _ _ _ h => h) (Or.inl ⟨by rfl, ?_⟩) (by assumption) ?_
              rotate_left
              · (intro w hSw; (try dsimp only at hSw); go_simp; try with_reducible rfl)
              try simp only [Act.put, List.getElem_toArray, List.getElem_cons_zero, List.getElem_cons_succ, List.setIfInBounds_toArray, List.set_cons_zero, List.set_cons_succ]
              refine wpAnyH_take (i := 5) (v := ?_) rfl (by kernel_rfl) (by kernel_rfl) (by kernel_rfl) (fun _ _ _ h => h) (Or.inl ⟨by rfl, ?_⟩) (by assumption) ?_
              rotate_left
              · (intro w hSw; (try dsimp only at hSw); go_simp; try with_reducible rfl)
              try simp only [Act.put, List.getElem_toArray, List.getElem_cons_zero, List.getElem_cons_succ, List.setIfInBounds_toArray, List.set_cons_zero, List.set_cons_succ]
              refine wpAnyH_take (i := 13) (v := ?_) rfl (by kernel_rfl) (by kernel_rfl) (by kernel_rfl) (fun _ _ _ h => h) (Or.inl ⟨by rfl, ?_⟩) (by assumption) ?_
              rotate_left
              · (intro w hSw; (try dsimp only at hSw); go_simp; try with_reducible rfl)
              try simp only [Act.put, List.getElem_toArray, List.getElem_cons_zero, List.getElem_cons_succ, List.setIfInBounds_toArray, List.set_cons_zero, List.set_cons_succ]
              refine wpAnyH_ready (rs := [15]) (by kernel_rfl) (by simp) ?_
              refine AllReadyH.cons rfl (fun K hK => ?_) ?_
              · go_simp
                refine hK.out _ _ ?_ (fun hHeld => ?_)
                · (try dsimp only)
                  exact ⟨SC.out _ GFBA.out, CFBA.out⟩
                clear hK K
                try simp only [Act.put, List.getElem_toArray, List.getElem_cons_zero, List.getElem_cons_succ, List.setIfInBounds_toArray, List.set_cons_zero, List.set_cons_succ]
                refine wpAnyH_done (by kernel_rfl) ?_ _
                go_wp2_with fail
                go_meet
                exact ⟨_, _, rfl, hnl, HFBA⟩
              exact AllReadyH.nil
            exact AllReadyH.nil
          exact AllReadyH.nil
        exact AllReadyH.nil
      exact AllReadyH.nil
    refine AllReadyH.cons rfl (fun K hK => ?_) ?_
    · go_simp
      refine hK.out _ _ ?_ (fun hHeld => ?_)
      · (try dsimp only)
        exact SC.out _ GB.out
      clear hK K
      try simp only [Act.put, List.getElem_toArray, List.getElem_cons_zero, List.getElem_cons_succ, List.setIfInBounds_toArray, List.set_cons_zero, List.set_cons_succ]
      refine wpAnyH_ready (rs := [0, 3]) (by kernel_rfl) (by simp) ?_
      refine AllReadyH.cons rfl (fun K hK => ?_) ?_
      · go_simp
        refine hK.out _ _ ?_ (fun hHeld => ?_)
        · (try dsimp only)
          exact SC.out _ GBA.out
        clear hK K
        try simp only [Act.put, List.getElem_toArray, List.getElem_cons_zero, List.getElem_cons_succ, List.setIfInBounds_toArray, List.set_cons_zero, List.set_cons_succ]
        refine wpAnyH_mono (S' := (fun W => (W.cell? ⟨w.heap.size, 0, none⟩ = some (.int .i64 n0) ∧ W.cell? ⟨w.heap.size, 1, none⟩ = some (.int .i64 n1) ∧ W.cell? ⟨w.heap.size, 2, none⟩ = some (.int .i64 n2)) ∧ W.cell? ⟨(w2.heap.size + 1), q0, none⟩ = some (S nm))) (fun _ h => h.1) _ _ _ _ ?_
        have hH2 : (fun W => (W.cell? ⟨w.heap.size, 0, none⟩ = some (.int .i64 n0) ∧ W.cell? ⟨w.heap.size, 1, none⟩ = some (.int .i64 n1) ∧ W.cell? ⟨w.heap.size, 2, none⟩ = some (.int .i64 n2)) ∧ W.cell? ⟨(w2.heap.size + 1), q0, none⟩ = some (S nm)) ((w2.drew.alloc (.cells #[S [], .int .i64 0, .int .i64 0] 36)).alloc (.cells #[.string ⟨#[43]⟩, .string ⟨#[42]⟩, .string ⟨#[110, 101, 119]⟩, .string ⟨#[116, 121, 112, 101]⟩, .string ⟨#[]⟩] 9)) := ⟨SC.out _ GBA.out, CBA.out⟩
        refine wpAnyH_ready (rs := [3]) (by kernel_rfl) (by simp) ?_
        refine AllReadyH.cons rfl (fun K hK => ?_) ?_
        · go_simp
          go_at_call 10
          refine (K0.out _).mono ?_
          rintro e _ ⟨rfl, rfl⟩
          refine hK.out _ _ ?_ (fun hHeld => ?_)
          · (try dsimp only)
            exact ⟨SC.out _ GBA.out, CBA.out⟩
          clear hK K
          try simp only [Act.put, List.getElem_toArray, List.getElem_cons_zero, List.getElem_cons_succ, List.setIfInBounds_toArray, List.set_cons_zero, List.set_cons_succ]
          refine wpAnyH_take (i := 4) (v := ?_) rfl (by kernel_rfl) (by kernel_rfl) (by kernel_rfl) (fun _ _ _ h => h) (Or.inl ⟨by rfl, ?_⟩) (by assumption) ?_
          rotate_left
          · (intro w hSw; (try dsimp only at hSw); go_simp; try with_reducible rfl)
          try simp only [Act.put, List.getElem_toArray, List.getElem_cons_zero, List.getElem_cons_succ, List.setIfInBounds_toArray, List.set_cons_zero, List.set_cons_succ]
          refine wpAnyH_take (i := 5) (v := ?_) rfl (by kernel_rfl) (by kernel_rfl) (by kernel_rfl) (fun _ _ _ h => h) (Or.inl ⟨by rfl, ?_⟩) (by assumption) ?_
          rotate_left
          · (intro w hSw; (try dsimp only at hSw); go_simp; try with_reducible rfl)
          try simp only [Act.put, List.getElem_toArray, List.getElem_cons_zero, List.getElem_cons_succ, List.setIfInBounds_toArray, List.set_cons_zero, List.set_cons_succ]
          refine wpAnyH_ready (rs := [8]) (by kernel_rfl) (by simp) ?_
          refine AllReadyH.cons rfl (fun K hK => ?_) ?_
          · go_simp
            go_at_call 10
            refine (K1.out _).mono ?_
            rintro e _ ⟨rfl, rfl⟩
            refine hK.out _ _ ?_ (fun hHeld => ?_)
            · (try dsimp only)
              exact ⟨SC.out _ GBA.out, CBA.out⟩
            clear hK K
            try simp only [Act.put, List.getElem_toArray, List.getElem_cons_zero, List.getElem_cons_succ, List.setIfInBounds_toArray, List.set_cons_zero, List.set_cons_succ]
            refine wpAnyH_ready (rs := [11]) (by kernel_rfl) (by simp) ?_
            refine AllReadyH.cons rfl (fun K hK => ?_) ?_
            · go_simp
              go_at_call 10
              refine (K2.out _).mono ?_
              rintro e _ ⟨rfl, rfl⟩
              refine hK.out _ _ ?_ (fun hHeld => ?_)
              · (try dsimp only)
                exact ⟨SC.out _ GBA.out, CBA.out⟩
              clear hK K
              try simp only [Act.put, List.getElem_toArray, List.getElem_cons_zero, List.getElem_cons_succ, List.setIfInBounds_toArray, List.set_cons_zero, List.set_cons_succ]
              refine wpAnyH_take (i := 12) (v := ?_) rfl (by kernel_rfl) (by kernel_rfl) (by kernel_rfl) (fun _ _ _ h => h) (Or.inl ⟨by rfl, ?_⟩) (by assumption) ?_
              rotate_left
              · (intro w hSw; (try dsimp only at hSw); go_simp; try with_reducible rfl)
              try simp only [Act.put, List.getElem_toArray, List.getElem_cons_zero, List.getElem_cons_succ, List.setIfInBounds_toArray, List.set_cons_zero, List.set_cons_succ]
              refine wpAnyH_take (i := 13) (v := ?_) rfl (by kernel_rfl) (by kernel_rfl) (by kernel_rfl) (fun _ _ _ h => h) (Or.inl ⟨by rfl, ?_⟩) (by assumption) ?_
              rotate_left
              · (intro w hSw; (try dsimp only at hSw); go_simp; try with_reducible rfl)
              try simp only [Act.put, List.getElem_toArray, List.getElem_cons_zero, List.getElem_cons_succ, List.setIfInBounds_toArray, List.set_cons_zero, List.set_cons_succ]
              refine wpAnyH_ready (rs := [15]) (by kernel_rfl) (by simp) ?_
              refine AllReadyH.cons rfl (fun K hK => ?_) ?_
              · go_simp
                refine hK.out _ _ ?_ (fun hHeld => ?_)
                · (try dsimp only)
                  exact ⟨SC.out _ GFBA.out, CFBA.out⟩
                clear hK K
                try simp only [Act.put, List.getElem_toArray, List.getElem_cons_zero, List.getElem_cons_succ, List.setIfInBounds_toArray, List.set_cons_zero, List.set_cons_succ]
                refine wpAnyH_done (by kernel_rfl) ?_ _
                go_wp2_with fail
                go_meet
                exact ⟨_, _, rfl, hnl, HFBA⟩
              exact AllReadyH.nil
            exact AllReadyH.nil
          exact AllReadyH.nil
        exact AllReadyH.nil
      refine AllReadyH.cons rfl (fun K hK => ?_) ?_
      · go_simp
        go_at_call 10
        refine (K0.out _).mono ?_
        rintro e _ ⟨rfl, rfl⟩
        refine hK.out _ _ ?_ (fun hHeld => ?_)
        · (try dsimp only)
          exact SC.out _ GB.out
        clear hK K
        try simp only [Act.put, List.getElem_toArray, List.getElem_cons_zero, List.getElem_cons_succ, List.setIfInBounds_toArray, List.set_cons_zero, List.set_cons_succ]
        refine wpAnyH_ready (rs := [0, 8]) (by kernel_rfl) (by simp) ?_
        refine AllReadyH.cons rfl (fun K hK => ?_) ?_
        · go_simp
          refine hK.out _ _ ?_ (fun hHeld => ?_)
          · (try dsimp only)
            exact SC.out _ GBA.out
          clear hK K
          try simp only [Act.put, List.getElem_toArray, List.getElem_cons_zero, List.getElem_cons_succ, List.setIfInBounds_toArray, List.set_cons_zero, List.set_cons_succ]
          refine wpAnyH_mono (S' := (fun W => (W.cell? ⟨w.heap.size, 0, none⟩ = some (.int .i64 n0) ∧ W.cell? ⟨w.heap.size, 1, none⟩ = some (.int .i64 n1) ∧ W.cell? ⟨w.heap.size, 2, none⟩ = some (.int .i64 n2)) ∧ W.cell? ⟨(w2.heap.size + 1), q0, none⟩ = some (S nm))) (fun _ h => h.1) _ _ _ _ ?_
          have hH3 : (fun W => (W.cell? ⟨w.heap.size, 0, none⟩ = some (.int .i64 n0) ∧ W.cell? ⟨w.heap.size, 1, none⟩ = some (.int .i64 n1) ∧ W.cell? ⟨w.heap.size, 2, none⟩ = some (.int .i64 n2)) ∧ W.cell? ⟨(w2.heap.size + 1), q0, none⟩ = some (S nm)) ((w2.drew.alloc (.cells #[S [], .int .i64 0, .int .i64 0] 36)).alloc (.cells #[.string ⟨#[43]⟩, .string ⟨#[42]⟩, .string ⟨#[110, 101, 119]⟩, .string ⟨#[116, 121, 112, 101]⟩, .string ⟨#[]⟩] 9)) := ⟨SC.out _ GBA.out, CBA.out⟩
          refine wpAnyH_take (i := 4) (v := ?_) rfl (by kernel_rfl) (by kernel_rfl) (by kernel_rfl) (fun _ _ _ h => h) (Or.inl ⟨by rfl, ?_⟩) (by assumption) ?_
          rotate_left
          · (intro w hSw; (try dsimp only at hSw); go_simp; try with_reducible rfl)
          try simp only [Act.put, List.getElem_toArray, List.getElem_cons_zero, List.getElem_cons_succ, List.setIfInBounds_toArray, List.set_cons_zero, List.set_cons_succ]
          refine wpAnyH_take (i := 5) (v := ?_) rfl (by kernel_rfl) (by kernel_rfl) (by kernel_rfl) (fun _ _ _ h => h) (Or.inl ⟨by rfl, ?_⟩) (by assumption) ?_
          rotate_left
          · (intro w hSw; (try dsimp only at hSw); go_simp; try with_reducible rfl)
          try simp only [Act.put, List.getElem_toArray, List.getElem_cons_zero, List.getElem_cons_succ, List.setIfInBounds_toArray, List.set_cons_zero, List.set_cons_succ]
          refine wpAnyH_ready (rs := [8]) (by kernel_rfl) (by simp) ?_
          refine AllReadyH.cons rfl (fun K hK => ?_) ?_
          · go_simp
            go_at_call 10
            refine (K1.out _).mono ?_
            rintro e _ ⟨rfl, rfl⟩
            refine hK.out _ _ ?_ (fun hHeld => ?_)
            · (try dsimp only)
              exact ⟨SC.out _ GBA.out, CBA.out⟩
            clear hK K
            try simp only [Act.put, List.getElem_toArray, List.getElem_cons_zero, List.getElem_cons_succ, List.setIfInBounds_toArray, List.set_cons_zero, List.set_cons_succ]
            refine wpAnyH_ready (rs := [11]) (by kernel_rfl) (by simp) ?_
            refine AllReadyH.cons rfl (fun K hK => ?_) ?_
            · go_simp
              go_at_call 10
              refine (K2.out _).mono ?_
              rintro e _ ⟨rfl, rfl⟩
              refine hK.out _ _ ?_ (fun hHeld => ?_)
              · (try dsimp only)
                exact ⟨SC.out _ GBA.out, CBA.out⟩
              clear hK K
              try simp only [Act.put, List.getElem_toArray, List.getElem_cons_zero, List.getElem_cons_succ, List.setIfInBounds_toArray, List.set_cons_zero, List.set_cons_succ]
              refine wpAnyH_take (i := 12) (v := ?_) rfl (by kernel_rfl) (by kernel_rfl) (by kernel_rfl) (fun _ _ _ h => h) (Or.inl ⟨by rfl, ?_⟩) (by assumption) ?_
              rotate_left
              · (intro w hSw; (try dsimp only at hSw); go_simp; try with_reducible rfl)
              try simp only [Act.put, List.getElem_toArray, List.getElem_cons_zero, List.getElem_cons_succ, List.setIfInBounds_toArray, List.set_cons_zero, List.set_cons_succ]
              refine wpAnyH_take (i := 13) (v := ?_) rfl (by kernel_rfl) (by kernel_rfl) (by kernel_rfl) (fun _ _ _ h => h) (Or.inl ⟨by rfl, ?_⟩) (by assumption) ?_
              rotate_left
              · (intro w hSw; (try dsimp only at hSw); go_simp; try with_reducible rfl)
              try simp only [Act.put, List.getElem_toArray, List.getElem_cons_zero, List.getElem_cons_succ, List.setIfInBounds_toArray, List.set_cons_zero, List.set_cons_succ]
              refine wpAnyH_ready (rs := [15]) (by kernel_rfl) (by simp) ?_
              refine AllReadyH.cons rfl (fun K hK => ?_) ?_
              · go_simp
                refine hK.out _ _ ?_ (fun hHeld => ?_)
                · (try dsimp only)
                  exact ⟨SC.out _ GFBA.out, CFBA.out⟩
                clear hK K
                try simp only [Act.put, List.getElem_toArray, List.getElem_cons_zero, List.getElem_cons_succ, List.setIfInBounds_toArray, List.set_cons_zero, List.set_cons_succ]
                refine wpAnyH_done (by kernel_rfl) ?_ _
                go_wp2_with fail
                go_meet
                exact ⟨_, _, rfl, hnl, HFBA⟩
              exact AllReadyH.nil
            exact AllReadyH.nil
          exact AllReadyH.nil
        refine AllReadyH.cons rfl (fun K hK => ?_) ?_
        · go_simp
          go_at_call 10
          refine (K1.out _).mono ?_
          rintro e _ ⟨rfl, rfl⟩
          refine hK.out _ _ ?_ (fun hHeld => ?_)
          · (try dsimp only)
            exact SC.out _ GB.out
          clear hK K
          try simp only [Act.put, List.getElem_toArray, List.getElem_cons_zero, List.getElem_cons_succ, List.setIfInBounds_toArray, List.set_cons_zero, List.set_cons_succ]
          refine wpAnyH_ready (rs := [0, 11]) (by kernel_rfl) (by simp) ?_
          refine AllReadyH.cons rfl (fun K hK => ?_) ?_
          · go_simp
            refine hK.out _ _ ?_ (fun hHeld => ?_)
            · (try dsimp only)
              exact SC.out _ GBA.out
            clear hK K
            try simp only [Act.put, List.getElem_toArray, List.getElem_cons_zero, List.getElem_cons_succ, List.setIfInBounds_toArray, List.set_cons_zero, List.set_cons_succ]
            refine wpAnyH_mono (S' := (fun W => (W.cell? ⟨w.heap.size, 0, none⟩ = some (.int .i64 n0) ∧ W.cell? ⟨w.heap.size, 1, none⟩ = some (.int .i64 n1) ∧ W.cell? ⟨w.heap.size, 2, none⟩ = some (.int .i64 n2)) ∧ W.cell? ⟨(w2.heap.size + 1), q0, none⟩ = some (S nm))) (fun _ h => h.1) _ _ _ _ ?_
            have hH4 : (fun W => (W.cell? ⟨w.heap.size, 0, none⟩ = some (.int .i64 n0) ∧ W.cell? ⟨w.heap.size, 1, none⟩ = some (.int .i64 n1) ∧ W.cell? ⟨w.heap.size, 2, none⟩ = some (.int .i64 n2)) ∧ W.cell? ⟨(w2.heap.size + 1), q0, none⟩ = some (S nm)) ((w2.drew.alloc (.cells #[S [], .int .i64 0, .int .i64 0] 36)).alloc (.cells #[.string ⟨#[43]⟩, .string ⟨#[42]⟩, .string ⟨#[110, 101, 119]⟩, .string ⟨#[116, 121, 112, 101]⟩, .string ⟨#[]⟩] 9)) := ⟨SC.out _ GBA.out, CBA.out⟩
            refine wpAnyH_take (i := 4) (v := ?_) rfl (by kernel_rfl) (by kernel_rfl) (by kernel_rfl) (fun _ _ _ h => h) (Or.inl ⟨by rfl, ?_⟩) (by assumption) ?_
            rotate_left
            · (intro w hSw; (try dsimp only at hSw); go_simp; try with_reducible rfl)
            try simp only [Act.put, List.getElem_toArray, List.getElem_cons_zero, List.getElem_cons_succ, List.setIfInBounds_toArray, List.set_cons_zero, List.set_cons_succ]
            refine wpAnyH_take (i := 5) (v := ?_) rfl (by kernel_rfl) (by kernel_rfl) (by kernel_rfl) (fun _ _ _ h => h) (Or.inl ⟨by rfl, ?_⟩) (by assumption) ?_
            rotate_left
            · (intro w hSw; (try dsimp only at hSw); go_simp; try with_reducible rfl)
            try simp only [Act.put, List.getElem_toArray, List.getElem_cons_zero, List.getElem_cons_succ, List.setIfInBounds_toArray, List.set_cons_zero, List.set_cons_succ]
            refine wpAnyH_ready (rs := [11]) (by kernel_rfl) (by simp) ?_
            refine AllReadyH.cons rfl (fun K hK => ?_) ?_
            · go_simp
              go_at_call 10
              refine (K2.out _).mono ?_
              rintro e _ ⟨rfl, rfl⟩
              refine hK.out _ _ ?_ (fun hHeld => ?_)
              · (try dsimp only)
                exact ⟨SC.out _ GBA.out, CBA.out⟩
              clear hK K
              try simp only [Act.put, List.getElem_toArray, List.getElem_cons_zero, List.getElem_cons_succ, List.setIfInBounds_toArray, List.set_cons_zero, List.set_cons_succ]
              refine wpAnyH_take (i := 12) (v := ?_) rfl (by kernel_rfl) (by kernel_rfl) (by kernel_rfl) (fun _ _ _ h => h) (Or.inl ⟨by rfl, ?_⟩) (by assumption) ?_
              rotate_left
              · (intro w hSw; (try dsimp only at hSw); go_simp; try with_reducible rfl)
              try simp only [Act.put, List.getElem_toArray, List.getElem_cons_zero, List.getElem_cons_succ, List.setIfInBounds_toArray, List.set_cons_zero, List.set_cons_succ]
              refine wpAnyH_take (i := 13) (v := ?_) rfl (by kernel_rfl) (by kernel_rfl) (by kernel_rfl) (fun _ _ _ h => h) (Or.inl ⟨by rfl, ?_⟩) (by assumption) ?_
              rotate_left
              · (intro w hSw; (try dsimp only at hSw); go_simp; try with_reducible rfl)
              try simp only [Act.put, List.getElem_toArray, List.getElem_cons_zero, List.getElem_cons_succ, List.setIfInBounds_toArray, List.set_cons_zero, List.set_cons_succ]
              refine wpAnyH_ready (rs := [15]) (by kernel_rfl) (by simp) ?_
              refine AllReadyH.cons rfl (fun K hK => ?_) ?_
              · go_simp
                refine hK.out _ _ ?_ (fun hHeld => ?_)
                · (try dsimp only)
                  exact ⟨SC.out _ GFBA.out, CFBA.out⟩
                clear hK K
                try simp only [Act.put, List.getElem_toArray, List.getElem_cons_zero, List.getElem_cons_succ, List.setIfInBounds_toArray, List.set_cons_zero, List.set_cons_succ]
                refine wpAnyH_done (by kernel_rfl) ?_ _
                go_wp2_with fail
                go_meet
                exact ⟨_, _, rfl, hnl, HFBA⟩
              exact AllReadyH.nil
            exact AllReadyH.nil
          refine AllReadyH.cons rfl (fun K hK => ?_) ?_
          · go_simp
            go_at_call 10
            refine (K2.out _).mono ?_
            rintro e _ ⟨rfl, rfl⟩
            refine hK.out _ _ ?_ (fun hHeld => ?_)
            · (try dsimp only)
              exact SC.out _ GB.out
            clear hK K
            try simp only [Act.put, List.getElem_toArray, List.getElem_cons_zero, List.getElem_cons_succ, List.setIfInBounds_toArray, List.set_cons_zero, List.set_cons_succ]
            refine wpAnyH_take (i := 12) (v := ?_) rfl (by kernel_rfl) (by kernel_rfl) (by kernel_rfl) (fun _ _ _ h => h) (Or.inl ⟨by rfl, ?_⟩) (by assumption) ?_
            rotate_left
            · (intro w hSw; (try dsimp only at hSw); go_simp; try with_reducible rfl)
            try simp only [Act.put, List.getElem_toArray, List.getElem_cons_zero, List.getElem_cons_succ, List.setIfInBounds_toArray, List.set_cons_zero, List.set_cons_succ]
            refine wpAnyH_ready (rs := [0]) (by kernel_rfl) (by simp) ?_
            refine AllReadyH.cons rfl (fun K hK => ?_) ?_
            · go_simp
              refine hK.out _ _ ?_ (fun hHeld => ?_)
              · (try dsimp only)
                exact SC.out _ GBA.out
              clear hK K
              try simp only [Act.put, List.getElem_toArray, List.getElem_cons_zero, List.getElem_cons_succ, List.setIfInBounds_toArray, List.set_cons_zero, List.set_cons_succ]
              refine wpAnyH_mono (S' := (fun W => (W.cell? ⟨w.heap.size, 0, none⟩ = some (.int .i64 n0) ∧ W.cell? ⟨w.heap.size, 1, none⟩ = some (.int .i64 n1) ∧ W.cell? ⟨w.heap.size, 2, none⟩ = some (.int .i64 n2)) ∧ W.cell? ⟨(w2.heap.size + 1), q0, none⟩ = some (S nm))) (fun _ h => h.1) _ _ _ _ ?_
              have hH5 : (fun W => (W.cell? ⟨w.heap.size, 0, none⟩ = some (.int .i64 n0) ∧ W.cell? ⟨w.heap.size, 1, none⟩ = some (.int .i64 n1) ∧ W.cell? ⟨w.heap.size, 2, none⟩ = some (.int .i64 n2)) ∧ W.cell? ⟨(w2.heap.size + 1), q0, none⟩ = some (S nm)) ((w2.drew.alloc (.cells #[S [], .int .i64 0, .int .i64 0] 36)).alloc (.cells #[.string ⟨#[43]⟩, .string ⟨#[42]⟩, .string ⟨#[110, 101, 119]⟩, .string ⟨#[116, 121, 112, 101]⟩, .string ⟨#[]⟩] 9)) := ⟨SC.out _ GBA.out, CBA.out⟩
              refine wpAnyH_take (i := 4) (v := ?_) rfl (by kernel_rfl) (by kernel_rfl) (by kernel_rfl) (fun _ _ _ h => h) (Or.inl ⟨by rfl, ?_⟩) (by assumption) ?_
              rotate_left
              · (intro w hSw; (try dsimp only at hSw); go_simp; try with_reducible rfl)
              try simp only [Act.put, List.getElem_toArray, List.getElem_cons_zero, List.getElem_cons_succ, List.setIfInBounds_toArray, List.set_cons_zero, List.set_cons_succ]
              refine wpAnyH_take (i := 5) (v := ?_) rfl (by kernel_rfl) (by kernel_rfl) (by kernel_rfl) (fun _ _ _ h => h) (Or.inl ⟨by rfl, ?_⟩) (by assumption) ?_
              rotate_left
              · (intro w hSw; (try dsimp only at hSw); go_simp; try with_reducible rfl)
              try simp only [Act.put, List.getElem_toArray, List.getElem_cons_zero, List.getElem_cons_succ, List.setIfInBounds_toArray, List.set_cons_zero, List.set_cons_succ]
              refine wpAnyH_take (i := 13) (v := ?_) rfl (by kernel_rfl) (by kernel_rfl) (by kernel_rfl) (fun _ _ _ h => h) (Or.inl ⟨by rfl, ?_⟩) (by assumption) ?_
              rotate_left
              · (intro w hSw; (try dsimp only at hSw); go_simp; try with_reducible rfl)
              try simp only [Act.put, List.getElem_toArray, List.getElem_cons_zero, List.getElem_cons_succ, List.setIfInBounds_toArray, List.set_cons_zero, List.set_cons_succ]
              refine wpAnyH_ready (rs := [15]) (by kernel_rfl) (by simp) ?_
              refine AllReadyH.cons rfl (fun K hK => ?_) ?_
              · go_simp
                refine hK.out _ _ ?_ (fun hHeld => ?_)
                · (try dsimp only)
                  exact ⟨SC.out _ GFBA.out, CFBA.out⟩
                clear hK K
                try simp only [Act.put, List.getElem_toArray, List.getElem_cons_zero, List.getElem_cons_succ, List.setIfInBounds_toArray, List.set_cons_zero, List.set_cons_succ]
                refine wpAnyH_done (by kernel_rfl) ?_ _
                go_wp2_with fail
                go_meet
                exact ⟨_, _, rfl, hnl, HFBA⟩
              exact AllReadyH.nil
            exact AllReadyH.nil
          exact AllReadyH.nil
        exact AllReadyH.nil
      exact AllReadyH.nil
    exact AllReadyH.nil
  case rest =>
    obtain ⟨g, o, rfl, hol, HA⟩ := hcut
    have x3 := HA.out.x3
    have HMK2 := HMK.out
    go_wp2_with fail
    refine (K3.out _).mono ?_
    rintro e wq ⟨rfl, hwq⟩
    obtain rfl := hwq.symm
    clear hwq
    go_upto_if 33 with fail
    go_cut [5] (fun sv wx => ∃ (l' : List Lfc.Op) (A' : Option Addr) (c' : Nat), sv = .slice A' l'.length c' ∧ l'.length ≤ 512 ∧ Hid ((A' = none → c' = 0) ∧ AddI w n3 l' A' o g wx))
    case first =>
      by_cases hq : q3 = 0
      · have hd1 : ((q3 : Int) == 0) = true := by simp [hq]
        go_wp2_with fail
        go_meet
        exact ⟨List.replicate 512 ⟨[], 0, 0⟩, some ⟨wc.heap.size, 0, none⟩, 512, by simp, by simp, Lib.hid ⟨(fun h => by cases h), AddI.zero HA.out⟩⟩
      · have hd1 : ((q3 : Int) == 0) = false := by simp; omega
        go_wp2_with fail
        go_meet
        exact ⟨l, Al, cl, rfl, by omega, Lib.hid ⟨HCL.out, HA.out⟩⟩
    case rest =>
      obtain ⟨r0, A', c', rfl, hl5, HB⟩ := hcut
      obtain ⟨y0, y1, y2⟩ := cells3 HB.out.2.op
      have CA := Lib.hid (opAdd_any r0 o A' c' wc (by omega) (by omega) HB.out.2.ops)
      unfold opV at CA
      clear x3 HMK2 HMK K0 K1 K2 K3 SC
      go_wp2_with fail
      refine CA.out.mono ?_
      unfold AddPost
      rintro e w5 ⟨⟨A1, c1, rfl, ho1⟩, b5⟩
      have H5 := Lib.hid (HB.out.2.below b5)
      have CR := Lib.hid (rAdd_any r0 o A' c' w5 (by omega) (by omega) H5.out.ops HB.out.1)
      unfold opV at CR
      have O1 := Lib.hid ho1
      clear y0 y1 y2 ho1 b5 CA
      obtain ⟨y0, y1, y2⟩ := cells3 H5.out.op
      go_wp2_with fail
      refine CR.out.mono ?_
      unfold AddPost
      rintro e w6 ⟨⟨A2, c2, rfl, ho2⟩, b6⟩
      have P1 := Lib.hid (O1.out.below b6)
      have P2 := Lib.hid ho2
      have H6 := Lib.hid (H5.out.below b6).bel
      clear y0 y1 y2 ho2 b6 CR O1 H5 HB HA
      have hrl := Lfc.added_len r0 o
      generalize (Lfc.added r0 o).1 = r at *
      generalize (Lfc.added r0 o).2 = z at *
      go_wp2_with fail
      go_loopw [11] (fun i wr => ∃ j : Nat, j ≤ r.length ∧ i = .int .i64 j ∧ Hid (Below w6.heap.size w6 wr)) (fun i _ => r.length - (intOf i).toNat)
      case atStart => exact ⟨0, Nat.zero_le _, rfl, Lib.hid (Below.refl _ _)⟩
      case round =>
        obtain ⟨j, hj, rfl, HB⟩ := hrel
        by_cases hlt : j < r.length
        · obtain ⟨b, o, rfl, hb, hcs⟩ := P1.out.2 (by intro e; rw [e] at hlt; simp at hlt)
          obtain ⟨b', o', rfl, hb', hcs'⟩ := P2.out.2 (by intro e; rw [e] at hlt; simp at hlt)
          obtain ⟨e0, e1, e2⟩ := hcs j hlt
          obtain ⟨k0, k1, k2⟩ := hcs' j hlt
          have d0 := (HB.out.cell (p := ⟨b, _, none⟩) hb).trans e0
          have d1 := (HB.out.cell (p := ⟨b, _, none⟩) hb).trans e1
          have d2 := (HB.out.cell (p := ⟨b, _, none⟩) hb).trans e2
          have d3 := (HB.out.cell (p := ⟨b', _, none⟩) hb').trans k0
          have d4 := (HB.out.cell (p := ⟨b', _, none⟩) hb').trans k1
          have d5 := (HB.out.cell (p := ⟨b', _, none⟩) hb').trans k2
          have hi0 : (0 : Int) ≤ (j : Int) := Int.natCast_nonneg _
          have hi1 : (j : Int) < (r.length : Int) := by omega
          have HBD := Lib.hid (HB.out.drew)
          clear e0 e1 e2 k0 k1 k2 hcs hcs' HB
          generalize r[j] = y at *
          obtain ⟨yn, yf, yp⟩ := y
          go_wp2_with fail
          go_region
          all_goals
            go_wp2_with fail
            go_roundw
            case rel => exact ⟨j + 1, by omega, by go_num, HBD⟩
            case measure => simp [intOf]; omega
        · obtain rfl : j = r.length := by omega
          go_wp2_with fail
          refine (awake3_any _).mono ?_
          rintro e w9 ⟨rfl, b9⟩
          go_wp2_with fail
          go_ret
          exact ⟨rfl, H6.out.trans ((HB.out.trans (b9.mono HB.out.size)).mono H6.out.size)⟩
end Go.Proofs.YtkhfnkokdmoipaaDoor

/- The law OperatorAdds is true of every input: its row, and the card that ties the listed variable. -/
namespace Go.Proofs.YtkhfnkokdmoipaaDoor.operatorAdds
open Go.ChangeShapes Go.WideShapes Go.ChangeAt Go.RowKit

theorem readable : ∀ t ∈ Tryd.f5.params.toList, Tryd.prog.readableRec t = true ∧ t < Tryd.prog.types.size := by
  have h : (Tryd.f5.params.toList.all fun t => Tryd.prog.readableRec t && decide (t < Tryd.prog.types.size)) = true := by kernel_rfl
  intro t ht
  have := List.all_eq_true.1 h t ht
  simp only [Bool.and_eq_true, decide_eq_true_eq] at this
  exact this

theorem contract (H : Type) (enc : TypeId × Value → H) (W : World) (base : Nat) (args : Array Value) (ds gs : List (DataW H)) (before : List MemPlace)
    (hval : ∀ (j : Nat) t v, Tryd.f5.params[j]? = some t → args[j]? = some v → Value.okWide Tryd.prog W .any base t v)
    (hW : DataW.Whole enc Tryd.prog Tryd.f5.params.toList Rows.operatorAddsSpec.vars false W args.toList ds gs before) (hL : laidMetH Tryd.prog Rows.operatorAddsRow.laid W) :
    Calls Tryd.prog 5 args W fun e W' => ∃ v, e = .returned v ∧ Rows.operatorAddsSpec.post enc Tryd.prog Tryd.f5 false true false false W args v W' := by
  have hW' := hW
  obtain ⟨p, q, hA0, hV, rfl, hfz, hnd⟩ := hW
  have hA : DataW.TrodAll enc Tryd.prog W 0 (fun _ => true) true Tryd.f5.params.toList args.toList ds p := hA0
  rw [Tryd.params5] at hA hval
  obtain ⟨v0, v1, d0, d1, p0, p1, rfl, rfl, rfl, h0, h1⟩ := trodAll_two hA
  obtain ⟨rfl, rfl⟩ := trodVars_none hV
  obtain ⟨z0, i0⟩ := intsAt_of (hval 0 22 v0 rfl rfl) h0
  obtain ⟨a1, b1, c1, e1, rfl⟩ := open_arr4 (hval 1 33 v1 rfl rfl) h1
  clear hA0
  refine (operatorAdds_walk v0 z0 a1 b1 c1 e1 W i0 (oWordsAt_of hL)).mono fun e W' ⟨he, hb⟩ => ?_
  subst he
  exact ⟨_, rfl, law_post rfl ⟨rfl, rfl, rfl⟩ rfl readable hW' hb⟩

theorem laid_met (os : Os) : laidMet Tryd.prog Rows.operatorAddsRow.laid ((World.doorLaid Tryd.prog 400 os).forCall (fun _ _ => 0) ⟨#[], #[.slice none 0 0, .agg #[.int .i64 0, .int .i64 0, .int .i64 0, .int .i64 0]], []⟩).memory :=
  laidMet_of_run' 8 (by kernel_rfl) (by kernel_rfl)
theorem reads (os : Os) {H : Type} (enc : TypeId × Value → H) : ∃ places, DataW.whole enc Tryd.prog ((World.doorLaid Tryd.prog 400 os).forCall (fun _ _ => 0) ⟨#[], #[.slice none 0 0, .agg #[.int .i64 0, .int .i64 0, .int .i64 0, .int .i64 0]], []⟩).memory Tryd.f5.params.toList Rows.operatorAddsSpec.vars false (#[.slice none 0 0, .agg #[.int .i64 0, .int .i64 0, .int .i64 0, .int .i64 0]] : Array Value).toList 8 = some ([.nil, .agg [.lit (.int .i64 0), .lit (.int .i64 0), .lit (.int .i64 0), .lit (.int .i64 0)]], [], places) :=
  ⟨[], by kernel_rfl⟩

set_option maxRecDepth 100000 in
theorem lifted (os : Os) (started : os.Started) (H : Type) (enc : TypeId × Value → H) (F : Stop.Interp) :
    ReturnsInHanded {} Tryd.checked os 5 .any ((OpenSpec.ofChange Rows.operatorAddsSpec).preRow enc Tryd.prog Tryd.f5 Rows.operatorAddsRow.domain false Rows.operatorAddsRow.laid) (((OpenSpec.ofChange Rows.operatorAddsSpec).at F).post enc Tryd.prog Tryd.f5 false true false false) := by
  obtain ⟨places, hx⟩ := reads os enc
  refine returnsInHanded_of_row (C := Tryd.checked) (s := OpenSpec.ofChange Rows.operatorAddsSpec) own started (by kernel_rfl) Tryd.func5
    (witness_row_atRef (enc := enc) (C := Tryd.checked) false (World.doorLaid Tryd.prog 400 os) #[.slice none 0 0, .agg #[.int .i64 0, .int .i64 0, .int .i64 0, .int .i64 0]] rfl (by kernel_rfl) (by kernel_rfl) (by kernel_rfl)
      (OpenSpec.preRow_of_cond 8 hx (by kernel_rfl) (fun k hk => by cases hk) (by kernel_rfl) (laid_met os))) ?_
  intro W base args ds gs before hval hW _ _ _ hL _ _
  exact contract H enc W base args ds gs before hval hW hL

theorem said : Rows.OperatorAddsSaid :=
  OpenClaim.holds_of_cond 5 Tryd.f5 rfl rfl rfl rfl rfl rfl rfl ⟨rfl, rfl, rfl, rfl, rfl⟩ rfl rfl rfl rfl rfl (by kernel_rfl) Tryd.func5 (by kernel_rfl)
    (of_decide_eq_true (by kernel_rfl)) (by unfold Func.isWrapper; first | (rw [if_pos (by decide +kernel)]; kernel_rfl) | (rw [if_neg (by decide +kernel)]; exact ⟨rfl, rfl⟩))
    (fun os started H enc _ F => by rw [OpenClaim.pre_eq_preRow]; exact lifted os started H enc F)

theorem plain (f : FuncId) (fn : Func) (hf : Tryd.pinned.checked.prog.funcNamed Rows.operatorAddsRow.func = some f) (hfn : Tryd.pinned.checked.prog.funcs[f]? = some fn) :
    false = Tryd.pinned.checked.prog.looks [] ∧ ∀ (j : Nat) t, fn.params[j]? = some t → Tryd.pinned.checked.prog.wantsStandIn t = false := by
  obtain rfl : f = 5 := Option.some.inj ((show Tryd.prog.funcNamed Rows.operatorAddsRow.func = some 5 by kernel_rfl).symm.trans hf) |>.symm
  obtain rfl : fn = Tryd.f5 := (Option.some.inj (Tryd.func5.symm.trans hfn)).symm
  refine ⟨by kernel_rfl, fun j t ht => ?_⟩
  have hall : (Tryd.f5.params.toList.all fun u => !Tryd.prog.wantsStandIn u) = true := by kernel_rfl
  have hm : t ∈ Tryd.f5.params.toList := by simpa using Array.mem_of_getElem? ht
  exact (show Tryd.prog.wantsStandIn t = false by simpa using List.all_eq_true.1 hall t hm)

theorem card : Rows.OperatorAddsCardSaid :=
  Claim7.holds_tied_plain_at .later [] _ _ _ _ said (fun _ h => by cases h) (by kernel_rfl) (fun _ h => by cases h) operatorAdds_row_tie rfl ⟨rfl, rfl⟩ (by kernel_rfl) rfl plain (by kernel_rfl)
#print axioms card
end Go.Proofs.YtkhfnkokdmoipaaDoor.operatorAdds
