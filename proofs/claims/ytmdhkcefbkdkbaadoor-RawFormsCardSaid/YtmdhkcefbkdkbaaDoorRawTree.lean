/- The contract of layer 2's tree: some tree; well formed, where nothing is spoilt. -/
import Derived.Test.YtmdhkcefbkdkbaaDoorRawSpoil
import Derived.StillTailTactics
set_option linter.unusedVariables false
set_option linter.unusedSimpArgs false
namespace Go.Proofs.YtmdhkcefbkdkbaaDoor
open Go.RowKit

theorem tapeAt_new {w wT : World} {vl : Value} {zl : List Int} (hl : IntsAt w vl zl) (hw : WordsAt w) (T : Nat) (hT : w.heap.size ≤ T) (hb : Below w.heap.size w wT) (ht : wT.heap[T]? = some (.cells #[vl, .int .i64 0] 64 (0, 0))) : TapeAt T wT := by
  obtain ⟨A, c, rfl, h1, h2⟩ := hl
  obtain ⟨b, o, cw, w1, w2, w3, w4⟩ := hw
  refine ⟨⟨A, zl.length, c, 0, ht, Nat.zero_le _, h1, fun hp => ?_⟩, ⟨b, o, cw, (hb.cell (p := ⟨_, 0, none⟩) w3).trans w1, by omega, by omega, fun k hk => (hb.cell (p := ⟨b, o + k, none⟩) w2).trans (w4 k hk)⟩⟩
  obtain ⟨b, o, hA, hlt, hc⟩ := h2 hp
  exact ⟨b, o, hA, by omega, fun k hk => ⟨_, (hb.cell (p := ⟨b, o + k, none⟩) hlt).trans (hc k hk)⟩⟩

/-- The loop's state: the tree in r, the result's box. -/
structure TrI (w : World) (R X j l : Nat) (wr : World) : Prop where
  tr : ∃ (k : Int) (n : List UInt8) (p : Int) (ts : List Lfc.Raw) (A : Option Addr) (c : Nat), wr.heap[X]? = some (.cells #[.int .i64 k, S n, .int .i64 p, .slice A ts.length c] 42 (0, 0)) ∧ TreesAtP (fun b => b ≠ X ∧ b ≠ R) wr A ts ∧ n.length ≤ 1000000 ∧ ts.length ≤ c ∧ Lfc.Raw.sizes ts + 1 ≤ 31 + j ∧ (j = 0 → (Lfc.Raw.node k n p ts).form = true ∧ (Lfc.Raw.node k n p ts).depth ≤ 5)
  res : wr.heap[R]? = some (.cells #[.int .i64 0, S [], .int .i64 0, .slice none 0 0] 42 (0, 0))
  bel : Below w.heap.size w wr
  jl : 0 < j → 2 * j ≤ l

set_option maxRecDepth 100000 in
set_option maxHeartbeats 4000000 in
theorem tree_any (vl vm : Value) (zl zm : List Int) (w : World) (hl : IntsAt w vl zl) (hm : IntsAt w vm zm) (hw : WordsAt w) :
    Calls Tryd.prog 25 #[vl, vm] w fun e w' => (∃ t v, e = .returned v ∧ TreeV w' t v ∧ t.size ≤ 34 ∧ (zm.length ≤ 1 → t.form = true ∧ t.size ≤ 31 ∧ t.depth ≤ 5)) ∧ Below w.heap.size w w' := by
  have HL := Lib.hid hl
  have HW := Lib.hid hw
  obtain ⟨Al, cl, rfl, hl1, _⟩ := hl
  obtain ⟨Am, cm, rfl, hm1, hmc⟩ := hm
  have HMC := Lib.hid hmc
  have hmx : zm.length ≤ 9223372036854775807 := by unfold maxLen at hm1; omega
  obtain ⟨wT, hwT⟩ : ∃ wT, (w.alloc (.cells #[.int .i64 0, S [], .int .i64 0, .slice none 0 0] 42)).alloc (.cells #[.slice Al zl.length cl, .int .i64 0] 64) = wT := ⟨_, rfl⟩
  have qr : wT.heap[w.heap.size]? = some (.cells #[.int .i64 0, S [], .int .i64 0, .slice none 0 0] 42 (0, 0)) := by rw [← hwT]; exact heap_alloc_old _ _ _ _ (heap_alloc_new _ _)
  have qt : wT.heap[w.heap.size + 1]? = some (.cells #[.slice Al zl.length cl, .int .i64 0] 64 (0, 0)) := by
    rw [← hwT]
    have := heap_alloc_new (w.alloc (.cells #[.int .i64 0, S [], .int .i64 0, .slice none 0 0] 42)) (.cells #[.slice Al zl.length cl, .int .i64 0] 64)
    simpa using this
  have bT : Below w.heap.size w wT := by rw [← hwT]; exact ((Below.refl _ _).alloc (Nat.le_refl _) _).alloc (by simp) _
  have hsT := eq2 (show wT.heap.size = w.heap.size + 2 by rw [← hwT]; simp)
  have TT := Lib.hid (tapeAt_new HL.out HW.out (w.heap.size + 1) (by omega) bT qt)
  have QR := Lib.hid qr
  have BT := Lib.hid bT
  clear qr qt bT hl1 hmc hm1
  go_enter Tryd.func25, Tryd.ntmps25
  go_wp2_with fail
  refine (raw_any 4 (by omega) (w.heap.size + 1) wT TT.out).mono ?_
  clear hwT
  rintro e w1 ⟨⟨t1, v1, rfl, hv1, hf1, hs1, hd1⟩, T1, o1⟩
  obtain ⟨k1, n1, p1, ts1⟩ := t1
  obtain ⟨A1, c1, rfl, hp1⟩ := hv1.open_
  have hsz1 := o1.size
  have QR1 := Lib.hid (o1.heap QR.out (by omega))
  have hp1' := hp1
  rw [TreeP] at hp1'
  obtain ⟨_, _, hn1, _, A1', c1', hA1, hc1, hts1⟩ := hp1'
  cases hA1
  have HB1 := Lib.hid (Oth.below BT.out o1 (by omega) (by omega))
  have HT1 : Hid (TreesAtP (fun b => wT.heap.size ≤ b) w1 A1 ts1) := Lib.hid hts1
  have HF1 := Lib.hid (And.intro hn1 (And.intro hc1 (And.intro hf1 (And.intro hs1 hd1))))
  clear hp1 hts1 hn1 hc1 hf1 hs1 hd1 hv1 T1 o1
  go_upto_region 2 with fail
  obtain ⟨w2, hw2⟩ : ∃ w2, w1.alloc (.cells #[.int .i64 k1, S n1, .int .i64 p1, .slice A1 ts1.length c1] 42) = w2 := ⟨_, rfl⟩
  rw [hw2]
  have I0 : Hid (TrI w w.heap.size w1.heap.size 0 zm.length w2) := by
    refine Lib.hid ⟨⟨k1, n1, p1, ts1, A1, c1, by rw [← hw2]; exact heap_alloc_new _ _, ?_, HF1.out.1, HF1.out.2.1, ?_, fun _ => ⟨HF1.out.2.2.1, HF1.out.2.2.2.2⟩⟩, by rw [← hw2]; exact heap_alloc_old _ _ _ _ QR1.out, by rw [← hw2]; exact HB1.out.alloc (by have := HB1.out.size; omega) _, fun h => absurd h (by omega)⟩
    · refine HT1.out.keep (fun b _ hlt => by rw [← hw2]; exact Lib.alloc_old _ _ _ hlt) (by rw [← hw2]; simp) (fun b hlt hb => ?_)
      have hb : wT.heap.size ≤ b := hb
      exact ⟨by omega, by omega⟩
    · have := HF1.out.2.2.2.1
      simp only [Lfc.Raw.size] at this
      omega
  have hX : w1.heap.size < w2.heap.size := by rw [← hw2]; simp
  have hRX : w.heap.size < w1.heap.size := by omega
  clear hw2
  go_wp2_with fail
  go_loopw [6] (fun i wr => ∃ j : Nat, j ≤ 3 ∧ i = .int .i64 ((2 * j : Nat) : Int) ∧ Hid (TrI w w.heap.size w1.heap.size j zm.length wr)) (fun i _ => 6 - (intOf i).toNat)
  case atStart => exact ⟨0, by omega, rfl, I0⟩
  case round =>
    obtain ⟨j, hj, rfl, HI⟩ := hrel
    obtain ⟨k, n, p, ts, A, c, hx, htr, hnl, hcl, hszz, hform⟩ := HI.out.tr
    obtain ⟨x0, x1, x2, x3⟩ := cells4 hx
    have HX := Lib.hid hx
    have HTR := Lib.hid htr
    have HZ := Lib.hid (And.intro hnl (And.intro hcl hform))
    have hXr := lt_of_block hx
    clear hx htr hnl hcl hform
    by_cases hlt : 2 * j + 1 < zm.length ∧ 2 * j < 6
    · obtain ⟨hlt, hj6⟩ := hlt
      obtain ⟨b, o, rfl, hb, hcs⟩ := HMC.out (by omega)
      have hc1 := (HI.out.bel.cell (p := ⟨b, o + 2 * j, none⟩) hb).trans (hcs (2 * j) (by omega))
      have hc2 := (HI.out.bel.cell (p := ⟨b, o + (2 * j + 1), none⟩) hb).trans (hcs (2 * j + 1) (by omega))
      have htv : TreeVP (fun b => b ≠ w1.heap.size ∧ b ≠ w.heap.size) wr.drew (.node k n p ts) (.agg #[.int .i64 k, S n, .int .i64 p, .slice A ts.length c]) := TreeVP.mk HZ.out.1 HZ.out.2.1 HTR.out.drew
      have HSP := Lib.hid (fun a b => spoil_any 100 (by omega) (.node k n p ts) _ wr.drew _ a b (by simp only [Lfc.Raw.size]; omega) htv (HW.out.below HI.out.bel.drew))
      generalize zm.getD (2 * j) 0 = za at *
      generalize zm.getD (2 * j + 1) 0 = zb at *
      clear htv hcs
      have hd6 : decide (2 * (j : Int) < 6) = true := by simp; omega
      go_wp2_with fail
      have e1 : (2 * (j : Int)).toNat = 2 * j := by omega
      have e2 : (2 * (j : Int) + 1).toNat = 2 * j + 1 := by omega
      have e5 : (0 : Int) ≤ 2 * (j : Int) := by omega
      have e6 : 2 * (j : Int) < (zm.length : Int) := by omega
      have e7 : (0 : Int) ≤ 2 * (j : Int) + 1 := by omega
      have e8 : 2 * (j : Int) + 1 < (zm.length : Int) := by omega
      have e3 : IntKind.i64.wrap (2 * (j : Int) + 1) = 2 * (j : Int) + 1 := IntWalk.i64_in _ ⟨by omega, by omega⟩
      have e4 : IntKind.i64.wrap (2 * (j : Int)) = 2 * (j : Int) := IntWalk.i64_in _ ⟨by omega, by omega⟩
      refine wp_region_still_tail 10 (by kernel_rfl) (by kernel_rfl) ?_
      simp only [List.take_succ_cons, List.take_zero, List.drop_succ_cons, List.drop_zero]
      change wpStill Tryd.prog _ wr.drew _ _ _
      repeat still_step
      try refine wpStill_nil ?_
      change wpList _ _ _ _ _ wr.drew
      clear e1 e2 e3 e4 e5 e6 e7 e8
      go_wp2_with fail
      refine (HSP.out _ _).mono ?_
      rintro e w5 ⟨⟨t5, v5, rfl, hv5, hs5⟩, b5⟩
      obtain ⟨k5, n5, p5, us5⟩ := t5
      obtain ⟨A5, c5, rfl, hp5⟩ := hv5.open_
      have hb5 : wr.heap.size ≤ w5.heap.size := b5.size
      obtain ⟨s1, s2, s3, s4, h1, h2, h3, h4, ⟨m0, m1, m2, m3⟩, ⟨f0, f1, f2, f3⟩, hq4, ho4⟩ := put4 ((b5.block _ hXr).trans HX.out) (.int .i64 k5) (S n5) (.int .i64 p5) (.slice A5 us5.length c5)
      have hI4 : Hid (TrI w w.heap.size w1.heap.size (j + 1) zm.length s4) := by
        have hp5' := hp5
        rw [TreeP] at hp5'
        obtain ⟨_, _, hn5, _, A5', c5', hA5, hc5, hts5⟩ := hp5'
        cases hA5
        have hts5 : TreesAtP (fun b => (b ≠ w1.heap.size ∧ b ≠ w.heap.size) ∨ wr.drew.heap.size ≤ b) w5 A5 us5 := hts5
        refine Lib.hid ⟨⟨k5, n5, p5, us5, A5, c5, hq4, ?_, hn5, hc5, ?_, fun h => by omega⟩, ?_, ?_, fun _ => by omega⟩
        · refine hts5.keep (fun b hb hlt => ho4.block b hlt (fun e => ?_)) ho4.size (fun b hlt hb => ?_)
          · have := Option.some.inj e
            rcases hb with hb | hb
            · exact hb.1 this
            · have hb : wr.heap.size ≤ b := hb
              omega
          · rcases hb with hb | hb
            · exact hb
            · have hb : wr.heap.size ≤ b := hb
              exact ⟨by omega, by omega⟩
        · simp only [Lfc.Raw.size] at hs5
          omega
        · exact ho4.heap ((b5.block _ (lt_of_block HI.out.res)).trans HI.out.res) (by omega)
        · have hbz := HI.out.bel.size
          exact Oth.below (HI.out.bel.trans (((Below.refl wr.heap.size wr).drew.trans (b5.mono (Nat.le_refl _))).mono hbz)) ho4 (by omega) (by omega)
      clear hp5 hv5 hq4 ho4 b5
      go_wp2_with fail
      go_roundw
      case rel => exact ⟨j + 1, by omega, by go_num, hI4⟩
      case measure => simp [intOf]; omega
    · obtain ⟨s1, s2, s3, s4, h1, h2, h3, h4, ⟨m0, m1, m2, m3⟩, ⟨f0, f1, f2, f3⟩, hq4, ho4⟩ := put4 HI.out.res (.int .i64 k) (S n) (.int .i64 p) (.slice A ts.length c)
      have HQ := Lib.hid hq4
      have HO := Lib.hid ho4
      have HLT := Lib.hid hlt
      clear hq4 ho4 hlt
      have fin : (∃ t v, (Ending.returned (.agg #[.int .i64 k, S n, .int .i64 p, .slice A ts.length c])) = .returned v ∧ TreeV s4 t v ∧ t.size ≤ 34 ∧ (zm.length ≤ 1 → t.form = true ∧ t.size ≤ 31 ∧ t.depth ≤ 5)) ∧ Below w.heap.size w s4 := by
        refine ⟨⟨.node k n p ts, _, rfl, ?_, by simp only [Lfc.Raw.size]; omega, fun h1 => ?_⟩, Oth.below HI.out.bel HO.out (by omega) (by omega)⟩
        · refine TreeVP.toV (TreeVP.mk (q := fun b => b ≠ w1.heap.size ∧ b ≠ w.heap.size) HZ.out.1 HZ.out.2.1 (HTR.out.keep (fun b hb hlt => HO.out.block b hlt (fun e => hb.2 (Option.some.inj e))) HO.out.size (fun b _ hb => hb)))
        · have hj0 : j = 0 := by
            rcases Nat.eq_zero_or_pos j with h | h
            · exact h
            · have := HI.out.jl h; omega
          have := HZ.out.2.2 hj0
          exact ⟨this.1, by simp only [Lfc.Raw.size]; omega, this.2⟩
      have FIN := Lib.hid fin
      clear fin
      by_cases hz : 2 * j + 1 < zm.length
      · have hd6 : decide (2 * (j : Int) < 6) = false := by have := HLT.out; simp; omega
        go_wp2_with fail
        refine bodyPost_ret (results_raw rfl _ _ _ _ _ _ _ rfl HQ.out) rfl ?_
        exact FIN.out
      · have hd6 : decide (2 * j + 1 < zm.length) = false := by simpa using hz
        go_wp2_with fail
        refine bodyPost_ret (results_raw rfl _ _ _ _ _ _ _ rfl HQ.out) rfl ?_
        exact FIN.out
end Go.Proofs.YtmdhkcefbkdkbaaDoor
