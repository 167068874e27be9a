/- Parts of the proof that no input makes the law false: SmLight, OcLight, OcImp, OcTape, OrHold, OrExp, OrAwkP, OrAwake. -/
import Derived.Deep.RegionLaw
import Derived.Deep.DeepCutAuto
import Derived.Deep.CutBlock
import Derived.Test.YtadjpadieljjlaaGreatTvAB
import Derived.Test.YtadjpadieljjlaaGreatTvAD
import Derived.Test.YtadjpadieljjlaaGreatTvAH
import Derived.Test.YtadjpadieljjlaaGreatTvAJ
import Derived.Test.YtadjpadieljjlaaGreatTvAM
import Derived.Test.YtadjpadieljjlaaGreatTvAT
import Derived.Test.YtadjpadieljjlaaGreatTvAX
import Derived.Test.YtadjpadieljjlaaGreatTvAY
set_option linter.unusedVariables false
set_option linter.unusedSimpArgs false
namespace Go.Proofs.YtadjpadieljjlaaGreat
open Go.RowKit
set_option maxRecDepth 100000 in
set_option maxHeartbeats 4000000 in
theorem mLight_any (most : Int) (ts : List Lfc.Raw) (A : Option Addr) (c : Nat) (w : World) (hn : ts.length ≤ 100) (hs : ∀ t ∈ ts, t.size ≤ 100000) (h : TreesAt w A ts) :
  Calls Tryz.prog 19 #[.int .i64 most, .slice A ts.length c] w fun e w' => (∃ b, e = .returned (.bool b)) ∧ Below w.heap.size w w' := by
 have HA := Lib.hid h
 have HS := Lib.hid hs
 clear h hs
 go_enter Tryz.func19, Tryz.ntmps19
 go_wp2_with fail
 go_loopw [5, 6] (fun n i wr => ∃ k z : Nat, k ≤ ts.length ∧ i = .int .i64 k ∧ n = .int .i64 (z : Int) ∧ z ≤ k * 100000 ∧ Below w.heap.size w wr) (fun _ i _ => ts.length - (intOf i).toNat)
 case atStart => exact ⟨0, 0, by omega, rfl, rfl, by omega, Below.refl _ _⟩
 case round =>
  obtain ⟨k, z, hk, rfl, rfl, hz, hbw⟩ := hrel
  by_cases hlt : k < ts.length
  ·obtain ⟨b, o, k1, n1, p1, us, B, c1, rfl, hb, ht, d0, d1, d2, d3, hcu, hB, hT⟩ := (HA.out.below hbw).at_ hlt
   have hst := HS.out ts[k] (List.getElem_mem _)
   have HT := Lib.hid hT
   obtain ⟨y, hy⟩ : ∃ y, ts[k].size = y := ⟨_, rfl⟩
   obtain ⟨x, hx⟩ : ∃ x, ts[k].depth = x := ⟨_, rfl⟩
   have HY := Lib.hid hy
   have HX := Lib.hid hx
   rw [hy] at hst
   have HBW := Lib.hid hbw
   clear hB ht hT hy hx
   have hxy : x ≤ y := by have := Lfc.Raw.depth_le_size _ ts[k] (Nat.le_refl _); rw [HX.out, HY.out] at this; exact this
   go_wp2_with fail
   refine (sDepth_any _ ts[k] _ _ (Nat.le_refl _) (by rw [HY.out]; omega) HT.out).mono ?_
   rintro e w1 ⟨rfl, hb1⟩
   rw [HX.out]
   by_cases hx : 40 < x
   ·have hx1 : decide ((x : Int) > 40) = true := by rw [decide_eq_true_eq]; omega
    clear hx
    go_wp2_with fail
    go_ret
    exact ⟨⟨false, rfl⟩, hbw.trans (hb1.mono hbw.size)⟩
   ·have hx1 : decide ((x : Int) > 40) = false := by rw [decide_eq_false_iff_not]; omega
    have e0 := (hb1.cell (p := ⟨b, o + k * 4, none⟩) hb).trans d0
    have e1 := (hb1.cell (p := ⟨b, o + k * 4 + 1, none⟩) hb).trans d1
    have e2 := (hb1.cell (p := ⟨b, o + k * 4 + 2, none⟩) hb).trans d2
    have e3 := (hb1.cell (p := ⟨b, o + k * 4 + 3, none⟩) hb).trans d3
    have HB2 := Lib.hid (hbw.trans (hb1.mono hbw.size))
    have hT1 := Lib.hid (HT.out.below hb1)
    clear hx d0 d1 d2 d3 hbw hb1
    go_wp2_with fail
    refine (sSize_any _ ts[k] _ _ (Nat.le_refl _) (by rw [HY.out]; omega) hT1.out).mono ?_
    rintro e w2 ⟨rfl, hb2⟩
    rw [HY.out]
    have hzy : IntKind.i64.wrap ((z : Int) + (y : Int)) = ((z + y : Nat) : Int) := by rw [IntWalk.i64_in _ (by omega)]; omega
    clear e0 e1 e2 e3
    go_wp2_with fail
    go_roundw
    case rel => exact ⟨k + 1, z + y, by omega, by go_num, rfl, by omega, HB2.out.trans (hb2.mono HB2.out.size)⟩
    case measure => simp [intOf]; omega
  ·go_wp2_with fail
   go_ret
   exact ⟨⟨_, rfl⟩, hbw⟩
end Go.Proofs.YtadjpadieljjlaaGreat
namespace Go.Proofs.YtadjpadieljjlaaGreat
open Go.RowKit Go.Maps
attribute [local go_sem ↓] Go.wp_at_zero Go.wp_at_succ
theorem treesAt_two {w : World} {g : Nat} {k p k' p' : Int} {n n' : List UInt8} {ts ts' : List Lfc.Raw} {A A' : Option Addr} {c c' : Nat} (h : w.heap[g]? = some (.cells #[.int .i64 k, S n, .int .i64 p, .slice A ts.length c, .int .i64 k', S n', .int .i64 p', .slice A' ts'.length c'] 51 (0, 0))) (ht : TreeV w (.node k n p ts) (.agg #[.int .i64 k, S n, .int .i64 p, .slice A ts.length c])) (hu : TreeV w (.node k' n' p' ts') (.agg #[.int .i64 k', S n', .int .i64 p', .slice A' ts'.length c'])) : TreesAt w (some ⟨g, 0, none⟩) [.node k n p ts, .node k' n' p' ts'] := fun _ => by
 obtain ⟨v0, v1, v2, v3, e, htc⟩ := ht
 cases e
 obtain ⟨v0, v1, v2, v3, e, huc⟩ := hu
 cases e
 refine ⟨g, 0, rfl, lt_of_block h, ?_⟩
 rw [TreesO, TreesO, TreesO]
 exact ⟨⟨_, _, _, _, Lib.cell_of_heap h 0, Lib.cell_of_heap h 1, Lib.cell_of_heap h 2, Lib.cell_of_heap h 3, htc⟩, ⟨_, _, _, _, Lib.cell_of_heap h 4, Lib.cell_of_heap h 5, Lib.cell_of_heap h 6, Lib.cell_of_heap h 7, huc⟩, trivial⟩
theorem tree_elemB {wr : World} {q : Nat → Prop} {A : Option Addr} {ts : List Lfc.Raw} {i : Nat} (hi : i < ts.length) (h : TreesAtP q wr A ts) :
  ∃ b o kk nn pp ls B c, A = some ⟨b, o, none⟩ ∧ (∀ W : World, Below wr.heap.size wr W → W.cell? ⟨b, o + i * 4, none⟩ = some (.int .i64 kk) ∧ W.cell? ⟨b, o + i * 4 + 1, none⟩ = some (S nn) ∧ W.cell? ⟨b, o + i * 4 + 2, none⟩ = some (.int .i64 pp) ∧ W.cell? ⟨b, o + i * 4 + 3, none⟩ = some (.slice B (List.length ls) c)) ∧ Lfc.Raw.node kk nn pp ls ∈ ts ∧ TreeVP q wr (.node kk nn pp ls) (.agg #[.int .i64 kk, S nn, .int .i64 pp, .slice B (List.length ls) c]) := by
 obtain ⟨b, o, hA, hlt, hqb, hts⟩ := h (by intro h0; rw [h0] at hi; simp at hi)
 obtain ⟨v0, v1, v2, v3, h0, h1, h2, h3, hP⟩ := treesP_at ts o i hi hts
 cases ht : ts[i] with
 | node k n p us =>
  have hP' := hP
  rw [ht, TreeP] at hP
  obtain ⟨rfl, rfl, _, rfl, B, c, rfl, _⟩ := hP
  refine ⟨b, o, k, n, p, us, B, c, hA, fun W hW => ?_, ht ▸ List.getElem_mem hi, ⟨_, _, _, _, rfl, by rw [← ht]; exact hP'⟩⟩
  have hc := fun j => hW.cell (p := ⟨b, j, none⟩) hlt
  exact ⟨(hc _).trans h0, (hc _).trans h1, (hc _).trans h2, (hc _).trans h3⟩
set_option maxRecDepth 100000 in
set_option maxHeartbeats 16000000 in
theorem oLight_any (q : Nat → Prop) (fs : List Lfc.Fact) (F : Option Addr) (o p : Lfc.Ord) (f0 : Nat) (rel k1 a1 k2 a2 : Int) (A1 A2 : Option Addr) (l1 c1 l2 c2 : Nat) (ts us : List Lfc.Raw) (L R : Option Addr) (cl cr : Nat) (ks : List Int) (A0 : Option Addr) (c0 : Nat) (w : World)
  (h : QuP q w fs F o p (.agg #[.int .i64 k1, .int .i64 a1, .slice A1 l1 c1]) (.agg #[.int .i64 k2, .int .i64 a2, .slice A2 l2 c2]) ts us L R cl cr ks A0) :
  Calls Tryz.prog 9 #[.agg #[.slice F fs.length f0, .int .i64 rel, .int .i64 k1, .int .i64 a1, .slice A1 l1 c1, .int .i64 k2, .int .i64 a2, .slice A2 l2 c2, .slice L ts.length cl, .slice R us.length cr, .slice A0 ks.length c0]] w fun e w' => (∃ b, e = .returned (.bool b)) ∧ Below w.heap.size w w' := by
 obtain ⟨w1, hw1⟩ : ∃ w1, w.alloc (.cells #[.slice F fs.length f0, .int .i64 rel, .int .i64 k1, .int .i64 a1, .slice A1 l1 c1, .int .i64 k2, .int .i64 a2, .slice A2 l2 c2, .slice L ts.length cl, .slice R us.length cr, .slice A0 ks.length c0] 29) = w1 := ⟨_, rfl⟩
 have b1 : Below w.heap.size w w1 := by rw [← hw1]; exact (Below.refl _ _).alloc (Nat.le_refl _) _
 have q1 : w1.heap[w.heap.size]? = some (.cells #[.slice F fs.length f0, .int .i64 rel, .int .i64 k1, .int .i64 a1, .slice A1 l1 c1, .int .i64 k2, .int .i64 a2, .slice A2 l2 c2, .slice L ts.length cl, .slice R us.length cr, .slice A0 ks.length c0] 29 (0, 0)) := by rw [← hw1]; exact heap_alloc_new _ _
 have l1' := lt_of_block q1
 have hTT := h.tt.keep (q' := fun _ => True) (fun b _ hlt => b1.block b hlt) b1.size (fun _ _ _ => trivial)
 have hUU := h.uu.keep (q' := fun _ => True) (fun b _ hlt => b1.block b hlt) b1.size (fun _ _ _ => trivial)
 have TT := Lib.hid hTT
 have UU := Lib.hid hUU
 have ZT := Lib.hid h.zt
 have ZU := Lib.hid h.zu
 have hn3 := h.n
 have hne := h.eq
 have B1 := Lib.hid b1
 have Q1 := Lib.hid q1
 obtain ⟨n, hn⟩ : ∃ n, ts.length = n := ⟨_, rfl⟩
 obtain ⟨n', hn'⟩ : ∃ n, us.length = n := ⟨_, rfl⟩
 obtain ⟨nf, hnf⟩ : ∃ n, fs.length = n := ⟨_, rfl⟩
 obtain ⟨nk, hnk⟩ : ∃ n, ks.length = n := ⟨_, rfl⟩
 rw [hn'] at hne
 rw [hn] at hn3 hne
 obtain rfl : n' = n := hne
 rw [hn, hn', hnf, hnk] at Q1 hw1 ⊢
 have HN1 := Lib.hid (And.intro hn hn')
 clear h b1 q1 hTT hUU hn hn' hnf hnk
 go_enter Tryz.func9, Tryz.ntmps9
 go_wp2_with fail
 clear hw1
 go_loopw [3] (fun i wr => ∃ j : Nat, j ≤ n' ∧ i = .int .i64 (j : Int) ∧ Hid (Below w1.heap.size w1 wr)) (fun i _ => n' - (intOf i).toNat)
 case atStart => exact ⟨0, by omega, rfl, Lib.hid (Below.refl _ _)⟩
 case round =>
  obtain ⟨j, hj, rfl, HI⟩ := hrel
  have q1 := (HI.out.block _ l1').trans Q1.out
  have c8 := (Lib.cell_of_heap q1 8 : wr.cell? ⟨w.heap.size, 8, none⟩ = some (.slice L n' cl))
  by_cases hlt : j < n'
  ·have hlt1 : (j : Int) < (n' : Int) := by omega
   have hj0 : (0 : Int) ≤ (j : Int) := by omega
   have hd1 : decide ((j : Int) < (n' : Int)) = true := by rw [decide_eq_true_eq]; exact hlt1
   have QC : Hid (∀ W : World, Below wr.heap.size wr W → W.cell? ⟨w.heap.size, 8, none⟩ = some (.slice L n' cl) ∧ W.cell? ⟨w.heap.size, 9, none⟩ = some (.slice R n' cr)) := Lib.hid (fun W hW => by
    have e := (hW.block _ (lt_of_block q1)).trans q1
    exact ⟨Lib.cell_of_heap e 8, Lib.cell_of_heap e 9⟩)
   obtain ⟨bL, oL, kl, nl, pl, ls, Bl, cL, rfl, hLc, hLm, hLv⟩ := tree_elemB (show j < ts.length by rw [HN1.out.1]; exact hlt) (TT.out.keep (q' := fun _ => True) (fun b _ hlt => HI.out.block b hlt) HI.out.size (fun _ _ _ => trivial))
   obtain ⟨bR, oR, kr, nr, pr, rs, Br, cR, rfl, hRc, hRm, hRv⟩ := tree_elemB (show j < us.length by rw [HN1.out.2]; exact hlt) (UU.out.keep (q' := fun _ => True) (fun b _ hlt => HI.out.block b hlt) HI.out.size (fun _ _ _ => trivial))
   have LA := Lib.hid hLc
   have LV := Lib.hid (And.intro (ZT.out _ hLm) hLv)
   have RA := Lib.hid hRc
   have RV := Lib.hid (And.intro (ZU.out _ hRm).1 hRv)
   clear hLc hLm hLv hRc hRm hRv q1
   go_upto_region 4 with fail
   clear c8
   go_cut [23] (fun s wx => ∃ bb : Bool, s = .bool bb ∧ Hid (Below w1.heap.size w1 wx))
   case first =>
    have bW1 := HI.out
    refine wp_region_held_drew (S := fun W => Below wr.heap.size wr W) (by kernel_rfl) ?_ (fun hHeld => ?_)
    ·exact (Below.refl _ wr).drew
    have bW : Below wr.heap.size wr wr.drew := (Below.refl _ wr).drew
    obtain ⟨wc0, hwc0⟩ : ∃ wc0, wr.drew = wc0 := ⟨_, rfl⟩
    rw [hwc0] at bW hHeld ⊢
    clear hwc0
    refine tk 0 ?_
    refine tk 1 (hy := Or.inl ⟨by rfl, by intro w hSw; (try dsimp only at hSw); obtain ⟨q8, q9⟩ := QC.out w hSw; go_simp; try with_reducible rfl⟩) ?_
    refine tk 2 ?_
    refine tk 3 ?_
    refine tk 4 (hy := Or.inl ⟨by rfl, by intro w hSw; (try dsimp only at hSw); obtain ⟨e0, e1, e2, e3⟩ := LA.out w hSw; go_simp; try with_reducible rfl⟩) ?_
    refine tk 5 ?_
    refine tk 6 (hy := Or.inl ⟨by rfl, by intro w hSw; (try dsimp only at hSw); obtain ⟨q8, q9⟩ := QC.out w hSw; go_simp; try with_reducible rfl⟩) ?_
    refine tk 7 ?_
    refine tk 8 ?_
    refine tk 9 (hy := Or.inl ⟨by rfl, by intro w hSw; (try dsimp only at hSw); obtain ⟨e0, e1, e2, e3⟩ := RA.out w hSw; go_simp; try with_reducible rfl⟩) ?_
    refine wpAnyH_ready (rs := [10]) (by kernel_rfl) (by simp) ?_
    refine AllReadyH.cons rfl (fun K hK => ?_) ?_
    ·have b8 := (Below.refl wc0.heap.size wc0).alloc (Nat.le_refl _) (.cells #[.int .i64 kl, S nl, .int .i64 pl, .slice Bl ls.length cL, .int .i64 kr, S nr, .int .i64 pr, .slice Br rs.length cR] 51)
     have B8 := bW.trans (b8.mono bW.size)
     have q8 := heap_alloc_new wc0 (.cells #[.int .i64 kl, S nl, .int .i64 pl, .slice Bl ls.length cL, .int .i64 kr, S nr, .int .i64 pr, .slice Br rs.length cR] 51)
     have CL := Lib.hid (mLight_any 300 [.node kl nl pl ls, .node kr nr pr rs] (some ⟨wc0.heap.size, 0, none⟩) 2 _ (by simp) (by intro y hy; have h1 := LV.out.1; have h2 := RV.out.1; simp at hy; rcases hy with rfl | rfl <;> omega) (treesAt_two q8 (LV.out.2.toV.below B8) (RV.out.2.toV.below B8)))
     have BX := Lib.hid (bW1.trans (B8.mono bW1.size))
     go_simp
     refine hK.out _ _ (B8) (fun hHeld => ?_)
     clear hK K
     refine nrm ?_
     obtain ⟨wA, hwA⟩ : ∃ wA, wc0.alloc (.cells #[.int .i64 kl, S nl, .int .i64 pl, .slice Bl ls.length cL, .int .i64 kr, S nr, .int .i64 pr, .slice Br rs.length cR] 51) = wA := ⟨_, rfl⟩
     rw [hwA] at B8 CL BX hHeld ⊢
     clear hwA q8 b8
     refine wpAnyH_ready (rs := [11]) (by kernel_rfl) (by simp) ?_
     refine AllReadyH.cons rfl (fun K hK => ?_) ?_
     ·go_simp
      go_at_call 19
      refine CL.out.mono ?_
      rintro e wB ⟨⟨bb, rfl⟩, b9⟩
      have HN : Hid (Below w1.heap.size w1 wB) := Lib.hid (BX.out.trans (b9.mono BX.out.size))
      have B9 : Below wr.heap.size wr wB := B8.trans (b9.mono B8.size)
      refine hK.out _ _ (B9) (fun hHeld => ?_)
      clear hK K
      refine nrm ?_
      refine tk 12 ?_
      refine wpAnyH_done (by kernel_rfl) ?_ _
      go_wp2_with fail
      go_meet
      exact ⟨_, rfl, HN⟩
     exact AllReadyH.nil
    exact AllReadyH.nil
   case rest =>
    obtain ⟨bb, rfl, HB⟩ := hcut
    clear HI QC LA LV RA RV
    cases bb with
    | false =>
     go_wp2_with fail
     go_roundw
     case rel => exact ⟨j + 1, by omega, by go_num, HB⟩
     case measure => simp [intOf]; omega
    | true =>
     go_wp2_with fail
     go_ret
     exact ⟨⟨_, rfl⟩, B1.out.trans (HB.out.mono B1.out.size)⟩
  ·have hlt1 : ¬ (j : Int) < (n' : Int) := by omega
   have hd1 : decide ((j : Int) < (n' : Int)) = false := by rw [decide_eq_false_iff_not]; exact hlt1
   go_wp2_with fail
   go_ret
   first | exact ⟨⟨_, rfl⟩, B1.out.trans (HI.out.mono B1.out.size)⟩ | exact ⟨.inr rfl, B1.out.trans (HI.out.mono B1.out.size)⟩
end Go.Proofs.YtadjpadieljjlaaGreat
namespace Lfc
theorem firstE_zero : ∀ l : List Raw, firstE l = 0 ↔ ∀ t ∈ l, t.twf = 0
 | [] => by simp [firstE]
 | t :: r => by
  rw [firstE]
  by_cases h : t.twf = 0
  ·rw [if_pos h, firstE_zero r]; simp [h]
  ·rw [if_neg h]; simp [h]
theorem allO_true : ∀ l : List Raw, allO l = true ↔ ∀ t ∈ l, t.isO = true
 | [] => by simp [allO]
 | t :: r => by simp [allO, allO_true r]
mutual
theorem posB_obj : ∀ t : Raw, t.posB 1048576 = true → t.obj = true
 | .node k n p ts, h => by
  simp only [Raw.posB, Bool.and_eq_true, decide_eq_true_eq] at h
  obtain ⟨⟨⟨h1, h2⟩, h3⟩, h4⟩ := h
  have h5 := posBs_objs ts h4
  simp only [headB, Bool.or_eq_true, Bool.and_eq_true, decide_eq_true_eq] at h3
  rw [Raw.obj]
  rcases h3 with (⟨rfl, h⟩ | ⟨⟨rfl, h⟩, h'⟩) | ⟨rfl, h⟩
  ·simp [h, h5]
  ·simp [h, h', h5]
  ·simp [h, h1, h2, h5]
theorem posBs_objs : ∀ ts : List Raw, Raw.posBs 1048576 ts = true → Raw.objs ts = true
 | [], _ => by rw [Raw.objs]
 | a :: r, h => by
  rw [Raw.posBs, Bool.and_eq_true] at h
  rw [Raw.objs, posB_obj a h.1, posBs_objs r h.2]; rfl
end
theorem good_ok {t : Raw} (h : good t) : t.twf = 0 ∧ t.isO = true := by
 have h1 := posB_obj t h.2
 have h2 := Raw.depth_le_size _ t (Nat.le_refl _)
 have h3 : t.small = true := by
  have := h.1
  rw [Raw.small, Bool.and_eq_true, decide_eq_true_eq, decide_eq_true_eq]
  omega
 rw [Raw.twf, Raw.isO, h1, h3]
 simp
theorem chkF_all {fs : List Fact} {o p : Ord} {ts us : List Raw} : chkF fs o p ts us = 0 ↔ (∀ t ∈ flat fs ++ ts ++ us, t.twf = 0 ∧ t.isO = true) ∧ (o.vld ts.length = 0 ∧ p.vld us.length = 0 ∧ o.shp p = true) := by
 have e1 := firstE_zero (flat fs ++ ts ++ us)
 have e2 := allO_true (flat fs ++ ts ++ us)
 unfold chkF
 by_cases h1 : firstE (flat fs ++ ts ++ us) = 0
 ·rw [if_neg (by simpa using h1)]
  have a1 := e1.1 h1
  cases h2 : allO (flat fs ++ ts ++ us) with
  | false =>
   rw [if_pos rfl]
   refine ⟨fun h => absurd h (by decide), fun h => ?_⟩
   rw [e2.2 (fun t ht => (h.1 t ht).2)] at h2
   cases h2
  | true =>
   have a2 := e2.1 h2
   rw [if_neg (by decide)]
   have a3 : ∀ t ∈ flat fs ++ ts ++ us, t.twf = 0 ∧ t.isO = true := fun t ht => ⟨a1 t ht, a2 t ht⟩
   by_cases h3 : o.vld ts.length = 0
   ·rw [if_neg (by simpa using h3)]
    by_cases h4 : p.vld us.length = 0
    ·rw [if_neg (by simpa using h4)]
     cases h5 : o.shp p with
     | false => rw [if_pos rfl]; exact ⟨fun h => absurd h (by decide), fun h => by cases h.2.2.2⟩
     | true => rw [if_neg (by decide)]; exact ⟨fun _ => ⟨a3, h3, h4, rfl⟩, fun _ => rfl⟩
    ·rw [if_pos h4]; exact ⟨fun h => absurd h h4, fun h => absurd h.2.2.1 h4⟩
   ·rw [if_pos h3]; exact ⟨fun h => absurd h h3, fun h => absurd h.2.1 h3⟩
 ·rw [if_pos h1]
  exact ⟨fun h => absurd h h1, fun h => absurd (e1.2 (fun t ht => (h.1 t ht).1)) h1⟩
theorem flat_mem : ∀ {fs : List Fact} {t : Raw}, t ∈ flat fs → ∃ f ∈ fs, t = f.l ∨ t = f.r
 | [], t, h => by cases h
 | f :: r, t, h => by
  simp only [flat, List.mem_cons] at h
  rcases h with h | h | h
  ·exact ⟨f, by simp, .inl h⟩
  ·exact ⟨f, by simp, .inr h⟩
  ·obtain ⟨g, hg, h⟩ := flat_mem h
   exact ⟨g, by simp [hg], h⟩
theorem chkF_facts {fs : List Fact} {o p : Ord} {ts us : List Raw} (hg : ∀ f ∈ fs, (good f.l ∨ f.l ∈ ts) ∧ good f.r) : chkF fs o p ts us = 0 ↔ (∀ t ∈ ts ++ us, t.twf = 0 ∧ t.isO = true) ∧ (o.vld ts.length = 0 ∧ p.vld us.length = 0 ∧ o.shp p = true) := by
 rw [chkF_all]
 refine ⟨fun h => ⟨fun t ht => h.1 t (by rw [List.append_assoc]; exact List.mem_append_right _ ht), h.2⟩, fun h => ⟨fun t ht => ?_, h.2⟩⟩
 rw [List.append_assoc] at ht
 rcases List.mem_append.1 ht with h1 | h1
 ·obtain ⟨f, hf, e | e⟩ := flat_mem h1
  ·rcases (hg f hf).1 with h2 | h2
   ·rw [e]; exact good_ok h2
   ·rw [e]; exact h.1 _ (List.mem_append_left _ h2)
  ·rw [e]; exact good_ok (hg f hf).2
 ·exact h.1 t h1
theorem chn_21 {ks : List Int} {fs : List Fact} {ts us : List Raw} (i j : Nat) : chF ks fs ts us 2 i j → chF ks fs ts us 1 i j := fun h => chn_less (by decide) h
theorem imp_weak {ks : List Int} {fs : List Fact} {o p : Ord} {ts us : List Raw} (h : hldF ks fs o p ts us 1 ∨ hldF ks fs o p ts us 3) : hldF ks fs o p ts us 2 := by
 have hb := ods_basic (B := chB ks fs ts us) (chn_21 (ks := ks) (fs := fs) (ts := ts) (us := us)) (odsOf o p)
 rcases h with ⟨h1, h⟩ | ⟨h1, h⟩
 ·rcases h with ⟨_, h⟩ | ⟨e, _⟩ | ⟨e, _⟩
  ·exact ⟨h1, .inr (.inl ⟨rfl, hb.1 h⟩)⟩
  ·exact absurd e (by decide)
  ·exact absurd e (by decide)
 ·rcases h with ⟨e, _⟩ | ⟨e, _⟩ | ⟨_, h⟩
  ·exact absurd e (by decide)
  ·exact absurd e (by decide)
  ·exact ⟨h1, .inr (.inl ⟨rfl, hb.2.1 h⟩)⟩
theorem imp_not {ks : List Int} {o p : Ord} {ts us : List Raw} : ¬ (hldF ks [] o p ts us 1 ∧ hldF ks [] o p ts us 3) := by
 rintro ⟨⟨_, h⟩, _, h'⟩
 refine ods_not (L := chF ks [] ts us 2) (W := chF ks [] ts us 1) (B := chB ks [] ts us) chn_21 (fun i j h => chn_not h) (odsOf o p) ⟨?_, ?_⟩
 ·rcases h with ⟨_, h⟩ | ⟨e, _⟩ | ⟨e, _⟩
  ·exact h
  ·exact absurd e (by decide)
  ·exact absurd e (by decide)
 ·rcases h' with ⟨e, _⟩ | ⟨e, _⟩ | ⟨_, h⟩
  ·exact absurd e (by decide)
  ·exact absurd e (by decide)
  ·exact h
theorem imp_more {ks : List Int} {fs gs : List Fact} {o p : Ord} {ts us : List Raw} {rel : Int} (hg : ∀ f ∈ fs ++ gs, (good f.l ∨ f.l ∈ ts) ∧ good f.r) (h : hldF ks fs o p ts us rel) : hldF ks (fs ++ gs) o p ts us rel := by
 refine ⟨(chkF_facts hg).2 ((chkF_facts (fun f hf => hg f (List.mem_append_left _ hf))).1 h.1), ?_⟩
 have hL : ∀ i j, chF ks fs ts us 2 i j → chF ks (fs ++ gs) ts us 2 i j := fun i j h => chn_app h
 have hW : ∀ i j, chF ks fs ts us 1 i j → chF ks (fs ++ gs) ts us 1 i j := fun i j h => chn_app h
 have hB : ∀ i j, chB ks fs ts us i j → chB ks (fs ++ gs) ts us i j := fun i j h => chn_app h
 have hm := ods_mono chn_21 chn_21 hL hW hB (odsOf o p)
 rcases h.2 with ⟨e, h⟩ | ⟨e, h⟩ | ⟨e, h⟩
 ·exact .inl ⟨e, hm.1 h⟩
 ·exact .inr (.inl ⟨e, hm.2 h⟩)
 ·exact .inr (.inr ⟨e, ods_eq_mono hW hB _ h⟩)
end Lfc
namespace Go.Proofs.YtadjpadieljjlaaGreat
open Go.RowKit Go.Maps
theorem tape_new2 {w : World} {A : Option Addr} {c : Nat} {zs : List Int} (h : IntsAt w (.slice A zs.length c) zs) : TapeI w.heap.size (w.alloc (.cells #[.slice A zs.length c, .int .i64 0] 33)) := by
 obtain ⟨A', c', e, h1, h2⟩ := h
 cases e
 refine ⟨⟨A, zs.length, c, 0, heap_alloc_new _ _, Nat.zero_le _, h1, fun hp => ?_⟩⟩
 obtain ⟨b, o, hA, hlt, hc⟩ := h2 hp
 exact ⟨b, o, hA, hlt, fun k hk => ⟨_, (((Below.refl w.heap.size w).alloc (Nat.le_refl _) _).cell (p := ⟨b, o + k, none⟩) hlt).trans (hc k hk)⟩⟩
end Go.Proofs.YtadjpadieljjlaaGreat
namespace Go.Proofs.YtadjpadieljjlaaGreat
open Go.RowKit Go.Maps
set_option maxRecDepth 100000 in
set_option maxHeartbeats 8000000 in
theorem oHolds1_any (i j : Nat) (ts us : List Lfc.Raw) (L R A0 : Option Addr) (cl cr c0 : Nat) (ks : List Int) (w : World) (hks : ks.length ≤ 1000000) (hA0 : IntsO w A0 ks)
  (hn : ts.length ≤ 1000) (hm : us.length ≤ 1000) (hi : i < ts.length) (hj : j < us.length) (hst : ∀ t ∈ ts ++ us, t.size ≤ 1000000) (hL : L = none → ts.length = 0 ∧ cl = 0) (hR : R = none → us.length = 0 ∧ cr = 0) (hts : TreesAt w L ts) (hus : TreesAt w R us) :
  Calls Tryz.prog 16 #[.slice none 0 0, .int .i64 1, .agg #[.int .i64 1, .int .i64 (i : Int), .slice none 0 0], .slice L ts.length cl, .agg #[.int .i64 1, .int .i64 (j : Int), .slice none 0 0], .slice R us.length cr, .slice A0 ks.length c0] w fun e w' => e = .returned (.tuple #[.bool (Lfc.prv0 ks (ts ++ us) ts[i] us[j]).isSome, .int .i64 (Lfc.chkE (ts ++ us))]) ∧ Below w.heap.size w w' := by
 have hsi := hst ts[i] (List.mem_append_left _ (List.getElem_mem _))
 have hsj := hst us[j] (List.mem_append_right _ (List.getElem_mem _))
 obtain ⟨w1, hw1⟩ : ∃ w1, w.alloc (.cells #[.int .i64 1, .int .i64 (i : Int), .slice none 0 0] 26) = w1 := ⟨_, rfl⟩
 obtain ⟨w2, hw2⟩ : ∃ w2, w1.alloc (.cells #[.int .i64 1, .int .i64 (j : Int), .slice none 0 0] 26) = w2 := ⟨_, rfl⟩
 have b1 : Below w.heap.size w w1 := by rw [← hw1]; exact (Below.refl _ _).alloc (Nat.le_refl _) _
 have b2 : Below w1.heap.size w1 w2 := by rw [← hw2]; exact (Below.refl _ _).alloc (Nat.le_refl _) _
 have q1 : w1.heap[w.heap.size]? = some (.cells #[.int .i64 1, .int .i64 (i : Int), .slice none 0 0] 26 (0, 0)) := by rw [← hw1]; exact heap_alloc_new _ _
 have q2 : w2.heap[w1.heap.size]? = some (.cells #[.int .i64 1, .int .i64 (j : Int), .slice none 0 0] 26 (0, 0)) := by rw [← hw2]; exact heap_alloc_new _ _
 have e1 := lt_of_block q1
 have e2 := lt_of_block q2
 have b02 : Below w.heap.size w w2 := b1.trans (b2.mono (by omega))
 have Q1 := Lib.hid ((b2.block _ e1).trans q1)
 have Q2 := Lib.hid q2
 have B02 := Lib.hid b02
 have s02 : w.heap.size ≤ w2.heap.size := by omega
 obtain ⟨y0, y1, y2⟩ := cells3o Q1.out
 obtain ⟨z0, z1, z2⟩ := cells3o Q2.out
 have CK := Lib.hid (oCheck0_any (.node 1 (i : Int) []) (.node 1 (j : Int) []) _ _ ts us L R cl cr w2 (by rw [Lfc.Ord.size, Lfc.Ord.sizes]; omega) (by rw [Lfc.Ord.size, Lfc.Ord.sizes]; omega) (ord_arg w2 (i : Int)) (ord_arg w2 (j : Int)) (Lfc.vld_arg hi) (Lfc.vld_arg hj) (Lfc.shp_arg _ _) hn hm hst hL hR (hts.below b02) (hus.below b02))
 have CP := Lib.hid (fun W (hW : Below w2.heap.size w2 W) => oProve1_any i j ts us L R A0 cl cr c0 ks W hks (hA0.below (b02.trans (hW.mono s02))) hn hm hi hj hst hL hR (hts.below (b02.trans (hW.mono s02))) (hus.below (b02.trans (hW.mono s02))))
 have HP0 : Hid (Lfc.chkE (ts ++ us) ≠ 0 → (Lfc.prv0 ks (ts ++ us) ts[i] us[j]).isSome = false) := Lib.hid (fun h => by rw [Lfc.prv0, if_neg h]; rfl)
 obtain ⟨res, hres⟩ : ∃ res, Lfc.prv0 ks (ts ++ us) ts[i] us[j] = res := ⟨_, rfl⟩
 rw [hres] at CP HP0 ⊢
 obtain ⟨z, hz⟩ : ∃ z, Lfc.chkE (ts ++ us) = z := ⟨_, rfl⟩
 rw [hz] at CK HP0 ⊢
 obtain ⟨n, hnn⟩ : ∃ n, ts.length = n := ⟨_, rfl⟩
 obtain ⟨m, hmm⟩ : ∃ m, us.length = m := ⟨_, rfl⟩
 rw [hnn] at CK CP ⊢
 rw [hmm] at CK CP ⊢
 clear hz hres hsi hsj hst hL hR hts hus hA0 b1 b2 q1 q2 b02 hnn hmm hi hj hn hm
 by_cases hz0 : z = 0
 ·subst hz0
  go_enter Tryz.func16, Tryz.ntmps16
  go_wp2_with fail
  refine CK.out.mono ?_
  rintro e w4 ⟨rfl, b4⟩
  clear hw1 hw2 CK y0 y1 y2 z0 z1 z2
  obtain ⟨y0, y1, y2⟩ := cells3o ((b4.block _ (by omega)).trans Q1.out)
  obtain ⟨z0, z1, z2⟩ := cells3o ((b4.block _ (by omega)).trans Q2.out)
  have CPW := Lib.hid (CP.out _ b4)
  have B4 := Lib.hid b4
  clear b4 CP
  go_wp2_with fail
  refine CPW.out.mono ?_
  rintro e w5 ⟨⟨rfl, rfl⟩ | ⟨l, Al, cll, B', d', rfl, rfl, hcl, hl⟩, b5⟩
  ·have HZ := Lib.hid (B02.out.trans ((B4.out.trans (b5.mono B4.out.size)).mono s02))
   obtain ⟨w6, hw6⟩ : ∃ w6, w5.alloc (.cells #[.int .i64 0, .slice none 0 0, .slice none 0 0, .slice none 0 0] 39) = w6 := ⟨_, rfl⟩
   have HW6 := Lib.hid hw6
   have HZ6 : Hid (Below w.heap.size w w6) := Lib.hid (by rw [← hw6]; exact HZ.out.alloc HZ.out.size _)
   clear hw6 b5
   go_upto_region 5 with fail
   rw [HW6.out]
   go_wp2_with fail
   refine bodyPost_ret (results_tmp2 rfl _ _ _) rfl ?_
   exact ⟨rfl, HZ6.out⟩
  ·have HZ := Lib.hid (B02.out.trans ((B4.out.trans (b5.mono B4.out.size)).mono s02))
   obtain ⟨w6, hw6⟩ : ∃ w6, w5.alloc (.cells #[.int .i64 0, .slice none 0 0, .slice Al l.length cll, .slice B' 0 d'] 39) = w6 := ⟨_, rfl⟩
   have HW6 := Lib.hid hw6
   have HZ6 : Hid (Below w.heap.size w w6) := Lib.hid (by rw [← hw6]; exact HZ.out.alloc HZ.out.size _)
   clear hw6 b5 hl
   go_upto_region 5 with fail
   rw [HW6.out]
   go_wp2_with fail
   refine bodyPost_ret (results_tmp2 rfl _ _ _) rfl ?_
   exact ⟨rfl, HZ6.out⟩
 ·have hz1 : (z == 0) = false := by simpa using hz0
  have hz2 : (z != 0) = true := by simpa using hz0
  have hz3 : decide (z = 0) = false := by simpa using hz0
  have HRES := Lib.hid (HP0.out hz0)
  clear hz0 HP0
  rw [HRES.out]
  go_enter Tryz.func16, Tryz.ntmps16
  go_wp2_with fail
  refine CK.out.mono ?_
  rintro e w4 ⟨rfl, b4⟩
  have HZ := Lib.hid (B02.out.trans (b4.mono s02))
  clear b4 CK y0 y1 y2 z0 z1 z2
  go_wp2_with fail
  refine bodyPost_ret (results_tmp2 rfl _ _ _) rfl ?_
  exact ⟨rfl, HZ.out⟩
set_option maxRecDepth 100000 in
set_option maxHeartbeats 8000000 in
theorem oVerify1_any (q : List Int) (qq : Nat → Prop) (C Bk : Option Addr) (cC dk : Nat) (i j : Nat) (ts us : List Lfc.Raw) (L R A0 : Option Addr) (cl cr c0 : Nat) (ks : List Int) (w : World) (hks : ks.length ≤ 1000000) (hA0 : IntsO w A0 ks)
  (hn : ts.length ≤ 1000) (hm : us.length ≤ 1000) (hi : i < ts.length) (hj : j < us.length) (hst : ∀ t ∈ ts ++ us, t.size ≤ 1000000) (hL : L = none → ts.length = 0 ∧ cl = 0) (hR : R = none → us.length = 0 ∧ cr = 0) (hts : TreesAt w L ts) (hus : TreesAt w R us) (hck : Lfc.chkE (ts ++ us) = 0) (hql : q.length ≤ 1000000) (hq : q.length ≠ 0) (hl : LinksP qq w C [⟨1, us[j], q, 0⟩]) (hfit : Lfc.Raw.fits ks ts[i] us[j] q = true) (hsm : Lfc.Raw.tsm us[j] us[j] = true) (huk : ∀ k n p ts, us[j] = .node k n p ts → k ≠ 0) :
  Calls Tryz.prog 14 #[.slice none 0 0, .int .i64 1, .agg #[.int .i64 1, .int .i64 (i : Int), .slice none 0 0], .slice L ts.length cl, .agg #[.int .i64 1, .int .i64 (j : Int), .slice none 0 0], .slice R us.length cr, .slice A0 ks.length c0, .agg #[.int .i64 0, .slice none 0 0, .slice C 1 cC, .slice Bk 0 dk]] w fun e w' => e = .returned (.bool true) ∧ Below w.heap.size w w' := by
 have hsi := hst ts[i] (List.mem_append_left _ (List.getElem_mem _))
 have hsj := hst us[j] (List.mem_append_right _ (List.getElem_mem _))
 obtain ⟨w1, hw1⟩ : ∃ w1, w.alloc (.cells #[.int .i64 1, .int .i64 (i : Int), .slice none 0 0] 26) = w1 := ⟨_, rfl⟩
 obtain ⟨w2, hw2⟩ : ∃ w2, w1.alloc (.cells #[.int .i64 1, .int .i64 (j : Int), .slice none 0 0] 26) = w2 := ⟨_, rfl⟩
 obtain ⟨w3, hw3⟩ : ∃ w3, w2.alloc (.cells #[.int .i64 0, .slice none 0 0, .slice C 1 cC, .slice Bk 0 dk] 39) = w3 := ⟨_, rfl⟩
 have b1 : Below w.heap.size w w1 := by rw [← hw1]; exact (Below.refl _ _).alloc (Nat.le_refl _) _
 have b2 : Below w1.heap.size w1 w2 := by rw [← hw2]; exact (Below.refl _ _).alloc (Nat.le_refl _) _
 have q1 : w1.heap[w.heap.size]? = some (.cells #[.int .i64 1, .int .i64 (i : Int), .slice none 0 0] 26 (0, 0)) := by rw [← hw1]; exact heap_alloc_new _ _
 have q2 : w2.heap[w1.heap.size]? = some (.cells #[.int .i64 1, .int .i64 (j : Int), .slice none 0 0] 26 (0, 0)) := by rw [← hw2]; exact heap_alloc_new _ _
 have b3 : Below w2.heap.size w2 w3 := by rw [← hw3]; exact (Below.refl _ _).alloc (Nat.le_refl _) _
 have q3 : w3.heap[w2.heap.size]? = some (.cells #[.int .i64 0, .slice none 0 0, .slice C 1 cC, .slice Bk 0 dk] 39 (0, 0)) := by rw [← hw3]; exact heap_alloc_new _ _
 have e1 := lt_of_block q1
 have e2 := lt_of_block q2
 have e3 := lt_of_block q3
 have b03 : Below w.heap.size w w3 := (b1.trans (b2.mono (by omega))).trans (b3.mono (by omega))
 have Q1 := Lib.hid ((b3.block _ (by omega)).trans ((b2.block _ e1).trans q1))
 have Q2 := Lib.hid ((b3.block _ e2).trans q2)
 have Q3 := Lib.hid q3
 have B03 := Lib.hid b03
 have s03 : w.heap.size ≤ w3.heap.size := by omega
 obtain ⟨y0, y1, y2⟩ := cells3o Q1.out
 obtain ⟨z0, z1, z2⟩ := cells3o Q2.out
 have CK := Lib.hid (oCheck0_any (.node 1 (i : Int) []) (.node 1 (j : Int) []) _ _ ts us L R cl cr w3 (by rw [Lfc.Ord.size, Lfc.Ord.sizes]; omega) (by rw [Lfc.Ord.size, Lfc.Ord.sizes]; omega) (ord_arg w3 (i : Int)) (ord_arg w3 (j : Int)) (Lfc.vld_arg hi) (Lfc.vld_arg hj) (Lfc.shp_arg _ _) hn hm hst hL hR (hts.below b03) (hus.below b03))
 rw [hck] at CK
 have CA := Lib.hid (fun (W : World) (Bx : Nat) (hW : Below w3.heap.size w3 W) (hP : ProvO W Bx none A0 L R 0 0 ks c0 ts us cl cr) => oArgVerify1_any q qq C Bk cC dk Bx none A0 L R 0 ks c0 ts us cl cr i j W hks hP hi hj hsi hsj (by omega) (by omega) hql hq (hl.below (b03.trans (hW.mono s03))) hfit hsm huk)
 have HKS := Lib.hid hA0
 have HTS := Lib.hid hts
 have HUS := Lib.hid hus
 obtain ⟨n, hnn⟩ : ∃ n, ts.length = n := ⟨_, rfl⟩
 obtain ⟨m, hmm⟩ : ∃ m, us.length = m := ⟨_, rfl⟩
 have HNM := Lib.hid (And.intro hnn hmm)
 rw [hnn] at CK ⊢
 rw [hmm] at CK ⊢
 clear hsi hsj hst hL hR hts hus hA0 b1 b2 b3 q1 q2 q3 b03 hnn hmm hi hj hn hm hck hq hl hfit hsm huk
 have hme : ∀ (k : Nat) (w : World), (method (k + 1) 123 (.agg #[.int .i64 (i : Int), .int .i64 (j : Int)]) "lfcheck/order.verify").run Tryz.prog w = .ok (159, .agg #[.int .i64 (i : Int), .int .i64 (j : Int)]) w := fun _ _ => by rfl
 go_enter Tryz.func14, Tryz.ntmps14
 go_wp2_with fail
 refine CK.out.mono ?_
 rintro e w4 ⟨rfl, b4⟩
 clear hw1 hw2 hw3 CK y0 y1 y2 z0 z1 z2
 obtain ⟨w6, hw6⟩ : ∃ w6, w4.alloc (.cells #[.slice none 0 0, .slice A0 ks.length c0, .slice L n cl, .slice R m cr, .map none] 85) = w6 := ⟨_, rfl⟩
 have b6 : Below w4.heap.size w4 w6 := by rw [← hw6]; exact (Below.refl _ _).alloc (Nat.le_refl _) _
 have q6 : w6.heap[w4.heap.size]? = some (.cells #[.slice none 0 0, .slice A0 ks.length c0, .slice L n cl, .slice R m cr, .map none] 85 (0, 0)) := by rw [← hw6]; exact heap_alloc_new _ _
 have b36 : Below w3.heap.size w3 w6 := b4.trans (b6.mono b4.size)
 have hP6 : Hid (ProvO w6 w4.heap.size none A0 L R 0 0 ks c0 ts us cl cr) := Lib.hid (by
  have b06 := B03.out.trans (b36.mono s03)
  refine ⟨lt_of_block q6, Lib.cell_of_heap q6 0, Lib.cell_of_heap q6 1, ?_, ?_, HKS.out.below b06, HTS.out.below b06, HUS.out.below b06⟩
  ·rw [HNM.out.1]; exact Lib.cell_of_heap q6 2
  ·rw [HNM.out.2]; exact Lib.cell_of_heap q6 3)
 have B36 := Lib.hid b36
 have s6 := b36.size
 have SC : Hid (∀ W, Below w6.heap.size w6 W → (W.cell? ⟨w.heap.size, 0, none⟩ = some (.int .i64 1) ∧ W.cell? ⟨w.heap.size, 1, none⟩ = some (.int .i64 (i : Int)) ∧ W.cell? ⟨w.heap.size, 2, none⟩ = some (.slice none 0 0)) ∧ (W.cell? ⟨w1.heap.size, 0, none⟩ = some (.int .i64 1) ∧ W.cell? ⟨w1.heap.size, 1, none⟩ = some (.int .i64 (j : Int)) ∧ W.cell? ⟨w1.heap.size, 2, none⟩ = some (.slice none 0 0)) ∧ (W.cell? ⟨w2.heap.size, 0, none⟩ = some (.int .i64 0) ∧ W.cell? ⟨w2.heap.size, 1, none⟩ = some (.slice none 0 0) ∧ W.cell? ⟨w2.heap.size, 2, none⟩ = some (.slice C 1 cC) ∧ W.cell? ⟨w2.heap.size, 3, none⟩ = some (.slice Bk 0 dk))) := Lib.hid (fun W hW => by
  have hw := b36.trans (hW.mono s6)
  exact ⟨cells3o ((hw.block _ (by omega)).trans Q1.out), cells3o ((hw.block _ (by omega)).trans Q2.out), cells4t ((hw.block _ e3).trans Q3.out)⟩)
 have CB := Lib.hid (fun W => oBothArg_any (i : Int) (j : Int) W)
 have CV := Lib.hid (fun W (hW : Below w6.heap.size w6 W) => CA.out W w4.heap.size (b36.trans (hW.mono s6)) (hP6.out.below hW))
 have G0 : Below w6.heap.size w6 w6.drew := (Below.refl _ _).drew
 have aa : ∀ W W', Below w6.heap.size w6 W → Below W.heap.size W W' → Below w6.heap.size w6 W' := fun W W' h h' => h.trans (h'.mono h.size)
 obtain ⟨v0, v1, v2⟩ := SC.out _ (Below.refl _ _)
 have HW6 := Lib.hid hw6
 clear b4 b6 q6 b36 CA
 go_upto_region 4 with fail
 clear hw6 v0 v1 v2
 go_region_held3 (fun W => (W.cell? ⟨w.heap.size, 0, none⟩ = some (.int .i64 1) ∧ W.cell? ⟨w.heap.size, 1, none⟩ = some (.int .i64 (i : Int)) ∧ W.cell? ⟨w.heap.size, 2, none⟩ = some (.slice none 0 0)) ∧ (W.cell? ⟨w1.heap.size, 0, none⟩ = some (.int .i64 1) ∧ W.cell? ⟨w1.heap.size, 1, none⟩ = some (.int .i64 (j : Int)) ∧ W.cell? ⟨w1.heap.size, 2, none⟩ = some (.slice none 0 0)) ∧ (W.cell? ⟨w2.heap.size, 0, none⟩ = some (.int .i64 0) ∧ W.cell? ⟨w2.heap.size, 1, none⟩ = some (.slice none 0 0) ∧ W.cell? ⟨w2.heap.size, 2, none⟩ = some (.slice C 1 cC) ∧ W.cell? ⟨w2.heap.size, 3, none⟩ = some (.slice Bk 0 dk)))
  (first | exact SC.out _ G0 | (refine SC.out _ ?_; assumption))
  (first
   | (go_at_call 36; ((with_reducible refine (CB.out _).mono ?_)); rintro e w7 ⟨rfl, b7'⟩; have b7 := aa _ _ (by assumption) b7')
   | (go_at_call 159; ((with_reducible refine (CV.out _ ?_).mono ?_)); assumption; rintro e w8 ⟨rfl, b8'⟩; have b8 := aa _ _ (by assumption) b8'))
 all_goals
  have HZ := Lib.hid (B03.out.trans ((B36.out.trans (b8.mono s6)).mono s03))
  go_wp2_with fail
  go_ret
  exact ⟨rfl, HZ.out⟩
end Go.Proofs.YtadjpadieljjlaaGreat
namespace Go.Proofs.YtadjpadieljjlaaGreat
open Go.RowKit Go.Maps
attribute [local go_sem ↓] Go.wp_at_zero Go.wp_at_succ
theorem cells6d {W : World} {g : Nat} {v0 v1 v2 v3 v4 v5 : Value} {t : TypeId} (h : W.heap[g]? = some (.cells #[v0, v1, v2, v3, v4, v5] t (0, 0))) : W.cell? ⟨g, 0, none⟩ = some v0 ∧ W.cell? ⟨g, 1, none⟩ = some v1 ∧ W.cell? ⟨g, 2, none⟩ = some v2 ∧ W.cell? ⟨g, 3, none⟩ = some v3 ∧ W.cell? ⟨g, 4, none⟩ = some v4 ∧ W.cell? ⟨g, 5, none⟩ = some v5 :=
 ⟨Lib.cell_of_heap h 0, Lib.cell_of_heap h 1, Lib.cell_of_heap h 2, Lib.cell_of_heap h 3, Lib.cell_of_heap h 4, Lib.cell_of_heap h 5⟩
def ExpAns (w : World) (o : Lfc.Ord) (m : Lfc.Ord) (im k : Int) (e : Ending) (w' : World) : Prop :=
 (∃ v', e = .returned (.tuple #[v', .int .i64 (o.expE im k)]) ∧ OrdVP (fun b => w.heap.size ≤ b) w' (if o.expE im k = 0 then m else .node 0 0 []) v') ∧ Below w.heap.size w w'
theorem expE_small {o : Lfc.Ord} {im k : Int} (h : 64 < o.size ∨ o.form = false) : o.expE im k = 92 := by rw [Lfc.Ord.expE, if_pos h]
theorem expE_range {o : Lfc.Ord} {im k : Int} (h : ¬ (64 < o.size ∨ o.form = false)) (h2 : im < 0 ∨ k < im ∨ o.rng 1 (k - im) = false) : o.expE im k = 5 := by rw [Lfc.Ord.expE, if_neg h, if_pos h2]
theorem expE_ok {o : Lfc.Ord} {im k : Int} (h : ¬ (64 < o.size ∨ o.form = false)) (h2 : ¬ (im < 0 ∨ k < im ∨ o.rng 1 (k - im) = false)) : o.expE im k = 0 := by rw [Lfc.Ord.expE, if_neg h, if_neg h2]
theorem exp_zero {q : Nat → Prop} {w : World} : OrdVP q w (.node 0 0 []) (.agg #[.int .i64 0, .int .i64 0, .slice none 0 0]) :=
 OrdVP.mk (ts := []) (Nat.zero_le _) (fun h => absurd rfl h)
theorem exp_err {w w3 w5 s3 : World} {R : Nat} {o m : Lfc.Ord} {im k E : Int} (he : o.expE im k = E) (hE : E ≠ 0) (b3 : Below w.heap.size w w3) (b5 : Below w3.heap.size w3 w5) (ho : Oth R w5 s3) (hR : w.heap.size ≤ R) (hs : w.heap.size ≤ w3.heap.size) : ExpAns w o m im k (.returned (.tuple #[.agg #[.int .i64 0, .int .i64 0, .slice none 0 0], .int .i64 E])) s3 := by
 refine ⟨⟨_, by rw [he], ?_⟩, Oth.below (b3.trans (b5.mono hs)) ho hR (Nat.le_trans hs b5.size)⟩
 rw [if_neg (by rw [he]; exact hE)]
 exact exp_zero
set_option maxRecDepth 100000 in
set_option maxHeartbeats 8000000 in
theorem oExplicit_any (o : Lfc.Ord) (vo : Value) (k : Nat) (im : Int) (nm : List UInt8) (kd p : Int) (n : List UInt8) (A : Option Addr) (l c : Nat) (w : World) (hsz : o.size ≤ 1000000) (hmod : o.mod 1000 = true) (hk : k ≤ 100) (hi0 : -10 ≤ im) (hi1 : im ≤ 10) (hv : OrdV w o vo) (ht : TreeV w (Lfc.piCh k) (.agg #[.int .i64 kd, S n, .int .i64 p, .slice A l c])) :
  Calls Tryz.prog 31 #[.agg #[S nm, .int .i64 kd, S n, .int .i64 p, .slice A l c, .int .i64 im], vo] w (ExpAns w o (o.mv (im - 1)) im k) := by
 obtain ⟨A0, c0, ko, ao, ts, hT, rfl⟩ : ∃ A c kd ar ts, o = .node kd ar ts ∧ vo = .agg #[.int .i64 kd, .int .i64 ar, .slice A (List.length ts) c] := by
  obtain ⟨kd, ar, ts⟩ := o
  obtain ⟨A, c, rfl, hc, hA⟩ := hv.open_
  exact ⟨A, c, kd, ar, ts, rfl, rfl⟩
 obtain ⟨lo, hlo⟩ : ∃ lo, ts.length = lo := ⟨_, rfl⟩
 rw [hlo] at hv ⊢
 obtain ⟨w1, hw1⟩ : ∃ w1, w.alloc (.cells #[S nm, .int .i64 kd, S n, .int .i64 p, .slice A l c, .int .i64 im] 75) = w1 := ⟨_, rfl⟩
 obtain ⟨w2, hw2⟩ : ∃ w2, w1.alloc (.cells #[.int .i64 ko, .int .i64 ao, .slice A0 lo c0] 26) = w2 := ⟨_, rfl⟩
 obtain ⟨w3, hw3⟩ : ∃ w3, w2.alloc (.cells #[.int .i64 0, .int .i64 0, .slice none 0 0] 26) = w3 := ⟨_, rfl⟩
 have b1 : Below w.heap.size w w1 := by rw [← hw1]; exact (Below.refl _ _).alloc (Nat.le_refl _) _
 have b2 : Below w1.heap.size w1 w2 := by rw [← hw2]; exact (Below.refl _ _).alloc (Nat.le_refl _) _
 have b3 : Below w2.heap.size w2 w3 := by rw [← hw3]; exact (Below.refl _ _).alloc (Nat.le_refl _) _
 have q1 : w1.heap[w.heap.size]? = some (.cells #[S nm, .int .i64 kd, S n, .int .i64 p, .slice A l c, .int .i64 im] 75 (0, 0)) := by rw [← hw1]; exact heap_alloc_new _ _
 have q2 : w2.heap[w1.heap.size]? = some (.cells #[.int .i64 ko, .int .i64 ao, .slice A0 lo c0] 26 (0, 0)) := by rw [← hw2]; exact heap_alloc_new _ _
 have q3 : w3.heap[w2.heap.size]? = some (.cells #[.int .i64 0, .int .i64 0, .slice none 0 0] 26 (0, 0)) := by rw [← hw3]; exact heap_alloc_new _ _
 have l1 := lt_of_block q1
 have l2 := lt_of_block q2
 have l3 := lt_of_block q3
 have Q1 := Lib.hid ((b3.block _ (by omega)).trans ((b2.block _ l1).trans q1))
 have Q2 := Lib.hid ((b3.block _ l2).trans q2)
 have Q3 := Lib.hid q3
 have hb03 : Below w.heap.size w w3 := (b1.trans (b2.mono (by omega))).trans (b3.mono (by omega))
 have B03 := Lib.hid hb03
 have HV := Lib.hid (hv.below hb03)
 have HT := Lib.hid (ht.below hb03)
 have hs3 : w.heap.size ≤ w3.heap.size := by omega
 have hw4 : IntKind.i64.wrap ((k : Int) - im) = (k : Int) - im := IntWalk.i64_in _ (by omega)
 have hw5 : IntKind.i64.wrap (im - 1) = im - 1 := IntWalk.i64_in _ (by omega)
 obtain ⟨y0, y1, y2⟩ := cells3o Q2.out
 have HO := Lib.hid hT
 have C1 := Lib.hid (oSmall_any o _ w3 hsz HV.out)
 have HSM : Hid ((64 < o.size ∨ o.form = false) ↔ (decide (o.size ≤ 64) && o.form) = false) := Lib.hid (by
  rw [Bool.and_eq_false_iff, decide_eq_false_iff_not]
  constructor
  ·rintro (h | h)
   ·exact .inl (by omega)
   ·exact .inr h
  ·rintro (h | h)
   ·exact .inl (by omega)
   ·exact .inr h)
 clear hT hlo hv ht q1 q2 q3 b1 b2 b3 hb03
 obtain ⟨f, hf⟩ : ∃ f, (decide (o.size ≤ 64) && o.form) = f := ⟨_, rfl⟩
 rw [hf] at C1 HSM
 clear hf
 cases f
 ·have HE := Lib.hid (expE_small (im := im) (k := (k : Int)) (HSM.out.2 rfl))
  clear HSM
  go_enter Tryz.func31, Tryz.ntmps31
  go_wp2_with fail
  refine C1.out.mono ?_
  rintro e w4 ⟨rfl, hb4⟩
  clear y0 y1 y2
  obtain ⟨s1, s2, s3, g1, g2, g3, ⟨p0, p1, p2⟩, ⟨f0, f1, f2⟩, hq, hot⟩ := oput3 ((hb4.block _ l3).trans Q3.out) (.int .i64 0) (.int .i64 0) (.slice none 0 0)
  have HQ := Lib.hid hq
  have HZ := Lib.hid (exp_err (m := o.mv (im - 1)) HE.out (by decide) B03.out hb4 hot (by omega) hs3)
  clear hq hot
  go_wp2_with fail
  refine bodyPost_ret (results_ord2 rfl _ _ _ _ _ _ rfl HQ.out) rfl ?_
  exact HZ.out
 ·have HS : Hid (¬ (64 < o.size ∨ o.form = false)) := Lib.hid (fun h => by have := HSM.out.1 h; cases this)
  clear HSM
  go_enter Tryz.func31, Tryz.ntmps31
  go_wp2_with fail
  refine C1.out.mono ?_
  rintro e w4 ⟨rfl, hb4⟩
  clear y0 y1 y2
  have hsW := hb4.size
  obtain ⟨x0, x1, x2, x3, x4, x5⟩ := cells6d ((hb4.block _ (by omega)).trans Q1.out)
  have CP := Lib.hid (oParams_any k (by omega) _ w4 (HT.out.below hb4))
  go_wp2_with fail
  refine CP.out.mono ?_
  rintro e wp ⟨rfl, hbp'⟩
  have hbp := hb4.trans (hbp'.mono hb4.size)
  clear x0 x1 x2 x3 x4 x5 CP hbp'
  have hsp := hbp.size
  obtain ⟨x0, x1, x2, x3, x4, x5⟩ := cells6d ((hbp.block _ (by omega)).trans Q1.out)
  obtain ⟨y0, y1, y2⟩ := cells3o ((hbp.block _ (by omega)).trans Q2.out)
  by_cases hi2 : im < 0
  ·have HE := Lib.hid (expE_range (o := o) (im := im) (k := (k : Int)) HS.out (.inl hi2))
   have hd1 : decide (im < 0) = true := by rw [decide_eq_true_eq]; exact hi2
   obtain ⟨s1, s2, s3, g1, g2, g3, ⟨p0, p1, p2⟩, ⟨f0, f1, f2⟩, hq, hot⟩ := oput3 ((hbp.block _ l3).trans Q3.out) (.int .i64 0) (.int .i64 0) (.slice none 0 0)
   have HQ := Lib.hid hq
   have HZ := Lib.hid (exp_err (m := o.mv (im - 1)) HE.out (by decide) B03.out hbp hot (by omega) hs3)
   clear hq hot
   go_wp2_with fail
   refine bodyPost_ret (results_ord2 rfl _ _ _ _ _ _ rfl HQ.out) rfl ?_
   exact HZ.out
  ·have hd1 : decide (im < 0) = false := by rw [decide_eq_false_iff_not]; exact hi2
   by_cases hi3 : (k : Int) < im
   ·have HE := Lib.hid (expE_range (o := o) (im := im) (k := (k : Int)) HS.out (.inr (.inl hi3)))
    have hd2 : decide ((k : Int) < im) = true := by rw [decide_eq_true_eq]; exact hi3
    have hd3 : decide (im > (k : Int)) = true := by rw [decide_eq_true_eq]; exact hi3
    obtain ⟨s1, s2, s3, g1, g2, g3, ⟨p0, p1, p2⟩, ⟨f0, f1, f2⟩, hq, hot⟩ := oput3 ((hbp.block _ l3).trans Q3.out) (.int .i64 0) (.int .i64 0) (.slice none 0 0)
    have HQ := Lib.hid hq
    have HZ := Lib.hid (exp_err (m := o.mv (im - 1)) HE.out (by decide) B03.out hbp hot (by omega) hs3)
    clear hq hot
    go_wp2_with fail
    refine bodyPost_ret (results_ord2 rfl _ _ _ _ _ _ rfl HQ.out) rfl ?_
    exact HZ.out
   ·have hd2 : decide ((k : Int) < im) = false := by rw [decide_eq_false_iff_not]; exact hi3
    have hd3 : decide (im > (k : Int)) = false := by rw [decide_eq_false_iff_not]; exact hi3
    have CR := Lib.hid (oArgs_upto 1 ((k : Int) - im) _ hsz o _ wp (Nat.le_refl _) (HV.out.below hbp))
    have HE0 : Hid (o.rng 1 ((k : Int) - im) = false → o.expE im k = 5) := Lib.hid (fun h => expE_range HS.out (.inr (.inr h)))
    have HE1 : Hid (o.rng 1 ((k : Int) - im) = true → o.expE im k = 0) := Lib.hid (fun h => expE_ok HS.out (by rintro (h1 | h1 | h1); exact hi2 h1; exact hi3 h1; rw [h] at h1; cases h1))
    obtain ⟨r, hr⟩ : ∃ r, o.rng 1 ((k : Int) - im) = r := ⟨_, rfl⟩
    rw [hr] at CR HE0 HE1
    clear hr
    go_wp2_with fail
    refine CR.out.mono ?_
    rintro e wq ⟨rfl, hbq'⟩
    have hbq := hbp.trans (hbq'.mono hbp.size)
    clear x0 x1 x2 x3 x4 x5 y0 y1 y2 CR hbq'
    have hsq := hbq.size
    cases r
    ·have HE := Lib.hid (HE0.out rfl)
     obtain ⟨s1, s2, s3, g1, g2, g3, ⟨p0, p1, p2⟩, ⟨f0, f1, f2⟩, hq, hot⟩ := oput3 ((hbq.block _ l3).trans Q3.out) (.int .i64 0) (.int .i64 0) (.slice none 0 0)
     have HQ := Lib.hid hq
     have HZ := Lib.hid (exp_err (m := o.mv (im - 1)) HE.out (by decide) B03.out hbq hot (by omega) hs3)
     clear hq hot
     go_wp2_with fail
     refine bodyPost_ret (results_ord2 rfl _ _ _ _ _ _ rfl HQ.out) rfl ?_
     exact HZ.out
    ·have HE := Lib.hid (HE1.out rfl)
     obtain ⟨x0, x1, x2, x3, x4, x5⟩ := cells6d ((hbq.block _ (by omega)).trans Q1.out)
     obtain ⟨y0, y1, y2⟩ := cells3o ((hbq.block _ (by omega)).trans Q2.out)
     have CM := Lib.hid (oMoved_upto (im - 1) (by omega) (by omega) _ hsz o _ wq (Nat.le_refl _) hmod (HV.out.below hbq))
     obtain ⟨km, am, tm, htm⟩ := ord_node (o.mv (im - 1))
     rw [htm] at CM
     have HTM := Lib.hid htm
     clear htm
     go_wp2_with fail
     refine CM.out.mono ?_
     rintro e wm ⟨⟨v', rfl, hvm⟩, hbm'⟩
     obtain ⟨Am, cm, rfl, hpm⟩ := hvm.open_
     have hbm := hbq.trans (hbm'.mono hbq.size)
     obtain ⟨s1, s2, s3, g1, g2, g3, ⟨p0, p1, p2⟩, ⟨f0, f1, f2⟩, hq, hot⟩ := oput3 ((hbm.block _ l3).trans Q3.out) (.int .i64 km) (.int .i64 am) (.slice Am tm.length cm)
     have HQ := Lib.hid hq
     have HZ : Hid (OrdVP (fun b => w.heap.size ≤ b) s3 (.node km am tm) (.agg #[.int .i64 km, .int .i64 am, .slice Am tm.length cm])) := Lib.hid (by
      refine hvm.keep (fun b hb hlt => hot.block b hlt (fun e => ?_)) hot.size (fun b _ hb => ?_)
      ·have hb : wq.heap.size ≤ b := hb
       have := Option.some.inj e
       omega
      ·have hb : wq.heap.size ≤ b := hb
       show w.heap.size ≤ b
       omega)
     have HBZ : Hid (Below w.heap.size w s3) := Lib.hid (Oth.below (B03.out.trans (hbm.mono hs3)) hot (by omega) (Nat.le_trans hs3 hbm.size))
     clear hq hot hpm hvm hbm hbm' CM
     go_wp2_with fail
     refine bodyPost_ret (results_ord2 rfl _ _ _ _ _ _ rfl HQ.out) rfl ?_
     refine ⟨⟨_, by rw [HE.out]; rfl, ?_⟩, HBZ.out⟩
     rw [if_pos HE.out, HTM.out]
     exact HZ.out
end Go.Proofs.YtadjpadieljjlaaGreat
namespace Lfc
def awX : Raw := .node 5 [] 0 []
def awS : Raw := .node 4 [115] 0 [awX]
theorem aw_path : Raw.path [1] awX awS = some [0] := by decide
theorem aw_up : Raw.up [1] awX awS = (2, [⟨1, awS, [0], 0⟩]) := by rw [Raw.up, aw_path]; rfl
theorem aw_no : Raw.path [1] awS awX = none := by decide
theorem aw_up2 : Raw.up [1] awS awX = (0, []) := by rw [Raw.up, aw_no]; rfl
theorem aw_chk : chkE ([awX] ++ [awS]) = 0 := by decide
theorem aw_chk2 : chkE ([awS] ++ [awX]) = 0 := by decide
theorem aw_fits : Raw.fits [1] awX awS [0] = true := by decide
theorem aw_fits2 : Raw.fits [1] awX awS [] = false := by decide
theorem aw_same : Raw.tsm awS awS = true := by decide
end Lfc
namespace Go.Proofs.YtadjpadieljjlaaGreat
open Go.RowKit Go.Maps
theorem treesAt_new {w : World} {g : Nat} {k p : Int} {n : List UInt8} {ts : List Lfc.Raw} {A : Option Addr} {c : Nat} (h : w.heap[g]? = some (.cells #[.int .i64 k, S n, .int .i64 p, .slice A ts.length c] 51 (0, 0))) (ht : TreeV w (.node k n p ts) (.agg #[.int .i64 k, S n, .int .i64 p, .slice A ts.length c])) : TreesAt w (some ⟨g, 0, none⟩) [.node k n p ts] := fun _ => by
 obtain ⟨v0, v1, v2, v3, e, htc⟩ := ht
 cases e
 refine ⟨g, 0, rfl, lt_of_block h, ?_⟩
 rw [TreesO, TreesO]
 exact ⟨⟨_, _, _, _, Lib.cell_of_heap h 0, Lib.cell_of_heap h 1, Lib.cell_of_heap h 2, Lib.cell_of_heap h 3, htc⟩, trivial⟩
theorem awx_v (w : World) : TreeV w Lfc.awX (.agg #[.int .i64 5, S [], .int .i64 0, .slice none 0 0]) := TreeV.mk (ts := []) (by simp) (Nat.le_refl _) (fun h => absurd rfl h)
theorem aws_v {w : World} {g : Nat} (h : w.heap[g]? = some (.cells #[.int .i64 5, S [], .int .i64 0, .slice none 0 0] 51 (0, 0))) : TreeV w Lfc.awS (.agg #[.int .i64 4, S [115], .int .i64 0, .slice (some ⟨g, 0, none⟩) 1 1]) :=
 TreeV.mk (ts := [Lfc.awX]) (by simp) (Nat.le_refl _) (treesAt_new (ts := []) h (awx_v w))
theorem ints_one {w : World} {g : Nat} {x : Int} (h : w.heap[g]? = some (.cells #[.int .i64 x] 3 (0, 0))) : IntsO w (some ⟨g, 0, none⟩) [x] := fun _ => by
 refine ⟨g, 0, rfl, lt_of_block h, fun k hk => ?_⟩
 have hk1 : k < 1 := hk
 obtain rfl : k = 0 := by omega
 exact Lib.cell_of_heap h 0
theorem holds_two (t u : Lfc.Raw) (g h : Nat) (vt vu : Value) (A0 : Option Addr) (w : World) (hA0 : IntsO w A0 [1]) (ht : t.size ≤ 1000) (hu : u.size ≤ 1000) (hg : TreesAt w (some ⟨g, 0, none⟩) [t]) (hh : TreesAt w (some ⟨h, 0, none⟩) [u]) :
  Calls Tryz.prog 16 #[.slice none 0 0, .int .i64 1, .agg #[.int .i64 1, .int .i64 0, .slice none 0 0], .slice (some ⟨g, 0, none⟩) 1 1, .agg #[.int .i64 1, .int .i64 0, .slice none 0 0], .slice (some ⟨h, 0, none⟩) 1 1, .slice A0 1 1] w fun e w' => e = .returned (.tuple #[.bool (Lfc.prv0 [1] ([t] ++ [u]) t u).isSome, .int .i64 (Lfc.chkE ([t] ++ [u]))]) ∧ Below w.heap.size w w' :=
 oHolds1_any 0 0 [t] [u] (some ⟨g, 0, none⟩) (some ⟨h, 0, none⟩) A0 1 1 1 [1] w (by simp) hA0 (by simp) (by simp) (by simp) (by simp) (by intro x hx; simp at hx; rcases hx with rfl | rfl <;> omega) (fun h => by cases h) (fun h => by cases h) hg hh
theorem aw_prv : Lfc.prv0 [1] ([Lfc.awX] ++ [Lfc.awS]) Lfc.awX Lfc.awS = some [⟨1, Lfc.awS, [0], 0⟩] := by
 rw [Lfc.prv0, if_pos Lfc.aw_chk, Lfc.chain0, Lfc.aw_up]; rfl
theorem aw_prv2 : Lfc.prv0 [1] ([Lfc.awS] ++ [Lfc.awX]) Lfc.awS Lfc.awX = none := by
 rw [Lfc.prv0, if_pos Lfc.aw_chk2, Lfc.chain0, Lfc.aw_up2]; rfl
theorem aw_h1 (g h : Nat) (A0 : Option Addr) (w : World) (hA0 : IntsO w A0 [1]) (hg : TreesAt w (some ⟨g, 0, none⟩) [Lfc.awX]) (hh : TreesAt w (some ⟨h, 0, none⟩) [Lfc.awS]) :
  Calls Tryz.prog 16 #[.slice none 0 0, .int .i64 1, .agg #[.int .i64 1, .int .i64 0, .slice none 0 0], .slice (some ⟨g, 0, none⟩) 1 1, .agg #[.int .i64 1, .int .i64 0, .slice none 0 0], .slice (some ⟨h, 0, none⟩) 1 1, .slice A0 1 1] w fun e w' => e = .returned (.tuple #[.bool true, .int .i64 0]) ∧ Below w.heap.size w w' := by
 have := holds_two Lfc.awX Lfc.awS g h (.bool true) (.bool true) A0 w hA0 (by decide) (by decide) hg hh
 rwa [aw_prv, Lfc.aw_chk] at this
theorem aw_h2 (g h : Nat) (A0 : Option Addr) (w : World) (hA0 : IntsO w A0 [1]) (hg : TreesAt w (some ⟨g, 0, none⟩) [Lfc.awS]) (hh : TreesAt w (some ⟨h, 0, none⟩) [Lfc.awX]) :
  Calls Tryz.prog 16 #[.slice none 0 0, .int .i64 1, .agg #[.int .i64 1, .int .i64 0, .slice none 0 0], .slice (some ⟨g, 0, none⟩) 1 1, .agg #[.int .i64 1, .int .i64 0, .slice none 0 0], .slice (some ⟨h, 0, none⟩) 1 1, .slice A0 1 1] w fun e w' => e = .returned (.tuple #[.bool false, .int .i64 0]) ∧ Below w.heap.size w w' := by
 have := holds_two Lfc.awS Lfc.awX g h (.bool true) (.bool true) A0 w hA0 (by decide) (by decide) hg hh
 rwa [aw_prv2, Lfc.aw_chk2] at this
theorem aw_p (g h : Nat) (A0 : Option Addr) (w : World) (hA0 : IntsO w A0 [1]) (hg : TreesAt w (some ⟨g, 0, none⟩) [Lfc.awX]) (hh : TreesAt w (some ⟨h, 0, none⟩) [Lfc.awS]) :
  Calls Tryz.prog 11 #[.slice none 0 0, .int .i64 1, .agg #[.int .i64 1, .int .i64 0, .slice none 0 0], .slice (some ⟨g, 0, none⟩) 1 1, .agg #[.int .i64 1, .int .i64 0, .slice none 0 0], .slice (some ⟨h, 0, none⟩) 1 1, .slice A0 1 1] w fun e w' => (∃ A c B d, e = .returned (.tuple #[.agg #[.int .i64 0, .slice none 0 0, .slice A 1 c, .slice B 0 d], .bool true]) ∧ LinksP (fun b => w.heap.size ≤ b) w' A [⟨1, Lfc.awS, [0], 0⟩]) ∧ Below w.heap.size w w' := by
 have := oProve1_any 0 0 [Lfc.awX] [Lfc.awS] (some ⟨g, 0, none⟩) (some ⟨h, 0, none⟩) A0 1 1 1 [1] w (by simp) hA0 (by simp) (by simp) (by simp) (by simp) (by intro x hx; simp at hx; rcases hx with rfl | rfl <;> decide) (fun h => by cases h) (fun h => by cases h) hg hh
 refine this.mono ?_
 rintro e w' ⟨⟨h1, _⟩ | ⟨l, A, c, B, d, h1, he, hc, hl⟩, hb⟩
 ·exact absurd (aw_prv.symm.trans h1) (by simp)
 ·cases (Option.some.inj (aw_prv.symm.trans h1))
  exact ⟨⟨A, c, B, d, he, hl⟩, hb⟩
theorem aw_v (qq : Nat → Prop) (C Bk : Option Addr) (cC dk g h : Nat) (A0 : Option Addr) (w : World) (hA0 : IntsO w A0 [1]) (hg : TreesAt w (some ⟨g, 0, none⟩) [Lfc.awX]) (hh : TreesAt w (some ⟨h, 0, none⟩) [Lfc.awS]) (hl : LinksP qq w C [⟨1, Lfc.awS, [0], 0⟩]) :
  Calls Tryz.prog 14 #[.slice none 0 0, .int .i64 1, .agg #[.int .i64 1, .int .i64 0, .slice none 0 0], .slice (some ⟨g, 0, none⟩) 1 1, .agg #[.int .i64 1, .int .i64 0, .slice none 0 0], .slice (some ⟨h, 0, none⟩) 1 1, .slice A0 1 1, .agg #[.int .i64 0, .slice none 0 0, .slice C 1 cC, .slice Bk 0 dk]] w fun e w' => e = .returned (.bool true) ∧ Below w.heap.size w w' :=
 oVerify1_any [0] qq C Bk cC dk 0 0 [Lfc.awX] [Lfc.awS] (some ⟨g, 0, none⟩) (some ⟨h, 0, none⟩) A0 1 1 1 [1] w (by simp) hA0 (by simp) (by simp) (by simp) (by simp) (by intro x hx; simp at hx; rcases hx with rfl | rfl <;> decide) (fun h => by cases h) (fun h => by cases h) hg hh Lfc.aw_chk (by simp) (by simp) hl Lfc.aw_fits Lfc.aw_same (fun k n p ts e => by cases e; decide)
theorem aw_path (A0 : Option Addr) (w : World) (v : Value) (hA0 : IntsO w A0 [1]) (hv : TreeV w Lfc.awS v) :
  Calls Tryz.prog 20 #[.agg #[.int .i64 5, S [], .int .i64 0, .slice none 0 0], v, .slice A0 1 1] w fun e w' => (∃ A c, e = .returned (.tuple #[.slice A 1 c, .bool true])) ∧ Below w.heap.size w w' := by
 refine (oPath_any Lfc.awX Lfc.awS _ v [1] A0 1 w (by simp) (by decide) (by decide) hA0 (awx_v w) hv).mono ?_
 intro e w' h
 rw [Lfc.aw_path] at h
 obtain ⟨⟨A, c, he, _⟩, hb⟩ := h.yes
 exact ⟨⟨A, c, he⟩, hb⟩
theorem aw_f (q : List Int) (r : Bool) (A0 A1 : Option Addr) (c1 : Nat) (w : World) (v : Value) (hq : q.length ≤ 10) (hr : Lfc.Raw.fits [1] Lfc.awX Lfc.awS q = r) (hA0 : IntsO w A0 [1]) (hA1 : IntsO w A1 q) (hv : TreeV w Lfc.awS v) :
  Calls Tryz.prog 32 #[.agg #[.int .i64 5, S [], .int .i64 0, .slice none 0 0], v, .slice A1 q.length c1, .slice A0 1 1] w fun e w' => e = .returned (.bool r) ∧ Below w.heap.size w w' := by
 have := oFits_any Lfc.awX Lfc.awS _ v q A1 c1 [1] A0 1 w (by omega) (by simp) (by decide) (by decide) hA1 hA0 (awx_v w) hv
 rwa [hr] at this
theorem aw_val (n : Int) (r : Int) (w : World) (hn : -5 ≤ n ∧ n ≤ 5) (hr : (Lfc.Ord.node 1 0 []).vld n = r) :
  Calls Tryz.prog 33 #[.agg #[.int .i64 1, .int .i64 0, .slice none 0 0], .int .i64 n] w fun e w' => e = .returned (.int .i64 r) ∧ Below w.heap.size w w' := by
 have := oValid_any (.node 1 0 []) _ n w (by rw [Lfc.Ord.size, Lfc.Ord.sizes]; omega) (by omega) (by omega) (ord_arg w 0)
 rwa [hr] at this
theorem aw_shp (A : Option Addr) (c : Nat) (w : World) (hv : OrdV w (.node 1 0 []) (.agg #[.int .i64 1, .int .i64 0, .slice A 0 c])) :
  Calls Tryz.prog 34 #[.agg #[.int .i64 1, .int .i64 0, .slice none 0 0], .agg #[.int .i64 1, .int .i64 0, .slice A 0 c]] w fun e w' => e = .returned (.bool true) ∧ Below w.heap.size w w' := by
 have := oShape_upto 10 (by omega) (.node 1 0 []) (.node 1 0 []) _ _ w (by rw [Lfc.Ord.size, Lfc.Ord.sizes]; omega) (ord_arg w 0) hv
 rwa [Lfc.shp_arg] at this
end Go.Proofs.YtadjpadieljjlaaGreat
