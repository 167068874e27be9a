/- Parts of the proof that no input makes the law false: OrChk, OrLinks, OrLinks2, OrCopied. -/
import Derived.Deep.RegionHeld3
import Derived.Test.YtadjpadieljjlaaGreatShelf
import Derived.Test.YtadjpadieljjlaaGreatTvAC
import Derived.Test.YtadjpadieljjlaaGreatTvAH
set_option linter.unusedVariables false
set_option linter.unusedSimpArgs false
namespace Lfc
def firstE : List Raw → Int
 | [] => 0
 | t :: r => if t.twf = 0 then firstE r else t.twf
def allO : List Raw → Bool
 | [] => true
 | t :: r => t.isO && allO r
theorem firstE_drop {l : List Raw} {k : Nat} (h : k < l.length) : firstE (l.drop k) = if l[k].twf = 0 then firstE (l.drop (k + 1)) else l[k].twf := by
 rw [List.drop_eq_getElem_cons h, firstE]
theorem allO_drop {l : List Raw} {k : Nat} (h : k < l.length) : allO (l.drop k) = (l[k].isO && allO (l.drop (k + 1))) := by
 rw [List.drop_eq_getElem_cons h, allO]
def chkE (l : List Raw) : Int := if firstE l = 0 then (if allO l then 0 else 32) else firstE l
end Lfc
namespace Go.Proofs.YtadjpadieljjlaaGreat
open Go.RowKit
theorem RowP.cell1 {q : Nat → Prop} {w : World} : ∀ {ts : List Lfc.Raw} {xs : List Value}, RowP q w ts xs → ∀ u ∈ xs, u.oneCell' = true
 | [], xs, h, u, hu => by rw [RowP] at h; subst h; cases hu
 | t :: r, xs, h, u, hu => by
  rw [RowP] at h
  obtain ⟨v0, v1, v2, v3, ys, rfl, ht, hr⟩ := h
  obtain ⟨k, n, p, ts⟩ := t
  rw [TreeP] at ht
  obtain ⟨rfl, rfl, _, rfl, A, c, rfl, _⟩ := ht
  simp only [List.mem_cons] at hu
  rcases hu with rfl | rfl | rfl | rfl | hu
  ·rfl
  ·rfl
  ·rfl
  ·rfl
  ·exact hr.cell1 u hu
theorem addr_add0 (b o j : Nat) : (⟨b, o, none⟩ : Addr).add j = ⟨b, o + j, none⟩ := by unfold Addr.add; split <;> simp_all
theorem treesAt_part {w : World} {A : Option Addr} {ts : List Lfc.Raw} (h : TreesAt w A ts) : ∃ xs, xs.length = ts.length * 4 ∧ RowP (fun b => b < w.heap.size) w ts xs ∧ (∀ a, A = some a → ∀ j u, xs[j]? = some u → w.cell? (a.add j) = some u) ∧ (∀ u ∈ xs, u.oneCell' = true) := by
 by_cases h0 : ts = []
 ·subst h0
  exact ⟨[], rfl, by rw [RowP], fun _ _ j u hj => by simp at hj, fun u hu => by cases hu⟩
 ·obtain ⟨b, o, rfl, hb, hts⟩ := h h0
  obtain ⟨xs, hx, hc⟩ := (TreesO.toP (q := fun b => b < w.heap.size) (fun _ h => h) ts b o hts).row
  refine ⟨xs, by rw [hx.len]; omega, hx, fun a ha j u hj => ?_, hx.cell1⟩
  cases ha
  rw [addr_add0]
  exact hc j u hj
theorem treesAt_own {q : Nat → Prop} {w : World} {base : Nat} {v : Value} {n : Nat} {xs : List Value} {ts : List Lfc.Raw} (h : w.ownsRow base 51 4 v n xs) (hr : RowP q w ts xs) : ∃ A c, v = .slice A ts.length c ∧ TreesAt w A ts := by
 have hl := hr.len
 have hn : n = ts.length := by have := h.1; omega
 subst hn
 rcases h.2 with ⟨rfl, h0⟩ | ⟨g, cap, cur, rfl, hb, hg, _⟩
 ·have : ts = [] := List.length_eq_zero_iff.1 h0
  subst this
  exact ⟨none, 0, rfl, fun h => absurd rfl h⟩
 ·refine ⟨some ⟨g, 0, none⟩, cap, rfl, fun _ => ⟨g, 0, rfl, lt_of_block hg, ?_⟩⟩
  exact TreesP.toC ts g 0 (hr.lie (own_cells h))
set_option maxRecDepth 100000 in
set_option maxHeartbeats 1000000 in
theorem idxFact_nil (fv : Value) (w : World) : Calls Tryz.prog 92 #[.slice none 0 0, fv] w fun e w' => e = .returned (.int .i64 (-1)) ∧ w' = w := by
 go_enter Tryz.func92, Tryz.ntmps92
 go_wp2_with fail
 go_loopw [8] (fun i wr => i = .int .i64 0 ∧ wr = w) (fun i _ => 0)
 case atStart => exact ⟨rfl, by simp⟩
 case round =>
  obtain ⟨rfl, hwx⟩ := hrel
  subst hwx
  go_wp2_with fail
  go_ret
  exact ⟨rfl, rfl⟩
set_option maxRecDepth 100000 in
set_option maxHeartbeats 1000000 in
theorem conFact_nil (fv : Value) (w : World) : Calls Tryz.prog 62 #[.slice none 0 0, fv] w fun e w' => e = .returned (.bool false) ∧ w' = w := by
 have C := Lib.hid (idxFact_nil fv w)
 go_enter Tryz.func62, Tryz.ntmps62
 go_wp2_with fail
 refine C.out.mono ?_
 rintro e w2 ⟨rfl, rfl⟩
 go_wp2_with fail
 go_ret
 exact ⟨rfl, rfl⟩
set_option maxRecDepth 100000 in
set_option maxHeartbeats 8000000 in
theorem oCheck0_any (o p : Lfc.Ord) (vo vp : Value) (ts us : List Lfc.Raw) (L R : Option Addr) (cl cr : Nat) (w : World) (hos : o.size ≤ 1000000) (hps : p.size ≤ 1000000) (hvo : OrdV w o vo) (hvp : OrdV w p vp) (ho : o.vld ts.length = 0) (hp : p.vld us.length = 0) (hsh : Lfc.Ord.shp o p = true)
  (hn : ts.length ≤ 1000) (hm : us.length ≤ 1000) (hst : ∀ t ∈ ts ++ us, t.size ≤ 1000000) (hL : L = none → ts.length = 0 ∧ cl = 0) (hR : R = none → us.length = 0 ∧ cr = 0) (hts : TreesAt w L ts) (hus : TreesAt w R us) :
  Calls Tryz.prog 35 #[.slice none 0 0, .int .i64 1, vo, .slice L ts.length cl, vp, .slice R us.length cr] w fun e w' => e = .returned (.int .i64 (Lfc.chkE (ts ++ us))) ∧ Below w.heap.size w w' := by
 have HVO := Lib.hid hvo
 have HVP := Lib.hid hvp
 obtain ⟨A1, c1, k1, a1, l1, rfl⟩ : ∃ A c kd ar n, vo = .agg #[.int .i64 kd, .int .i64 ar, .slice A n c] := by
  obtain ⟨kd, ar, ts⟩ := o
  obtain ⟨A, c, rfl, hc, hA⟩ := hvo.open_
  exact ⟨A, c, kd, ar, _, rfl⟩
 obtain ⟨A2, c2, k2, a2, l2, rfl⟩ : ∃ A c kd ar n, vp = .agg #[.int .i64 kd, .int .i64 ar, .slice A n c] := by
  obtain ⟨kd, ar, ts⟩ := p
  obtain ⟨A, c, rfl, hc, hA⟩ := hvp.open_
  exact ⟨A, c, kd, ar, _, rfl⟩
 obtain ⟨xs1, hx1, hr1, hc1, ho1⟩ := treesAt_part hts
 obtain ⟨xs2, hx2, hr2, hc2, ho2⟩ := treesAt_part hus
 obtain ⟨all, hall⟩ : ∃ all, ts ++ us = all := ⟨_, rfl⟩
 obtain ⟨n, hnn⟩ : ∃ n, ts.length = n := ⟨_, rfl⟩
 obtain ⟨m, hmm⟩ : ∃ m, us.length = m := ⟨_, rfl⟩
 have hlen : all.length = n + m := by rw [← hall, List.length_append, hnn, hmm]
 rw [hnn] at ho hn hL hx1 ⊢
 rw [hmm] at hp hm hR hx2 ⊢
 obtain ⟨w1, hw1⟩ : ∃ w1, w.alloc (.cells #[.int .i64 k1, .int .i64 a1, .slice A1 l1 c1] 26) = w1 := ⟨_, rfl⟩
 obtain ⟨w2, hw2⟩ : ∃ w2, w1.alloc (.cells #[.int .i64 k2, .int .i64 a2, .slice A2 l2 c2] 26) = w2 := ⟨_, rfl⟩
 obtain ⟨w3, hw3⟩ : ∃ w3, w2.alloc (.cells #[.slice none 0 0, .slice L n cl, .slice R m cr] 27) = w3 := ⟨_, rfl⟩
 have b1 : Below w.heap.size w w1 := by rw [← hw1]; exact (Below.refl _ _).alloc (Nat.le_refl _) _
 have b2 : Below w1.heap.size w1 w2 := by rw [← hw2]; exact (Below.refl _ _).alloc (Nat.le_refl _) _
 have b3 : Below w2.heap.size w2 w3 := by rw [← hw3]; exact (Below.refl _ _).alloc (Nat.le_refl _) _
 have q1 : w1.heap[w.heap.size]? = some (.cells #[.int .i64 k1, .int .i64 a1, .slice A1 l1 c1] 26 (0, 0)) := by rw [← hw1]; exact heap_alloc_new _ _
 have q2 : w2.heap[w1.heap.size]? = some (.cells #[.int .i64 k2, .int .i64 a2, .slice A2 l2 c2] 26 (0, 0)) := by rw [← hw2]; exact heap_alloc_new _ _
 have q3 : w3.heap[w2.heap.size]? = some (.cells #[.slice none 0 0, .slice L n cl, .slice R m cr] 27 (0, 0)) := by rw [← hw3]; exact heap_alloc_new _ _
 have e1 := lt_of_block q1
 have e2 := lt_of_block q2
 have e3 := lt_of_block q3
 have b03 : Below w.heap.size w w3 := (b1.trans (b2.mono (by omega))).trans (b3.mono (by omega))
 have Q1 := Lib.hid ((b3.block _ (by omega)).trans ((b2.block _ e1).trans q1))
 have Q2 := Lib.hid ((b3.block _ e2).trans q2)
 have s03 : w.heap.size ≤ w3.heap.size := by omega
 have hPO : PartsO w3 w2.heap.size 0 [⟨none, 0, 0, []⟩, ⟨L, n, cl, xs1⟩, ⟨R, m, cr, xs2⟩] := by
  intro k hk
  have hk3 : k < 3 := hk
  have hk' : k = 0 ∨ k = 1 ∨ k = 2 := by omega
  rcases hk' with rfl | rfl | rfl
  ·exact ⟨Lib.cell_of_heap q3 0, rfl, fun _ => ⟨rfl, rfl⟩, (fun a h => by cases h), (fun u h => by cases h)⟩
  ·exact ⟨Lib.cell_of_heap q3 1, hx1, hL, fun a ha j u hj => (b03.cell (World.block_lt_of_cell? w _ (hc1 a ha j u hj))).trans (hc1 a ha j u hj), ho1⟩
  ·exact ⟨Lib.cell_of_heap q3 2, hx2, hR, fun a ha j u hj => (b03.cell (World.block_lt_of_cell? w _ (hc2 a ha j u hj))).trans (hc2 a ha j u hj), ho2⟩
 have CC := Lib.hid (concatT_any w2.heap.size 0 3 _ w3 (by simp) (by simp [partsN]; omega) hPO)
 have HRW : Hid (∀ w4 v, w4.ownsRow w3.heap.size 51 4 v (partsN [⟨none, 0, 0, []⟩, ⟨L, n, cl, xs1⟩, ⟨R, m, cr, xs2⟩]) (partsX [⟨none, 0, 0, []⟩, ⟨L, n, cl, xs1⟩, ⟨R, m, cr, xs2⟩]) → Below w3.heap.size w3 w4 → ∃ A c, v = .slice A all.length c ∧ TreesAt w4 A all) := Lib.hid (fun w4 v ho hb => by
  have hb0 := b03.trans (hb.mono s03)
  refine treesAt_own (q := fun b => b < w.heap.size) (xs := xs1 ++ xs2) (by simpa [partsX] using ho) ?_
  rw [← hall]
  exact RowP.append (RowP.keep (fun b hb1 hb2 => hb0.block b hb2) hb0.size (fun _ _ h => h) hr2) (RowP.keep (fun b hb1 hb2 => hb0.block b hb2) hb0.size (fun _ _ h => h) hr1))
 have HST : Hid (∀ k (h : k < all.length), all[k].size ≤ 1000000) := Lib.hid (fun k h => hst _ (by rw [hall]; exact List.getElem_mem h))
 have CV1 : Hid (∀ W, Below w3.heap.size w3 W → Calls Tryz.prog 33 #[.agg #[.int .i64 k1, .int .i64 a1, .slice A1 l1 c1], .int .i64 (n : Int)] W fun e w' => e = .returned (.int .i64 0) ∧ Below W.heap.size W w') := Lib.hid (fun W hW => by
  have := oValid_any o _ (n : Int) W hos (by omega) (by omega) (HVO.out.below (b03.trans (hW.mono s03)))
  rwa [ho] at this)
 have CV2 : Hid (∀ W, Below w3.heap.size w3 W → Calls Tryz.prog 33 #[.agg #[.int .i64 k2, .int .i64 a2, .slice A2 l2 c2], .int .i64 (m : Int)] W fun e w' => e = .returned (.int .i64 0) ∧ Below W.heap.size W w') := Lib.hid (fun W hW => by
  have := oValid_any p _ (m : Int) W hps (by omega) (by omega) (HVP.out.below (b03.trans (hW.mono s03)))
  rwa [hp] at this)
 have CS : Hid (∀ W, Below w3.heap.size w3 W → Calls Tryz.prog 34 #[.agg #[.int .i64 k1, .int .i64 a1, .slice A1 l1 c1], .agg #[.int .i64 k2, .int .i64 a2, .slice A2 l2 c2]] W fun e w' => e = .returned (.bool true) ∧ Below W.heap.size W w') := Lib.hid (fun W hW => by
  have := oShape_upto _ hos o p _ _ W (Nat.le_refl _) (HVO.out.below (b03.trans (hW.mono s03))) (HVP.out.below (b03.trans (hW.mono s03)))
  rwa [hsh] at this)
 have CR : Hid (∀ W, Calls Tryz.prog 61 #[.int .i64 1] W fun e w' => e = .returned (.bool true) ∧ w' = W) := Lib.hid (fun W => oRel_any 1 W)
 have CF := Lib.hid conFact_nil
 have B03 := Lib.hid b03
 have hl2 : all.length ≤ 2000 := by omega
 obtain ⟨N, hN⟩ : ∃ N, all.length = N := ⟨_, rfl⟩
 have HRES : Hid ((Lfc.firstE all ≠ 0 → Lfc.chkE all = Lfc.firstE all) ∧ (Lfc.firstE all = 0 → Lfc.allO all = false → Lfc.chkE all = 32) ∧ (Lfc.firstE all = 0 → Lfc.allO all = true → Lfc.chkE all = 0)) := Lib.hid ⟨fun h => by rw [Lfc.chkE, if_neg h], fun h h2 => by rw [Lfc.chkE, if_pos h, h2]; rfl, fun h h2 => by rw [Lfc.chkE, if_pos h, h2]; rfl⟩
 rw [hall]
 obtain ⟨res, hres⟩ : ∃ res, Lfc.chkE all = res := ⟨_, rfl⟩
 rw [hres] at HRES ⊢
 clear hvo hvp hx1 hr1 hc1 ho1 hx2 hr2 hc2 ho2 hall hnn hmm hlen ho hp hsh hst hL hR hts hus b1 b2 b3 q1 q2 q3 b03 hPO hres
 have HN := Lib.hid hN
 rw [hN] at hl2
 clear hN
 go_enter Tryz.func35, Tryz.ntmps35
 go_wp2_with fail
 go_loopw [13, 25] (fun v i wr => v = .slice none 0 0 ∧ i = .int .i64 0 ∧ wr = w2) (fun _ i _ => 0)
 case atStart => exact ⟨rfl, rfl, by simp⟩
 case round =>
  obtain ⟨rfl, rfl, hwx⟩ := hrel
  subst hwx
  obtain ⟨wq, hwq⟩ : ∃ wq, wq = wr := ⟨_, rfl⟩
  subst hwq
  go_wp2_with fail
  refine CC.out.mono ?_
  rintro e w4 ⟨⟨v4, rfl, hown⟩, b4⟩
  obtain ⟨A4, c4, rfl, hT4⟩ := HRW.out _ _ hown b4
  rw [HN.out]
  have HT4 := Lib.hid hT4
  have B4 := Lib.hid b4
  have I0 : Hid (Below w4.heap.size w4 w4) := Lib.hid (Below.refl _ _)
  clear hown hT4 b4 CC HRW hw1 hw2 hw3
  go_wp2_with fail
  go_loopw [44] (fun i wr => ∃ k : Nat, k ≤ N ∧ i = .int .i64 (k : Int) ∧ Hid (Lfc.firstE all = Lfc.firstE (all.drop k)) ∧ Hid (Below w4.heap.size w4 wr)) (fun i _ => N - (intOf i).toNat)
  case atStart => exact ⟨0, by omega, rfl, Lib.hid rfl, I0⟩
  case round =>
   obtain ⟨k, hk, rfl, HF, HB⟩ := hrel
   by_cases hlt : k < N
   ·have hlt2 : k < all.length := by rw [HN.out]; exact hlt
    obtain ⟨b, oo, kk, nn, pp, us', B', cc, rfl, hb, ht, d0, d1, d2, d3, hcu, hB, hT⟩ := HT4.out.at_ hlt2
    have hbw := HB.out
    have f0 := (hbw.cell (p := ⟨b, oo + k * 4, none⟩) hb).trans d0
    have f1 := (hbw.cell (p := ⟨b, oo + k * 4 + 1, none⟩) hb).trans d1
    have f2 := (hbw.cell (p := ⟨b, oo + k * 4 + 2, none⟩) hb).trans d2
    have f3 := (hbw.cell (p := ⟨b, oo + k * 4 + 3, none⟩) hb).trans d3
    have hi0 : (0 : Int) ≤ (k : Int) := Int.natCast_nonneg _
    have hi1 : (k : Int) < (N : Int) := by omega
    obtain ⟨wx, hwx⟩ : ∃ wx, wr.alloc (.cells #[.int .i64 kk, S nn, .int .i64 pp, .slice B' us'.length cc] 51) = wx := ⟨_, rfl⟩
    have bx : Below wr.heap.size wr wx := by rw [← hwx]; exact (Below.refl _ _).alloc (Nat.le_refl _) _
    have qx : wx.heap[wr.heap.size]? = some (.cells #[.int .i64 kk, S nn, .int .i64 pp, .slice B' us'.length cc] 51 (0, 0)) := by rw [← hwx]; exact heap_alloc_new _ _
    obtain ⟨y0, y1, y2, y3⟩ := cells4t qx
    have CW := Lib.hid (tWf_any all[k] _ wx (by have := HST.out k hlt2; omega) (hT.below (hbw.trans (bx.mono hbw.size))))
    have HB2 := Lib.hid (hbw.trans (bx.mono hbw.size))
    have HFD := Lib.hid (HF.out.trans (Lfc.firstE_drop hlt2))
    have HWX := Lib.hid hwx
    obtain ⟨z, hz⟩ : ∃ z, all[k].twf = z := ⟨_, rfl⟩
    rw [hz] at CW HFD
    clear hz qx bx hwx hT hB ht d0 d1 d2 d3 hbw hlt2
    go_upto_region 11 with fail
    rw [HWX.out]
    clear HWX f0 f1 f2 f3
    go_wp2_with fail
    refine CW.out.mono ?_
    rintro e w5 ⟨rfl, b5⟩
    have HB5 := Lib.hid (HB2.out.trans (b5.mono HB2.out.size))
    clear b5 CW y0 y1 y2 y3
    by_cases hz0 : z = 0
    ·have HFE : Hid (Lfc.firstE all = Lfc.firstE (all.drop (k + 1))) := Lib.hid (by rw [HFD.out, if_pos hz0])
     clear HFD
     subst hz0
     go_wp2_with fail
     go_roundw
     case rel => exact ⟨k + 1, by omega, by go_num, HFE, HB5⟩
     case measure => simp [intOf]; omega
    ·have HFE : Hid (Lfc.firstE all = z) := Lib.hid (by rw [HFD.out, if_neg hz0])
     have hz1 : (z == 0) = false := by simpa using hz0
     have hz2 : (z != 0) = true := by simpa using hz0
     have hz3 : decide (z = 0) = false := by simpa using hz0
     have HZ : Hid (Ending.returned (.int .i64 z) = .returned (.int .i64 res) ∧ Below w.heap.size w w5) := Lib.hid ⟨by rw [HRES.out.1 (by rw [HFE.out]; exact hz0), HFE.out], B03.out.trans ((B4.out.trans (HB5.out.mono B4.out.size)).mono s03)⟩
     clear HFD hz0
     go_wp2_with fail
     go_ret
     exact HZ.out
   ·obtain rfl : k = N := by omega
    have HFE : Hid (Lfc.firstE all = 0) := Lib.hid (by rw [HF.out, ← HN.out, List.drop_length, Lfc.firstE])
    clear HF
    have I0 : Hid (Below w4.heap.size w4 wr) := HB
    clear HB
    obtain ⟨wq2, hwq2⟩ : ∃ wq2, wq2 = wr := ⟨_, rfl⟩
    subst hwq2
    go_wp2_with fail
    go_loopw [56] (fun i wr => ∃ j : Nat, j ≤ k ∧ i = .int .i64 (j : Int) ∧ Hid (Lfc.allO all = Lfc.allO (all.drop j)) ∧ Hid (Below w4.heap.size w4 wr)) (fun i _ => k - (intOf i).toNat)
    case atStart => exact ⟨0, by omega, rfl, Lib.hid rfl, I0⟩
    case round =>
     clear I0
     obtain ⟨j, hj, rfl, HF, HB⟩ := hrel
     by_cases hlt : j < k
     ·have hlt2 : j < all.length := by rw [HN.out]; exact hlt
      obtain ⟨b, oo, kk, nn, pp, us', B', cc, rfl, hb, ht, d0, d1, d2, d3, hcu, hB, hT⟩ := HT4.out.at_ hlt2
      have hbw := HB.out
      have f0 := (hbw.cell (p := ⟨b, oo + j * 4, none⟩) hb).trans d0
      have f1 := (hbw.cell (p := ⟨b, oo + j * 4 + 1, none⟩) hb).trans d1
      have f2 := (hbw.cell (p := ⟨b, oo + j * 4 + 2, none⟩) hb).trans d2
      have f3 := (hbw.cell (p := ⟨b, oo + j * 4 + 3, none⟩) hb).trans d3
      have hi0 : (0 : Int) ≤ (j : Int) := Int.natCast_nonneg _
      have hi1 : (j : Int) < (k : Int) := by omega
      obtain ⟨wx, hwx⟩ : ∃ wx, wr.alloc (.cells #[.int .i64 kk, S nn, .int .i64 pp, .slice B' us'.length cc] 51) = wx := ⟨_, rfl⟩
      have bx : Below wr.heap.size wr wx := by rw [← hwx]; exact (Below.refl _ _).alloc (Nat.le_refl _) _
      have qx : wx.heap[wr.heap.size]? = some (.cells #[.int .i64 kk, S nn, .int .i64 pp, .slice B' us'.length cc] 51 (0, 0)) := by rw [← hwx]; exact heap_alloc_new _ _
      obtain ⟨y0, y1, y2, y3⟩ := cells4t qx
      have CW := Lib.hid (tIsO_any all[j] _ wx (HST.out j hlt2) (hT.below (hbw.trans (bx.mono hbw.size))))
      have HB2 := Lib.hid (hbw.trans (bx.mono hbw.size))
      have HFD := Lib.hid (HF.out.trans (Lfc.allO_drop hlt2))
      have HWX := Lib.hid hwx
      obtain ⟨z, hz⟩ : ∃ z, all[j].isO = z := ⟨_, rfl⟩
      rw [hz] at CW HFD
      clear hz qx bx hwx hT hB ht d0 d1 d2 d3 hbw hlt2
      go_upto_region 18 with fail
      rw [HWX.out]
      clear HWX f0 f1 f2 f3
      go_wp2_with fail
      refine CW.out.mono ?_
      rintro e w5 ⟨rfl, b5⟩
      have HB5 := Lib.hid (HB2.out.trans (b5.mono HB2.out.size))
      clear b5 CW y0 y1 y2 y3
      cases z
      ·have HZ : Hid (Ending.returned (.int .i64 32) = .returned (.int .i64 res) ∧ Below w.heap.size w w5) := Lib.hid ⟨by rw [HRES.out.2.1 HFE.out (by rw [HFD.out]; rfl)], B03.out.trans ((B4.out.trans (HB5.out.mono B4.out.size)).mono s03)⟩
       clear HFD
       go_wp2_with fail
       go_ret
       exact HZ.out
      ·have HFE2 : Hid (Lfc.allO all = Lfc.allO (all.drop (j + 1))) := Lib.hid (by rw [HFD.out]; rfl)
       clear HFD
       go_wp2_with fail
       go_roundw
       case rel => exact ⟨j + 1, by omega, by go_num, HFE2, HB5⟩
       case measure => simp [intOf]; omega
     ·obtain rfl : j = k := by omega
      have HAO : Hid (Lfc.allO all = true) := Lib.hid (by rw [HF.out, ← HN.out, List.drop_length, Lfc.allO])
      have HRZ : Hid (res = 0) := Lib.hid (HRES.out.2.2 HFE.out HAO.out)
      have b3r := B4.out.trans (HB.out.mono B4.out.size)
      have HB0 := Lib.hid b3r
      obtain ⟨y0, y1, y2⟩ := cells3o ((b3r.block _ (by omega)).trans Q1.out)
      have C1 := Lib.hid (CV1.out _ b3r)
      clear HF HB HAO b3r
      go_wp2_with fail
      refine C1.out.mono ?_
      rintro e w6 ⟨rfl, b6⟩
      have b36 := HB0.out.trans (b6.mono HB0.out.size)
      have HB6 := Lib.hid b36
      obtain ⟨z0, z1, z2⟩ := cells3o ((b36.block _ (by omega)).trans Q2.out)
      have C2 := Lib.hid (CV2.out _ b36)
      clear b36 b6 C1 y0 y1 y2
      go_wp2_with fail
      refine C2.out.mono ?_
      rintro e w7 ⟨rfl, b7⟩
      have b37 := HB6.out.trans (b7.mono HB6.out.size)
      have HB7 := Lib.hid b37
      obtain ⟨y0, y1, y2⟩ := cells3o ((b37.block _ (by omega)).trans Q1.out)
      clear z0 z1 z2
      obtain ⟨z0, z1, z2⟩ := cells3o ((b37.block _ (by omega)).trans Q2.out)
      have C3 := Lib.hid (CS.out _ b37)
      clear b37 b7 C2
      go_wp2_with fail
      refine C3.out.mono ?_
      rintro e w8 ⟨rfl, b8⟩
      have HB8 := Lib.hid (HB7.out.trans (b8.mono HB7.out.size))
      clear b8 C3 y0 y1 y2 z0 z1 z2
      go_wp2_with fail
      refine (CR.out _).mono ?_
      rintro e w9 ⟨rfl, rfl⟩
      go_wp2_with fail
      refine (CF.out _ _).mono ?_
      rintro e w9 ⟨rfl, rfl⟩
      have HZ : Hid (Ending.returned (.int .i64 0) = .returned (.int .i64 res) ∧ Below w.heap.size w w9) := Lib.hid ⟨by rw [HRZ.out], B03.out.trans (HB8.out.mono s03)⟩
      go_wp2_with fail
      go_ret
      exact HZ.out
end Go.Proofs.YtadjpadieljjlaaGreat
namespace Go.Proofs.YtadjpadieljjlaaGreat
open Go.RowKit Go.Maps
theorem own_form {w : World} {base : Nat} {e : TypeId} {size n : Nat} {v : Value} {xs : List Value} (h : w.ownsRow base e size v n xs) : ∃ A c, v = .slice A n c ∧ n ≤ c := by
 rcases h.2 with ⟨rfl, rfl⟩ | ⟨g, cap, cur, rfl, _, _, hnc, _⟩
 ·exact ⟨none, 0, rfl, Nat.le_refl _⟩
 ·exact ⟨_, _, rfl, hnc⟩
theorem cloneInts_any (zs : List Int) (A : Option Addr) (c : Nat) (w : World) (hl : zs.length ≤ 10000000) (h : IntsO w A zs) :
  Calls Tryz.prog 94 #[.slice A zs.length c] w fun e w' => (∃ A' c', e = .returned (.slice A' zs.length c') ∧ zs.length ≤ c' ∧ IntsP (fun b => w.heap.size ≤ b) w' A' zs) ∧ Below w.heap.size w w' := by
 have fin : ∀ e w', (∃ v', e = Ending.returned v' ∧ w'.ownsRow w.heap.size 3 1 v' zs.length (ints zs) ∧ v' ≠ .slice none 0 0 ∧ Below w.heap.size w w') → (∃ A' c', e = .returned (.slice A' zs.length c') ∧ zs.length ≤ c' ∧ IntsP (fun b => w.heap.size ≤ b) w' A' zs) ∧ Below w.heap.size w w' := by
  rintro e w' ⟨v', rfl, hown, _, hb⟩
  obtain ⟨A', c', rfl, hc⟩ := own_form hown
  exact ⟨⟨A', c', rfl, hc, intsP_own hown⟩, hb⟩
 by_cases h0 : zs = []
 ·subst h0
  cases A with
  | none =>
   refine (Tryz.slices_Clone_int_nil 0 c w).mono ?_
   rintro e w' ⟨rfl, rfl⟩
   exact ⟨⟨none, 0, rfl, Nat.le_refl _, fun h => absurd rfl h⟩, Below.refl _ _⟩
  | some a => exact (Tryz.slices_Clone_int_zero a c w).mono fin
 ·obtain ⟨b, o, rfl, hlt, hc⟩ := h h0
  refine (Tryz.slices_Clone_int b o zs.length c zs w (Nat.le_refl _) (by omega) hc).mono ?_
  rintro e w' ⟨v', he, hown, h1, h2⟩
  rw [List.take_length] at hown
  exact fin e w' ⟨v', he, hown, h1, h2⟩
def LinkRow (q : Nat → Prop) (w : World) : List Lfc.Link → List Value → Prop
 | [], xs => xs = []
 | x :: r, xs => ∃ k n p ts At ct A c ys, x.term = .node k n p ts ∧ xs = .int .i64 x.kind :: .int .i64 k :: S n :: .int .i64 p :: .slice At (List.length ts) ct :: .slice A x.path.length c :: .int .i64 x.fact :: ys ∧ x.path.length ≤ c ∧ IntsP q w A x.path ∧ TreeVP q w x.term (.agg #[.int .i64 k, S n, .int .i64 p, .slice At (List.length ts) ct]) ∧ LinkRow q w r ys
theorem LinkRow.len {q : Nat → Prop} {w : World} : ∀ {l : List Lfc.Link} {xs : List Value}, LinkRow q w l xs → xs.length = l.length * 7
 | [], xs, h => by rw [LinkRow] at h; subst h; rfl
 | x :: r, xs, h => by
  rw [LinkRow] at h
  obtain ⟨k, n, p, ts, At, ct, A, c, ys, _, rfl, _, _, _, hr⟩ := h
  have := hr.len
  simp; omega
theorem LinkRow.keep {q q' : Nat → Prop} {w w' : World} (hk : ∀ b, q b → b < w.heap.size → w'.heap[b]? = w.heap[b]?) (hs : w.heap.size ≤ w'.heap.size) (hq : ∀ b, b < w.heap.size → q b → q' b) : ∀ {l : List Lfc.Link} {xs : List Value}, LinkRow q w l xs → LinkRow q' w' l xs
 | [], xs, h => by rw [LinkRow] at h ⊢; exact h
 | x :: r, xs, h => by
  rw [LinkRow] at h ⊢
  obtain ⟨k, n, p, ts, At, ct, A, c, ys, e, rfl, hc, hi, ht, hr⟩ := h
  exact ⟨k, n, p, ts, At, ct, A, c, ys, e, rfl, hc, hi.keep hk hs hq, ht.keep hk hs hq, hr.keep hk hs hq⟩
theorem LinkRow.append {q : Nat → Prop} {w : World} {m : List Lfc.Link} {zs : List Value} (hz : LinkRow q w m zs) : ∀ {l : List Lfc.Link} {xs : List Value}, LinkRow q w l xs → LinkRow q w (l ++ m) (xs ++ zs)
 | [], xs, h => by rw [LinkRow] at h; subst h; exact hz
 | x :: r, xs, h => by
  rw [LinkRow] at h
  obtain ⟨k, n, p, ts, At, ct, A, c, ys, e, rfl, hc, hi, ht, hr⟩ := h
  rw [List.cons_append, LinkRow]
  exact ⟨k, n, p, ts, At, ct, A, c, ys ++ zs, e, rfl, hc, hi, ht, LinkRow.append hz hr⟩
theorem LinkRow.lie {q : Nat → Prop} {w : World} {b : Nat} : ∀ {l : List Lfc.Link} {xs : List Value} {o : Nat}, LinkRow q w l xs → CellsAt w b o xs → ∀ i (h : i < l.length), LinkP q w b (o + i * 7) l[i]
 | [], _, _, _, _, i, h => by cases h
 | x :: r, xs, o, h, hc, i, hi => by
  rw [LinkRow] at h
  obtain ⟨k, n, p, ts, At, ct, A, c, ys, e, rfl, hcl, hp, ht, hr⟩ := h
  cases i with
  | zero =>
   exact ⟨k, n, p, ts, At, ct, A, c, e, by simpa using hc 0 _ rfl, by simpa using hc 1 _ rfl, by simpa using hc 2 _ rfl, by simpa using hc 3 _ rfl, by simpa using hc 4 _ rfl, by simpa using hc 5 _ rfl, by simpa using hc 6 _ rfl, hcl, hp, ht⟩
  | succ i =>
   have := hr.lie (o := o + 7) (fun j u hj => by
    have := hc (j + 7) u (by simpa using hj)
    rw [show o + 7 + j = o + (j + 7) by omega]
    exact this) i (by simpa using hi)
   rw [show o + (i + 1) * 7 = o + 7 + i * 7 by omega]
   exact this
theorem linksP_own {q : Nat → Prop} {w : World} {base : Nat} {A : Option Addr} {n c : Nat} {xs : List Value} {l : List Lfc.Link} (h : w.ownsRow base 93 7 (.slice A n c) l.length xs) (hq : ∀ b, base ≤ b → q b) (hr : LinkRow q w l xs) : LinksP q w A l := fun hne => by
 rcases h.2 with ⟨_, h0⟩ | ⟨g, cap, cur, hv, hb, hg, _⟩
 ·exact absurd (List.length_eq_zero_iff.1 h0) hne
 ·injection hv with hA h1 h2
  subst hA h1 h2
  exact ⟨g, 0, rfl, lt_of_block hg, hq g hb, hr.lie (own_cells h)⟩
theorem linkInfo : (Tryz.prog.info? 93).map (fun i => (i.zero, i.size, i.bytes)) = some (some (.agg #[.int .i64 0, .int .i64 0, S [], .int .i64 0, .slice none 0 0, .slice none 0 0, .int .i64 0]), 7, 96) := by kernel_rfl
end Go.Proofs.YtadjpadieljjlaaGreat
namespace Go.Proofs.YtadjpadieljjlaaGreat
open Go.RowKit Go.Maps
def LkI (w : World) (l : List Lfc.Link) (v : Value) (wr : World) : Prop := ∃ xs, wr.ownsRow w.heap.size 93 7 v l.length xs ∧ LinkRow (fun b => w.heap.size ≤ b ∧ v.ownBlock ≠ some b) wr l xs ∧ Below w.heap.size w wr
theorem oneCell7 {a k p f : Int} {n : List UInt8} {A B : Option Addr} {i c j d : Nat} : ∀ u ∈ [Value.int .i64 a, .int .i64 k, S n, .int .i64 p, .slice A i c, .slice B j d, .int .i64 f], u.oneCell' = true := by
 intro u hu
 simp only [List.mem_cons, List.not_mem_nil, or_false] at hu
 rcases hu with rfl | rfl | rfl | rfl | rfl | rfl | rfl <;> rfl
theorem LkI.step {w wr W w' : World} {l : List Lfc.Link} {v v' : Value} {x : Lfc.Link} {xs : List Value} {k p : Int} {n : List UInt8} {ts : List Lfc.Raw} {At A : Option Addr} {ct c : Nat} {o : Obj}
  (hown : wr.ownsRow w.heap.size 93 7 v l.length xs) (hrow : LinkRow (fun b => w.heap.size ≤ b ∧ v.ownBlock ≠ some b) wr l xs) (hb : Below w.heap.size w wr) (hW : Below wr.heap.size wr W)
  (ht : x.term = .node k n p ts) (hc : x.path.length ≤ c) (hp : IntsP (fun b => wr.heap.size ≤ b) W A x.path) (hv : TreeVP (fun b => wr.heap.size ≤ b) W x.term (.agg #[.int .i64 k, S n, .int .i64 p, .slice At (List.length ts) ct]))
  (h' : w'.ownsRow w.heap.size 93 7 v' (l.length + 1) (xs ++ [.int .i64 x.kind, .int .i64 k, S n, .int .i64 p, .slice At (List.length ts) ct, .slice A x.path.length c, .int .i64 x.fact])) (hg : (W.alloc o).grownBy w' v.ownBlock) (hloc : v'.ownBlock = v.ownBlock ∨ v'.ownBlock = some (W.alloc o).heap.size) : LkI w (l ++ [x]) v' w' := by
 have hsz : (W.alloc o).heap.size = W.heap.size + 1 := by simp
 have hs1 := hW.size
 have hs2 := hg.size
 have hold : ∀ b, v.ownBlock ≠ some b → b < W.heap.size → w'.heap[b]? = W.heap[b]? := fun b hne hlt => (hg.block b (by omega) (fun e => hne e.symm)).trans (Lib.alloc_old _ _ _ hlt)
 have hvb : ∀ b, v.ownBlock = some b → b < wr.heap.size := fun b e => (hown.lt b e).2
 have hne' : ∀ b, b < W.heap.size → v.ownBlock ≠ some b → v'.ownBlock ≠ some b := fun b hlt hne e => by
  rcases hloc with e2 | e2
  ·exact hne (e2 ▸ e)
  ·rw [e2] at e; have := Option.some.inj e; omega
 refine ⟨_, by rw [List.length_append]; exact h', LinkRow.append ?_ (hrow.keep (fun b hq hlt => (hold b hq.2 (by omega)).trans (hW.block b hlt)) (by omega) (fun b hlt hq => ⟨hq.1, hne' b (by omega) hq.2⟩)), ?_⟩
 ·rw [LinkRow]
  have hq : ∀ b, wr.heap.size ≤ b → v.ownBlock ≠ some b := fun b hb2 e => by have := hvb b e; omega
  refine ⟨k, n, p, ts, At, ct, A, c, [], ht, rfl, hc, hp.keep (fun b hb2 hlt => hold b (hq b hb2) hlt) (by omega) (fun b hlt hb2 => ⟨by have := hb.size; have hb2 : wr.heap.size ≤ b := hb2; omega, hne' b hlt (hq b hb2)⟩), hv.keep (fun b hb2 hlt => hold b (hq b hb2) hlt) (by omega) (fun b hlt hb2 => ⟨by have := hb.size; have hb2 : wr.heap.size ≤ b := hb2; omega, hne' b hlt (hq b hb2)⟩), by rw [LinkRow]⟩
 ·have hb1 : Below w.heap.size w (W.alloc o) := (hb.trans (hW.mono hb.size)).alloc (by have := hb.size; omega) _
  exact Below.grown hb1 hg (by have := hb.size; omega) (fun b e => (hown.lt b e).1)
set_option maxRecDepth 100000 in
set_option maxHeartbeats 8000000 in
theorem oLinks_any (q : Nat → Prop) (l : List Lfc.Link) (A : Option Addr) (c : Nat) (w : World) (hn : l.length ≤ 100000) (hst : ∀ x ∈ l, x.term.size ≤ 1000000 ∧ x.path.length ≤ 10000000) (hl : LinksP q w A l) :
  Calls Tryz.prog 64 #[.slice A l.length c] w fun e w' => (∃ A' c', e = .returned (.slice A' l.length c') ∧ l.length ≤ c' ∧ LinksP (fun b => w.heap.size ≤ b) w' A' l) ∧ Below w.heap.size w w' := by
 obtain ⟨i0, hi, hz0, hz1, hz2⟩ := info_parts linkInfo
 have HL := Lib.hid hl
 have HST := Lib.hid hst
 obtain ⟨N, hN⟩ : ∃ N, l.length = N := ⟨_, rfl⟩
 rw [hN] at hn ⊢
 have HN := Lib.hid hN
 have I0 : Hid (LkI w (l.take 0) (.slice none 0 0) w) := Lib.hid ⟨[], World.ownsRow_nil w w.heap.size _ 7, by rw [List.take_zero, LinkRow], Below.refl _ _⟩
 clear hl hst hN
 go_enter Tryz.func64, Tryz.ntmps64
 go_wp2_with fail
 go_loopw [3, 8] (fun v i wr => ∃ (k : Nat), k ≤ N ∧ i = .int .i64 (k : Int) ∧ Hid (LkI w (l.take k) v wr)) (fun _ i _ => N - (intOf i).toNat)
 case atStart => exact ⟨0, by omega, rfl, I0⟩
 case round =>
  clear I0
  obtain ⟨k, hk, rfl, HI⟩ := hrel
  obtain ⟨xs, hown, hrow, hbw⟩ := HI.out
  have htk : (l.take k).length = k := by rw [List.length_take, HN.out]; omega
  by_cases hlt : k < N
  ·have hlt2 : k < l.length := by rw [HN.out]; exact hlt
   have HT := Lib.hid (List.take_succ_eq_append_getElem hlt2)
   obtain ⟨b, o, rfl, hb, _, hall⟩ := HL.out (by intro h; rw [h] at hlt2; cases hlt2)
   obtain ⟨kk, nn, pp, us, At, ct, Ap, cp, he, d0, d1, d2, d3, d4, d5, d6, hcp, hip, htv⟩ := hall k hlt2
   obtain ⟨hsz, hpl⟩ := HST.out _ (List.getElem_mem hlt2)
   generalize l[k] = x at *
   obtain ⟨xk, xt, xp, xf⟩ := x
   simp only at he d0 d5 d6 hcp hip htv hsz hpl
   have HE := Lib.hid he
   have HTK := Lib.hid htk
   rw [htk] at hown
   have f0 := (hbw.cell (p := ⟨b, o + k * 7, none⟩) hb).trans d0
   have f1 := (hbw.cell (p := ⟨b, o + k * 7 + 1, none⟩) hb).trans d1
   have f2 := (hbw.cell (p := ⟨b, o + k * 7 + 2, none⟩) hb).trans d2
   have f3 := (hbw.cell (p := ⟨b, o + k * 7 + 3, none⟩) hb).trans d3
   have f4 := (hbw.cell (p := ⟨b, o + k * 7 + 4, none⟩) hb).trans d4
   have f5 := (hbw.cell (p := ⟨b, o + k * 7 + 5, none⟩) hb).trans d5
   have f6 := (hbw.cell (p := ⟨b, o + k * 7 + 6, none⟩) hb).trans d6
   have hi0 : (0 : Int) ≤ (k : Int) := Int.natCast_nonneg _
   have hi1 : (k : Int) < (N : Int) := by omega
   obtain ⟨wx, hwx⟩ : ∃ wx, wr.alloc (.cells #[.int .i64 xk, .int .i64 kk, S nn, .int .i64 pp, .slice At us.length ct, .slice Ap xp.length cp, .int .i64 xf] 93) = wx := ⟨_, rfl⟩
   have bx : Below wr.heap.size wr wx := by rw [← hwx]; exact (Below.refl _ _).alloc (Nat.le_refl _) _
   have qx : wx.heap[wr.heap.size]? = some (.cells #[.int .i64 xk, .int .i64 kk, S nn, .int .i64 pp, .slice At us.length ct, .slice Ap xp.length cp, .int .i64 xf] 93 (0, 0)) := by rw [← hwx]; exact heap_alloc_new _ _
   have lx := lt_of_block qx
   have BX := Lib.hid bx
   have HWX := Lib.hid hwx
   have HB := Lib.hid hbw
   have hox := hown.kept (Oth.of_below (T := wx.heap.size) bx) (.inr fun e => by have := (hown.lt _ e).2; have := bx.size; omega)
   have SC : Hid (∀ W, Below wx.heap.size wx W → W.cell? ⟨wr.heap.size, 0, none⟩ = some (.int .i64 xk) ∧ (W.cell? ⟨wr.heap.size, 1, none⟩ = some (.int .i64 kk) ∧ W.cell? ⟨wr.heap.size, 2, none⟩ = some (S nn) ∧ W.cell? ⟨wr.heap.size, 3, none⟩ = some (.int .i64 pp) ∧ W.cell? ⟨wr.heap.size, 4, none⟩ = some (.slice At us.length ct)) ∧ W.cell? ⟨wr.heap.size, 5, none⟩ = some (.slice Ap xp.length cp) ∧ W.cell? ⟨wr.heap.size, 6, none⟩ = some (.int .i64 xf)) := Lib.hid (fun W hW => by
    have e := (hW.block _ lx).trans qx
    exact ⟨Lib.cell_of_heap e 0, ⟨Lib.cell_of_heap e 1, Lib.cell_of_heap e 2, Lib.cell_of_heap e 3, Lib.cell_of_heap e 4⟩, Lib.cell_of_heap e 5, Lib.cell_of_heap e 6⟩)
   have SB : Hid (∀ W : World, W.heap[wr.heap.size]? = wx.heap[wr.heap.size]? → W.cell? ⟨wr.heap.size, 0, none⟩ = some (.int .i64 xk) ∧ (W.cell? ⟨wr.heap.size, 1, none⟩ = some (.int .i64 kk) ∧ W.cell? ⟨wr.heap.size, 2, none⟩ = some (S nn) ∧ W.cell? ⟨wr.heap.size, 3, none⟩ = some (.int .i64 pp) ∧ W.cell? ⟨wr.heap.size, 4, none⟩ = some (.slice At us.length ct)) ∧ W.cell? ⟨wr.heap.size, 5, none⟩ = some (.slice Ap xp.length cp) ∧ W.cell? ⟨wr.heap.size, 6, none⟩ = some (.int .i64 xf)) := Lib.hid (fun W hW => by
    have e := hW.trans qx
    exact ⟨Lib.cell_of_heap e 0, ⟨Lib.cell_of_heap e 1, Lib.cell_of_heap e 2, Lib.cell_of_heap e 3, Lib.cell_of_heap e 4⟩, Lib.cell_of_heap e 5, Lib.cell_of_heap e 6⟩)
   have hvne : u3.ownBlock ≠ some wr.heap.size := fun e => by have := (hown.lt _ e).2; omega
   have hv0 := (htv.toV.below hbw).below bx
   have hp0 := (hip.toO.below hbw).below bx
   have CT : Hid (∀ W, Below wx.heap.size wx W → Calls Tryz.prog 93 #[.agg #[.int .i64 kk, S nn, .int .i64 pp, .slice At us.length ct]] W fun e w' => (∃ A' c', e = .returned (.agg #[.int .i64 kk, S nn, .int .i64 pp, .slice A' us.length c']) ∧ TreeVP (fun b => W.heap.size ≤ b) w' xt (.agg #[.int .i64 kk, S nn, .int .i64 pp, .slice A' us.length c'])) ∧ Below W.heap.size W w') := Lib.hid (fun W hW => by
    refine (ownTerm_upto _ hsz xt _ W (Nat.le_refl _) (hv0.below hW)).mono ?_
    rintro e w' ⟨⟨v', rfl, h⟩, hb⟩
    rw [HE.out] at h
    obtain ⟨A', c', rfl, _⟩ := h.openT
    rw [← HE.out] at h
    exact ⟨⟨A', c', rfl, h⟩, hb⟩)
   have CC : Hid (∀ W, Below wx.heap.size wx W → Calls Tryz.prog 94 #[.slice Ap xp.length cp] W fun e w' => (∃ A' c', e = .returned (.slice A' xp.length c') ∧ xp.length ≤ c' ∧ IntsP (fun b => W.heap.size ≤ b) w' A' xp) ∧ Below W.heap.size W w') := Lib.hid (fun W hW => cloneInts_any xp Ap cp W hpl (hp0.below hW))
   have OW : Hid (∀ W, Below wx.heap.size wx W → W.ownsRow w.heap.size 93 7 u3 k xs) := Lib.hid (fun W hW => hox.kept (Oth.of_below (T := W.heap.size) hW) (.inr fun e => by have := (hox.lt _ e).2; have := hW.size; omega))
   have HOWN := Lib.hid hown
   have HROW := Lib.hid hrow
   have hlm : k + 1 ≤ maxLen := by unfold maxLen; omega
   have hlb : (k + 1) * 96 ≤ 140737488355328 := by omega
   have hsw : w.heap.size ≤ wx.heap.size := Nat.le_trans hbw.size bx.size
   have G0 : Below wx.heap.size wx wx.drew := (Below.refl _ _).drew
   have aa : ∀ W W', Below wx.heap.size wx W → Below W.heap.size W W' → Below wx.heap.size wx W' := fun W W' h h' => h.trans (h'.mono h.size)
   clear hown hrow hbw hox hv0 hp0 htv hip he hwx bx qx d0 d1 d2 d3 d4 d5 d6 hall HI htk hlt2 hb hsz hpl
   go_upto_region 5 with fail
   rw [HWX.out]
   clear HWX f0 f1 f2 f3 f4 f5 f6
   go_region_held3 (fun W => W.cell? ⟨wr.heap.size, 0, none⟩ = some (.int .i64 xk) ∧ (W.cell? ⟨wr.heap.size, 1, none⟩ = some (.int .i64 kk) ∧ W.cell? ⟨wr.heap.size, 2, none⟩ = some (S nn) ∧ W.cell? ⟨wr.heap.size, 3, none⟩ = some (.int .i64 pp) ∧ W.cell? ⟨wr.heap.size, 4, none⟩ = some (.slice At us.length ct)) ∧ W.cell? ⟨wr.heap.size, 5, none⟩ = some (.slice Ap xp.length cp) ∧ W.cell? ⟨wr.heap.size, 6, none⟩ = some (.int .i64 xf))
    (first | exact SC.out _ G0 | assumption | (refine SC.out _ ?_; assumption) | (refine SC.out _ ?_; refine Below.alloc ?_ (Below.size (by assumption)) _; assumption))
    (first
     | (go_at_call 93; ((with_reducible refine (CT.out _ ?_).mono ?_)); assumption; rintro e w5 ⟨⟨A5, c5, rfl, h5⟩, hb5'⟩; have hb5 := aa _ _ (by assumption) hb5')
     | (go_at_call 94; ((with_reducible refine (CC.out _ ?_).mono ?_)); assumption; rintro e w6 ⟨⟨A6, c6, rfl, hc6, h6⟩, hb6'⟩; have hb6 := aa _ _ (by assumption) hb6')
     | (refine step_append_own_at _ (by rfl) _ _ 37 (by rfl) w.heap.size 93 i0 _ 7 96 Tryz.underlying37 hi hz0 hz1 hz2 rfl (by decide) _ _ _ (by rfl) ((OW.out w6 hb6).alloc _) ⟨w6.heap.size, 0, none⟩ 1 1 [.int .i64 xk, .int .i64 kk, S nn, .int .i64 pp, .slice A5 us.length c5, .slice A6 xp.length c6, .int .i64 xf] (by rfl) (by rfl) (fun j u h => ocells_new w6 _ rfl [.int .i64 xk, .int .i64 kk, S nn, .int .i64 pp, .slice A5 us.length c5, .slice A6 xp.length c6, .int .i64 xf] _ j u h) oneCell7 hlm hlb (oalloc_le (Nat.le_trans hsw hb6.size)) ?_; intro v9 w9 hown9 hg9 hloc9; have HN9 : Hid (LkI w (l.take (k + 1)) v9 w9) := Lib.hid (by rw [HT.out]; exact LkI.step (x := ⟨xk, xt, xp, xf⟩) (by rw [HTK.out]; exact HOWN.out) HROW.out HB.out (BX.out.trans (hb6.mono BX.out.size)) HE.out hc6 (h6.keep (fun _ _ _ => rfl) (Nat.le_refl _) (fun b _ h => Nat.le_trans (Nat.le_trans BX.out.size hb5.size) h)) (h5.keep (fun b _ hlt => hb6'.block b hlt) hb6'.size (fun b _ h => Nat.le_trans BX.out.size h)) (by rw [HTK.out]; exact hown9) hg9 hloc9); have h9c := SB.out w9 ((hg9.block wr.heap.size (by have := hb6.size; simp; omega) (fun e => hvne e.symm)).trans ((Lib.alloc_old _ _ _ (by have := hb6.size; omega)).trans (hb6.block _ lx))); (try dsimp only at h9c); clear hg9 hloc9 hown9)
     | (refine step_append_own_at _ (by rfl) _ _ 37 (by rfl) w.heap.size 93 i0 _ 7 96 Tryz.underlying37 hi hz0 hz1 hz2 rfl (by decide) _ _ _ (by rfl) ((OW.out w5 hb5).alloc _) ⟨w5.heap.size, 0, none⟩ 1 1 [.int .i64 xk, .int .i64 kk, S nn, .int .i64 pp, .slice A5 us.length c5, .slice A6 xp.length c6, .int .i64 xf] (by rfl) (by rfl) (fun j u h => ocells_new w5 _ rfl [.int .i64 xk, .int .i64 kk, S nn, .int .i64 pp, .slice A5 us.length c5, .slice A6 xp.length c6, .int .i64 xf] _ j u h) oneCell7 hlm hlb (oalloc_le (Nat.le_trans hsw hb5.size)) ?_; intro v9 w9 hown9 hg9 hloc9; have HN9 : Hid (LkI w (l.take (k + 1)) v9 w9) := Lib.hid (by rw [HT.out]; exact LkI.step (x := ⟨xk, xt, xp, xf⟩) (by rw [HTK.out]; exact HOWN.out) HROW.out HB.out (BX.out.trans (hb5.mono BX.out.size)) HE.out hc6 (h6.keep (fun b _ hlt => hb5'.block b hlt) hb5'.size (fun b _ h => Nat.le_trans BX.out.size h)) (h5.keep (fun _ _ _ => rfl) (Nat.le_refl _) (fun b _ h => Nat.le_trans (Nat.le_trans BX.out.size hb6.size) h)) (by rw [HTK.out]; exact hown9) hg9 hloc9); have h9c := SB.out w9 ((hg9.block wr.heap.size (by have := hb5.size; simp; omega) (fun e => hvne e.symm)).trans ((Lib.alloc_old _ _ _ (by have := hb5.size; omega)).trans (hb5.block _ lx))); (try dsimp only at h9c); clear hg9 hloc9 hown9))
   all_goals
    go_wp2_with fail
    go_roundw
    case rel => exact ⟨k + 1, by omega, by go_num, HN9⟩
    case measure => simp [intOf]; omega
  ·obtain rfl : k = N := by omega
   have HZ : Hid ((∃ A' c', Ending.returned u3 = .returned (.slice A' k c') ∧ k ≤ c' ∧ LinksP (fun b => w.heap.size ≤ b) wr A' l) ∧ Below w.heap.size w wr) := Lib.hid (by
    rw [← HN.out, List.take_length] at hown hrow
    obtain ⟨A', c', hv, hc⟩ := own_form hown
    subst hv
    rw [HN.out] at hc
    refine ⟨⟨A', c', by rw [HN.out], hc, linksP_own hown (fun _ h => h) (hrow.keep (fun _ _ _ => rfl) (Nat.le_refl _) (fun b _ h => h.1))⟩, hbw⟩)
   clear hown hrow hbw HI
   go_wp2_with fail
   go_ret
   exact HZ.out
end Go.Proofs.YtadjpadieljjlaaGreat
namespace Go.Proofs.YtadjpadieljjlaaGreat
open Go.RowKit Go.Maps
def CpI (w2 : World) (B : Nat) (ix : Int) (l m : List Lfc.Link) (A5 A6 : Option Addr) (N M c5 c6 : Nat) (W : World) : Prop :=
 Below w2.heap.size w2 W ∧ w2.heap.size ≤ B ∧ W.heap[B]? = some (.cells #[.int .i64 ix, .slice none 0 0, .slice A5 N c5, .slice A6 M c6] 39 (0, 0)) ∧ (LinksP (fun b => w2.heap.size ≤ b) W A5 l ∧ N ≤ c5) ∧ (LinksP (fun b => w2.heap.size ≤ b) W A6 m ∧ M ≤ c6)
theorem cpi_mid {w2 w5 w6 s4 : World} {ix : Int} {l m : List Lfc.Link} {A5 A6 : Option Addr} {N M c5 c6 : Nat} {o : Obj} (h5 : LinksP (fun b => w2.heap.size ≤ b) w5 A5 l) (hc5 : N ≤ c5) (h6 : LinksP (fun b => (w5.alloc o).heap.size ≤ b) w6 A6 m) (hc6 : M ≤ c6) (hs : w2.heap.size ≤ w5.heap.size) (hb6 : Below (w5.alloc o).heap.size (w5.alloc o) w6)
  (hq : s4.heap[w5.heap.size]? = some (.cells #[.int .i64 ix, .slice none 0 0, .slice A5 N c5, .slice A6 M c6] 39 (0, 0))) (ho : Oth w5.heap.size w6 s4) (hs4 : Below w2.heap.size w2 s4) : CpI w2 w5.heap.size ix l m A5 A6 N M c5 c6 s4 := by
 have e : (w5.alloc o).heap.size = w5.heap.size + 1 := by simp
 have hs6 := hb6.size
 refine ⟨hs4, hs, hq, ⟨h5.keep (fun b _ hlt => ?_) (Nat.le_trans (by omega) ho.size) (fun _ _ h => h), hc5⟩, ⟨h6.keep (fun b hb hlt => ?_) ho.size (fun b _ hb => ?_), hc6⟩⟩
 ·exact (ho.block b (by omega) (fun e => by have e := Option.some.inj e; omega)).trans ((hb6.block b (by omega)).trans (Lib.alloc_old _ _ _ hlt))
 ·have hb : (w5.alloc o).heap.size ≤ b := hb
  exact ho.block b hlt (fun e => by have e := Option.some.inj e; omega)
 ·have hb : (w5.alloc o).heap.size ≤ b := hb
  show w2.heap.size ≤ b
  omega
theorem cpi_first {w2 w5 w6 s4 : World} {ix : Int} {l m : List Lfc.Link} {A5 A6 : Option Addr} {N M c5 c6 : Nat} (h5 : LinksP (fun b => w2.heap.size < b) w5 A5 l) (hc5 : N ≤ c5) (h6 : LinksP (fun b => w5.heap.size ≤ b) w6 A6 m) (hc6 : M ≤ c6) (hs : w2.heap.size < w5.heap.size) (hb6 : Below w5.heap.size w5 w6)
  (hq : s4.heap[w2.heap.size]? = some (.cells #[.int .i64 ix, .slice none 0 0, .slice A5 N c5, .slice A6 M c6] 39 (0, 0))) (ho : Oth w2.heap.size w6 s4) (hs4 : Below w2.heap.size w2 s4) : CpI w2 w2.heap.size ix l m A5 A6 N M c5 c6 s4 := by
 have hs6 := hb6.size
 refine ⟨hs4, Nat.le_refl _, hq, ⟨h5.keep (fun b hb hlt => ?_) (Nat.le_trans hs6 ho.size) (fun b _ hb => Nat.le_of_lt hb), hc5⟩, ⟨h6.keep (fun b hb hlt => ?_) ho.size (fun b _ hb => ?_), hc6⟩⟩
 ·have hb : w2.heap.size < b := hb
  exact (ho.block b (by omega) (fun e => by have e := Option.some.inj e; omega)).trans (hb6.block b hlt)
 ·have hb : w5.heap.size ≤ b := hb
  exact ho.block b hlt (fun e => by have e := Option.some.inj e; omega)
 ·have hb : w5.heap.size ≤ b := hb
  show w2.heap.size ≤ b
  omega
set_option maxRecDepth 100000 in
set_option maxHeartbeats 8000000 in
theorem oCopied0_any (q q' : Nat → Prop) (ix : Int) (l m : List Lfc.Link) (A B : Option Addr) (c d : Nat) (w : World) (hn : l.length ≤ 100000) (hm : m.length ≤ 100000) (hst : ∀ x ∈ l, x.term.size ≤ 1000000 ∧ x.path.length ≤ 10000000) (hmt : ∀ x ∈ m, x.term.size ≤ 1000000 ∧ x.path.length ≤ 10000000) (hl : LinksP q w A l) (hl' : LinksP q' w B m) :
  Calls Tryz.prog 37 #[.agg #[.int .i64 ix, .slice none 0 0, .slice A l.length c, .slice B m.length d]] w fun e w' => (∃ A' c' B' d', e = .returned (.agg #[.int .i64 ix, .slice none 0 0, .slice A' l.length c', .slice B' m.length d']) ∧ l.length ≤ c' ∧ m.length ≤ d' ∧ LinksP (fun b => w.heap.size ≤ b) w' A' l ∧ LinksP (fun b => w.heap.size ≤ b) w' B' m) ∧ Below w.heap.size w w' := by
 obtain ⟨N, hN⟩ : ∃ N, l.length = N := ⟨_, rfl⟩
 obtain ⟨M, hM⟩ : ∃ M, m.length = M := ⟨_, rfl⟩
 obtain ⟨w1, hw1⟩ : ∃ w1, w.alloc (.cells #[.int .i64 ix, .slice none 0 0, .slice A N c, .slice B M d] 39) = w1 := ⟨_, rfl⟩
 obtain ⟨w2, hw2⟩ : ∃ w2, w1.alloc (.cells #[.int .i64 0, .slice none 0 0, .slice none 0 0, .slice none 0 0] 39) = w2 := ⟨_, rfl⟩
 have b1 : Below w.heap.size w w1 := by rw [← hw1]; exact (Below.refl _ _).alloc (Nat.le_refl _) _
 have b2 : Below w1.heap.size w1 w2 := by rw [← hw2]; exact (Below.refl _ _).alloc (Nat.le_refl _) _
 have q1 : w1.heap[w.heap.size]? = some (.cells #[.int .i64 ix, .slice none 0 0, .slice A N c, .slice B M d] 39 (0, 0)) := by rw [← hw1]; exact heap_alloc_new _ _
 have q2 : w2.heap[w1.heap.size]? = some (.cells #[.int .i64 0, .slice none 0 0, .slice none 0 0, .slice none 0 0] 39 (0, 0)) := by rw [← hw2]; exact heap_alloc_new _ _
 have l1 := lt_of_block q1
 have l2 := lt_of_block q2
 have b02 : Below w.heap.size w w2 := b1.trans (b2.mono (by omega))
 have s02 : w.heap.size ≤ w2.heap.size := by omega
 have Q1 := Lib.hid ((b2.block _ l1).trans q1)
 have Q2 := Lib.hid q2
 have B02 := Lib.hid b02
 have CL : Hid (∀ W, Below w2.heap.size w2 W → Calls Tryz.prog 64 #[.slice A N c] W fun e w' => (∃ A' c', e = .returned (.slice A' N c') ∧ N ≤ c' ∧ LinksP (fun b => W.heap.size ≤ b) w' A' l) ∧ Below W.heap.size W w') := Lib.hid (fun W hW => by
  have := oLinks_any q l A c W hn hst (hl.below (b02.trans (hW.mono s02)))
  rwa [hN] at this)
 have CM : Hid (∀ W, Below w2.heap.size w2 W → Calls Tryz.prog 64 #[.slice B M d] W fun e w' => (∃ A' c', e = .returned (.slice A' M c') ∧ M ≤ c' ∧ LinksP (fun b => W.heap.size ≤ b) w' A' m) ∧ Below W.heap.size W w') := Lib.hid (fun W hW => by
  have := oLinks_any q' m B d W hm hmt (hl'.below (b02.trans (hW.mono s02)))
  rwa [hM] at this)
 have SC : Hid (∀ W, Below w2.heap.size w2 W → W.cell? ⟨w.heap.size, 0, none⟩ = some (.int .i64 ix) ∧ W.cell? ⟨w.heap.size, 2, none⟩ = some (.slice A N c) ∧ W.cell? ⟨w.heap.size, 3, none⟩ = some (.slice B M d)) := Lib.hid (fun W hW => by
  have e := (hW.block _ (by omega)).trans Q1.out
  exact ⟨Lib.cell_of_heap e 0, Lib.cell_of_heap e 2, Lib.cell_of_heap e 3⟩)
 have G0 : Below w2.heap.size w2 w2.drew := (Below.refl _ _).drew
 have aa : ∀ W W', Below w2.heap.size w2 W → Below W.heap.size W W' → Below w2.heap.size w2 W' := fun W W' h h' => h.trans (h'.mono h.size)
 have HA0 : Below w2.heap.size w2 (w2.alloc (.cells #[.int .i64 0, .slice none 0 0, .slice none 0 0, .slice none 0 0] 39)).drew := ((Below.refl _ _).alloc (Nat.le_refl _) _).drew
 have HA1 : w2.heap.size < (w2.alloc (.cells #[.int .i64 0, .slice none 0 0, .slice none 0 0, .slice none 0 0] 39)).drew.heap.size := by simp [World.drew]
 have HA2 : (w2.alloc (.cells #[.int .i64 0, .slice none 0 0, .slice none 0 0, .slice none 0 0] 39)).drew.heap[w2.heap.size]? = some (Obj.cells #[.int .i64 0, .slice none 0 0, .slice none 0 0, .slice none 0 0] 39 (0, 0)) := heap_alloc_new w2 _
 have HN := Lib.hid hN
 have HM := Lib.hid hM
 rw [hN, hM]
 clear hl hl' hst hmt hn hm hN hM b1 b2 q1 q2 b02
 go_enter Tryz.func37, Tryz.ntmps37
 go_upto_region 1 with fail
 clear hw1 hw2
 go_region_held3 (fun W => W.cell? ⟨w.heap.size, 0, none⟩ = some (.int .i64 ix) ∧ W.cell? ⟨w.heap.size, 2, none⟩ = some (.slice A N c) ∧ W.cell? ⟨w.heap.size, 3, none⟩ = some (.slice B M d))
  (first | exact SC.out _ G0 | exact SC.out _ HA0 | assumption | (refine SC.out _ ?_; assumption) | exact SC.out _ (hsa5 _) | exact SC.out _ (hsa6 _) | exact SC.out _ HA0)
  (first
   | (go_at_call 64; ((with_reducible refine (CL.out w2.drew G0).mono ?_)); rintro e w5 ⟨⟨A5, c5, rfl, hc5, h5⟩, hb5'⟩; have hb5 := aa _ _ G0 hb5'; have hsa5 : ∀ o, Below w2.heap.size w2 (w5.alloc o) := fun o => hb5.alloc hb5.size o; have H5 : Hid (LinksP (fun b => w2.heap.size ≤ b) w5 A5 l ∧ N ≤ c5) := Lib.hid ⟨h5, hc5⟩; clear h5 hc5)
   | (go_at_call 64; ((with_reducible refine (CL.out (w2.alloc (.cells #[.int .i64 0, .slice none 0 0, .slice none 0 0, .slice none 0 0] 39)).drew HA0).mono ?_)); rintro e w5 ⟨⟨A5, c5, rfl, hc5, h5⟩, hb5'⟩; have hb5 := aa _ _ HA0 hb5'; have hsa5 : ∀ o, Below w2.heap.size w2 (w5.alloc o) := fun o => hb5.alloc hb5.size o; have qb5 := Lib.hid ((hb5'.block w2.heap.size HA1).trans HA2); have H5 : Hid (LinksP (fun b => w2.heap.size < b) w5 A5 l ∧ N ≤ c5) := Lib.hid ⟨h5.keep (fun _ _ _ => rfl) (Nat.le_refl _) (fun b _ h => Nat.lt_of_lt_of_le HA1 h), hc5⟩; clear h5 hc5)
   | (go_at_call 64; ((with_reducible refine (CM.out (w5.alloc (.cells #[.int .i64 0, .slice none 0 0, .slice none 0 0, .slice none 0 0] 39)) (hb5.alloc hb5.size _)).mono ?_)); rintro e w6 ⟨⟨A6, c6, rfl, hc6, h6⟩, hb6'⟩; have hb6 := aa _ _ (hb5.alloc hb5.size _) hb6'; have hsa6 : ∀ o, Below w2.heap.size w2 (w6.alloc o) := fun o => hb6.alloc hb6.size o; have qb6 := (hb6'.block w5.heap.size (by simp)).trans (heap_alloc_new w5 (.cells #[.int .i64 0, .slice none 0 0, .slice none 0 0, .slice none 0 0] 39)); obtain ⟨s1, s2, s3, s4, k1, k2, k3, k4, ⟨x0, x1, x2, x3⟩, ⟨t0, t1, t2, t3⟩, hq, ho⟩ := put4 qb6 (.int .i64 ix) (.slice none 0 0) (.slice A5 N c5) (.slice A6 M c6); have hs4 : Below w2.heap.size w2 s4 := Oth.below hb6 ho hb5.size hb6.size; have HF : Hid (CpI w2 w5.heap.size ix l m A5 A6 N M c5 c6 s4) := Lib.hid (cpi_mid H5.out.1 H5.out.2 h6 hc6 hb5.size hb6' hq ho hs4); clear hq ho qb6 h6 hc6)
   | (go_at_call 64; ((with_reducible refine (CM.out w5 hb5).mono ?_)); rintro e w6 ⟨⟨A6, c6, rfl, hc6, h6⟩, hb6'⟩; have hb6 := aa _ _ hb5 hb6'; have hsa6 : ∀ o, Below w2.heap.size w2 (w6.alloc o) := fun o => hb6.alloc hb6.size o; have qb6 := (hb6'.block w2.heap.size (lt_of_block qb5.out)).trans qb5.out; obtain ⟨s1, s2, s3, s4, k1, k2, k3, k4, ⟨x0, x1, x2, x3⟩, ⟨t0, t1, t2, t3⟩, hq, ho⟩ := put4 qb6 (.int .i64 ix) (.slice none 0 0) (.slice A5 N c5) (.slice A6 M c6); have hs4 : Below w2.heap.size w2 s4 := Oth.below hb6 ho (Nat.le_refl _) hb6.size; have HF : Hid (CpI w2 w2.heap.size ix l m A5 A6 N M c5 c6 s4) := Lib.hid (cpi_first H5.out.1 H5.out.2 h6 hc6 (lt_of_block qb5.out) hb6' hq ho hs4); clear hq ho qb6 h6 hc6)
   | (go_at_call 64; ((with_reducible refine (CM.out w5 hb5).mono ?_)); rintro e w6 ⟨⟨A6, c6, rfl, hc6, h6⟩, hb6'⟩; have hb6 := aa _ _ hb5 hb6'; have hsa6 : ∀ o, Below w2.heap.size w2 (w6.alloc o) := fun o => hb6.alloc hb6.size o; have H6 : Hid (LinksP (fun b => w2.heap.size ≤ b) w6 A5 l ∧ N ≤ c5 ∧ LinksP (fun b => w2.heap.size ≤ b) w6 A6 m ∧ M ≤ c6) := Lib.hid ⟨H5.out.1.below hb6', H5.out.2, h6.keep (fun _ _ _ => rfl) (Nat.le_refl _) (fun b _ h => Nat.le_trans hb5.size h), hc6⟩; clear h6 hc6))
 ·obtain ⟨s4, hs4⟩ : ∃ s4, w6.alloc (.cells #[.int .i64 ix, .slice none 0 0, .slice A5 N c5, .slice A6 M c6] 39) = s4 := ⟨_, rfl⟩
  have HF : Hid (CpI w2 w6.heap.size ix l m A5 A6 N M c5 c6 s4) := Lib.hid (by
   have bz : Below w6.heap.size w6 s4 := by rw [← hs4]; exact (Below.refl _ _).alloc (Nat.le_refl _) _
   exact ⟨hb6.trans (bz.mono hb6.size), hb6.size, by rw [← hs4]; exact heap_alloc_new _ _, ⟨H6.out.1.below bz, H6.out.2.1⟩, ⟨H6.out.2.2.1.below bz, H6.out.2.2.2⟩⟩)
  rw [hs4]
  clear hs4
  obtain ⟨hbW, hBx, hqB, ⟨g5, hc5⟩, ⟨g6, hc6⟩⟩ := HF.out
  obtain ⟨y0, y1, y2, y3⟩ := cells4t ((hbW.block _ (by omega)).trans Q1.out)
  obtain ⟨z0, z1, z2, z3⟩ := cells4t hqB
  obtain ⟨r1, r2, r3, r4, m1, m2, m3, m4, ⟨p0, p1, p2, p3⟩, ⟨f0, f1, f2, f3⟩, hqr, hor⟩ := put4 ((hbW.block _ l2).trans Q2.out) (.int .i64 ix) (.slice none 0 0) (.slice A5 N c5) (.slice A6 M c6)
  have HQ := Lib.hid hqr
  have HZ : Hid ((∃ A' c' B' d', Ending.returned (.agg #[.int .i64 ix, .slice none 0 0, .slice A5 N c5, .slice A6 M c6]) = .returned (.agg #[.int .i64 ix, .slice none 0 0, .slice A' N c', .slice B' M d']) ∧ N ≤ c' ∧ M ≤ d' ∧ LinksP (fun b => w.heap.size ≤ b) r4 A' l ∧ LinksP (fun b => w.heap.size ≤ b) r4 B' m) ∧ Below w.heap.size w r4) := Lib.hid ⟨⟨A5, c5, A6, c6, rfl, hc5, hc6, g5.keep (fun b hb hlt => hor.block b hlt (fun e => by have e := Option.some.inj e; have hb : w2.heap.size ≤ b := hb; omega)) hor.size (fun b _ hb => Nat.le_trans s02 hb), g6.keep (fun b hb hlt => hor.block b hlt (fun e => by have e := Option.some.inj e; have hb : w2.heap.size ≤ b := hb; omega)) hor.size (fun b _ hb => Nat.le_trans s02 hb)⟩, Oth.below (B02.out.trans (hbW.mono s02)) hor (by omega) (Nat.le_trans s02 hbW.size)⟩
  clear hqr hor g5 g6 hqB hbW HF
  go_wp2_with fail
  go_loopw [18] (fun i wr => i = .int .i64 0 ∧ wr = s4) (fun i _ => 0)
  case atStart => exact ⟨rfl, by simp⟩
  case round =>
   obtain ⟨rfl, hwx⟩ := hrel
   subst hwx
   go_wp2_with fail
   refine bodyPost_ret (results_proof rfl _ _ _ _ _ _ _ rfl HQ.out) rfl ?_
   exact HZ.out
 ·clear k1 k2 k3 k4 x0 x1 x2 x3 t0 t1 t2 t3
  obtain ⟨hbW, hBx, hqB, ⟨g5, hc5⟩, ⟨g6, hc6⟩⟩ := HF.out
  obtain ⟨y0, y1, y2, y3⟩ := cells4t ((hbW.block _ (by omega)).trans Q1.out)
  obtain ⟨z0, z1, z2, z3⟩ := cells4t hqB
  obtain ⟨r1, r2, r3, r4, m1, m2, m3, m4, ⟨p0, p1, p2, p3⟩, ⟨f0, f1, f2, f3⟩, hqr, hor⟩ := put4 ((hbW.block _ l2).trans Q2.out) (.int .i64 ix) (.slice none 0 0) (.slice A5 N c5) (.slice A6 M c6)
  have HQ := Lib.hid hqr
  have HZ : Hid ((∃ A' c' B' d', Ending.returned (.agg #[.int .i64 ix, .slice none 0 0, .slice A5 N c5, .slice A6 M c6]) = .returned (.agg #[.int .i64 ix, .slice none 0 0, .slice A' N c', .slice B' M d']) ∧ N ≤ c' ∧ M ≤ d' ∧ LinksP (fun b => w.heap.size ≤ b) r4 A' l ∧ LinksP (fun b => w.heap.size ≤ b) r4 B' m) ∧ Below w.heap.size w r4) := Lib.hid ⟨⟨A5, c5, A6, c6, rfl, hc5, hc6, g5.keep (fun b hb hlt => hor.block b hlt (fun e => by have e := Option.some.inj e; have hb : w2.heap.size ≤ b := hb; omega)) hor.size (fun b _ hb => Nat.le_trans s02 hb), g6.keep (fun b hb hlt => hor.block b hlt (fun e => by have e := Option.some.inj e; have hb : w2.heap.size ≤ b := hb; omega)) hor.size (fun b _ hb => Nat.le_trans s02 hb)⟩, Oth.below (B02.out.trans (hbW.mono s02)) hor (by omega) (Nat.le_trans s02 hbW.size)⟩
  clear hqr hor g5 g6 hqB hbW HF
  go_wp2_with fail
  go_loopw [18] (fun i wr => i = .int .i64 0 ∧ wr = s4) (fun i _ => 0)
  case atStart => exact ⟨rfl, by simp⟩
  case round =>
   obtain ⟨rfl, hwx⟩ := hrel
   subst hwx
   go_wp2_with fail
   refine bodyPost_ret (results_proof rfl _ _ _ _ _ _ _ rfl HQ.out) rfl ?_
   exact HZ.out
 ·clear k1 k2 k3 k4 x0 x1 x2 x3 t0 t1 t2 t3
  obtain ⟨hbW, hBx, hqB, ⟨g5, hc5⟩, ⟨g6, hc6⟩⟩ := HF.out
  obtain ⟨y0, y1, y2, y3⟩ := cells4t ((hbW.block _ (by omega)).trans Q1.out)
  obtain ⟨z0, z1, z2, z3⟩ := cells4t hqB
  obtain ⟨r1, r2, r3, r4, m1, m2, m3, m4, ⟨p0, p1, p2, p3⟩, ⟨f0, f1, f2, f3⟩, hqr, hor⟩ := put4 ((hbW.block _ l2).trans Q2.out) (.int .i64 ix) (.slice none 0 0) (.slice A5 N c5) (.slice A6 M c6)
  have HQ := Lib.hid hqr
  have HZ : Hid ((∃ A' c' B' d', Ending.returned (.agg #[.int .i64 ix, .slice none 0 0, .slice A5 N c5, .slice A6 M c6]) = .returned (.agg #[.int .i64 ix, .slice none 0 0, .slice A' N c', .slice B' M d']) ∧ N ≤ c' ∧ M ≤ d' ∧ LinksP (fun b => w.heap.size ≤ b) r4 A' l ∧ LinksP (fun b => w.heap.size ≤ b) r4 B' m) ∧ Below w.heap.size w r4) := Lib.hid ⟨⟨A5, c5, A6, c6, rfl, hc5, hc6, g5.keep (fun b hb hlt => hor.block b hlt (fun e => by have e := Option.some.inj e; have hb : w2.heap.size ≤ b := hb; omega)) hor.size (fun b _ hb => Nat.le_trans s02 hb), g6.keep (fun b hb hlt => hor.block b hlt (fun e => by have e := Option.some.inj e; have hb : w2.heap.size ≤ b := hb; omega)) hor.size (fun b _ hb => Nat.le_trans s02 hb)⟩, Oth.below (B02.out.trans (hbW.mono s02)) hor (by omega) (Nat.le_trans s02 hbW.size)⟩
  clear hqr hor g5 g6 hqB hbW HF
  go_wp2_with fail
  go_loopw [18] (fun i wr => i = .int .i64 0 ∧ wr = s4) (fun i _ => 0)
  case atStart => exact ⟨rfl, by simp⟩
  case round =>
   obtain ⟨rfl, hwx⟩ := hrel
   subst hwx
   go_wp2_with fail
   refine bodyPost_ret (results_proof rfl _ _ _ _ _ _ _ rfl HQ.out) rfl ?_
   exact HZ.out
end Go.Proofs.YtadjpadieljjlaaGreat
