/- The contract of check where there are no facts and the orders are right. -/
import Derived.Test.YtadjpadieljjlaaOrConcat
import Derived.Test.YtadjpadieljjlaaOrRel
import Derived.Test.YtadjpadieljjlaaOrVld
import Derived.Test.YtadjpadieljjlaaTmWf
set_option linter.unusedVariables false
set_option linter.unusedSimpArgs false
namespace Lfc
/-- The first error of terms. -/
def firstE : List Raw → Int
  | [] => 0
  | t :: r => if t.twf = 0 then firstE r else t.twf
def allO : List Raw → Bool
  | [] => true
  | t :: r => t.isO && allO r
theorem firstE_drop {l : List Raw} {k : Nat} (h : k < l.length) : firstE (l.drop k) = if l[k].twf = 0 then firstE (l.drop (k + 1)) else l[k].twf := by
  rw [List.drop_eq_getElem_cons h, firstE]
theorem allO_drop {l : List Raw} {k : Nat} (h : k < l.length) : allO (l.drop k) = (l[k].isO && allO (l.drop (k + 1))) := by
  rw [List.drop_eq_getElem_cons h, allO]
/-- The error of check, where the orders are right. -/
def chkE (l : List Raw) : Int := if firstE l = 0 then (if allO l then 0 else 32) else firstE l
end Lfc
namespace Go.Proofs.Ytadjpadieljjlaa
open Go.RowKit
theorem RowP.cell1 {q : Nat → Prop} {w : World} : ∀ {ts : List Lfc.Raw} {xs : List Value}, RowP q w ts xs → ∀ u ∈ xs, u.oneCell' = true
  | [], xs, h, u, hu => by rw [RowP] at h; subst h; cases hu
  | t :: r, xs, h, u, hu => by
    rw [RowP] at h
    obtain ⟨v0, v1, v2, v3, ys, rfl, ht, hr⟩ := h
    obtain ⟨k, n, p, ts⟩ := t
    rw [TreeP] at ht
    obtain ⟨rfl, rfl, _, rfl, A, c, rfl, _⟩ := ht
    simp only [List.mem_cons] at hu
    rcases hu with rfl | rfl | rfl | rfl | hu
    · rfl
    · rfl
    · rfl
    · rfl
    · exact hr.cell1 u hu
theorem addr_add0 (b o j : Nat) : (⟨b, o, none⟩ : Addr).add j = ⟨b, o + j, none⟩ := by unfold Addr.add; split <;> simp_all
/-- A slice of trees as one of several. -/
theorem treesAt_part {w : World} {A : Option Addr} {ts : List Lfc.Raw} (h : TreesAt w A ts) : ∃ xs, xs.length = ts.length * 4 ∧ RowP (fun b => b < w.heap.size) w ts xs ∧ (∀ a, A = some a → ∀ j u, xs[j]? = some u → w.cell? (a.add j) = some u) ∧ (∀ u ∈ xs, u.oneCell' = true) := by
  by_cases h0 : ts = []
  · subst h0
    exact ⟨[], rfl, by rw [RowP], fun _ _ j u hj => by simp at hj, fun u hu => by cases hu⟩
  · obtain ⟨b, o, rfl, hb, hts⟩ := h h0
    obtain ⟨xs, hx, hc⟩ := (TreesO.toP (q := fun b => b < w.heap.size) (fun _ h => h) ts b o hts).row
    refine ⟨xs, by rw [hx.len]; omega, hx, fun a ha j u hj => ?_, hx.cell1⟩
    cases ha
    rw [addr_add0]
    exact hc j u hj
theorem treesAt_own {q : Nat → Prop} {w : World} {base : Nat} {v : Value} {n : Nat} {xs : List Value} {ts : List Lfc.Raw} (h : w.ownsRow base 34 4 v n xs) (hr : RowP q w ts xs) : ∃ A c, v = .slice A ts.length c ∧ TreesAt w A ts := by
  have hl := hr.len
  have hn : n = ts.length := by have := h.1; omega
  subst hn
  rcases h.2 with ⟨rfl, h0⟩ | ⟨g, cap, cur, rfl, hb, hg, _⟩
  · have : ts = [] := List.length_eq_zero_iff.1 h0
    subst this
    exact ⟨none, 0, rfl, fun h => absurd rfl h⟩
  · refine ⟨some ⟨g, 0, none⟩, cap, rfl, fun _ => ⟨g, 0, rfl, lt_of_block hg, ?_⟩⟩
    exact TreesP.toC ts g 0 (hr.lie (own_cells h))

set_option maxRecDepth 100000 in
set_option maxHeartbeats 1000000 in
theorem idxFact_nil (fv : Value) (w : World) : Calls Try.prog 58 #[.slice none 0 0, fv] w fun e w' => e = .returned (.int .i64 (-1)) ∧ w' = w := by
  go_enter Try.func58, Try.ntmps58
  go_wp2_with fail
  go_loopw [8] (fun i wr => i = .int .i64 0 ∧ wr = w) (fun i _ => 0)
  case atStart => exact ⟨rfl, by simp⟩
  case round =>
    obtain ⟨rfl, hwx⟩ := hrel
    subst hwx
    go_wp2_with fail
    go_ret
    exact ⟨rfl, rfl⟩
set_option maxRecDepth 100000 in
set_option maxHeartbeats 1000000 in
theorem conFact_nil (fv : Value) (w : World) : Calls Try.prog 48 #[.slice none 0 0, fv] w fun e w' => e = .returned (.bool false) ∧ w' = w := by
  have C := Lib.hid (idxFact_nil fv w)
  go_enter Try.func48, Try.ntmps48
  go_wp2_with fail
  refine C.out.mono ?_
  rintro e w2 ⟨rfl, rfl⟩
  go_wp2_with fail
  go_ret
  exact ⟨rfl, rfl⟩

set_option maxRecDepth 100000 in
set_option maxHeartbeats 8000000 in
theorem oCheck0_any (o p : Lfc.Ord) (vo vp : Value) (ts us : List Lfc.Raw) (L R : Option Addr) (cl cr : Nat) (w : World) (hos : o.size ≤ 1000000) (hps : p.size ≤ 1000000) (hvo : OrdV w o vo) (hvp : OrdV w p vp) (ho : o.vld ts.length = 0) (hp : p.vld us.length = 0) (hsh : Lfc.Ord.shp o p = true)
    (hn : ts.length ≤ 1000) (hm : us.length ≤ 1000) (hst : ∀ t ∈ ts ++ us, t.size ≤ 1000000) (hL : L = none → ts.length = 0 ∧ cl = 0) (hR : R = none → us.length = 0 ∧ cr = 0) (hts : TreesAt w L ts) (hus : TreesAt w R us) :
    Calls Try.prog 36 #[.slice none 0 0, .int .i64 1, vo, .slice L ts.length cl, vp, .slice R us.length cr] w fun e w' => e = .returned (.int .i64 (Lfc.chkE (ts ++ us))) ∧ Below w.heap.size w w' := by
  have HVO := Lib.hid hvo
  have HVP := Lib.hid hvp
  obtain ⟨A1, c1, k1, a1, l1, rfl⟩ : ∃ A c kd ar n, vo = .agg #[.int .i64 kd, .int .i64 ar, .slice A n c] := by
    obtain ⟨kd, ar, ts⟩ := o
    obtain ⟨A, c, rfl, hc, hA⟩ := hvo.open_
    exact ⟨A, c, kd, ar, _, rfl⟩
  obtain ⟨A2, c2, k2, a2, l2, rfl⟩ : ∃ A c kd ar n, vp = .agg #[.int .i64 kd, .int .i64 ar, .slice A n c] := by
    obtain ⟨kd, ar, ts⟩ := p
    obtain ⟨A, c, rfl, hc, hA⟩ := hvp.open_
    exact ⟨A, c, kd, ar, _, rfl⟩
  obtain ⟨xs1, hx1, hr1, hc1, ho1⟩ := treesAt_part hts
  obtain ⟨xs2, hx2, hr2, hc2, ho2⟩ := treesAt_part hus
  obtain ⟨all, hall⟩ : ∃ all, ts ++ us = all := ⟨_, rfl⟩
  obtain ⟨n, hnn⟩ : ∃ n, ts.length = n := ⟨_, rfl⟩
  obtain ⟨m, hmm⟩ : ∃ m, us.length = m := ⟨_, rfl⟩
  have hlen : all.length = n + m := by rw [← hall, List.length_append, hnn, hmm]
  rw [hnn] at ho hn hL hx1 ⊢
  rw [hmm] at hp hm hR hx2 ⊢
  obtain ⟨w1, hw1⟩ : ∃ w1, w.alloc (.cells #[.int .i64 k1, .int .i64 a1, .slice A1 l1 c1] 28) = w1 := ⟨_, rfl⟩
  obtain ⟨w2, hw2⟩ : ∃ w2, w1.alloc (.cells #[.int .i64 k2, .int .i64 a2, .slice A2 l2 c2] 28) = w2 := ⟨_, rfl⟩
  obtain ⟨w3, hw3⟩ : ∃ w3, w2.alloc (.cells #[.slice none 0 0, .slice L n cl, .slice R m cr] 32) = w3 := ⟨_, rfl⟩
  have b1 : Below w.heap.size w w1 := by rw [← hw1]; exact (Below.refl _ _).alloc (Nat.le_refl _) _
  have b2 : Below w1.heap.size w1 w2 := by rw [← hw2]; exact (Below.refl _ _).alloc (Nat.le_refl _) _
  have b3 : Below w2.heap.size w2 w3 := by rw [← hw3]; exact (Below.refl _ _).alloc (Nat.le_refl _) _
  have q1 : w1.heap[w.heap.size]? = some (.cells #[.int .i64 k1, .int .i64 a1, .slice A1 l1 c1] 28 (0, 0)) := by rw [← hw1]; exact heap_alloc_new _ _
  have q2 : w2.heap[w1.heap.size]? = some (.cells #[.int .i64 k2, .int .i64 a2, .slice A2 l2 c2] 28 (0, 0)) := by rw [← hw2]; exact heap_alloc_new _ _
  have q3 : w3.heap[w2.heap.size]? = some (.cells #[.slice none 0 0, .slice L n cl, .slice R m cr] 32 (0, 0)) := by rw [← hw3]; exact heap_alloc_new _ _
  have e1 := lt_of_block q1
  have e2 := lt_of_block q2
  have e3 := lt_of_block q3
  have b03 : Below w.heap.size w w3 := (b1.trans (b2.mono (by omega))).trans (b3.mono (by omega))
  have Q1 := Lib.hid ((b3.block _ (by omega)).trans ((b2.block _ e1).trans q1))
  have Q2 := Lib.hid ((b3.block _ e2).trans q2)
  have s03 : w.heap.size ≤ w3.heap.size := by omega
  have hPO : PartsO w3 w2.heap.size 0 [⟨none, 0, 0, []⟩, ⟨L, n, cl, xs1⟩, ⟨R, m, cr, xs2⟩] := by
    intro k hk
    have hk3 : k < 3 := hk
    have hk' : k = 0 ∨ k = 1 ∨ k = 2 := by omega
    rcases hk' with rfl | rfl | rfl
    · exact ⟨Lib.cell_of_heap q3 0, rfl, fun _ => ⟨rfl, rfl⟩, (fun a h => by cases h), (fun u h => by cases h)⟩
    · exact ⟨Lib.cell_of_heap q3 1, hx1, hL, fun a ha j u hj => (b03.cell (World.block_lt_of_cell? w _ (hc1 a ha j u hj))).trans (hc1 a ha j u hj), ho1⟩
    · exact ⟨Lib.cell_of_heap q3 2, hx2, hR, fun a ha j u hj => (b03.cell (World.block_lt_of_cell? w _ (hc2 a ha j u hj))).trans (hc2 a ha j u hj), ho2⟩
  have CC := Lib.hid (concatT_any w2.heap.size 0 3 _ w3 (by simp) (by simp [partsN]; omega) hPO)
  have HRW : Hid (∀ w4 v, w4.ownsRow w3.heap.size 34 4 v (partsN [⟨none, 0, 0, []⟩, ⟨L, n, cl, xs1⟩, ⟨R, m, cr, xs2⟩]) (partsX [⟨none, 0, 0, []⟩, ⟨L, n, cl, xs1⟩, ⟨R, m, cr, xs2⟩]) → Below w3.heap.size w3 w4 → ∃ A c, v = .slice A all.length c ∧ TreesAt w4 A all) := Lib.hid (fun w4 v ho hb => by
    have hb0 := b03.trans (hb.mono s03)
    refine treesAt_own (q := fun b => b < w.heap.size) (xs := xs1 ++ xs2) (by simpa [partsX] using ho) ?_
    rw [← hall]
    exact RowP.append (RowP.keep (fun b hb1 hb2 => hb0.block b hb2) hb0.size (fun _ _ h => h) hr2) (RowP.keep (fun b hb1 hb2 => hb0.block b hb2) hb0.size (fun _ _ h => h) hr1))
  have HST : Hid (∀ k (h : k < all.length), all[k].size ≤ 1000000) := Lib.hid (fun k h => hst _ (by rw [hall]; exact List.getElem_mem h))
  have CV1 : Hid (∀ W, Below w3.heap.size w3 W → Calls Try.prog 9 #[.agg #[.int .i64 k1, .int .i64 a1, .slice A1 l1 c1], .int .i64 (n : Int)] W fun e w' => e = .returned (.int .i64 0) ∧ Below W.heap.size W w') := Lib.hid (fun W hW => by
    have := oValid_any o _ (n : Int) W hos (by omega) (by omega) (HVO.out.below (b03.trans (hW.mono s03)))
    rwa [ho] at this)
  have CV2 : Hid (∀ W, Below w3.heap.size w3 W → Calls Try.prog 9 #[.agg #[.int .i64 k2, .int .i64 a2, .slice A2 l2 c2], .int .i64 (m : Int)] W fun e w' => e = .returned (.int .i64 0) ∧ Below W.heap.size W w') := Lib.hid (fun W hW => by
    have := oValid_any p _ (m : Int) W hps (by omega) (by omega) (HVP.out.below (b03.trans (hW.mono s03)))
    rwa [hp] at this)
  have CS : Hid (∀ W, Below w3.heap.size w3 W → Calls Try.prog 12 #[.agg #[.int .i64 k1, .int .i64 a1, .slice A1 l1 c1], .agg #[.int .i64 k2, .int .i64 a2, .slice A2 l2 c2]] W fun e w' => e = .returned (.bool true) ∧ Below W.heap.size W w') := Lib.hid (fun W hW => by
    have := oShape_upto _ hos o p _ _ W (Nat.le_refl _) (HVO.out.below (b03.trans (hW.mono s03))) (HVP.out.below (b03.trans (hW.mono s03)))
    rwa [hsh] at this)
  have CR : Hid (∀ W, Calls Try.prog 47 #[.int .i64 1] W fun e w' => e = .returned (.bool true) ∧ w' = W) := Lib.hid (fun W => oRel_any 1 W)
  have CF := Lib.hid conFact_nil
  have B03 := Lib.hid b03
  have hl2 : all.length ≤ 2000 := by omega
  obtain ⟨N, hN⟩ : ∃ N, all.length = N := ⟨_, rfl⟩
  have HRES : Hid ((Lfc.firstE all ≠ 0 → Lfc.chkE all = Lfc.firstE all) ∧ (Lfc.firstE all = 0 → Lfc.allO all = false → Lfc.chkE all = 32) ∧ (Lfc.firstE all = 0 → Lfc.allO all = true → Lfc.chkE all = 0)) := Lib.hid ⟨fun h => by rw [Lfc.chkE, if_neg h], fun h h2 => by rw [Lfc.chkE, if_pos h, h2]; rfl, fun h h2 => by rw [Lfc.chkE, if_pos h, h2]; rfl⟩
  rw [hall]
  obtain ⟨res, hres⟩ : ∃ res, Lfc.chkE all = res := ⟨_, rfl⟩
  rw [hres] at HRES ⊢
  clear hvo hvp hx1 hr1 hc1 ho1 hx2 hr2 hc2 ho2 hall hnn hmm hlen ho hp hsh hst hL hR hts hus b1 b2 b3 q1 q2 q3 b03 hPO hres
  have HN := Lib.hid hN
  rw [hN] at hl2
  clear hN
  go_enter Try.func36, Try.ntmps36
  go_wp2_with fail
  go_loopw [13, 25] (fun v i wr => v = .slice none 0 0 ∧ i = .int .i64 0 ∧ wr = w2) (fun _ i _ => 0)
  case atStart => exact ⟨rfl, rfl, by simp⟩
  case round =>
    obtain ⟨rfl, rfl, hwx⟩ := hrel
    subst hwx
    obtain ⟨wq, hwq⟩ : ∃ wq, wq = wr := ⟨_, rfl⟩
    subst hwq
    go_wp2_with fail
    refine CC.out.mono ?_
    rintro e w4 ⟨⟨v4, rfl, hown⟩, b4⟩
    obtain ⟨A4, c4, rfl, hT4⟩ := HRW.out _ _ hown b4
    rw [HN.out]
    have HT4 := Lib.hid hT4
    have B4 := Lib.hid b4
    have I0 : Hid (Below w4.heap.size w4 w4) := Lib.hid (Below.refl _ _)
    clear hown hT4 b4 CC HRW hw1 hw2 hw3
    go_wp2_with fail
    go_loopw [44] (fun i wr => ∃ k : Nat, k ≤ N ∧ i = .int .i64 (k : Int) ∧ Hid (Lfc.firstE all = Lfc.firstE (all.drop k)) ∧ Hid (Below w4.heap.size w4 wr)) (fun i _ => N - (intOf i).toNat)
    case atStart => exact ⟨0, by omega, rfl, Lib.hid rfl, I0⟩
    case round =>
      obtain ⟨k, hk, rfl, HF, HB⟩ := hrel
      by_cases hlt : k < N
      · have hlt2 : k < all.length := by rw [HN.out]; exact hlt
        obtain ⟨b, oo, kk, nn, pp, us', B', cc, rfl, hb, ht, d0, d1, d2, d3, hcu, hB, hT⟩ := HT4.out.at_ hlt2
        have hbw := HB.out
        have f0 := (hbw.cell (p := ⟨b, oo + k * 4, none⟩) hb).trans d0
        have f1 := (hbw.cell (p := ⟨b, oo + k * 4 + 1, none⟩) hb).trans d1
        have f2 := (hbw.cell (p := ⟨b, oo + k * 4 + 2, none⟩) hb).trans d2
        have f3 := (hbw.cell (p := ⟨b, oo + k * 4 + 3, none⟩) hb).trans d3
        have hi0 : (0 : Int) ≤ (k : Int) := Int.natCast_nonneg _
        have hi1 : (k : Int) < (N : Int) := by omega
        obtain ⟨wx, hwx⟩ : ∃ wx, wr.alloc (.cells #[.int .i64 kk, S nn, .int .i64 pp, .slice B' us'.length cc] 34) = wx := ⟨_, rfl⟩
        have bx : Below wr.heap.size wr wx := by rw [← hwx]; exact (Below.refl _ _).alloc (Nat.le_refl _) _
        have qx : wx.heap[wr.heap.size]? = some (.cells #[.int .i64 kk, S nn, .int .i64 pp, .slice B' us'.length cc] 34 (0, 0)) := by rw [← hwx]; exact heap_alloc_new _ _
        obtain ⟨y0, y1, y2, y3⟩ := cells4t qx
        have CW := Lib.hid (tWf_any all[k] _ wx (by have := HST.out k hlt2; omega) (hT.below (hbw.trans (bx.mono hbw.size))))
        have HB2 := Lib.hid (hbw.trans (bx.mono hbw.size))
        have HFD := Lib.hid (HF.out.trans (Lfc.firstE_drop hlt2))
        have HWX := Lib.hid hwx
        obtain ⟨z, hz⟩ : ∃ z, all[k].twf = z := ⟨_, rfl⟩
        rw [hz] at CW HFD
        clear hz qx bx hwx hT hB ht d0 d1 d2 d3 hbw hlt2
        go_upto_region 11 with fail
        rw [HWX.out]
        clear HWX f0 f1 f2 f3
        go_wp2_with fail
        refine CW.out.mono ?_
        rintro e w5 ⟨rfl, b5⟩
        have HB5 := Lib.hid (HB2.out.trans (b5.mono HB2.out.size))
        clear b5 CW y0 y1 y2 y3
        by_cases hz0 : z = 0
        · have HFE : Hid (Lfc.firstE all = Lfc.firstE (all.drop (k + 1))) := Lib.hid (by rw [HFD.out, if_pos hz0])
          clear HFD
          subst hz0
          go_wp2_with fail
          go_roundw
          case rel => exact ⟨k + 1, by omega, by go_num, HFE, HB5⟩
          case measure => simp [intOf]; omega
        · have HFE : Hid (Lfc.firstE all = z) := Lib.hid (by rw [HFD.out, if_neg hz0])
          have hz1 : (z == 0) = false := by simpa using hz0
          have hz2 : (z != 0) = true := by simpa using hz0
          have hz3 : decide (z = 0) = false := by simpa using hz0
          have HZ : Hid (Ending.returned (.int .i64 z) = .returned (.int .i64 res) ∧ Below w.heap.size w w5) := Lib.hid ⟨by rw [HRES.out.1 (by rw [HFE.out]; exact hz0), HFE.out], B03.out.trans ((B4.out.trans (HB5.out.mono B4.out.size)).mono s03)⟩
          clear HFD hz0
          go_wp2_with fail
          go_ret
          exact HZ.out
      · obtain rfl : k = N := by omega
        have HFE : Hid (Lfc.firstE all = 0) := Lib.hid (by rw [HF.out, ← HN.out, List.drop_length, Lfc.firstE])
        clear HF
        have I0 : Hid (Below w4.heap.size w4 wr) := HB
        clear HB
        obtain ⟨wq2, hwq2⟩ : ∃ wq2, wq2 = wr := ⟨_, rfl⟩
        subst hwq2
        go_wp2_with fail
        go_loopw [56] (fun i wr => ∃ j : Nat, j ≤ k ∧ i = .int .i64 (j : Int) ∧ Hid (Lfc.allO all = Lfc.allO (all.drop j)) ∧ Hid (Below w4.heap.size w4 wr)) (fun i _ => k - (intOf i).toNat)
        case atStart => exact ⟨0, by omega, rfl, Lib.hid rfl, I0⟩
        case round =>
          clear I0
          obtain ⟨j, hj, rfl, HF, HB⟩ := hrel
          by_cases hlt : j < k
          · have hlt2 : j < all.length := by rw [HN.out]; exact hlt
            obtain ⟨b, oo, kk, nn, pp, us', B', cc, rfl, hb, ht, d0, d1, d2, d3, hcu, hB, hT⟩ := HT4.out.at_ hlt2
            have hbw := HB.out
            have f0 := (hbw.cell (p := ⟨b, oo + j * 4, none⟩) hb).trans d0
            have f1 := (hbw.cell (p := ⟨b, oo + j * 4 + 1, none⟩) hb).trans d1
            have f2 := (hbw.cell (p := ⟨b, oo + j * 4 + 2, none⟩) hb).trans d2
            have f3 := (hbw.cell (p := ⟨b, oo + j * 4 + 3, none⟩) hb).trans d3
            have hi0 : (0 : Int) ≤ (j : Int) := Int.natCast_nonneg _
            have hi1 : (j : Int) < (k : Int) := by omega
            obtain ⟨wx, hwx⟩ : ∃ wx, wr.alloc (.cells #[.int .i64 kk, S nn, .int .i64 pp, .slice B' us'.length cc] 34) = wx := ⟨_, rfl⟩
            have bx : Below wr.heap.size wr wx := by rw [← hwx]; exact (Below.refl _ _).alloc (Nat.le_refl _) _
            have qx : wx.heap[wr.heap.size]? = some (.cells #[.int .i64 kk, S nn, .int .i64 pp, .slice B' us'.length cc] 34 (0, 0)) := by rw [← hwx]; exact heap_alloc_new _ _
            obtain ⟨y0, y1, y2, y3⟩ := cells4t qx
            have CW := Lib.hid (tIsO_any all[j] _ wx (HST.out j hlt2) (hT.below (hbw.trans (bx.mono hbw.size))))
            have HB2 := Lib.hid (hbw.trans (bx.mono hbw.size))
            have HFD := Lib.hid (HF.out.trans (Lfc.allO_drop hlt2))
            have HWX := Lib.hid hwx
            obtain ⟨z, hz⟩ : ∃ z, all[j].isO = z := ⟨_, rfl⟩
            rw [hz] at CW HFD
            clear hz qx bx hwx hT hB ht d0 d1 d2 d3 hbw hlt2
            go_upto_region 18 with fail
            rw [HWX.out]
            clear HWX f0 f1 f2 f3
            go_wp2_with fail
            refine CW.out.mono ?_
            rintro e w5 ⟨rfl, b5⟩
            have HB5 := Lib.hid (HB2.out.trans (b5.mono HB2.out.size))
            clear b5 CW y0 y1 y2 y3
            cases z
            · have HZ : Hid (Ending.returned (.int .i64 32) = .returned (.int .i64 res) ∧ Below w.heap.size w w5) := Lib.hid ⟨by rw [HRES.out.2.1 HFE.out (by rw [HFD.out]; rfl)], B03.out.trans ((B4.out.trans (HB5.out.mono B4.out.size)).mono s03)⟩
              clear HFD
              go_wp2_with fail
              go_ret
              exact HZ.out
            · have HFE2 : Hid (Lfc.allO all = Lfc.allO (all.drop (j + 1))) := Lib.hid (by rw [HFD.out]; rfl)
              clear HFD
              go_wp2_with fail
              go_roundw
              case rel => exact ⟨j + 1, by omega, by go_num, HFE2, HB5⟩
              case measure => simp [intOf]; omega
          · obtain rfl : j = k := by omega
            have HAO : Hid (Lfc.allO all = true) := Lib.hid (by rw [HF.out, ← HN.out, List.drop_length, Lfc.allO])
            have HRZ : Hid (res = 0) := Lib.hid (HRES.out.2.2 HFE.out HAO.out)
            have b3r := B4.out.trans (HB.out.mono B4.out.size)
            have HB0 := Lib.hid b3r
            obtain ⟨y0, y1, y2⟩ := cells3o ((b3r.block _ (by omega)).trans Q1.out)
            have C1 := Lib.hid (CV1.out _ b3r)
            clear HF HB HAO b3r
            go_wp2_with fail
            refine C1.out.mono ?_
            rintro e w6 ⟨rfl, b6⟩
            have b36 := HB0.out.trans (b6.mono HB0.out.size)
            have HB6 := Lib.hid b36
            obtain ⟨z0, z1, z2⟩ := cells3o ((b36.block _ (by omega)).trans Q2.out)
            have C2 := Lib.hid (CV2.out _ b36)
            clear b36 b6 C1 y0 y1 y2
            go_wp2_with fail
            refine C2.out.mono ?_
            rintro e w7 ⟨rfl, b7⟩
            have b37 := HB6.out.trans (b7.mono HB6.out.size)
            have HB7 := Lib.hid b37
            obtain ⟨y0, y1, y2⟩ := cells3o ((b37.block _ (by omega)).trans Q1.out)
            clear z0 z1 z2
            obtain ⟨z0, z1, z2⟩ := cells3o ((b37.block _ (by omega)).trans Q2.out)
            have C3 := Lib.hid (CS.out _ b37)
            clear b37 b7 C2
            go_wp2_with fail
            refine C3.out.mono ?_
            rintro e w8 ⟨rfl, b8⟩
            have HB8 := Lib.hid (HB7.out.trans (b8.mono HB7.out.size))
            clear b8 C3 y0 y1 y2 z0 z1 z2
            go_wp2_with fail
            refine (CR.out _).mono ?_
            rintro e w9 ⟨rfl, rfl⟩
            go_wp2_with fail
            refine (CF.out _ _).mono ?_
            rintro e w9 ⟨rfl, rfl⟩
            have HZ : Hid (Ending.returned (.int .i64 0) = .returned (.int .i64 res) ∧ Below w.heap.size w w9) := Lib.hid ⟨by rw [HRZ.out], B03.out.trans (HB8.out.mono s03)⟩
            go_wp2_with fail
            go_ret
            exact HZ.out
end Go.Proofs.Ytadjpadieljjlaa
