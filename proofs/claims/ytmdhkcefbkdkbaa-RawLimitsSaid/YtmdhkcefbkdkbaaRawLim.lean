/- The walk of the law RawLimits. -/
import Derived.Test.YtmdhkcefbkdkbaaRawLimP
import Derived.Test.YtmdhkcefbkdkbaaRawMade
set_option linter.unusedVariables false
set_option linter.unusedSimpArgs false
namespace Go.Proofs.Ytmdhkcefbkdkbaa
open Go.RowKit Go.Maps Go.WideMaps

theorem TreeV.node2 {w : World} {t : Lfc.Raw} {v : Value} (h : TreeV w t v) : ∃ k n p ts A c, t = .node k n p ts ∧ v = .agg #[.int .i64 k, S n, .int .i64 p, .slice A ts.length c] := by
  obtain ⟨k, n, p, ts⟩ := t
  obtain ⟨A, c, rfl, _⟩ := h.open_
  exact ⟨k, n, p, ts, A, c, rfl, rfl⟩
def BalUpto (m : Nat) : Prop := ∀ (n : Nat) (z : Int) (w : World), z = (n : Int) → 1 ≤ n → n ≤ m → n ≤ 100000 →
    Calls Try.prog 5 #[.int .i64 z] w fun e w' => ∃ v, e = .returned v ∧ TreeVP (fun b => w.heap.size ≤ b) w' (Lfc.bal n) v ∧ Below w.heap.size w w'
theorem TreeVP.parts {q : Nat → Prop} {w : World} {t : Lfc.Raw} {v : Value} (h : TreeVP q w t v) : ∃ v0 v1 v2 v3, v = .agg #[v0, v1, v2, v3] ∧ TreeP q w t v0 v1 v2 v3 := h
/-- One tree in a new block. -/
theorem treesAtP_one {q : Nat → Prop} {W : World} {g : Nat} {t : Lfc.Raw} {v0 v1 v2 v3 : Value} {ty : TypeId} (ht : TreeP q W t v0 v1 v2 v3) (hq : q g) (hg : W.heap[g]? = some (.cells #[v0, v1, v2, v3] ty (0, 0))) : TreesAtP q W (some ⟨g, 0, none⟩) [t] := fun _ =>
  ⟨g, 0, rfl, lt_of_block hg, hq, (RowP.one ht).lie (fun j u hj => by
    rw [Nat.zero_add]
    match j with
    | 0 => simp at hj; subst hj; exact Lib.cell_of_heap hg 0
    | 1 => simp at hj; subst hj; exact Lib.cell_of_heap hg 1
    | 2 => simp at hj; subst hj; exact Lib.cell_of_heap hg 2
    | 3 => simp at hj; subst hj; exact Lib.cell_of_heap hg 3
    | j + 4 => simp at hj)⟩
theorem treesAtP_two {q : Nat → Prop} {W : World} {g : Nat} {t t' : Lfc.Raw} {v0 v1 v2 v3 u0 u1 u2 u3 : Value} {ty : TypeId} (ht : TreeP q W t v0 v1 v2 v3) (ht' : TreeP q W t' u0 u1 u2 u3) (hq : q g) (hg : W.heap[g]? = some (.cells #[v0, v1, v2, v3, u0, u1, u2, u3] ty (0, 0))) : TreesAtP q W (some ⟨g, 0, none⟩) [t, t'] := fun _ =>
  ⟨g, 0, rfl, lt_of_block hg, hq, ((RowP.one ht').append (RowP.one ht)).lie (fun j u hj => by
    rw [Nat.zero_add]
    match j with
    | 0 => simp at hj; subst hj; exact Lib.cell_of_heap hg 0
    | 1 => simp at hj; subst hj; exact Lib.cell_of_heap hg 1
    | 2 => simp at hj; subst hj; exact Lib.cell_of_heap hg 2
    | 3 => simp at hj; subst hj; exact Lib.cell_of_heap hg 3
    | 4 => simp at hj; subst hj; exact Lib.cell_of_heap hg 4
    | 5 => simp at hj; subst hj; exact Lib.cell_of_heap hg 5
    | 6 => simp at hj; subst hj; exact Lib.cell_of_heap hg 6
    | 7 => simp at hj; subst hj; exact Lib.cell_of_heap hg 7
    | j + 8 => simp at hj)⟩

set_option maxRecDepth 100000 in
set_option maxHeartbeats 4000000 in
theorem bal_upto : ∀ m, BalUpto m
  | 0 => by intro n z w hz h1 h2; omega
  | m + 1 => by
    intro n z w hz h1 h2 h3
    have ih := bal_upto m
    obtain ⟨wa, hwa⟩ : ∃ wa, w.alloc (.cells #[.int .i64 0, S [], .int .i64 0, .slice none 0 0] 25) = wa := ⟨_, rfl⟩
    have ba : Below w.heap.size w wa := by rw [← hwa]; exact (Below.refl _ _).alloc (Nat.le_refl _) _
    have sa := eq2 (show wa.heap.size = w.heap.size + 1 by rw [← hwa]; simp)
    have qa : wa.heap[w.heap.size]? = some (.cells #[.int .i64 0, S [], .int .i64 0, .slice none 0 0] 25 (0, 0)) := by rw [← hwa]; exact heap_alloc_new _ _
    have QA := Lib.hid qa
    have BA := Lib.hid ba
    by_cases e1 : n = 1
    · subst e1
      rw [Lfc.bal_one]
      obtain rfl : z = 1 := by omega
      obtain ⟨s1, s2, s3, s4, g1, g2, g3, g4, ⟨y0, y1, y2, y3⟩, ⟨f0, f1, f2, f3⟩, q, oq⟩ := put4 qa (.int .i64 3) (S []) (.int .i64 0) (.slice none 0 0)
      have HQ := Lib.hid q
      have HO := Lib.hid oq
      clear q oq qa ba hz ih
      go_enter Try.func5, Try.ntmps5
      go_upto_region 1 with fail
      clear hwa
      go_wp2_with fail
      refine bodyPost_ret (results_raw rfl _ _ _ _ _ _ _ rfl HQ.out) rfl ?_
      exact ⟨_, rfl, TreeVP.mk (ts := []) (by simp) (by simp) (fun h => absurd rfl h), Oth.below BA.out HO.out (Nat.le_refl _) (by omega)⟩
    by_cases e2 : n = 2
    · subst e2
      rw [Lfc.bal_two]
      obtain rfl : z = 2 := by omega
      obtain ⟨wb, hwb⟩ : ∃ wb, wa.alloc (.cells #[.int .i64 3, S [], .int .i64 0, .slice none 0 0] 25) = wb := ⟨_, rfl⟩
      have bb : Below wa.heap.size wa wb := by rw [← hwb]; exact (Below.refl _ _).alloc (Nat.le_refl _) _
      have qb : wb.heap[wa.heap.size]? = some (.cells #[.int .i64 3, S [], .int .i64 0, .slice none 0 0] 25 (0, 0)) := by rw [← hwb]; exact heap_alloc_new _ _
      obtain ⟨s1, s2, s3, s4, g1, g2, g3, g4, ⟨y0, y1, y2, y3⟩, ⟨f0, f1, f2, f3⟩, q, oq⟩ := put4 ((bb.block _ (lt_of_block qa)).trans qa) (.int .i64 8) (S [120]) (.int .i64 0) (.slice (some ⟨wa.heap.size, 0, none⟩) 1 1)
      have HQ := Lib.hid q
      have HO := Lib.hid oq
      have QB := Lib.hid qb
      have BB := Lib.hid bb
      clear q oq qa ba hz ih qb bb
      go_enter Try.func5, Try.ntmps5
      go_upto_region 1 with fail
      clear hwa
      go_wp2_with fail
      refine bodyPost_ret (results_raw rfl _ _ _ _ _ _ _ rfl HQ.out) rfl ?_
      refine ⟨_, rfl, TreeVP.mk (ts := [.node 3 [] 0 []]) (by simp) (by simp) ?_, Oth.below (BA.out.trans (BB.out.mono (by omega))) HO.out (Nat.le_refl _) (by have := BB.out.size; omega)⟩
      refine treesAtP_one (by rw [TreeP]; exact ⟨rfl, rfl, by simp, rfl, none, 0, rfl, by simp, fun h => absurd rfl h⟩) (by omega) (HO.out.heap QB.out (by omega))
    have e3 : 3 ≤ n := by omega
    obtain rfl := hz
    rw [Lfc.bal_more n e3]
    have C1 := Lib.hid (ih ((n - 1) / 2) (((n : Int) - 1) / 2) wa (by omega) (by omega) (by omega) (by omega))
    have C2 := Lib.hid (fun W => ih (n - 1 - (n - 1) / 2) ((n : Int) - 1 - ((n : Int) - 1) / 2) W (by omega) (by omega) (by omega) (by omega))
    have d1 : ((n : Int) == 1) = false := by simpa using (by omega : ¬ (n : Int) = 1)
    have d2 : ((n : Int) == 2) = false := by simpa using (by omega : ¬ (n : Int) = 2)
    generalize Lfc.bal ((n - 1) / 2) = T1 at *
    generalize Lfc.bal (n - 1 - (n - 1) / 2) = T2 at *
    clear ih qa ba
    go_enter Try.func5, Try.ntmps5
    go_upto_region 1 with fail
    clear hwa
    go_wp2_with fail
    refine C1.out.mono ?_
    rintro e w1 ⟨v1, rfl, hv1, b1⟩
    obtain ⟨x0, x1, x2, x3, rfl, hP1⟩ := hv1
    have HP1 := Lib.hid hP1
    clear hP1
    go_wp2_with fail
    refine (C2.out w1).mono ?_
    rintro e w2 ⟨v2, rfl, hv2, b2⟩
    obtain ⟨u0, u1, u2, u3, rfl, hP2⟩ := hv2
    have HP2 := Lib.hid hP2
    clear hP2
    have hs1 := b1.size
    have hs2 := b2.size
    obtain ⟨w3, hw3⟩ : ∃ w3, w2.alloc (.cells #[x0, x1, x2, x3, u0, u1, u2, u3] 25) = w3 := ⟨_, rfl⟩
    have b3 : Below w2.heap.size w2 w3 := by rw [← hw3]; exact (Below.refl _ _).alloc (Nat.le_refl _) _
    have q3 : w3.heap[w2.heap.size]? = some (.cells #[x0, x1, x2, x3, u0, u1, u2, u3] 25 (0, 0)) := by rw [← hw3]; exact heap_alloc_new _ _
    have bA : Below wa.heap.size wa w3 := b1.trans ((b2.mono hs1).trans (b3.mono (by omega)))
    have hs3 := bA.size
    obtain ⟨s1, s2, s3, s4, g1, g2, g3, g4, ⟨y0, y1, y2, y3⟩, ⟨f0, f1, f2, f3⟩, q, oq⟩ := put4 ((bA.block _ (lt_of_block QA.out)).trans QA.out) (.int .i64 5) (S []) (.int .i64 0) (.slice (some ⟨w2.heap.size, 0, none⟩) 2 2)
    have HQ := Lib.hid q
    have HO := Lib.hid oq
    have Q3 := Lib.hid q3
    have B3 := Lib.hid b3
    have BX := Lib.hid bA
    have B2 := Lib.hid b2
    clear q oq q3 b3 bA b1 b2
    go_wp2_with fail
    refine bodyPost_ret (results_raw rfl _ _ _ _ _ _ _ rfl HQ.out) rfl ?_
    refine ⟨_, rfl, TreeVP.mk (ts := [T1, T2]) (by simp) (by simp) ?_, Oth.below (BA.out.trans (BX.out.mono (by omega))) HO.out (Nat.le_refl _) (by omega)⟩
    have k3 : ∀ b, w.heap.size + 1 ≤ b → b < w3.heap.size → s4.heap[b]? = w3.heap[b]? := fun b h1 h2 => HO.out.block b h2 (fun e => by have := Option.some.inj e; omega)
    have hs23 := B3.out.size
    have t1 : TreeP (fun b => w.heap.size ≤ b) s4 T1 x0 x1 x2 x3 := TreeP.keep (fun b hb hlt => (k3 b (by omega) (by omega)).trans ((B3.out.block b (by omega)).trans (B2.out.block b hlt))) (Nat.le_trans hs2 (Nat.le_trans B3.out.size HO.out.size)) (fun b _ hb => by omega) T1 _ _ _ _ HP1.out
    have t2 : TreeP (fun b => w.heap.size ≤ b) s4 T2 u0 u1 u2 u3 := TreeP.keep (fun b hb hlt => (k3 b (by omega) (by have := B3.out.size; omega)).trans (B3.out.block b hlt)) (Nat.le_trans B3.out.size HO.out.size) (fun b _ hb => by omega) T2 _ _ _ _ HP2.out
    exact treesAtP_two t1 t2 (by omega) (HO.out.heap Q3.out (by omega))
/-- The variable of the loop bears a tree of so many binders. -/
def LimR (w : World) (B : Nat) (j : Nat) (wr : World) : Prop := ∃ (k p : Int) (nm : List UInt8) (ts : List Lfc.Raw) (A : Option Addr) (c : Nat), Lfc.lams (j - 1) = .node k nm p ts ∧ wr.heap[B]? = some (.cells #[.int .i64 k, S nm, .int .i64 p, .slice A ts.length c] 25 (0, 0)) ∧ TreeVP (fun b => b ≠ B) wr (.node k nm p ts) (.agg #[.int .i64 k, S nm, .int .i64 p, .slice A ts.length c]) ∧ Below B w wr

set_option maxRecDepth 100000 in
set_option maxHeartbeats 4000000 in
theorem rawLimits_walk (z : Int) (w : World) :
    Calls Try.prog 3 #[.int .i64 z] w fun e w' => e = .returned (.bool true) ∧ Below w.heap.size w w' := by
  have hr := cutI_lt z 4 (by omega)
  have CC := Lib.hid (cut_any z 4 w (by omega) (by omega))
  generalize cutI z 4 = n at *
  obtain ⟨wa, hwa⟩ : ∃ wa, w.alloc (.cells #[.int .i64 1, S [97], .int .i64 0, .slice none 0 0] 25) = wa := ⟨_, rfl⟩
  have ba : Below w.heap.size w wa := by rw [← hwa]; exact (Below.refl _ _).alloc (Nat.le_refl _) _
  have qa : wa.heap[w.heap.size]? = some (.cells #[.int .i64 1, S [97], .int .i64 0, .slice none 0 0] 25 (0, 0)) := by rw [← hwa]; exact heap_alloc_new _ _
  have L0 : Hid (LimR w w.heap.size 1 wa) := Lib.hid ⟨1, 0, [97], [], none, 0, rfl, qa, TreeVP.mk (ts := []) (by simp) (by simp) (fun h => absurd rfl h), ba⟩
  have HWA := Lib.hid hwa
  clear qa ba hwa
  go_enter Try.func3, Try.ntmps3
  go_wp2_with fail
  refine CC.out.mono ?_
  rintro e w2 ⟨rfl, hw2⟩
  obtain rfl := hw2.symm
  go_upto_region 3 with fail
  rw [HWA.out]
  go_wp2_with fail
  go_loopw [5] (fun i wr => ∃ j : Nat, 1 ≤ j ∧ j ≤ 127 + n ∧ i = .int .i64 j ∧ Hid (LimR w w.heap.size j wr)) (fun i _ => 128 + n - (intOf i).toNat)
  case atStart => exact ⟨1, by omega, by omega, rfl, L0⟩
  case round =>
    obtain ⟨j, hj1, hj2, rfl, HL⟩ := hrel
    obtain ⟨k, p, nm, ts, A, c, hlam, hcells, htv, hbw⟩ := HL.out
    obtain ⟨x0, x1, x2, x3⟩ := cells4 hcells
    have HC := Lib.hid hcells
    have HT := Lib.hid htv
    have HM := Lib.hid hlam
    have HB := Lib.hid hbw
    have hlt0 := lt_of_block hcells
    clear hlam hcells htv hbw HL
    by_cases hlt : j < 127 + n
    · obtain ⟨w3, hw3⟩ : ∃ w3, wr.alloc (.cells #[.int .i64 k, S nm, .int .i64 p, .slice A ts.length c] 25) = w3 := ⟨_, rfl⟩
      have b3 : Below wr.heap.size wr w3 := by rw [← hw3]; exact (Below.refl _ _).alloc (Nat.le_refl _) _
      have q3 : w3.heap[wr.heap.size]? = some (.cells #[.int .i64 k, S nm, .int .i64 p, .slice A ts.length c] 25 (0, 0)) := by rw [← hw3]; exact heap_alloc_new _ _
      obtain ⟨s1, s2, s3, s4, g1, g2, g3, g4, ⟨y0, y1, y2, y3⟩, ⟨f0, f1, f2, f3⟩, q, oq⟩ := put4 ((b3.block _ hlt0).trans HC.out) (.int .i64 8) (S [120]) (.int .i64 0) (.slice (some ⟨wr.heap.size, 0, none⟩) 1 1)
      have HQ := Lib.hid q
      have HO := Lib.hid oq
      have Q3 := Lib.hid q3
      have B3 := Lib.hid b3
      clear q oq q3 b3
      have hd1 : decide ((j : Int) < 128 + n - 1) = true := by simp; omega
      go_wp2_with fail
      go_roundw
      case rel =>
        refine ⟨j + 1, by omega, by omega, by go_num, Lib.hid ⟨8, 0, [120], [.node k nm p ts], some ⟨wr.heap.size, 0, none⟩, 1, ?_, HQ.out, TreeVP.mk (ts := [.node k nm p ts]) (by simp) (by simp) ?_, Oth.below (HB.out.trans (B3.out.mono (by omega))) HO.out (Nat.le_refl _) (by have := B3.out.size; omega)⟩⟩
        · obtain ⟨i, rfl⟩ : ∃ i, j = i + 1 := ⟨j - 1, by omega⟩
          have hm := HM.out
          simp only [Nat.add_sub_cancel] at hm ⊢
          rw [Lfc.lams, hm]
        · obtain ⟨x0', x1', x2', x3', e, hP⟩ := HT.out
          cases e
          refine treesAtP_one (TreeP.keep (fun b hb hlt => (HO.out.block b (Nat.lt_of_lt_of_le hlt B3.out.size) (fun e => hb (Option.some.inj e))).trans (B3.out.block b hlt)) (Nat.le_trans B3.out.size HO.out.size) (fun b _ hb => hb) _ _ _ _ _ hP) (by omega) (HO.out.heap Q3.out (by omega))
      case measure => simp [intOf]; omega
    · obtain rfl : j = 127 + n := by omega
      have hsb := HB.out.size
      have hD : (Lfc.Raw.node k nm p ts).depth = 127 + n := by rw [← HM.out, Lfc.lams_depth]; omega
      have hSz : (Lfc.Raw.node k nm p ts).size = 127 + n := by rw [← HM.out, Lfc.lams_size]; omega
      have hWf : (Lfc.Raw.node k nm p ts).wf = if 1 < n then 2 else 0 := by
        rw [← HM.out, Lfc.lams_wf]
        by_cases h : 1 < n
        · rw [if_pos h, if_pos (by omega)]
        · rw [if_neg h, if_neg (by omega)]
      have F : ∀ W, Below wr.heap.size wr W → TreeV W (.node k nm p ts) (.agg #[.int .i64 k, S nm, .int .i64 p, .slice A ts.length c]) ∧ (W.cell? ⟨w.heap.size, 0, none⟩ = some (.int .i64 k) ∧ W.cell? ⟨w.heap.size, 1, none⟩ = some (S nm) ∧ W.cell? ⟨w.heap.size, 2, none⟩ = some (.int .i64 p) ∧ W.cell? ⟨w.heap.size, 3, none⟩ = some (.slice A ts.length c)) := fun W hb => ⟨HT.out.toV.below hb, cells4 ((hb.block _ hlt0).trans HC.out)⟩
      rcases (show n = 0 ∨ n = 1 ∨ n = 2 ∨ n = 3 by omega) with rfl | rfl | rfl | rfl
      · have D1 : Hid (∀ W, Below wr.heap.size wr W → Calls Try.prog 7 #[.agg #[.int .i64 k, S nm, .int .i64 p, .slice A ts.length c]] W fun e w' => e = .returned (.int .i64 127) ∧ Below W.heap.size W w') := Lib.hid (fun W hb => by have h := depth_any 1000 _ _ W (by omega) (by omega) (F W hb).1; rw [hD] at h; exact h)
        have D2 : Hid (∀ W, Below wr.heap.size wr W → Calls Try.prog 8 #[.agg #[.int .i64 k, S nm, .int .i64 p, .slice A ts.length c]] W fun e w' => e = .returned (.int .i64 0) ∧ Below W.heap.size W w') := Lib.hid (fun W hb => by have h := wf_any _ _ W (by omega) (F W hb).1; rw [hWf] at h; exact h)
        have FF := Lib.hid (fun W hb => (F W hb).2)
        clear hD hWf F hSz
        go_wp2_with fail
        refine (bal_upto 5000 4094 _ _ (by rfl) (by omega) (by omega) (by omega)).mono ?_
        rintro e w5 ⟨v5, rfl, hv5, b5⟩
        obtain ⟨k5, n5, p5, ts5, A5, c5, hT5, rfl⟩ := TreeV.node2 hv5.toV
        have hs5 := (Lfc.bal_all 4094 4094 (by omega) (by omega)).1
        have hw5 := Lfc.bal_wf 4094 (by omega) (by omega)
        rw [if_neg (by omega)] at hw5
        generalize Lfc.bal 4094 = T5 at *
        obtain ⟨w6, hw6⟩ : ∃ w6, w5.alloc (.cells #[.int .i64 k5, S n5, .int .i64 p5, .slice A5 ts5.length c5] 25) = w6 := ⟨_, rfl⟩
        have b6 : Below w5.heap.size w5 w6 := by rw [← hw6]; exact (Below.refl _ _).alloc (Nat.le_refl _) _
        have q6 : w6.heap[w5.heap.size]? = some (.cells #[.int .i64 k5, S n5, .int .i64 p5, .slice A5 ts5.length c5] 25 (0, 0)) := by rw [← hw6]; exact heap_alloc_new _ _
        have hV5 := hv5.toV.below b6
        have E1 : Hid (∀ W, Below w6.heap.size w6 W → Calls Try.prog 6 #[.agg #[.int .i64 k5, S n5, .int .i64 p5, .slice A5 ts5.length c5]] W fun e w' => e = .returned (.int .i64 4094) ∧ Below W.heap.size W w') := Lib.hid (fun W hb => by have h := size_any 5000 _ _ W (by omega) (by omega) (hV5.below hb); rw [hs5] at h; exact h)
        have E2 : Hid (∀ W, Below w6.heap.size w6 W → Calls Try.prog 8 #[.agg #[.int .i64 k5, S n5, .int .i64 p5, .slice A5 ts5.length c5]] W fun e w' => e = .returned (.int .i64 0) ∧ Below W.heap.size W w') := Lib.hid (fun W hb => by have h := wf_any _ _ W (by omega) (hV5.below hb); rw [hw5] at h; exact h)
        have G6 : Below wr.heap.size wr w6 := b5.trans (b6.mono b5.size)
        have EE := Lib.hid (fun W (hb : Below w6.heap.size w6 W) => And.intro (FF.out W (G6.trans (hb.mono G6.size))) (cells4 ((hb.block _ (lt_of_block q6)).trans q6)))
        have up := Lib.hid (fun W (hb : Below w6.heap.size w6 W) => G6.trans (hb.mono G6.size))
        have aa : ∀ W W', Below w6.heap.size w6 W → Below W.heap.size W W' → Below w6.heap.size w6 W' := fun W W' h h' => h.trans (h'.mono h.size)
        have HW6 := Lib.hid hw6
        have G0 : Below w6.heap.size w6 w6 := Below.refl _ _
        clear hw6 q6 b5 b6 hv5 hV5 hT5 hs5 hw5 x0 x1 x2 x3 HT HC HM
        go_upto_region 11 with fail
        rw [HW6.out]
        obtain ⟨⟨x0, x1, x2, x3⟩, ⟨y0, y1, y2, y3⟩⟩ := EE.out w6 G0
        go_wp2_with fail
        refine (E1.out _ G0).mono ?_
        rintro e w7 ⟨rfl, hb7'⟩
        have hb7 := aa _ _ G0 hb7'
        clear x0 x1 x2 x3 y0 y1 y2 y3
        obtain ⟨⟨x0, x1, x2, x3⟩, ⟨y0, y1, y2, y3⟩⟩ := EE.out w7 hb7
        go_wp2_with fail
        refine (D1.out _ (up.out _ hb7)).mono ?_
        rintro e w8 ⟨rfl, hb8'⟩
        have hb8 := aa _ _ hb7 hb8'
        clear x0 x1 x2 x3 y0 y1 y2 y3
        obtain ⟨⟨x0, x1, x2, x3⟩, ⟨y0, y1, y2, y3⟩⟩ := EE.out w8 hb8
        go_wp2_with fail
        refine (D2.out _ (up.out _ hb8)).mono ?_
        rintro e w9 ⟨rfl, hb9'⟩
        have hb9 := aa _ _ hb8 hb9'
        clear x0 x1 x2 x3 y0 y1 y2 y3
        obtain ⟨⟨x0, x1, x2, x3⟩, ⟨y0, y1, y2, y3⟩⟩ := EE.out w9 hb9
        go_wp2_with fail
        refine (E1.out _ hb9).mono ?_
        rintro e w10 ⟨rfl, hb10'⟩
        have hb10 := aa _ _ hb9 hb10'
        clear x0 x1 x2 x3 y0 y1 y2 y3
        obtain ⟨⟨x0, x1, x2, x3⟩, ⟨y0, y1, y2, y3⟩⟩ := EE.out w10 hb10
        go_wp2_with fail
        refine (E2.out _ hb10).mono ?_
        rintro e w11 ⟨rfl, hb11'⟩
        have hb11 := aa _ _ hb10 hb11'
        go_wp2_with fail
        refine (awake2_any _).mono ?_
        rintro e w12 ⟨rfl, hb12'⟩
        have hb12 := aa _ _ hb11 hb12'
        go_wp2_with fail
        go_ret
        exact ⟨rfl, HB.out.trans ((up.out _ hb12).mono (by have := HB.out.size; omega))⟩
      · have D1 : Hid (∀ W, Below wr.heap.size wr W → Calls Try.prog 7 #[.agg #[.int .i64 k, S nm, .int .i64 p, .slice A ts.length c]] W fun e w' => e = .returned (.int .i64 128) ∧ Below W.heap.size W w') := Lib.hid (fun W hb => by have h := depth_any 1000 _ _ W (by omega) (by omega) (F W hb).1; rw [hD] at h; exact h)
        have D2 : Hid (∀ W, Below wr.heap.size wr W → Calls Try.prog 8 #[.agg #[.int .i64 k, S nm, .int .i64 p, .slice A ts.length c]] W fun e w' => e = .returned (.int .i64 0) ∧ Below W.heap.size W w') := Lib.hid (fun W hb => by have h := wf_any _ _ W (by omega) (F W hb).1; rw [hWf] at h; exact h)
        have FF := Lib.hid (fun W hb => (F W hb).2)
        clear hD hWf F hSz
        go_wp2_with fail
        refine (bal_upto 5000 4095 _ _ (by rfl) (by omega) (by omega) (by omega)).mono ?_
        rintro e w5 ⟨v5, rfl, hv5, b5⟩
        obtain ⟨k5, n5, p5, ts5, A5, c5, hT5, rfl⟩ := TreeV.node2 hv5.toV
        have hs5 := (Lfc.bal_all 4095 4095 (by omega) (by omega)).1
        have hw5 := Lfc.bal_wf 4095 (by omega) (by omega)
        rw [if_neg (by omega)] at hw5
        generalize Lfc.bal 4095 = T5 at *
        obtain ⟨w6, hw6⟩ : ∃ w6, w5.alloc (.cells #[.int .i64 k5, S n5, .int .i64 p5, .slice A5 ts5.length c5] 25) = w6 := ⟨_, rfl⟩
        have b6 : Below w5.heap.size w5 w6 := by rw [← hw6]; exact (Below.refl _ _).alloc (Nat.le_refl _) _
        have q6 : w6.heap[w5.heap.size]? = some (.cells #[.int .i64 k5, S n5, .int .i64 p5, .slice A5 ts5.length c5] 25 (0, 0)) := by rw [← hw6]; exact heap_alloc_new _ _
        have hV5 := hv5.toV.below b6
        have E1 : Hid (∀ W, Below w6.heap.size w6 W → Calls Try.prog 6 #[.agg #[.int .i64 k5, S n5, .int .i64 p5, .slice A5 ts5.length c5]] W fun e w' => e = .returned (.int .i64 4095) ∧ Below W.heap.size W w') := Lib.hid (fun W hb => by have h := size_any 5000 _ _ W (by omega) (by omega) (hV5.below hb); rw [hs5] at h; exact h)
        have E2 : Hid (∀ W, Below w6.heap.size w6 W → Calls Try.prog 8 #[.agg #[.int .i64 k5, S n5, .int .i64 p5, .slice A5 ts5.length c5]] W fun e w' => e = .returned (.int .i64 0) ∧ Below W.heap.size W w') := Lib.hid (fun W hb => by have h := wf_any _ _ W (by omega) (hV5.below hb); rw [hw5] at h; exact h)
        have G6 : Below wr.heap.size wr w6 := b5.trans (b6.mono b5.size)
        have EE := Lib.hid (fun W (hb : Below w6.heap.size w6 W) => And.intro (FF.out W (G6.trans (hb.mono G6.size))) (cells4 ((hb.block _ (lt_of_block q6)).trans q6)))
        have up := Lib.hid (fun W (hb : Below w6.heap.size w6 W) => G6.trans (hb.mono G6.size))
        have aa : ∀ W W', Below w6.heap.size w6 W → Below W.heap.size W W' → Below w6.heap.size w6 W' := fun W W' h h' => h.trans (h'.mono h.size)
        have HW6 := Lib.hid hw6
        have G0 : Below w6.heap.size w6 w6 := Below.refl _ _
        clear hw6 q6 b5 b6 hv5 hV5 hT5 hs5 hw5 x0 x1 x2 x3 HT HC HM
        go_upto_region 11 with fail
        rw [HW6.out]
        obtain ⟨⟨x0, x1, x2, x3⟩, ⟨y0, y1, y2, y3⟩⟩ := EE.out w6 G0
        go_wp2_with fail
        refine (E1.out _ G0).mono ?_
        rintro e w7 ⟨rfl, hb7'⟩
        have hb7 := aa _ _ G0 hb7'
        clear x0 x1 x2 x3 y0 y1 y2 y3
        obtain ⟨⟨x0, x1, x2, x3⟩, ⟨y0, y1, y2, y3⟩⟩ := EE.out w7 hb7
        go_wp2_with fail
        refine (D1.out _ (up.out _ hb7)).mono ?_
        rintro e w8 ⟨rfl, hb8'⟩
        have hb8 := aa _ _ hb7 hb8'
        clear x0 x1 x2 x3 y0 y1 y2 y3
        obtain ⟨⟨x0, x1, x2, x3⟩, ⟨y0, y1, y2, y3⟩⟩ := EE.out w8 hb8
        go_wp2_with fail
        refine (D2.out _ (up.out _ hb8)).mono ?_
        rintro e w9 ⟨rfl, hb9'⟩
        have hb9 := aa _ _ hb8 hb9'
        clear x0 x1 x2 x3 y0 y1 y2 y3
        obtain ⟨⟨x0, x1, x2, x3⟩, ⟨y0, y1, y2, y3⟩⟩ := EE.out w9 hb9
        go_wp2_with fail
        refine (E1.out _ hb9).mono ?_
        rintro e w10 ⟨rfl, hb10'⟩
        have hb10 := aa _ _ hb9 hb10'
        clear x0 x1 x2 x3 y0 y1 y2 y3
        obtain ⟨⟨x0, x1, x2, x3⟩, ⟨y0, y1, y2, y3⟩⟩ := EE.out w10 hb10
        go_wp2_with fail
        refine (E2.out _ hb10).mono ?_
        rintro e w11 ⟨rfl, hb11'⟩
        have hb11 := aa _ _ hb10 hb11'
        go_wp2_with fail
        refine (awake2_any _).mono ?_
        rintro e w12 ⟨rfl, hb12'⟩
        have hb12 := aa _ _ hb11 hb12'
        go_wp2_with fail
        go_ret
        exact ⟨rfl, HB.out.trans ((up.out _ hb12).mono (by have := HB.out.size; omega))⟩
      · have D1 : Hid (∀ W, Below wr.heap.size wr W → Calls Try.prog 7 #[.agg #[.int .i64 k, S nm, .int .i64 p, .slice A ts.length c]] W fun e w' => e = .returned (.int .i64 129) ∧ Below W.heap.size W w') := Lib.hid (fun W hb => by have h := depth_any 1000 _ _ W (by omega) (by omega) (F W hb).1; rw [hD] at h; exact h)
        have D2 : Hid (∀ W, Below wr.heap.size wr W → Calls Try.prog 8 #[.agg #[.int .i64 k, S nm, .int .i64 p, .slice A ts.length c]] W fun e w' => e = .returned (.int .i64 2) ∧ Below W.heap.size W w') := Lib.hid (fun W hb => by have h := wf_any _ _ W (by omega) (F W hb).1; rw [hWf] at h; exact h)
        have FF := Lib.hid (fun W hb => (F W hb).2)
        clear hD hWf F hSz
        go_wp2_with fail
        refine (bal_upto 5000 4096 _ _ (by rfl) (by omega) (by omega) (by omega)).mono ?_
        rintro e w5 ⟨v5, rfl, hv5, b5⟩
        obtain ⟨k5, n5, p5, ts5, A5, c5, hT5, rfl⟩ := TreeV.node2 hv5.toV
        have hs5 := (Lfc.bal_all 4096 4096 (by omega) (by omega)).1
        have hw5 := Lfc.bal_wf 4096 (by omega) (by omega)
        rw [if_neg (by omega)] at hw5
        generalize Lfc.bal 4096 = T5 at *
        obtain ⟨w6, hw6⟩ : ∃ w6, w5.alloc (.cells #[.int .i64 k5, S n5, .int .i64 p5, .slice A5 ts5.length c5] 25) = w6 := ⟨_, rfl⟩
        have b6 : Below w5.heap.size w5 w6 := by rw [← hw6]; exact (Below.refl _ _).alloc (Nat.le_refl _) _
        have q6 : w6.heap[w5.heap.size]? = some (.cells #[.int .i64 k5, S n5, .int .i64 p5, .slice A5 ts5.length c5] 25 (0, 0)) := by rw [← hw6]; exact heap_alloc_new _ _
        have hV5 := hv5.toV.below b6
        have E1 : Hid (∀ W, Below w6.heap.size w6 W → Calls Try.prog 6 #[.agg #[.int .i64 k5, S n5, .int .i64 p5, .slice A5 ts5.length c5]] W fun e w' => e = .returned (.int .i64 4096) ∧ Below W.heap.size W w') := Lib.hid (fun W hb => by have h := size_any 5000 _ _ W (by omega) (by omega) (hV5.below hb); rw [hs5] at h; exact h)
        have E2 : Hid (∀ W, Below w6.heap.size w6 W → Calls Try.prog 8 #[.agg #[.int .i64 k5, S n5, .int .i64 p5, .slice A5 ts5.length c5]] W fun e w' => e = .returned (.int .i64 0) ∧ Below W.heap.size W w') := Lib.hid (fun W hb => by have h := wf_any _ _ W (by omega) (hV5.below hb); rw [hw5] at h; exact h)
        have G6 : Below wr.heap.size wr w6 := b5.trans (b6.mono b5.size)
        have EE := Lib.hid (fun W (hb : Below w6.heap.size w6 W) => And.intro (FF.out W (G6.trans (hb.mono G6.size))) (cells4 ((hb.block _ (lt_of_block q6)).trans q6)))
        have up := Lib.hid (fun W (hb : Below w6.heap.size w6 W) => G6.trans (hb.mono G6.size))
        have aa : ∀ W W', Below w6.heap.size w6 W → Below W.heap.size W W' → Below w6.heap.size w6 W' := fun W W' h h' => h.trans (h'.mono h.size)
        have HW6 := Lib.hid hw6
        have G0 : Below w6.heap.size w6 w6 := Below.refl _ _
        clear hw6 q6 b5 b6 hv5 hV5 hT5 hs5 hw5 x0 x1 x2 x3 HT HC HM
        go_upto_region 11 with fail
        rw [HW6.out]
        obtain ⟨⟨x0, x1, x2, x3⟩, ⟨y0, y1, y2, y3⟩⟩ := EE.out w6 G0
        go_wp2_with fail
        refine (E1.out _ G0).mono ?_
        rintro e w7 ⟨rfl, hb7'⟩
        have hb7 := aa _ _ G0 hb7'
        clear x0 x1 x2 x3 y0 y1 y2 y3
        obtain ⟨⟨x0, x1, x2, x3⟩, ⟨y0, y1, y2, y3⟩⟩ := EE.out w7 hb7
        go_wp2_with fail
        refine (D1.out _ (up.out _ hb7)).mono ?_
        rintro e w8 ⟨rfl, hb8'⟩
        have hb8 := aa _ _ hb7 hb8'
        clear x0 x1 x2 x3 y0 y1 y2 y3
        obtain ⟨⟨x0, x1, x2, x3⟩, ⟨y0, y1, y2, y3⟩⟩ := EE.out w8 hb8
        go_wp2_with fail
        refine (D2.out _ (up.out _ hb8)).mono ?_
        rintro e w9 ⟨rfl, hb9'⟩
        have hb9 := aa _ _ hb8 hb9'
        clear x0 x1 x2 x3 y0 y1 y2 y3
        obtain ⟨⟨x0, x1, x2, x3⟩, ⟨y0, y1, y2, y3⟩⟩ := EE.out w9 hb9
        go_wp2_with fail
        refine (E1.out _ hb9).mono ?_
        rintro e w10 ⟨rfl, hb10'⟩
        have hb10 := aa _ _ hb9 hb10'
        clear x0 x1 x2 x3 y0 y1 y2 y3
        obtain ⟨⟨x0, x1, x2, x3⟩, ⟨y0, y1, y2, y3⟩⟩ := EE.out w10 hb10
        go_wp2_with fail
        refine (E2.out _ hb10).mono ?_
        rintro e w11 ⟨rfl, hb11'⟩
        have hb11 := aa _ _ hb10 hb11'
        go_wp2_with fail
        refine (awake2_any _).mono ?_
        rintro e w12 ⟨rfl, hb12'⟩
        have hb12 := aa _ _ hb11 hb12'
        go_wp2_with fail
        go_ret
        exact ⟨rfl, HB.out.trans ((up.out _ hb12).mono (by have := HB.out.size; omega))⟩
      · have D1 : Hid (∀ W, Below wr.heap.size wr W → Calls Try.prog 7 #[.agg #[.int .i64 k, S nm, .int .i64 p, .slice A ts.length c]] W fun e w' => e = .returned (.int .i64 130) ∧ Below W.heap.size W w') := Lib.hid (fun W hb => by have h := depth_any 1000 _ _ W (by omega) (by omega) (F W hb).1; rw [hD] at h; exact h)
        have D2 : Hid (∀ W, Below wr.heap.size wr W → Calls Try.prog 8 #[.agg #[.int .i64 k, S nm, .int .i64 p, .slice A ts.length c]] W fun e w' => e = .returned (.int .i64 2) ∧ Below W.heap.size W w') := Lib.hid (fun W hb => by have h := wf_any _ _ W (by omega) (F W hb).1; rw [hWf] at h; exact h)
        have FF := Lib.hid (fun W hb => (F W hb).2)
        clear hD hWf F hSz
        go_wp2_with fail
        refine (bal_upto 5000 4097 _ _ (by rfl) (by omega) (by omega) (by omega)).mono ?_
        rintro e w5 ⟨v5, rfl, hv5, b5⟩
        obtain ⟨k5, n5, p5, ts5, A5, c5, hT5, rfl⟩ := TreeV.node2 hv5.toV
        have hs5 := (Lfc.bal_all 4097 4097 (by omega) (by omega)).1
        have hw5 := Lfc.bal_wf 4097 (by omega) (by omega)
        rw [if_pos (by omega)] at hw5
        generalize Lfc.bal 4097 = T5 at *
        obtain ⟨w6, hw6⟩ : ∃ w6, w5.alloc (.cells #[.int .i64 k5, S n5, .int .i64 p5, .slice A5 ts5.length c5] 25) = w6 := ⟨_, rfl⟩
        have b6 : Below w5.heap.size w5 w6 := by rw [← hw6]; exact (Below.refl _ _).alloc (Nat.le_refl _) _
        have q6 : w6.heap[w5.heap.size]? = some (.cells #[.int .i64 k5, S n5, .int .i64 p5, .slice A5 ts5.length c5] 25 (0, 0)) := by rw [← hw6]; exact heap_alloc_new _ _
        have hV5 := hv5.toV.below b6
        have E1 : Hid (∀ W, Below w6.heap.size w6 W → Calls Try.prog 6 #[.agg #[.int .i64 k5, S n5, .int .i64 p5, .slice A5 ts5.length c5]] W fun e w' => e = .returned (.int .i64 4097) ∧ Below W.heap.size W w') := Lib.hid (fun W hb => by have h := size_any 5000 _ _ W (by omega) (by omega) (hV5.below hb); rw [hs5] at h; exact h)
        have E2 : Hid (∀ W, Below w6.heap.size w6 W → Calls Try.prog 8 #[.agg #[.int .i64 k5, S n5, .int .i64 p5, .slice A5 ts5.length c5]] W fun e w' => e = .returned (.int .i64 2) ∧ Below W.heap.size W w') := Lib.hid (fun W hb => by have h := wf_any _ _ W (by omega) (hV5.below hb); rw [hw5] at h; exact h)
        have G6 : Below wr.heap.size wr w6 := b5.trans (b6.mono b5.size)
        have EE := Lib.hid (fun W (hb : Below w6.heap.size w6 W) => And.intro (FF.out W (G6.trans (hb.mono G6.size))) (cells4 ((hb.block _ (lt_of_block q6)).trans q6)))
        have up := Lib.hid (fun W (hb : Below w6.heap.size w6 W) => G6.trans (hb.mono G6.size))
        have aa : ∀ W W', Below w6.heap.size w6 W → Below W.heap.size W W' → Below w6.heap.size w6 W' := fun W W' h h' => h.trans (h'.mono h.size)
        have HW6 := Lib.hid hw6
        have G0 : Below w6.heap.size w6 w6 := Below.refl _ _
        clear hw6 q6 b5 b6 hv5 hV5 hT5 hs5 hw5 x0 x1 x2 x3 HT HC HM
        go_upto_region 11 with fail
        rw [HW6.out]
        obtain ⟨⟨x0, x1, x2, x3⟩, ⟨y0, y1, y2, y3⟩⟩ := EE.out w6 G0
        go_wp2_with fail
        refine (E1.out _ G0).mono ?_
        rintro e w7 ⟨rfl, hb7'⟩
        have hb7 := aa _ _ G0 hb7'
        clear x0 x1 x2 x3 y0 y1 y2 y3
        obtain ⟨⟨x0, x1, x2, x3⟩, ⟨y0, y1, y2, y3⟩⟩ := EE.out w7 hb7
        go_wp2_with fail
        refine (D1.out _ (up.out _ hb7)).mono ?_
        rintro e w8 ⟨rfl, hb8'⟩
        have hb8 := aa _ _ hb7 hb8'
        clear x0 x1 x2 x3 y0 y1 y2 y3
        obtain ⟨⟨x0, x1, x2, x3⟩, ⟨y0, y1, y2, y3⟩⟩ := EE.out w8 hb8
        go_wp2_with fail
        refine (D2.out _ (up.out _ hb8)).mono ?_
        rintro e w9 ⟨rfl, hb9'⟩
        have hb9 := aa _ _ hb8 hb9'
        clear x0 x1 x2 x3 y0 y1 y2 y3
        obtain ⟨⟨x0, x1, x2, x3⟩, ⟨y0, y1, y2, y3⟩⟩ := EE.out w9 hb9
        go_wp2_with fail
        refine (E1.out _ hb9).mono ?_
        rintro e w10 ⟨rfl, hb10'⟩
        have hb10 := aa _ _ hb9 hb10'
        clear x0 x1 x2 x3 y0 y1 y2 y3
        obtain ⟨⟨x0, x1, x2, x3⟩, ⟨y0, y1, y2, y3⟩⟩ := EE.out w10 hb10
        go_wp2_with fail
        refine (E2.out _ hb10).mono ?_
        rintro e w11 ⟨rfl, hb11'⟩
        have hb11 := aa _ _ hb10 hb11'
        go_wp2_with fail
        refine (awake2_any _).mono ?_
        rintro e w12 ⟨rfl, hb12'⟩
        have hb12 := aa _ _ hb11 hb12'
        go_wp2_with fail
        go_ret
        exact ⟨rfl, HB.out.trans ((up.out _ hb12).mono (by have := HB.out.size; omega))⟩
end Go.Proofs.Ytmdhkcefbkdkbaa
