/- Parts of the proof that no input makes the law false: TmSame, OrFol, OrVer, OrPrv, SmP, OcQ. -/
import Derived.Test.YtadjpadieljjlaaGreatTvAB
import Derived.Test.YtadjpadieljjlaaGreatTvAI
set_option linter.unusedVariables false
set_option linter.unusedSimpArgs false
namespace Lfc
mutual
def Raw.tsm : Raw → Raw → Bool
 | .node k n p xs, .node k' n' p' xs' => decide (k = k') && decide (p = p') && (decide (n = n') || decide (k = 2) || decide (k = 3)) && Raw.tsms xs xs'
def Raw.tsms : List Raw → List Raw → Bool
 | [], [] => true
 | a :: r, a' :: r' => Raw.tsm a a' && Raw.tsms r r'
 | _, _ => false
end
end Lfc
namespace Go.Proofs.YtadjpadieljjlaaGreat
open Go.RowKit
theorem tsms_spec : ∀ (ts us : List Lfc.Raw), Lfc.Raw.tsms ts us = true ↔ ts.length = us.length ∧ ∀ k (h : k < ts.length) (h' : k < us.length), Lfc.Raw.tsm ts[k] us[k] = true
 | [], [] => by simp [Lfc.Raw.tsms]
 | [], _ :: _ => by simp [Lfc.Raw.tsms]
 | _ :: _, [] => by simp [Lfc.Raw.tsms]
 | a :: r, b :: q => by
  rw [Lfc.Raw.tsms, Bool.and_eq_true, tsms_spec r q]
  constructor
  ·rintro ⟨h1, h2, h3⟩
   refine ⟨by simp [h2], fun k h h' => ?_⟩
   cases k with
   | zero => exact h1
   | succ k => exact h3 k (by simpa using h) (by simpa using h')
  ·rintro ⟨h1, h2⟩
   exact ⟨h2 0 (by simp) (by simp), by simpa using h1, fun k h h' => h2 (k + 1) (by simpa using h) (by simpa using h')⟩
theorem tsms_false (ts us : List Lfc.Raw) (k : Nat) (h : k < ts.length) (h' : k < us.length) (hf : Lfc.Raw.tsm ts[k] us[k] = false) : Lfc.Raw.tsms ts us = false := by
 cases hs : Lfc.Raw.tsms ts us
 ·rfl
 ·rw [((tsms_spec ts us).1 hs).2 k h h'] at hf; cases hf
theorem tsms_len (ts us : List Lfc.Raw) (h : ts.length ≠ us.length) : Lfc.Raw.tsms ts us = false := by
 cases hs : Lfc.Raw.tsms ts us
 ·rfl
 ·exact absurd ((tsms_spec ts us).1 hs).1 h
theorem enters_tsame : ∀ args w, (callFunc 167 args).run Tryz.prog w = .ok (.enter 167 args) w := enters_of Tryz.func167 (by kernel_rfl) rfl
def TSameUpto (m : Nat) : Prop := ∀ (t u : Lfc.Raw) (v v' : Value) (w : World), t.size ≤ m → TreeV w t v → TreeV w u v' →
  Calls Tryz.prog 167 #[v, v'] w fun e w' => e = .returned (.bool (Lfc.Raw.tsm t u)) ∧ Below w.heap.size w w'
set_option maxRecDepth 100000 in
set_option maxHeartbeats 1000000 in
theorem tEqualFunc_any (m : Nat) (ih : TSameUpto m) (ts us : List Lfc.Raw) (A A' : Option Addr) (c c' : Nat) (w : World) (hm : Lfc.Raw.sizes ts ≤ m) (hmax : ts.length ≤ 1000000000) (h : TreesAt w A ts) (h' : TreesAt w A' us) :
  Calls Tryz.prog 169 #[.slice A ts.length c, .slice A' us.length c', .func (.func 167) #[] #[]] w fun e w' => e = .returned (.bool (Lfc.Raw.tsms ts us)) ∧ Below w.heap.size w w' := by
 have he := enters_tsame
 have IH := Lib.hid ih
 have HA := Lib.hid h
 have HA' := Lib.hid h'
 clear ih h h'
 by_cases hl : ts.length = us.length
 ·have hs := tsms_spec ts us
  have hf := tsms_false ts us
  have HS := Lib.hid hs
  have HF := Lib.hid hf
  have HL := Lib.hid hl
  generalize Lfc.Raw.tsms ts us = res at *
  rw [← hl]
  clear hs hf hl
  go_enter Tryz.func169, Tryz.ntmps169
  go_wp2_with fail
  go_loopw [17] (fun i wr => ∃ k : Nat, k ≤ ts.length ∧ i = .int .i64 k ∧ Below w.heap.size w wr ∧ Hid (∀ j (h : j < ts.length) (h' : j < us.length), j < k → Lfc.Raw.tsm ts[j] us[j] = true)) (fun i _ => ts.length - (intOf i).toNat)
  case atStart => exact ⟨0, by omega, rfl, Below.refl _ _, Lib.hid fun j _ _ hj => by omega⟩
  case round =>
   obtain ⟨k, hk, rfl, hbw, hp⟩ := hrel
   by_cases hlt : k < ts.length
   ·have hlt' : k < us.length := by have := HL.out; omega
    obtain ⟨b, o, k1, n1, p1, xs, B, c1, rfl, hb, ht, d0, d1, d2, d3, hcu, hB, hT⟩ := (HA.out.below hbw).at_ hlt
    obtain ⟨b', o', k2, n2, p2, ys, B', c2, rfl, hb', ht', e0, e1, e2, e3, hcu', hB', hT'⟩ := (HA'.out.below hbw).at_ hlt'
    have hmem := Lfc.Raw.sizes_mem ts ts[k] (List.getElem_mem _)
    clear hB hB' ht ht'
    have b1 : Below wr.heap.size wr ((wr.alloc (.cells #[.int .i64 k1, S n1, .int .i64 p1, .slice B xs.length c1] 51)).alloc (.cells #[.int .i64 k2, S n2, .int .i64 p2, .slice B' ys.length c2] 51)) := ((Below.refl _ _).alloc (Nat.le_refl _) _).alloc (by simp) _
    have hT2 := hT.below b1
    have hT2' := hT'.below b1
    cases hq : Lfc.Raw.tsm ts[k] us[k]
    ·have hres := HF.out k hlt hlt' hq
     subst hres
     have HQ := Lib.hid hq
     clear hq
     go_wp2_with fail
     refine (IH.out ts[k] us[k] _ _ _ (by omega) hT2 hT2').mono ?_
     rintro e w1 ⟨rfl, hb1⟩
     rw [HQ.out]
     go_wp2_with fail
     go_ret
     exact ⟨rfl, hbw.trans ((b1.mono hbw.size).trans (hb1.mono (Nat.le_trans hbw.size b1.size)))⟩
    ·have HQ := Lib.hid hq
     clear hq
     go_wp2_with fail
     refine (IH.out ts[k] us[k] _ _ _ (by omega) hT2 hT2').mono ?_
     rintro e w1 ⟨rfl, hb1⟩
     rw [HQ.out]
     go_wp2_with fail
     go_roundw
     case rel =>
      refine ⟨k + 1, by omega, by go_num, hbw.trans ((b1.mono hbw.size).trans (hb1.mono (Nat.le_trans hbw.size b1.size))), Lib.hid fun j h h' hj => ?_⟩
      rcases Nat.lt_or_ge j k with h1 | h1
      ·exact hp.out j h h' h1
      ·obtain rfl : j = k := by omega
       exact HQ.out
     case measure => simp [intOf]; omega
   ·have hres := HS.out.2 ⟨HL.out, fun j h h' => hp.out j h h' (by omega)⟩
    subst hres
    go_wp2_with fail
    go_ret
    exact ⟨rfl, hbw⟩
 ·rw [tsms_len ts us hl]
  have hne : ((ts.length : Int) != (us.length : Int)) = true := by simp; omega
  clear hl
  go_enter Tryz.func169, Tryz.ntmps169
  go_wp2_with fail
  go_ret
  exact ⟨rfl, Below.refl _ _⟩
set_option maxRecDepth 100000 in
set_option maxHeartbeats 2000000 in
theorem tSame_upto (m : Nat) (hm : m ≤ 1000000000) : TSameUpto m := by
 induction m with
 | zero => intro t u v v' w h _ _; have := t.size_pos; omega
 | succ m ih =>
  intro t u v v' w hsz hv hv'
  obtain ⟨kd, nm, ps, ts⟩ := t
  obtain ⟨kd', nm', ps', us⟩ := u
  obtain ⟨A, c, rfl, hc, hA⟩ := hv.open_
  obtain ⟨A', c', rfl, hc', hA'⟩ := hv'.open_
  simp only [Lfc.Raw.size] at hsz
  have hlen := Lfc.Raw.sizes_len ts
  obtain ⟨wa, hwa⟩ : ∃ wa, w.alloc (.cells #[.int .i64 kd, S nm, .int .i64 ps, .slice A ts.length c] 51) = wa := ⟨_, rfl⟩
  obtain ⟨wb, hwb⟩ : ∃ wb, wa.alloc (.cells #[.int .i64 kd', S nm', .int .i64 ps', .slice A' us.length c'] 51) = wb := ⟨_, rfl⟩
  have b0 : Below w.heap.size w wb := by rw [← hwb, ← hwa]; exact ((Below.refl _ _).alloc (Nat.le_refl _) _).alloc (by simp) _
  have qa : wa.heap[w.heap.size]? = some (.cells #[.int .i64 kd, S nm, .int .i64 ps, .slice A ts.length c] 51 (0, 0)) := by rw [← hwa]; exact heap_alloc_new _ _
  have qb : wb.heap[wa.heap.size]? = some (.cells #[.int .i64 kd', S nm', .int .i64 ps', .slice A' us.length c'] 51 (0, 0)) := by rw [← hwb]; exact heap_alloc_new _ _
  have qab : wb.heap[w.heap.size]? = some (.cells #[.int .i64 kd, S nm, .int .i64 ps, .slice A ts.length c] 51 (0, 0)) := by rw [← hwb]; exact (Lib.alloc_old _ _ _ (lt_of_block qa)).trans qa
  have y0 := Lib.cell_of_heap qab 0
  have y1 := Lib.cell_of_heap qab 1
  have y2 := Lib.cell_of_heap qab 2
  have y3 := Lib.cell_of_heap qab 3
  have z0 := Lib.cell_of_heap qb 0
  have z1 := Lib.cell_of_heap qb 1
  have z2 := Lib.cell_of_heap qb 2
  have z3 := Lib.cell_of_heap qb 3
  simp at y0 y1 y2 y3 z0 z1 z2 z3
  have HE := Lib.hid (tEqualFunc_any m (ih (by omega)) ts us A A' c c' wb (by omega) (by omega) (hA.below b0) (hA'.below b0))
  have B0 := Lib.hid b0
  have HSM : Hid (Lfc.Raw.tsm (.node kd nm ps ts) (.node kd' nm' ps' us) = (decide (kd = kd') && decide (ps = ps') && (decide (nm = nm') || decide (kd = 2) || decide (kd = 3)) && Lfc.Raw.tsms ts us)) := Lib.hid (by rw [Lfc.Raw.tsm])
  obtain ⟨res, hres⟩ : ∃ res, Lfc.Raw.tsms ts us = res := ⟨_, rfl⟩
  rw [hres] at HSM HE
  have HYES : Hid ((kd = kd' ∧ ps = ps' ∧ (nm = nm' ∨ kd = 2 ∨ kd = 3)) → (decide (kd = kd') && decide (ps = ps') && (decide (nm = nm') || decide (kd = 2) || decide (kd = 3)) && res) = res) := Lib.hid (by rintro ⟨h1, h2, h3 | h3 | h3⟩ <;> simp [h1, h2, h3] <;> simp_all)
  have HNO : Hid (¬ (kd = kd' ∧ ps = ps' ∧ (nm = nm' ∨ kd = 2 ∨ kd = 3)) → (decide (kd = kd') && decide (ps = ps') && (decide (nm = nm') || decide (kd = 2) || decide (kd = 3)) && res) = false) := Lib.hid (by
   intro h
   rw [Bool.and_eq_false_iff]
   left
   rw [← Bool.not_eq_true]
   intro h2
   simp only [Bool.and_eq_true, Bool.or_eq_true, decide_eq_true_eq] at h2
   exact h ⟨h2.1.1, h2.1.2, by rcases h2.2 with (h3 | h3) | h3 <;> simp [h3]⟩)
  clear ih hA hA' hv hv' hres b0 qa qb qab
  by_cases h1 : kd = kd'
  ·have g1 : (kd == kd') = true := by simp [h1]
   have g1b : (kd != kd') = false := by simp [h1]
   by_cases h2 : ps = ps'
   ·have g2 : (ps == ps') = true := by simp [h2]
    have g2b : (ps != ps') = false := by simp [h2]
    by_cases h3 : nm = nm'
    ·have g3 : (nm == nm') = true := by simp [h3]
     have g3b : (nm != nm') = false := by simp [h3]
     rw [HSM.out, HYES.out (by exact ⟨h1, h2, .inl h3⟩)]
     clear HSM HYES HNO h1 h2 h3
     go_enter Tryz.func167, Tryz.ntmps167
     go_wp2_with fail
     refine HE.out.mono ?_
     rintro e w1 ⟨rfl, hb1⟩
     go_wp2_with fail
     go_ret
     exact ⟨rfl, B0.out.trans (hb1.mono B0.out.size)⟩
    ·have g3 : (nm == nm') = false := by simp [h3]
     have g3b : (nm != nm') = true := by simp [h3]
     by_cases h4 : kd = 2
     ·have g4 : (kd == 2) = true := by simp [h4]
      have g4b : (kd != 2) = false := by simp [h4]
      rw [HSM.out, HYES.out (by exact ⟨h1, h2, .inr (.inl h4)⟩)]
      clear HSM HYES HNO h1 h2 h3 h4
      go_enter Tryz.func167, Tryz.ntmps167
      go_wp2_with fail
      refine HE.out.mono ?_
      rintro e w1 ⟨rfl, hb1⟩
      go_wp2_with fail
      go_ret
      exact ⟨rfl, B0.out.trans (hb1.mono B0.out.size)⟩
     ·have g4 : (kd == 2) = false := by simp [h4]
      have g4b : (kd != 2) = true := by simp [h4]
      by_cases h5 : kd = 3
      ·have g5 : (kd == 3) = true := by simp [h5]
       have g5b : (kd != 3) = false := by simp [h5]
       rw [HSM.out, HYES.out (by exact ⟨h1, h2, .inr (.inr h5)⟩)]
       clear HSM HYES HNO h1 h2 h3 h4 h5
       go_enter Tryz.func167, Tryz.ntmps167
       go_wp2_with fail
       refine HE.out.mono ?_
       rintro e w1 ⟨rfl, hb1⟩
       go_wp2_with fail
       go_ret
       exact ⟨rfl, B0.out.trans (hb1.mono B0.out.size)⟩
      ·have g5 : (kd == 3) = false := by simp [h5]
       have g5b : (kd != 3) = true := by simp [h5]
       rw [HSM.out, HNO.out (by rintro ⟨_, _, h | h | h⟩; exact h3 h; exact h4 h; exact h5 h)]
       clear HSM HYES HNO HE h1 h2 h3 h4 h5
       go_enter Tryz.func167, Tryz.ntmps167
       go_wp2_with fail
       go_ret
       exact ⟨rfl, B0.out⟩
   ·have g2 : (ps == ps') = false := by simp [h2]
    have g2b : (ps != ps') = true := by simp [h2]
    rw [HSM.out, HNO.out (by exact fun h => h2 h.2.1)]
    clear HSM HYES HNO HE h1 h2
    go_enter Tryz.func167, Tryz.ntmps167
    go_wp2_with fail
    go_ret
    exact ⟨rfl, B0.out⟩
  ·have g1 : (kd == kd') = false := by simp [h1]
   have g1b : (kd != kd') = true := by simp [h1]
   rw [HSM.out, HNO.out (by exact fun h => h1 h.1)]
   clear HSM HYES HNO HE h1
   go_enter Tryz.func167, Tryz.ntmps167
   go_wp2_with fail
   go_ret
   exact ⟨rfl, B0.out⟩
end Go.Proofs.YtadjpadieljjlaaGreat
namespace Go.Proofs.YtadjpadieljjlaaGreat
open Go.RowKit Go.Maps
set_option maxRecDepth 100000 in
set_option maxHeartbeats 8000000 in
theorem oFollows1_any (Bx : Nat) (F0 A0 L R : Option Addr) (f0 : Nat) (ks : List Int) (c0 : Nat) (ts us : List Lfc.Raw) (cl cr : Nat) (t u r : Lfc.Raw) (vt vr : Value) (q : List Int) (qq : Nat → Prop) (A : Option Addr) (c : Nat) (w : World)
  (hks : ks.length ≤ 1000000) (hP : ProvO w Bx F0 A0 L R 0 f0 ks c0 ts us cl cr) (hst : t.size ≤ 1000000) (hsu : u.size ≤ 1000000) (hsr : r.size ≤ 1000000) (hql : q.length ≤ 1000000) (hq : q.length ≠ 0) (hv : TreeV w t vt) (hvr : TreeV w r vr) (hl : LinksP qq w A [⟨1, u, q, 0⟩]) (hfit : Lfc.Raw.fits ks t u q = true) (hsm : Lfc.Raw.tsm u r = true) (huk : ∀ k n p ts, u = .node k n p ts → k ≠ 0) :
  Calls Tryz.prog 162 #[.pointer (some ⟨Bx, 0, none⟩), vt, vr, .slice A 1 c] w fun e w' => e = .returned (.int .i64 2) ∧ Below w.heap.size w w' := by
 have HV := Lib.hid hv
 have HVR := Lib.hid hvr
 obtain ⟨At, ct, kd, nm, ps, xs, hT, rfl⟩ : ∃ A c kd nm ps xs, t = .node kd nm ps xs ∧ vt = .agg #[.int .i64 kd, S nm, .int .i64 ps, .slice A (List.length xs) c] := by
  obtain ⟨kd, nm, ps, ts⟩ := t
  obtain ⟨A, c, rfl, hc, hA⟩ := hv.open_
  exact ⟨A, c, kd, nm, ps, ts, rfl, rfl⟩
 obtain ⟨Ar, cr', kd', nm', ps', ys, hU, rfl⟩ : ∃ A c kd nm ps xs, r = .node kd nm ps xs ∧ vr = .agg #[.int .i64 kd, S nm, .int .i64 ps, .slice A (List.length xs) c] := by
  obtain ⟨kd, nm, ps, ts⟩ := r
  obtain ⟨A, c, rfl, hc, hA⟩ := hvr.open_
  exact ⟨A, c, kd, nm, ps, ts, rfl, rfl⟩
 obtain ⟨b, o, rfl, hb, _, hall⟩ := hl (by simp)
 obtain ⟨ku, nu, pu, zs, Au, cu, Ap, cp, he, d0, d1, d2, d3, d4, d5, d6, hcp, hip, htv⟩ := hall 0 (by simp)
 simp only [List.getElem_cons_zero] at he d0 d5 d6 hcp hip htv
 simp only [Nat.zero_mul, Nat.add_zero] at d0 d1 d2 d3 d4 d5 d6
 have hku : ku ≠ 0 := huk _ _ _ _ he
 have hku1 : (ku == 0) = false := by simpa using hku
 have hku2 : decide (ku = 0) = false := by simpa using hku
 have hq1 : decide ((q.length : Int) > 0) = true := by rw [decide_eq_true_eq]; omega
 have hq2 : decide ((0 : Int) < (q.length : Int)) = true := by rw [decide_eq_true_eq]; omega
 have hq3 : decide (q.length > 0) = true := by rw [decide_eq_true_eq]; omega
 have hq4 : decide (0 < q.length) = true := by rw [decide_eq_true_eq]; omega
 obtain ⟨w1, hw1⟩ : ∃ w1, w.alloc (.cells #[.int .i64 kd, S nm, .int .i64 ps, .slice At xs.length ct] 51) = w1 := ⟨_, rfl⟩
 obtain ⟨w2, hw2⟩ : ∃ w2, w1.alloc (.cells #[.int .i64 kd', S nm', .int .i64 ps', .slice Ar ys.length cr'] 51) = w2 := ⟨_, rfl⟩
 obtain ⟨w3, hw3⟩ : ∃ w3, w2.alloc (.cells #[.int .i64 1, .int .i64 ku, S nu, .int .i64 pu, .slice Au zs.length cu, .slice Ap q.length cp, .int .i64 0] 93) = w3 := ⟨_, rfl⟩
 have b1 : Below w.heap.size w w1 := by rw [← hw1]; exact (Below.refl _ _).alloc (Nat.le_refl _) _
 have b2 : Below w1.heap.size w1 w2 := by rw [← hw2]; exact (Below.refl _ _).alloc (Nat.le_refl _) _
 have b3 : Below w2.heap.size w2 w3 := by rw [← hw3]; exact (Below.refl _ _).alloc (Nat.le_refl _) _
 have q1 : w1.heap[w.heap.size]? = some (.cells #[.int .i64 kd, S nm, .int .i64 ps, .slice At xs.length ct] 51 (0, 0)) := by rw [← hw1]; exact heap_alloc_new _ _
 have q2 : w2.heap[w1.heap.size]? = some (.cells #[.int .i64 kd', S nm', .int .i64 ps', .slice Ar ys.length cr'] 51 (0, 0)) := by rw [← hw2]; exact heap_alloc_new _ _
 have q3 : w3.heap[w2.heap.size]? = some (.cells #[.int .i64 1, .int .i64 ku, S nu, .int .i64 pu, .slice Au zs.length cu, .slice Ap q.length cp, .int .i64 0] 93 (0, 0)) := by rw [← hw3]; exact heap_alloc_new _ _
 have l1 := lt_of_block q1
 have l2 := lt_of_block q2
 have l3 := lt_of_block q3
 have b13 : Below w1.heap.size w1 w3 := b2.trans (b3.mono (by omega))
 have b02 : Below w.heap.size w w2 := b1.trans (b2.mono (by omega))
 have b03 : Below w.heap.size w w3 := b1.trans (b13.mono (by omega))
 have s03 : w.heap.size ≤ w3.heap.size := by omega
 have Q1 := Lib.hid ((b13.block _ l1).trans q1)
 have Q2 := Lib.hid ((b3.block _ l2).trans q2)
 have Q3 := Lib.hid q3
 have B03 := Lib.hid b03
 have f0' := (b02.cell (p := ⟨b, o, none⟩) hb).trans d0
 have f1' := (b02.cell (p := ⟨b, o + 1, none⟩) hb).trans d1
 have f2' := (b02.cell (p := ⟨b, o + 2, none⟩) hb).trans d2
 have f3' := (b02.cell (p := ⟨b, o + 3, none⟩) hb).trans d3
 have f4' := (b02.cell (p := ⟨b, o + 4, none⟩) hb).trans d4
 have f5' := (b02.cell (p := ⟨b, o + 5, none⟩) hb).trans d5
 have f6' := (b02.cell (p := ⟨b, o + 6, none⟩) hb).trans d6
 have HP3 := Lib.hid (hP.below b03)
 have SC : Hid (∀ W, Below w3.heap.size w3 W → W.cell? ⟨Bx, 1, none⟩ = some (.slice A0 ks.length c0) ∧ (W.cell? ⟨w.heap.size, 0, none⟩ = some (.int .i64 kd) ∧ W.cell? ⟨w.heap.size, 1, none⟩ = some (S nm) ∧ W.cell? ⟨w.heap.size, 2, none⟩ = some (.int .i64 ps) ∧ W.cell? ⟨w.heap.size, 3, none⟩ = some (.slice At xs.length ct)) ∧ (W.cell? ⟨w2.heap.size, 0, none⟩ = some (.int .i64 1) ∧ W.cell? ⟨w2.heap.size, 1, none⟩ = some (.int .i64 ku) ∧ W.cell? ⟨w2.heap.size, 2, none⟩ = some (S nu) ∧ W.cell? ⟨w2.heap.size, 3, none⟩ = some (.int .i64 pu) ∧ W.cell? ⟨w2.heap.size, 4, none⟩ = some (.slice Au zs.length cu) ∧ W.cell? ⟨w2.heap.size, 5, none⟩ = some (.slice Ap q.length cp) ∧ W.cell? ⟨w2.heap.size, 6, none⟩ = some (.int .i64 0))) := Lib.hid (fun W hW => by
  have e := (hW.block _ l3).trans Q3.out
  exact ⟨(HP3.out.below hW).kinds, cells4t ((hW.block _ (by omega)).trans Q1.out), Lib.cell_of_heap e 0, Lib.cell_of_heap e 1, Lib.cell_of_heap e 2, Lib.cell_of_heap e 3, Lib.cell_of_heap e 4, Lib.cell_of_heap e 5, Lib.cell_of_heap e 6⟩)
 have CF : Hid (∀ W, Below w3.heap.size w3 W → Calls Tryz.prog 32 #[.agg #[.int .i64 kd, S nm, .int .i64 ps, .slice At xs.length ct], .agg #[.int .i64 ku, S nu, .int .i64 pu, .slice Au zs.length cu], .slice Ap q.length cp, .slice A0 ks.length c0] W fun e w' => e = .returned (.bool true) ∧ Below W.heap.size W w') := Lib.hid (fun W hW => by
  have hbW := b03.trans (hW.mono s03)
  have := oFits_any t u _ _ q Ap cp ks A0 c0 W hql hks hst hsu (hip.toO.below hbW) (HP3.out.ks.below hW) (HV.out.below hbW) (htv.toV.below hbW)
  rwa [hfit] at this)
 have CS : Hid (∀ W, Below w.heap.size w W → Calls Tryz.prog 167 #[.agg #[.int .i64 ku, S nu, .int .i64 pu, .slice Au zs.length cu], .agg #[.int .i64 kd', S nm', .int .i64 ps', .slice Ar ys.length cr']] W fun e w' => e = .returned (.bool true) ∧ Below W.heap.size W w') := Lib.hid (fun W hW => by
  have := tSame_upto _ (Nat.le_trans hsu (by decide)) u r _ _ W (Nat.le_refl _) (htv.toV.below hW) (HVR.out.below hW)
  rwa [hsm] at this)
 have G0 : Below w3.heap.size w3 w3.drew := (Below.refl _ _).drew
 have aa : ∀ W W', Below w3.heap.size w3 W → Below W.heap.size W W' → Below w3.heap.size w3 W' := fun W W' h h' => h.trans (h'.mono h.size)
 have HW3 := Lib.hid hw3
 have HL := hP.lt
 clear hP hv hvr hl hall he d0 d1 d2 d3 d4 d5 d6 hip htv hfit hsm huk hT hU b1 b2 b3 q1 q2 q3 b13 b02 b03 hq hw3
 go_enter Tryz.func162, Tryz.ntmps162
 go_wp2_with fail
 go_loopw [9, 15] (fun s i wr => (s = .int .i64 1 ∧ i = .int .i64 0 ∧ wr = w2) ∨ (s = .int .i64 2 ∧ i = .int .i64 1 ∧ Hid (Below w.heap.size w wr ∧ wr.heap[w.heap.size]? = some (.cells #[.int .i64 ku, S nu, .int .i64 pu, .slice Au zs.length cu] 51 (0, 0)) ∧ wr.heap[w1.heap.size]? = some (.cells #[.int .i64 kd', S nm', .int .i64 ps', .slice Ar ys.length cr'] 51 (0, 0))))) (fun _ i _ => 2 - (intOf i).toNat)
 case atStart => exact .inl ⟨rfl, rfl, by simp⟩
 case round =>
  rcases hrel with ⟨rfl, rfl, hwx⟩ | ⟨rfl, rfl, HI⟩
  ·subst hwx
   obtain ⟨wq, hwq⟩ : ∃ wq, wq = wr := ⟨_, rfl⟩
   subst hwq
   go_upto_region 5 with fail
   rw [HW3.out]
   obtain ⟨x0, ⟨y0, y1, y2, y3⟩, ⟨z0, z1, z2, z3, z4, z5, z6⟩⟩ := SC.out _ (Below.refl _ _)
   clear hw1 hw2 HW3 f0' f1' f2' f3' f4' f5' f6'
   go_upto_region 7 with fail
   go_region_held3 (fun W => W.cell? ⟨Bx, 1, none⟩ = some (.slice A0 ks.length c0) ∧ (W.cell? ⟨w.heap.size, 0, none⟩ = some (.int .i64 kd) ∧ W.cell? ⟨w.heap.size, 1, none⟩ = some (S nm) ∧ W.cell? ⟨w.heap.size, 2, none⟩ = some (.int .i64 ps) ∧ W.cell? ⟨w.heap.size, 3, none⟩ = some (.slice At xs.length ct)) ∧ (W.cell? ⟨wq.heap.size, 0, none⟩ = some (.int .i64 1) ∧ W.cell? ⟨wq.heap.size, 1, none⟩ = some (.int .i64 ku) ∧ W.cell? ⟨wq.heap.size, 2, none⟩ = some (S nu) ∧ W.cell? ⟨wq.heap.size, 3, none⟩ = some (.int .i64 pu) ∧ W.cell? ⟨wq.heap.size, 4, none⟩ = some (.slice Au zs.length cu) ∧ W.cell? ⟨wq.heap.size, 5, none⟩ = some (.slice Ap q.length cp) ∧ W.cell? ⟨wq.heap.size, 6, none⟩ = some (.int .i64 0)))
    (first | exact SC.out _ G0 | (refine SC.out _ ?_; assumption))
    ((go_at_call 32; ((with_reducible refine (CF.out _ ?_).mono ?_)); assumption; rintro e w5 ⟨rfl, b5'⟩; have b5 := aa _ _ (by assumption) b5'))
   all_goals
    clear x0 y0 y1 y2 y3 z0 z1 z2 z3 z4 z5 z6
    obtain ⟨x0, ⟨y0, y1, y2, y3⟩, ⟨z0, z1, z2, z3, z4, z5, z6⟩⟩ := SC.out _ b5
    obtain ⟨s1, s2, s3, s4, k1, k2, k3, k4, ⟨p0, p1, p2, p3⟩, ⟨t0, t1, t2, t3⟩, hq4', ho⟩ := put4 ((b5.block _ (by omega)).trans Q1.out) (.int .i64 ku) (S nu) (.int .i64 pu) (.slice Au zs.length cu)
    have HN : Hid (Below w.heap.size w s4 ∧ s4.heap[w.heap.size]? = some (.cells #[.int .i64 ku, S nu, .int .i64 pu, .slice Au zs.length cu] 51 (0, 0)) ∧ s4.heap[w1.heap.size]? = some (.cells #[.int .i64 kd', S nm', .int .i64 ps', .slice Ar ys.length cr'] 51 (0, 0))) := Lib.hid ⟨Oth.below (B03.out.trans (b5.mono s03)) ho (Nat.le_refl _) (Nat.le_trans s03 b5.size), hq4', ho.heap ((b5.block _ (by omega)).trans Q2.out) (by omega)⟩
    clear hq4' ho b5 b5'
    go_wp2_with fail
    go_roundw
    case rel => exact .inr ⟨rfl, rfl, HN⟩
    case measure => simp [intOf]
  ·obtain ⟨hbw, hq1', hq2'⟩ := HI.out
   obtain ⟨y0, y1, y2, y3⟩ := cells4t hq1'
   obtain ⟨z0, z1, z2, z3⟩ := cells4t hq2'
   have CSW := Lib.hid (CS.out _ hbw)
   have HBW := Lib.hid hbw
   clear hbw hq1' hq2' HI hw1 hw2
   go_wp2_with fail
   refine CSW.out.mono ?_
   rintro e w5 ⟨rfl, b5⟩
   have HZ := Lib.hid (HBW.out.trans (b5.mono HBW.out.size))
   go_wp2_with fail
   go_ret
   exact ⟨rfl, HZ.out⟩
end Go.Proofs.YtadjpadieljjlaaGreat
namespace Go.Proofs.YtadjpadieljjlaaGreat
open Go.RowKit
set_option maxRecDepth 100000 in
set_option maxHeartbeats 8000000 in
theorem oArgVerify1_any (q : List Int) (qq : Nat → Prop) (C Bk : Option Addr) (cC dk : Nat) (Bx : Nat) (F0 A0 L R : Option Addr) (f0 : Nat) (ks : List Int) (c0 : Nat) (ts us : List Lfc.Raw) (cl cr i j : Nat) (w : World) (hks : ks.length ≤ 1000000) (hP : ProvO w Bx F0 A0 L R 0 f0 ks c0 ts us cl cr) (hi : i < ts.length) (hj : j < us.length) (hsi : ts[i].size ≤ 1000000) (hsj : us[j].size ≤ 1000000) (hil : i ≤ 1000000) (hjl : j ≤ 1000000) (hql : q.length ≤ 1000000) (hq : q.length ≠ 0) (hl : LinksP qq w C [⟨1, us[j], q, 0⟩]) (hfit : Lfc.Raw.fits ks ts[i] us[j] q = true) (hsm : Lfc.Raw.tsm us[j] us[j] = true) (huk : ∀ k n p ts, us[j] = .node k n p ts → k ≠ 0) :
  Calls Tryz.prog 159 #[.agg #[.int .i64 (i : Int), .int .i64 (j : Int)], .pointer (some ⟨Bx, 0, none⟩), .int .i64 1, .agg #[.int .i64 0, .slice none 0 0, .slice C 1 cC, .slice Bk 0 dk]] w fun e w' => e = .returned (.bool true) ∧ Below w.heap.size w w' := by
 obtain ⟨b, o, k1, n1, p1, xs, B, c1, rfl, hb, ht, d0, d1, d2, d3, hcu, hB, hT⟩ := hP.ts.at_ hi
 obtain ⟨b', o', k2, n2, p2, ys, B', c2, rfl, hb', ht', e0, e1, e2, e3, hcu', hB', hT'⟩ := hP.us.at_ hj
 obtain ⟨t, hT0⟩ : ∃ t, ts[i] = t := ⟨_, rfl⟩
 obtain ⟨u, hU0⟩ : ∃ u, us[j] = u := ⟨_, rfl⟩
 rw [hT0] at hsi hT hfit
 rw [hU0] at hsj hT' hfit hsm huk hl
 have HP := Lib.hid hP
 have HT := Lib.hid hT
 have HT' := Lib.hid hT'
 obtain ⟨nts, hnts⟩ : ∃ n, ts.length = n := ⟨_, rfl⟩
 obtain ⟨nus, hnus⟩ : ∃ n, us.length = n := ⟨_, rfl⟩
 obtain ⟨w1, hw1⟩ : ∃ w1, w.alloc (.cells #[.int .i64 (i : Int), .int .i64 (j : Int)] 123) = w1 := ⟨_, rfl⟩
 obtain ⟨w2, hw2⟩ : ∃ w2, w1.alloc (.cells #[.int .i64 0, .slice none 0 0, .slice C 1 cC, .slice Bk 0 dk] 39) = w2 := ⟨_, rfl⟩
 have b1 : Below w.heap.size w w1 := by rw [← hw1]; exact (Below.refl _ _).alloc (Nat.le_refl _) _
 have b2 : Below w1.heap.size w1 w2 := by rw [← hw2]; exact (Below.refl _ _).alloc (Nat.le_refl _) _
 have q1 : w1.heap[w.heap.size]? = some (.cells #[.int .i64 (i : Int), .int .i64 (j : Int)] 123 (0, 0)) := by rw [← hw1]; exact heap_alloc_new _ _
 have q2 : w2.heap[w1.heap.size]? = some (.cells #[.int .i64 0, .slice none 0 0, .slice C 1 cC, .slice Bk 0 dk] 39 (0, 0)) := by rw [← hw2]; exact heap_alloc_new _ _
 have l1 := lt_of_block q1
 have l2 := lt_of_block q2
 have b02 : Below w.heap.size w w2 := b1.trans (b2.mono (by omega))
 have B02 := Lib.hid b02
 have s02 : w.heap.size ≤ w2.heap.size := by omega
 have Q2 := Lib.hid q2
 obtain ⟨y0, y1⟩ := cells2e ((b2.block _ l1).trans q1)
 have hp2 := hP.below b02
 have x2 := hp2.left
 have x3 := hp2.right
 rw [hnts] at x2 hi
 rw [hnus] at x3 hj
 have f0' := (b02.cell (p := ⟨b, o + i * 4, none⟩) hb).trans d0
 have f1' := (b02.cell (p := ⟨b, o + i * 4 + 1, none⟩) hb).trans d1
 have f2' := (b02.cell (p := ⟨b, o + i * 4 + 2, none⟩) hb).trans d2
 have f3' := (b02.cell (p := ⟨b, o + i * 4 + 3, none⟩) hb).trans d3
 have g0' := (b02.cell (p := ⟨b', o' + j * 4, none⟩) hb').trans e0
 have g1' := (b02.cell (p := ⟨b', o' + j * 4 + 1, none⟩) hb').trans e1
 have g2' := (b02.cell (p := ⟨b', o' + j * 4 + 2, none⟩) hb').trans e2
 have g3' := (b02.cell (p := ⟨b', o' + j * 4 + 3, none⟩) hb').trans e3
 have SX : Hid ((w2.cell? ⟨Bx, 2, none⟩ = some (.slice (some ⟨b, o, none⟩) nts cl) ∧ w2.cell? ⟨Bx, 3, none⟩ = some (.slice (some ⟨b', o', none⟩) nus cr)) ∧ (w2.cell? ⟨w.heap.size, 0, none⟩ = some (.int .i64 (i : Int)) ∧ w2.cell? ⟨w.heap.size, 1, none⟩ = some (.int .i64 (j : Int))) ∧ (w2.cell? ⟨b, o + i * 4, none⟩ = some (.int .i64 k1) ∧ w2.cell? ⟨b, o + i * 4 + 1, none⟩ = some (S n1) ∧ w2.cell? ⟨b, o + i * 4 + 2, none⟩ = some (.int .i64 p1) ∧ w2.cell? ⟨b, o + i * 4 + 3, none⟩ = some (.slice B xs.length c1)) ∧ (w2.cell? ⟨b', o' + j * 4, none⟩ = some (.int .i64 k2) ∧ w2.cell? ⟨b', o' + j * 4 + 1, none⟩ = some (S n2) ∧ w2.cell? ⟨b', o' + j * 4 + 2, none⟩ = some (.int .i64 p2) ∧ w2.cell? ⟨b', o' + j * 4 + 3, none⟩ = some (.slice B' ys.length c2))) := Lib.hid ⟨⟨x2, x3⟩, ⟨y0, y1⟩, ⟨f0', f1', f2', f3'⟩, ⟨g0', g1', g2', g3'⟩⟩
 have m1 := World.new_ne w2 _ x2
 have m2 := World.new_ne w2 _ y0
 have m3 := World.new_ne w2 _ f0'
 have m4 := World.new_ne w2 _ g0'
 simp only at m1 m2 m3 m4
 have hi0 : (0 : Int) ≤ (i : Int) := Int.natCast_nonneg _
 have hi1 : (i : Int) < (nts : Int) := by omega
 have hj0 : (0 : Int) ≤ (j : Int) := Int.natCast_nonneg _
 have hj1 : (j : Int) < (nus : Int) := by omega
 have HPX := Lib.hid (And.intro hl (And.intro hfit (And.intro hsm (And.intro huk hq))))
 clear hl hfit hsm huk hq
 clear hT hT' hP hp2 q1 q2 b1 b2 b02 ht ht' hB hB' d0 d1 d2 d3 e0 e1 e2 e3 hT0 hU0 hnts hnus
 go_enter Tryz.func159, Tryz.ntmps159
 go_upto_region 1 with fail
 clear hw1 hw2
 go_region_held3 (fun W => (W.cell? ⟨Bx, 2, none⟩ = some (.slice (some ⟨b, o, none⟩) nts cl) ∧ W.cell? ⟨Bx, 3, none⟩ = some (.slice (some ⟨b', o', none⟩) nus cr)) ∧ (W.cell? ⟨w.heap.size, 0, none⟩ = some (.int .i64 (i : Int)) ∧ W.cell? ⟨w.heap.size, 1, none⟩ = some (.int .i64 (j : Int))) ∧ (W.cell? ⟨b, o + i * 4, none⟩ = some (.int .i64 k1) ∧ W.cell? ⟨b, o + i * 4 + 1, none⟩ = some (S n1) ∧ W.cell? ⟨b, o + i * 4 + 2, none⟩ = some (.int .i64 p1) ∧ W.cell? ⟨b, o + i * 4 + 3, none⟩ = some (.slice B xs.length c1)) ∧ (W.cell? ⟨b', o' + j * 4, none⟩ = some (.int .i64 k2) ∧ W.cell? ⟨b', o' + j * 4 + 1, none⟩ = some (S n2) ∧ W.cell? ⟨b', o' + j * 4 + 2, none⟩ = some (.int .i64 p2) ∧ W.cell? ⟨b', o' + j * 4 + 3, none⟩ = some (.slice B' ys.length c2)))
  (first | exact SX.out | go_keep)
  (fail)
 ·obtain ⟨w5, hw5⟩ : ∃ w5, ((w2.alloc (.cells #[.int .i64 k1, S n1, .int .i64 p1, .slice B xs.length c1] 51)).alloc (.cells #[.int .i64 k2, S n2, .int .i64 p2, .slice B' ys.length c2] 51)).drew = w5 := ⟨_, rfl⟩
  rw [hw5]
  have b5 : Below w2.heap.size w2 w5 := by rw [← hw5]; exact (((Below.refl _ _).alloc (Nat.le_refl _) _).alloc (by simp) _).drew
  have s5 : w5.heap.size = w2.heap.size + 2 := by rw [← hw5]; simp [World.drew]
  have qa : w5.heap[w2.heap.size]? = some (.cells #[.int .i64 k1, S n1, .int .i64 p1, .slice B xs.length c1] 51 (0, 0)) := by
   rw [← hw5]
   exact (Below.heap_alloc _ _ _ (by simp)).trans (heap_alloc_new _ _)
  have qb : w5.heap[w2.heap.size + 1]? = some (.cells #[.int .i64 k2, S n2, .int .i64 p2, .slice B' ys.length c2] 51 (0, 0)) := by
   rw [← hw5]
   exact two_alloc _ _ _
  obtain ⟨y0, y1, y2, y3⟩ := cells4t qa
  obtain ⟨z0, z1, z2, z3⟩ := cells4t qb
  have b05 := B02.out.trans (b5.mono s02)
  have hp5 := HP.out.below b05
  have CH := Lib.hid (oFollows1_any Bx F0 A0 _ _ f0 ks c0 ts us cl cr t u u _ _ q qq C cC w5 hks hp5 hsi hsj hsj hql HPX.out.2.2.2.2 (HT.out.below b05) (HT'.out.below b05) (HPX.out.1.below b05) HPX.out.2.1 HPX.out.2.2.1 HPX.out.2.2.2.1)
  have B5 := Lib.hid b05
  have Q5 := Lib.hid ((b5.block _ l2).trans Q2.out)
  obtain ⟨x0, x1, x2, x3⟩ := cells4t Q5.out
  clear hw5 hp5 qa qb b5 b05
  go_wp2_with fail
  refine CH.out.mono ?_
  rintro e w6 ⟨rfl, b6⟩
  clear x0 x1 x2 x3
  obtain ⟨x0, x1, x2, x3⟩ := cells4t ((b6.block _ (by omega)).trans Q5.out)
  have HZ := Lib.hid (B5.out.trans (b6.mono B5.out.size))
  clear b6 CH y0 y1 y2 y3 z0 z1 z2 z3
  go_wp2_with fail
  go_ret
  exact ⟨rfl, HZ.out⟩
 ·obtain ⟨w5, hw5⟩ : ∃ w5, ((w2.alloc (.cells #[.int .i64 k2, S n2, .int .i64 p2, .slice B' ys.length c2] 51)).alloc (.cells #[.int .i64 k1, S n1, .int .i64 p1, .slice B xs.length c1] 51)).drew = w5 := ⟨_, rfl⟩
  rw [hw5]
  have b5 : Below w2.heap.size w2 w5 := by rw [← hw5]; exact (((Below.refl _ _).alloc (Nat.le_refl _) _).alloc (by simp) _).drew
  have s5 : w5.heap.size = w2.heap.size + 2 := by rw [← hw5]; simp [World.drew]
  have qa : w5.heap[w2.heap.size]? = some (.cells #[.int .i64 k2, S n2, .int .i64 p2, .slice B' ys.length c2] 51 (0, 0)) := by
   rw [← hw5]
   exact (Below.heap_alloc _ _ _ (by simp)).trans (heap_alloc_new _ _)
  have qb : w5.heap[w2.heap.size + 1]? = some (.cells #[.int .i64 k1, S n1, .int .i64 p1, .slice B xs.length c1] 51 (0, 0)) := by
   rw [← hw5]
   exact two_alloc _ _ _
  obtain ⟨y0, y1, y2, y3⟩ := cells4t qb
  obtain ⟨z0, z1, z2, z3⟩ := cells4t qa
  have b05 := B02.out.trans (b5.mono s02)
  have hp5 := HP.out.below b05
  have CH := Lib.hid (oFollows1_any Bx F0 A0 _ _ f0 ks c0 ts us cl cr t u u _ _ q qq C cC w5 hks hp5 hsi hsj hsj hql HPX.out.2.2.2.2 (HT.out.below b05) (HT'.out.below b05) (HPX.out.1.below b05) HPX.out.2.1 HPX.out.2.2.1 HPX.out.2.2.2.1)
  have B5 := Lib.hid b05
  have Q5 := Lib.hid ((b5.block _ l2).trans Q2.out)
  obtain ⟨x0, x1, x2, x3⟩ := cells4t Q5.out
  clear hw5 hp5 qa qb b5 b05
  go_wp2_with fail
  refine CH.out.mono ?_
  rintro e w6 ⟨rfl, b6⟩
  clear x0 x1 x2 x3
  obtain ⟨x0, x1, x2, x3⟩ := cells4t ((b6.block _ (by omega)).trans Q5.out)
  have HZ := Lib.hid (B5.out.trans (b6.mono B5.out.size))
  clear b6 CH y0 y1 y2 y3 z0 z1 z2 z3
  go_wp2_with fail
  go_ret
  exact ⟨rfl, HZ.out⟩
end Go.Proofs.YtadjpadieljjlaaGreat
namespace Lfc
theorem vld_arg {i n : Nat} (h : i < n) : (Ord.node 1 (i : Int) []).vld (n : Int) = 0 := by
 rw [Ord.vld, if_neg, if_neg]
 ·rw [Ord.rng]; simp; omega
 ·rintro (h | h)
  ·rw [Ord.size, Ord.sizes] at h; omega
  ·rw [Ord.form] at h; simp at h
theorem shp_arg (i j : Int) : Ord.shp (Ord.node 1 i []) (Ord.node 1 j []) = true := by
 rw [Ord.shp]; simp [Ord.shps]
mutual
theorem pth_len {ks : List Int} {t : Raw} : ∀ (s : Raw) (cr : Nat) (q : List Int), Raw.pth ks t s cr = some q → q.length ≤ s.size
 | .node k n p xs, cr, q, h => by
  rw [Raw.pth] at h
  split at h
  ·cases h; exact Nat.zero_le _
  ·split at h
   ·cases h
   ·have := pths_len xs _ _ q h
    rw [Raw.size]; omega
theorem pths_len {ks : List Int} {t : Raw} : ∀ (xs : List Raw) (cr : Nat) (i : Int) (q : List Int), Raw.pths ks t xs cr i = some q → q.length ≤ Raw.sizes xs + 1
 | [], _, _, q, h => by rw [Raw.pths] at h; cases h
 | a :: r, cr, i, q, h => by
  rw [Raw.pths] at h
  rw [Raw.sizes]
  split at h
  ·rename_i q' hq'
   cases h
   have := pth_len a cr q' hq'
   simp; omega
  ·have := pths_len r cr (i + 1) q h
   omega
end
theorem path_len {ks : List Int} {t u : Raw} {q : List Int} (h : Raw.path ks t u = some q) : q.length ≤ u.size := by
 rw [Raw.path] at h
 split at h
 ·exact pth_len u 0 q h
 ·cases h
end Lfc
namespace Go.Proofs.YtadjpadieljjlaaGreat
open Go.RowKit Go.Maps
theorem ord_arg (w : World) (i : Int) : OrdV w (.node 1 i []) (.agg #[.int .i64 1, .int .i64 i, .slice none 0 0]) := ⟨_, _, _, rfl, by rw [OrdC]; exact ⟨rfl, rfl, none, 0, rfl, Nat.le_refl _, fun h => absurd rfl h⟩⟩
def PrvAns (w : World) (r : Option (List Lfc.Link)) (e : Ending) (w' : World) : Prop :=
 ((r = none ∧ e = .returned (.tuple #[.agg #[.int .i64 0, .slice none 0 0, .slice none 0 0, .slice none 0 0], .bool false])) ∨ (∃ l A c B d, r = some l ∧ e = .returned (.tuple #[.agg #[.int .i64 0, .slice none 0 0, .slice A l.length c, .slice B 0 d], .bool true]) ∧ l.length ≤ c ∧ LinksP (fun b => w.heap.size ≤ b) w' A l)) ∧ Below w.heap.size w w'
def Lfc.prv0 (ks : List Int) (all : List Lfc.Raw) (t u : Lfc.Raw) : Option (List Lfc.Link) := if Lfc.chkE all = 0 then Lfc.chain0 ks t u 2 else none
theorem up_links (ks : List Int) (t u : Lfc.Raw) (hu : u.size ≤ 1000000) (hp : ∀ q, Lfc.Raw.path ks t u = some q → q.length ≤ 10000000) : (Lfc.Raw.up ks t u).2.length ≤ 1 ∧ ∀ x ∈ (Lfc.Raw.up ks t u).2, x.term.size ≤ 1000000 ∧ x.path.length ≤ 10000000 := by
 unfold Lfc.Raw.up
 cases hr : Lfc.Raw.path ks t u with
 | none => exact ⟨Nat.zero_le _, fun x h => by cases h⟩
 | some q =>
  cases q with
  | nil => exact ⟨Nat.zero_le _, fun x h => by cases h⟩
  | cons i r =>
   refine ⟨Nat.le_refl _, fun x h => ?_⟩
   simp only [Lfc.upOf, List.mem_singleton] at h
   subst h
   exact ⟨hu, hp _ hr⟩
set_option maxRecDepth 100000 in
set_option maxHeartbeats 8000000 in
theorem oProve1_any (i j : Nat) (ts us : List Lfc.Raw) (L R A0 : Option Addr) (cl cr c0 : Nat) (ks : List Int) (w : World) (hks : ks.length ≤ 1000000) (hA0 : IntsO w A0 ks)
  (hn : ts.length ≤ 1000) (hm : us.length ≤ 1000) (hi : i < ts.length) (hj : j < us.length) (hst : ∀ t ∈ ts ++ us, t.size ≤ 1000000) (hL : L = none → ts.length = 0 ∧ cl = 0) (hR : R = none → us.length = 0 ∧ cr = 0) (hts : TreesAt w L ts) (hus : TreesAt w R us) :
  Calls Tryz.prog 11 #[.slice none 0 0, .int .i64 1, .agg #[.int .i64 1, .int .i64 (i : Int), .slice none 0 0], .slice L ts.length cl, .agg #[.int .i64 1, .int .i64 (j : Int), .slice none 0 0], .slice R us.length cr, .slice A0 ks.length c0] w (PrvAns w (Lfc.prv0 ks (ts ++ us) ts[i] us[j])) := by
 have hsi := hst ts[i] (List.mem_append_left _ (List.getElem_mem _))
 have hsj := hst us[j] (List.mem_append_right _ (List.getElem_mem _))
 obtain ⟨w1, hw1⟩ : ∃ w1, w.alloc (.cells #[.int .i64 1, .int .i64 (i : Int), .slice none 0 0] 26) = w1 := ⟨_, rfl⟩
 obtain ⟨w2, hw2⟩ : ∃ w2, w1.alloc (.cells #[.int .i64 1, .int .i64 (j : Int), .slice none 0 0] 26) = w2 := ⟨_, rfl⟩
 obtain ⟨w3, hw3⟩ : ∃ w3, w2.alloc (.cells #[.int .i64 0, .slice none 0 0, .slice none 0 0, .slice none 0 0] 39) = w3 := ⟨_, rfl⟩
 have b1 : Below w.heap.size w w1 := by rw [← hw1]; exact (Below.refl _ _).alloc (Nat.le_refl _) _
 have b2 : Below w1.heap.size w1 w2 := by rw [← hw2]; exact (Below.refl _ _).alloc (Nat.le_refl _) _
 have b3 : Below w2.heap.size w2 w3 := by rw [← hw3]; exact (Below.refl _ _).alloc (Nat.le_refl _) _
 have q1 : w1.heap[w.heap.size]? = some (.cells #[.int .i64 1, .int .i64 (i : Int), .slice none 0 0] 26 (0, 0)) := by rw [← hw1]; exact heap_alloc_new _ _
 have q2 : w2.heap[w1.heap.size]? = some (.cells #[.int .i64 1, .int .i64 (j : Int), .slice none 0 0] 26 (0, 0)) := by rw [← hw2]; exact heap_alloc_new _ _
 have q3 : w3.heap[w2.heap.size]? = some (.cells #[.int .i64 0, .slice none 0 0, .slice none 0 0, .slice none 0 0] 39 (0, 0)) := by rw [← hw3]; exact heap_alloc_new _ _
 have e1 := lt_of_block q1
 have e2 := lt_of_block q2
 have e3 := lt_of_block q3
 have b03 : Below w.heap.size w w3 := (b1.trans (b2.mono (by omega))).trans (b3.mono (by omega))
 have Q1 := Lib.hid ((b3.block _ (by omega)).trans ((b2.block _ e1).trans q1))
 have Q2 := Lib.hid ((b3.block _ e2).trans q2)
 have Q3 := Lib.hid q3
 have B03 := Lib.hid b03
 have s03 : w.heap.size ≤ w3.heap.size := by omega
 obtain ⟨y0, y1, y2⟩ := cells3o Q1.out
 obtain ⟨z0, z1, z2⟩ := cells3o Q2.out
 have CK := Lib.hid (oCheck0_any (.node 1 (i : Int) []) (.node 1 (j : Int) []) _ _ ts us L R cl cr w3 (by rw [Lfc.Ord.size, Lfc.Ord.sizes]; omega) (by rw [Lfc.Ord.size, Lfc.Ord.sizes]; omega) (ord_arg w3 (i : Int)) (ord_arg w3 (j : Int)) (Lfc.vld_arg hi) (Lfc.vld_arg hj) (Lfc.shp_arg _ _) hn hm hst hL hR (hts.below b03) (hus.below b03))
 have HRES : Hid (Lfc.prv0 ks (ts ++ us) ts[i] us[j] = if Lfc.chkE (ts ++ us) = 0 then Lfc.chain0 ks ts[i] us[j] 2 else none) := Lib.hid rfl
 have HKS := Lib.hid hA0
 have HTS := Lib.hid hts
 have HUS := Lib.hid hus
 obtain ⟨res, hres⟩ : ∃ res, Lfc.prv0 ks (ts ++ us) ts[i] us[j] = res := ⟨_, rfl⟩
 rw [hres] at HRES ⊢
 obtain ⟨z, hz⟩ : ∃ z, Lfc.chkE (ts ++ us) = z := ⟨_, rfl⟩
 rw [hz] at CK HRES
 have CA := Lib.hid (fun (W : World) (Bx : Nat) (hP : ProvO W Bx none A0 L R 0 0 ks c0 ts us cl cr) => oArgProve_any Bx none A0 L R 0 ks c0 ts us cl cr i j W hks hP hi hj hsi hsj (by omega) (by omega))
 have HLK : Hid (∀ l, Lfc.chain0 ks ts[i] us[j] 2 = some l → l.length ≤ 100000 ∧ ∀ x ∈ l, x.term.size ≤ 1000000 ∧ x.path.length ≤ 10000000) := Lib.hid (fun l h => by
  unfold Lfc.chain0 at h
  split at h
  ·cases h
   obtain ⟨h1, h2⟩ := up_links ks ts[i] us[j] hsj (fun q hq => by have := Lfc.path_len hq; omega)
   exact ⟨by omega, h2⟩
  ·cases h)
 have HSZ := Lib.hid (And.intro hi hj)
 clear hz hres hsi hsj hst hL hR hts hus hA0 b1 b2 b3 q1 q2 q3 b03
 by_cases hz0 : z = 0
 ·have HRES2 : Hid (res = Lfc.chain0 ks ts[i] us[j] 2) := Lib.hid (by rw [HRES.out, if_pos hz0])
  obtain ⟨rc, hrc⟩ : ∃ rc, Lfc.chain0 ks ts[i] us[j] 2 = rc := ⟨_, rfl⟩
  rw [hrc] at CA HLK HRES2
  clear HRES hrc
  subst hz0
  obtain ⟨n, hnn⟩ : ∃ n, ts.length = n := ⟨_, rfl⟩
  obtain ⟨m, hmm⟩ : ∃ m, us.length = m := ⟨_, rfl⟩
  have HNM := Lib.hid (And.intro hnn hmm)
  rw [hnn] at CK hn ⊢
  rw [hmm] at CK hm ⊢
  clear hnn hmm hi hj
  have hmk : ∀ W : World, (Instr.makeMap 83 none).run Tryz.prog W = .ok (.map (some W.heap.size)) (W.alloc (.map #[] 0)) := fun W => rfl
  have hme : ∀ (k : Nat) (w : World), (method (k + 1) 123 (.agg #[.int .i64 (i : Int), .int .i64 (j : Int)]) "lfcheck/order.prove").run Tryz.prog w = .ok (158, .agg #[.int .i64 (i : Int), .int .i64 (j : Int)]) w := fun _ _ => by rfl
  go_enter Tryz.func11, Tryz.ntmps11
  go_wp2_with fail
  refine CK.out.mono ?_
  rintro e w4 ⟨rfl, b4⟩
  clear hw1 hw2 hw3 CK
  obtain ⟨w5, hw5⟩ : ∃ w5, w4.alloc (.map #[] 0) = w5 := ⟨_, rfl⟩
  obtain ⟨w6, hw6⟩ : ∃ w6, w5.alloc (.cells #[.slice none 0 0, .slice A0 ks.length c0, .slice L n cl, .slice R m cr, .map (some w4.heap.size)] 85) = w6 := ⟨_, rfl⟩
  have b5 : Below w4.heap.size w4 w5 := by rw [← hw5]; exact (Below.refl _ _).alloc (Nat.le_refl _) _
  have b6 : Below w5.heap.size w5 w6 := by rw [← hw6]; exact (Below.refl _ _).alloc (Nat.le_refl _) _
  have q6 : w6.heap[w5.heap.size]? = some (.cells #[.slice none 0 0, .slice A0 ks.length c0, .slice L n cl, .slice R m cr, .map (some w4.heap.size)] 85 (0, 0)) := by rw [← hw6]; exact heap_alloc_new _ _
  have b36 : Below w3.heap.size w3 w6 := b4.trans ((b5.trans (b6.mono b5.size)).mono b4.size)
  have hP6 : Hid (ProvO w6 w5.heap.size none A0 L R 0 0 ks c0 ts us cl cr) := Lib.hid (by
   have b06 := B03.out.trans (b36.mono s03)
   refine ⟨lt_of_block q6, Lib.cell_of_heap q6 0, Lib.cell_of_heap q6 1, ?_, ?_, HKS.out.below b06, HTS.out.below b06, HUS.out.below b06⟩
   ·rw [HNM.out.1]; exact Lib.cell_of_heap q6 2
   ·rw [HNM.out.2]; exact Lib.cell_of_heap q6 3)
  have B36 := Lib.hid b36
  clear y0 y1 y2 z0 z1 z2
  obtain ⟨y0, y1, y2⟩ := cells3o ((b36.block _ (by omega)).trans Q1.out)
  obtain ⟨z0, z1, z2⟩ := cells3o ((b36.block _ (by omega)).trans Q2.out)
  have CB := Lib.hid (oBothArg_any (i : Int) (j : Int) w6)
  clear b4 b5 b6 q6 b36
  go_wp2_with fail
  refine CB.out.mono ?_
  rintro e w7 ⟨rfl, b7⟩
  have CA7 := Lib.hid (CA.out w7 w5.heap.size (hP6.out.below b7))
  have B37 := Lib.hid (B36.out.trans (b7.mono B36.out.size))
  clear b7 y0 y1 y2 z0 z1 z2 CB CA hw5 hw6
  go_wp2_with fail
  refine CA7.out.mono ?_
  rintro e w8 ⟨⟨rfl, rfl⟩ | ⟨l, Al, cll, rfl, rfl, hcl, hl⟩, b8⟩
  ·obtain ⟨w9, hw9⟩ : ∃ w9, w8.alloc (.cells #[.int .i64 0, .slice none 0 0, .slice none 0 0, .slice none 0 0] 39) = w9 := ⟨_, rfl⟩
   have b9 : Below w8.heap.size w8 w9 := by rw [← hw9]; exact (Below.refl _ _).alloc (Nat.le_refl _) _
   have b39 := B37.out.trans ((b8.trans (b9.mono b8.size)).mono B37.out.size)
   obtain ⟨s1, s2, s3, s4, h1, h2, h3, h4, ⟨c0', c1', c2', c3'⟩, ⟨t0, t1, t2, t3⟩, hq, ho⟩ := put4 ((b39.block _ e3).trans Q3.out) (.int .i64 0) (.slice none 0 0) (.slice none 0 0) (.slice none 0 0)
   have HQ := Lib.hid hq
   have HW9 := Lib.hid hw9
   have HZ : Hid (PrvAns w res (.returned (.tuple #[.agg #[.int .i64 0, .slice none 0 0, .slice none 0 0, .slice none 0 0], .bool false])) s4) := Lib.hid ⟨.inl ⟨HRES2.out, rfl⟩, Oth.below (B03.out.trans (b39.mono s03)) ho (by omega) (Nat.le_trans s03 b39.size)⟩
   clear hq ho b9 b39 b8 CA7 hw9
   go_upto_region 5 with fail
   rw [HW9.out]
   go_wp2_with fail
   refine bodyPost_ret (results_proof2 rfl _ _ _ _ _ _ _ rfl HQ.out) rfl ?_
   exact HZ.out
  ·obtain ⟨hl1, hl2⟩ := HLK.out l rfl
   obtain ⟨w9, hw9⟩ : ∃ w9, w8.alloc (.cells #[.int .i64 0, .slice none 0 0, .slice Al l.length cll, .slice none 0 0] 39) = w9 := ⟨_, rfl⟩
   have b9 : Below w8.heap.size w8 w9 := by rw [← hw9]; exact (Below.refl _ _).alloc (Nat.le_refl _) _
   have q9 : w9.heap[w8.heap.size]? = some (.cells #[.int .i64 0, .slice none 0 0, .slice Al l.length cll, .slice none 0 0] 39 (0, 0)) := by rw [← hw9]; exact heap_alloc_new _ _
   have b39 := B37.out.trans ((b8.trans (b9.mono b8.size)).mono B37.out.size)
   obtain ⟨x0, x1, x2, x3⟩ := cells4t q9
   have CC := Lib.hid (oCopied0_any (fun b => w7.heap.size ≤ b) (fun _ => True) 0 l [] Al none cll 0 w9 hl1 (by simp) hl2 (fun x h => by cases h) (hl.below b9) LinksP.nil)
   have B39 := Lib.hid b39
   have HW9 := Lib.hid hw9
   clear hl b9 q9 b39 b8 CA7 hw9 hl1 hl2
   go_upto_region 5 with fail
   rw [HW9.out]
   go_wp2_with fail
   refine CC.out.mono ?_
   rintro e w10 ⟨⟨A', c', B', d', rfl, hcA, _, hlA, _⟩, b10⟩
   have b3a := B39.out.trans (b10.mono B39.out.size)
   obtain ⟨s1, s2, s3, s4, h1, h2, h3, h4, ⟨c0', c1', c2', c3'⟩, ⟨t0, t1, t2, t3⟩, hq, ho⟩ := put4 ((b3a.block _ e3).trans Q3.out) (.int .i64 0) (.slice none 0 0) (.slice A' l.length c') (.slice B' 0 d')
   have HQ := Lib.hid hq
   have HZ : Hid (PrvAns w res (.returned (.tuple #[.agg #[.int .i64 0, .slice none 0 0, .slice A' l.length c', .slice B' 0 d'], .bool true])) s4) := Lib.hid ⟨.inr ⟨l, A', c', B', d', HRES2.out, rfl, hcA, hlA.keep (fun b hb hlt => ho.block b hlt (fun e => by have e := Option.some.inj e; have hb : w9.heap.size ≤ b := hb; have := B39.out.size; omega)) ho.size (fun b _ hb => Nat.le_trans s03 (Nat.le_trans B39.out.size hb))⟩, Oth.below (B03.out.trans (b3a.mono s03)) ho (by omega) (Nat.le_trans s03 b3a.size)⟩
   clear hq ho b3a b10 CC hlA x0 x1 x2 x3 HW9
   go_wp2_with fail
   refine bodyPost_ret (results_proof2 rfl _ _ _ _ _ _ _ rfl HQ.out) rfl ?_
   exact HZ.out
 ·have HRES2 : Hid (res = none) := Lib.hid (by rw [HRES.out, if_neg hz0])
  have hz1 : (z == 0) = false := by simpa using hz0
  have hz2 : (z != 0) = true := by simpa using hz0
  have hz3 : decide (z = 0) = false := by simpa using hz0
  clear HRES CA HLK hz0
  obtain ⟨n, hnn⟩ : ∃ n, ts.length = n := ⟨_, rfl⟩
  obtain ⟨m, hmm⟩ : ∃ m, us.length = m := ⟨_, rfl⟩
  rw [hnn] at CK hn ⊢
  rw [hmm] at CK hm ⊢
  clear hnn hmm hi hj
  go_enter Tryz.func11, Tryz.ntmps11
  go_wp2_with fail
  refine CK.out.mono ?_
  rintro e w4 ⟨rfl, b4⟩
  obtain ⟨s1, s2, s3, s4, h1, h2, h3, h4, ⟨c0', c1', c2', c3'⟩, ⟨t0, t1, t2, t3⟩, hq, ho⟩ := put4 ((b4.block _ e3).trans Q3.out) (.int .i64 0) (.slice none 0 0) (.slice none 0 0) (.slice none 0 0)
  have HQ := Lib.hid hq
  have HZ : Hid (PrvAns w res (.returned (.tuple #[.agg #[.int .i64 0, .slice none 0 0, .slice none 0 0, .slice none 0 0], .bool false])) s4) := Lib.hid ⟨.inl ⟨HRES2.out, rfl⟩, Oth.below (B03.out.trans (b4.mono s03)) ho (by omega) (Nat.le_trans s03 b4.size)⟩
  clear hq ho b4 y0 y1 y2 z0 z1 z2 CK
  go_wp2_with fail
  refine bodyPost_ret (results_proof2 rfl _ _ _ _ _ _ _ rfl HQ.out) rfl ?_
  exact HZ.out
end Go.Proofs.YtadjpadieljjlaaGreat
namespace Lfc
mutual
theorem st_size (ks : List Int) (cr : Nat) : ∀ (s t : Raw) (d : Int) (tv tv' : List Int), Raw.st ks cr s t d tv = some tv' → s.size = t.size
 | .node k n p xs, .node k' n' p' ys, d, tv, tv', h => by
  rw [Raw.st] at h
  by_cases hc : k ≠ k' ∨ xs.length ≠ ys.length
  ·rw [if_pos hc] at h; cases h
  ·rw [if_neg hc] at h
   have hl : xs.length = ys.length := Classical.byContradiction fun e => hc (.inr e)
   cases hs : stStep ks cr k n n' p p' d tv with
   | none => rw [hs] at h; cases h
   | some tv1 =>
    rw [hs] at h
    have := sts_size ks cr xs ys _ tv1 tv' hl h
    rw [Raw.size, Raw.size, this]
theorem sts_size (ks : List Int) (cr : Nat) : ∀ (xs ys : List Raw) (d : Int) (tv tv' : List Int), xs.length = ys.length → Raw.sts ks cr xs ys d tv = some tv' → Raw.sizes xs = Raw.sizes ys
 | [], [], _, _, _, _, _ => rfl
 | [], _ :: _, _, _, _, hl, _ => by simp at hl
 | _ :: _, [], _, _, _, hl, _ => by simp at hl
 | a :: r, b :: q, d, tv, tv', hl, h => by
  rw [Raw.sts] at h
  cases hs : Raw.st ks cr a b d tv with
  | none => rw [hs] at h; cases h
  | some tv1 =>
   rw [hs] at h
   have h1 := st_size ks cr a b d tv tv1 hs
   have h2 := sts_size ks cr r q d tv1 tv' (by simpa using hl) h
   rw [Raw.sizes, Raw.sizes, h1, h2]
end
mutual
theorem pth_size (ks : List Int) (t : Raw) : ∀ (s : Raw) (cr : Nat) (q : List Int), Raw.pth ks t s cr = some q → (q = [] ∧ Raw.stands ks cr s t = true ∧ t.size = s.size) ∨ (q ≠ [] ∧ t.size < s.size)
 | .node k n p xs, cr, q, h => by
  rw [Raw.pth] at h
  by_cases hs : Raw.stands ks cr (.node k n p xs) t = true
  ·rw [if_pos hs] at h
   cases h
   refine .inl ⟨rfl, hs, ?_⟩
   have hs' := hs
   rw [Raw.stands] at hs'
   obtain ⟨tv', htv⟩ := Option.isSome_iff_exists.1 hs'
   exact (st_size ks cr _ _ _ _ _ htv).symm
  ·rw [if_neg hs] at h
   by_cases hp : Raw.pas ks cr (.node k n p xs) = false
   ·rw [if_pos hp] at h; cases h
   ·rw [if_neg hp] at h
    obtain ⟨h1, h2⟩ := pths_size ks t xs _ 0 q h
    exact .inr ⟨h1, by rw [Raw.size]; omega⟩
theorem pths_size (ks : List Int) (t : Raw) : ∀ (xs : List Raw) (cr : Nat) (i : Int) (q : List Int), Raw.pths ks t xs cr i = some q → q ≠ [] ∧ t.size ≤ Raw.sizes xs
 | [], _, _, _, h => by rw [Raw.pths] at h; cases h
 | a :: r, cr, i, q, h => by
  rw [Raw.pths] at h
  cases hs : Raw.pth ks t a cr with
  | none =>
   rw [hs] at h
   obtain ⟨h1, h2⟩ := pths_size ks t r cr (i + 1) q h
   exact ⟨h1, by rw [Raw.sizes]; omega⟩
  | some q1 =>
   rw [hs] at h
   cases h
   refine ⟨by simp, ?_⟩
   rw [Raw.sizes]
   rcases pth_size ks t a cr q1 hs with ⟨_, _, h2⟩ | ⟨_, h2⟩ <;> omega
end
theorem path_less {ks : List Int} {x u : Raw} {q : List Int} (h : Raw.path ks x u = some q) (hq : q.length ≠ 0) : x.size < u.size := by
 rw [Raw.path] at h
 split at h
 ·rcases pth_size ks x u 0 q h with ⟨h1, _⟩ | ⟨_, h2⟩
  ·exact absurd (by rw [h1]; rfl) hq
  ·exact h2
 ·cases h
end Lfc
namespace Go.Proofs.YtadjpadieljjlaaGreat
end Go.Proofs.YtadjpadieljjlaaGreat
namespace Lfc
structure Fact where
  l : Raw
  rel : Int
  r : Raw
def noFact : Fact := ⟨.node 0 [] 0 [], 0, .node 0 [] 0 []⟩
def sd (fs : List Fact) (i : Nat) : Raw := if i % 2 = 0 then (fs.getD (i / 2) noFact).l else (fs.getD (i / 2) noFact).r
def upS (ks : List Int) (t u : Raw) : Int := (Raw.up ks t u).1
def stp (ks : List Int) (fs : List Fact) (i j : Nat) : Int :=
  if i / 2 = j / 2 ∧ i ≠ j then
    (if i % 2 = 0 then (if (fs.getD (i / 2) noFact).rel = 1 then 2 else if upS ks (sd fs i) (sd fs j) = 2 then 2 else 1)
     else if (fs.getD (i / 2) noFact).rel = 3 then (if upS ks (sd fs i) (sd fs j) = 2 then 2 else 1)
     else upS ks (sd fs i) (sd fs j))
  else upS ks (sd fs i) (sd fs j)
inductive Rch (ks : List Int) (fs : List Fact) (l : Raw) : Nat → Int → Prop
  | start (i : Nat) (hi : i < 2 * fs.length) (h : 0 < upS ks l (sd fs i)) : Rch ks fs l i (upS ks l (sd fs i))
  | step (i j : Nat) (s : Int) (h : Rch ks fs l i s) (hj : j < 2 * fs.length) (hne : j ≠ i) (hs : 0 < stp ks fs i j) : Rch ks fs l j (max (stp ks fs i j) s)
def chn (ks : List Int) (fs : List Fact) (l r : Raw) (must : Int) : Prop := must ≤ upS ks l r ∨ ∃ i s, Rch ks fs l i s ∧ 0 < upS ks (sd fs i) r ∧ must ≤ max (upS ks (sd fs i) r) s
theorem Rch.lt {ks : List Int} {fs : List Fact} {l : Raw} {i : Nat} {s : Int} (h : Rch ks fs l i s) : i < 2 * fs.length := by
  cases h with
  | start _ hi _ => exact hi
  | step _ _ _ _ hj _ _ => exact hj
theorem chn_less {ks : List Int} {fs : List Fact} {l r : Raw} {m m' : Int} (hm : m' ≤ m) (h : chn ks fs l r m) : chn ks fs l r m' := by
  rcases h with h | ⟨i, s, h1, h2, h3⟩
  · exact .inl (by omega)
  · exact .inr ⟨i, s, h1, h2, by omega⟩
theorem getD_app {fs gs : List Fact} {k : Nat} (h : k < fs.length) : (fs ++ gs).getD k noFact = fs.getD k noFact := by
  simp [List.getD, List.getElem?_append_left h]
theorem sd_app {fs gs : List Fact} {i : Nat} (h : i < 2 * fs.length) : sd (fs ++ gs) i = sd fs i := by
  unfold sd
  rw [getD_app (by omega)]
theorem stp_app {ks : List Int} {fs gs : List Fact} {i j : Nat} (hi : i < 2 * fs.length) (hj : j < 2 * fs.length) : stp ks (fs ++ gs) i j = stp ks fs i j := by
  unfold stp
  rw [sd_app hi, sd_app hj, getD_app (by omega)]
theorem Rch.app {ks : List Int} {fs gs : List Fact} {l : Raw} {i : Nat} {s : Int} (h : Rch ks fs l i s) : Rch ks (fs ++ gs) l i s := by
  have hlen : fs.length ≤ (fs ++ gs).length := by rw [List.length_append]; omega
  induction h with
  | start i hi h =>
    have := Rch.start (ks := ks) (fs := fs ++ gs) (l := l) i (by omega) (by rw [sd_app hi]; exact h)
    rwa [sd_app hi] at this
  | step i j s h hj hne hs ih =>
    have := Rch.step (ks := ks) (fs := fs ++ gs) (l := l) i j s ih (by omega) hne (by rw [stp_app h.lt hj]; exact hs)
    rwa [stp_app h.lt hj] at this
theorem chn_app {ks : List Int} {fs gs : List Fact} {l r : Raw} {m : Int} (h : chn ks fs l r m) : chn ks (fs ++ gs) l r m := by
  rcases h with h | ⟨i, s, h1, h2, h3⟩
  · exact .inl h
  · exact .inr ⟨i, s, h1.app, by rw [sd_app h1.lt]; exact h2, by rw [sd_app h1.lt]; exact h3⟩
theorem chn_nil {ks : List Int} {l r : Raw} {m : Int} : chn ks [] l r m ↔ m ≤ upS ks l r := by
  constructor
  · rintro (h | ⟨i, s, h1, _⟩)
    · exact h
    · have := h1.lt
      simp at this
  · exact .inl
theorem upS_two {ks : List Int} {t u : Raw} (h : 2 ≤ upS ks t u) : t.size < u.size := by
  rw [upS, Raw.up] at h
  cases hp : Raw.path ks t u with
  | none => rw [hp] at h; simp [upOf] at h
  | some q =>
    rw [hp] at h
    by_cases hq : q.length = 0
    · have : q = [] := List.length_eq_zero_iff.1 hq
      subst this
      simp [upOf] at h
    · exact path_less hp hq
theorem upS_one {ks : List Int} {t u : Raw} (h : 1 ≤ upS ks t u) : t.size ≤ u.size := by
  rw [upS, Raw.up] at h
  cases hp : Raw.path ks t u with
  | none => rw [hp] at h; simp [upOf] at h
  | some q =>
    have hp' := hp
    rw [Raw.path] at hp'
    split at hp'
    · rcases pth_size ks t u 0 q hp' with ⟨_, _, h2⟩ | ⟨_, h2⟩ <;> omega
    · cases hp'
theorem upS_range (ks : List Int) (t u : Raw) : upS ks t u = 0 ∨ upS ks t u = 1 ∨ upS ks t u = 2 := by
  rw [upS, Raw.up]
  cases Raw.path ks t u with
  | none => exact .inl rfl
  | some q => cases q with
    | nil => exact .inr (.inl rfl)
    | cons i r => exact .inr (.inr rfl)
theorem stp_range (ks : List Int) (fs : List Fact) (i j : Nat) : stp ks fs i j = 0 ∨ stp ks fs i j = 1 ∨ stp ks fs i j = 2 := by
  unfold stp
  have := upS_range ks (sd fs i) (sd fs j)
  repeat' split
  all_goals first | exact this | (right; right; rfl) | (right; left; rfl)
theorem Rch.range {ks : List Int} {fs : List Fact} {l : Raw} {i : Nat} {s : Int} (h : Rch ks fs l i s) : s = 1 ∨ s = 2 := by
  induction h with
  | start i hi h => have := upS_range ks l (sd fs i); omega
  | step i j s h hj hne hs ih => have := stp_range ks fs i j; omega
theorem chn_not {ks : List Int} {l r : Raw} (h : chn ks [] l r 2) : ¬ chn ks [] r l 1 := by
  rw [chn_nil] at h ⊢
  intro h'
  have h1 := upS_two h
  have h2 := upS_one h'
  omega
end Lfc
