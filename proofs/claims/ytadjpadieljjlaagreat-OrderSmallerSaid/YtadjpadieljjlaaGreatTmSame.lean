/- The contract of Same of terms. -/
import Derived.Test.YtadjpadieljjlaaGreatRawMem
set_option linter.unusedVariables false
set_option linter.unusedSimpArgs false
namespace Lfc
mutual
def Raw.tsm : Raw → Raw → Bool
  | .node k n p xs, .node k' n' p' xs' => decide (k = k') && decide (p = p') && (decide (n = n') || decide (k = 2) || decide (k = 3)) && Raw.tsms xs xs'
def Raw.tsms : List Raw → List Raw → Bool
  | [], [] => true
  | a :: r, a' :: r' => Raw.tsm a a' && Raw.tsms r r'
  | _, _ => false
end
end Lfc
namespace Go.Proofs.YtadjpadieljjlaaGreat
open Go.RowKit

theorem tsms_spec : ∀ (ts us : List Lfc.Raw), Lfc.Raw.tsms ts us = true ↔ ts.length = us.length ∧ ∀ k (h : k < ts.length) (h' : k < us.length), Lfc.Raw.tsm ts[k] us[k] = true
  | [], [] => by simp [Lfc.Raw.tsms]
  | [], _ :: _ => by simp [Lfc.Raw.tsms]
  | _ :: _, [] => by simp [Lfc.Raw.tsms]
  | a :: r, b :: q => by
    rw [Lfc.Raw.tsms, Bool.and_eq_true, tsms_spec r q]
    constructor
    · rintro ⟨h1, h2, h3⟩
      refine ⟨by simp [h2], fun k h h' => ?_⟩
      cases k with
      | zero => exact h1
      | succ k => exact h3 k (by simpa using h) (by simpa using h')
    · rintro ⟨h1, h2⟩
      exact ⟨h2 0 (by simp) (by simp), by simpa using h1, fun k h h' => h2 (k + 1) (by simpa using h) (by simpa using h')⟩
theorem tsms_false (ts us : List Lfc.Raw) (k : Nat) (h : k < ts.length) (h' : k < us.length) (hf : Lfc.Raw.tsm ts[k] us[k] = false) : Lfc.Raw.tsms ts us = false := by
  cases hs : Lfc.Raw.tsms ts us
  · rfl
  · rw [((tsms_spec ts us).1 hs).2 k h h'] at hf; cases hf
theorem tsms_len (ts us : List Lfc.Raw) (h : ts.length ≠ us.length) : Lfc.Raw.tsms ts us = false := by
  cases hs : Lfc.Raw.tsms ts us
  · rfl
  · exact absurd ((tsms_spec ts us).1 hs).1 h

theorem enters_tsame : ∀ args w, (callFunc 167 args).run Tryz.prog w = .ok (.enter 167 args) w := enters_of Tryz.func167 (by kernel_rfl) rfl

/-- What term.Same does at trees of at most so many nodes. -/
def TSameUpto (m : Nat) : Prop := ∀ (t u : Lfc.Raw) (v v' : Value) (w : World), t.size ≤ m → TreeV w t v → TreeV w u v' →
    Calls Tryz.prog 167 #[v, v'] w fun e w' => e = .returned (.bool (Lfc.Raw.tsm t u)) ∧ Below w.heap.size w w'

set_option maxRecDepth 100000 in
set_option maxHeartbeats 1000000 in
theorem tEqualFunc_any (m : Nat) (ih : TSameUpto m) (ts us : List Lfc.Raw) (A A' : Option Addr) (c c' : Nat) (w : World) (hm : Lfc.Raw.sizes ts ≤ m) (hmax : ts.length ≤ 1000000000) (h : TreesAt w A ts) (h' : TreesAt w A' us) :
    Calls Tryz.prog 169 #[.slice A ts.length c, .slice A' us.length c', .func (.func 167) #[] #[]] w fun e w' => e = .returned (.bool (Lfc.Raw.tsms ts us)) ∧ Below w.heap.size w w' := by
  have he := enters_tsame
  have IH := Lib.hid ih
  have HA := Lib.hid h
  have HA' := Lib.hid h'
  clear ih h h'
  by_cases hl : ts.length = us.length
  · have hs := tsms_spec ts us
    have hf := tsms_false ts us
    have HS := Lib.hid hs
    have HF := Lib.hid hf
    have HL := Lib.hid hl
    generalize Lfc.Raw.tsms ts us = res at *
    rw [← hl]
    clear hs hf hl
    go_enter Tryz.func169, Tryz.ntmps169
    go_wp2_with fail
    go_loopw [17] (fun i wr => ∃ k : Nat, k ≤ ts.length ∧ i = .int .i64 k ∧ Below w.heap.size w wr ∧ Hid (∀ j (h : j < ts.length) (h' : j < us.length), j < k → Lfc.Raw.tsm ts[j] us[j] = true)) (fun i _ => ts.length - (intOf i).toNat)
    case atStart => exact ⟨0, by omega, rfl, Below.refl _ _, Lib.hid fun j _ _ hj => by omega⟩
    case round =>
      obtain ⟨k, hk, rfl, hbw, hp⟩ := hrel
      by_cases hlt : k < ts.length
      · have hlt' : k < us.length := by have := HL.out; omega
        obtain ⟨b, o, k1, n1, p1, xs, B, c1, rfl, hb, ht, d0, d1, d2, d3, hcu, hB, hT⟩ := (HA.out.below hbw).at_ hlt
        obtain ⟨b', o', k2, n2, p2, ys, B', c2, rfl, hb', ht', e0, e1, e2, e3, hcu', hB', hT'⟩ := (HA'.out.below hbw).at_ hlt'
        have hmem := Lfc.Raw.sizes_mem ts ts[k] (List.getElem_mem _)
        clear hB hB' ht ht'
        have b1 : Below wr.heap.size wr ((wr.alloc (.cells #[.int .i64 k1, S n1, .int .i64 p1, .slice B xs.length c1] 51)).alloc (.cells #[.int .i64 k2, S n2, .int .i64 p2, .slice B' ys.length c2] 51)) := ((Below.refl _ _).alloc (Nat.le_refl _) _).alloc (by simp) _
        have hT2 := hT.below b1
        have hT2' := hT'.below b1
        cases hq : Lfc.Raw.tsm ts[k] us[k]
        · have hres := HF.out k hlt hlt' hq
          subst hres
          have HQ := Lib.hid hq
          clear hq
          go_wp2_with fail
          refine (IH.out ts[k] us[k] _ _ _ (by omega) hT2 hT2').mono ?_
          rintro e w1 ⟨rfl, hb1⟩
          rw [HQ.out]
          go_wp2_with fail
          go_ret
          exact ⟨rfl, hbw.trans ((b1.mono hbw.size).trans (hb1.mono (Nat.le_trans hbw.size b1.size)))⟩
        · have HQ := Lib.hid hq
          clear hq
          go_wp2_with fail
          refine (IH.out ts[k] us[k] _ _ _ (by omega) hT2 hT2').mono ?_
          rintro e w1 ⟨rfl, hb1⟩
          rw [HQ.out]
          go_wp2_with fail
          go_roundw
          case rel =>
            refine ⟨k + 1, by omega, by go_num, hbw.trans ((b1.mono hbw.size).trans (hb1.mono (Nat.le_trans hbw.size b1.size))), Lib.hid fun j h h' hj => ?_⟩
            rcases Nat.lt_or_ge j k with h1 | h1
            · exact hp.out j h h' h1
            · obtain rfl : j = k := by omega
              exact HQ.out
          case measure => simp [intOf]; omega
      · have hres := HS.out.2 ⟨HL.out, fun j h h' => hp.out j h h' (by omega)⟩
        subst hres
        go_wp2_with fail
        go_ret
        exact ⟨rfl, hbw⟩
  · rw [tsms_len ts us hl]
    have hne : ((ts.length : Int) != (us.length : Int)) = true := by simp; omega
    clear hl
    go_enter Tryz.func169, Tryz.ntmps169
    go_wp2_with fail
    go_ret
    exact ⟨rfl, Below.refl _ _⟩

set_option maxRecDepth 100000 in
set_option maxHeartbeats 2000000 in
theorem tSame_upto (m : Nat) (hm : m ≤ 1000000000) : TSameUpto m := by
  induction m with
  | zero => intro t u v v' w h _ _; have := t.size_pos; omega
  | succ m ih =>
    intro t u v v' w hsz hv hv'
    obtain ⟨kd, nm, ps, ts⟩ := t
    obtain ⟨kd', nm', ps', us⟩ := u
    obtain ⟨A, c, rfl, hc, hA⟩ := hv.open_
    obtain ⟨A', c', rfl, hc', hA'⟩ := hv'.open_
    simp only [Lfc.Raw.size] at hsz
    have hlen := Lfc.Raw.sizes_len ts
    obtain ⟨wa, hwa⟩ : ∃ wa, w.alloc (.cells #[.int .i64 kd, S nm, .int .i64 ps, .slice A ts.length c] 51) = wa := ⟨_, rfl⟩
    obtain ⟨wb, hwb⟩ : ∃ wb, wa.alloc (.cells #[.int .i64 kd', S nm', .int .i64 ps', .slice A' us.length c'] 51) = wb := ⟨_, rfl⟩
    have b0 : Below w.heap.size w wb := by rw [← hwb, ← hwa]; exact ((Below.refl _ _).alloc (Nat.le_refl _) _).alloc (by simp) _
    have qa : wa.heap[w.heap.size]? = some (.cells #[.int .i64 kd, S nm, .int .i64 ps, .slice A ts.length c] 51 (0, 0)) := by rw [← hwa]; exact heap_alloc_new _ _
    have qb : wb.heap[wa.heap.size]? = some (.cells #[.int .i64 kd', S nm', .int .i64 ps', .slice A' us.length c'] 51 (0, 0)) := by rw [← hwb]; exact heap_alloc_new _ _
    have qab : wb.heap[w.heap.size]? = some (.cells #[.int .i64 kd, S nm, .int .i64 ps, .slice A ts.length c] 51 (0, 0)) := by rw [← hwb]; exact (Lib.alloc_old _ _ _ (lt_of_block qa)).trans qa
    have y0 := Lib.cell_of_heap qab 0
    have y1 := Lib.cell_of_heap qab 1
    have y2 := Lib.cell_of_heap qab 2
    have y3 := Lib.cell_of_heap qab 3
    have z0 := Lib.cell_of_heap qb 0
    have z1 := Lib.cell_of_heap qb 1
    have z2 := Lib.cell_of_heap qb 2
    have z3 := Lib.cell_of_heap qb 3
    simp at y0 y1 y2 y3 z0 z1 z2 z3
    have HE := Lib.hid (tEqualFunc_any m (ih (by omega)) ts us A A' c c' wb (by omega) (by omega) (hA.below b0) (hA'.below b0))
    have B0 := Lib.hid b0
    have HSM : Hid (Lfc.Raw.tsm (.node kd nm ps ts) (.node kd' nm' ps' us) = (decide (kd = kd') && decide (ps = ps') && (decide (nm = nm') || decide (kd = 2) || decide (kd = 3)) && Lfc.Raw.tsms ts us)) := Lib.hid (by rw [Lfc.Raw.tsm])
    obtain ⟨res, hres⟩ : ∃ res, Lfc.Raw.tsms ts us = res := ⟨_, rfl⟩
    rw [hres] at HSM HE
    have HYES : Hid ((kd = kd' ∧ ps = ps' ∧ (nm = nm' ∨ kd = 2 ∨ kd = 3)) → (decide (kd = kd') && decide (ps = ps') && (decide (nm = nm') || decide (kd = 2) || decide (kd = 3)) && res) = res) := Lib.hid (by rintro ⟨h1, h2, h3 | h3 | h3⟩ <;> simp [h1, h2, h3] <;> simp_all)
    have HNO : Hid (¬ (kd = kd' ∧ ps = ps' ∧ (nm = nm' ∨ kd = 2 ∨ kd = 3)) → (decide (kd = kd') && decide (ps = ps') && (decide (nm = nm') || decide (kd = 2) || decide (kd = 3)) && res) = false) := Lib.hid (by
      intro h
      rw [Bool.and_eq_false_iff]
      left
      rw [← Bool.not_eq_true]
      intro h2
      simp only [Bool.and_eq_true, Bool.or_eq_true, decide_eq_true_eq] at h2
      exact h ⟨h2.1.1, h2.1.2, by rcases h2.2 with (h3 | h3) | h3 <;> simp [h3]⟩)
    clear ih hA hA' hv hv' hres b0 qa qb qab
    by_cases h1 : kd = kd'
    · have g1 : (kd == kd') = true := by simp [h1]
      have g1b : (kd != kd') = false := by simp [h1]
      by_cases h2 : ps = ps'
      · have g2 : (ps == ps') = true := by simp [h2]
        have g2b : (ps != ps') = false := by simp [h2]
        by_cases h3 : nm = nm'
        · have g3 : (nm == nm') = true := by simp [h3]
          have g3b : (nm != nm') = false := by simp [h3]
          rw [HSM.out, HYES.out (by exact ⟨h1, h2, .inl h3⟩)]
          clear HSM HYES HNO h1 h2 h3
          go_enter Tryz.func167, Tryz.ntmps167
          go_wp2_with fail
          refine HE.out.mono ?_
          rintro e w1 ⟨rfl, hb1⟩
          go_wp2_with fail
          go_ret
          exact ⟨rfl, B0.out.trans (hb1.mono B0.out.size)⟩
        · have g3 : (nm == nm') = false := by simp [h3]
          have g3b : (nm != nm') = true := by simp [h3]
          by_cases h4 : kd = 2
          · have g4 : (kd == 2) = true := by simp [h4]
            have g4b : (kd != 2) = false := by simp [h4]
            rw [HSM.out, HYES.out (by exact ⟨h1, h2, .inr (.inl h4)⟩)]
            clear HSM HYES HNO h1 h2 h3 h4
            go_enter Tryz.func167, Tryz.ntmps167
            go_wp2_with fail
            refine HE.out.mono ?_
            rintro e w1 ⟨rfl, hb1⟩
            go_wp2_with fail
            go_ret
            exact ⟨rfl, B0.out.trans (hb1.mono B0.out.size)⟩
          · have g4 : (kd == 2) = false := by simp [h4]
            have g4b : (kd != 2) = true := by simp [h4]
            by_cases h5 : kd = 3
            · have g5 : (kd == 3) = true := by simp [h5]
              have g5b : (kd != 3) = false := by simp [h5]
              rw [HSM.out, HYES.out (by exact ⟨h1, h2, .inr (.inr h5)⟩)]
              clear HSM HYES HNO h1 h2 h3 h4 h5
              go_enter Tryz.func167, Tryz.ntmps167
              go_wp2_with fail
              refine HE.out.mono ?_
              rintro e w1 ⟨rfl, hb1⟩
              go_wp2_with fail
              go_ret
              exact ⟨rfl, B0.out.trans (hb1.mono B0.out.size)⟩
            · have g5 : (kd == 3) = false := by simp [h5]
              have g5b : (kd != 3) = true := by simp [h5]
              rw [HSM.out, HNO.out (by rintro ⟨_, _, h | h | h⟩; exact h3 h; exact h4 h; exact h5 h)]
              clear HSM HYES HNO HE h1 h2 h3 h4 h5
              go_enter Tryz.func167, Tryz.ntmps167
              go_wp2_with fail
              go_ret
              exact ⟨rfl, B0.out⟩
      · have g2 : (ps == ps') = false := by simp [h2]
        have g2b : (ps != ps') = true := by simp [h2]
        rw [HSM.out, HNO.out (by exact fun h => h2 h.2.1)]
        clear HSM HYES HNO HE h1 h2
        go_enter Tryz.func167, Tryz.ntmps167
        go_wp2_with fail
        go_ret
        exact ⟨rfl, B0.out⟩
    · have g1 : (kd == kd') = false := by simp [h1]
      have g1b : (kd != kd') = true := by simp [h1]
      rw [HSM.out, HNO.out (by exact fun h => h1 h.1)]
      clear HSM HYES HNO HE h1
      go_enter Tryz.func167, Tryz.ntmps167
      go_wp2_with fail
      go_ret
      exact ⟨rfl, B0.out⟩
end Go.Proofs.YtadjpadieljjlaaGreat
