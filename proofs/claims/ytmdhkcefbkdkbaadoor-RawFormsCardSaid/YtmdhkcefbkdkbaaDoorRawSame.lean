/- Contracts of Same, of the program and of the reference. -/
import Derived.Test.YtmdhkcefbkdkbaaDoorRawSize
import Derived.Deep.RegionHeld3
set_option linter.unusedVariables false
set_option linter.unusedSimpArgs false
namespace Go.Proofs.YtmdhkcefbkdkbaaDoor
open Go.RowKit

theorem sames_spec (at_ : Bool) : ∀ (ts us : List Lfc.Raw), Lfc.Raw.sames at_ ts us = true ↔ ts.length = us.length ∧ ∀ k (h : k < ts.length) (h' : k < us.length), Lfc.Raw.same at_ ts[k] us[k] = true
  | [], [] => by simp [Lfc.Raw.sames]
  | [], _ :: _ => by simp [Lfc.Raw.sames]
  | _ :: _, [] => by simp [Lfc.Raw.sames]
  | a :: r, b :: q => by
    rw [Lfc.Raw.sames, Bool.and_eq_true, sames_spec at_ r q]
    constructor
    · rintro ⟨h1, h2, h3⟩
      refine ⟨by simp [h2], fun k h h' => ?_⟩
      cases k with
      | zero => exact h1
      | succ k => exact h3 k (by simpa using h) (by simpa using h')
    · rintro ⟨h1, h2⟩
      exact ⟨h2 0 (by simp) (by simp), by simpa using h1, fun k h h' => h2 (k + 1) (by simpa using h) (by simpa using h')⟩
theorem sames_false (at_ : Bool) (ts us : List Lfc.Raw) (k : Nat) (h : k < ts.length) (h' : k < us.length) (hf : Lfc.Raw.same at_ ts[k] us[k] = false) : Lfc.Raw.sames at_ ts us = false := by
  cases hs : Lfc.Raw.sames at_ ts us
  · rfl
  · rw [((sames_spec at_ ts us).1 hs).2 k h h'] at hf; cases hf
theorem sames_len (at_ : Bool) (ts us : List Lfc.Raw) (h : ts.length ≠ us.length) : Lfc.Raw.sames at_ ts us = false := by
  cases hs : Lfc.Raw.sames at_ ts us
  · rfl
  · exact absurd ((sames_spec at_ ts us).1 hs).1 h

theorem enters_same : ∀ args w, (callFunc 38 args).run Tryd.prog w = .ok (.enter 38 args) w := enters_of Tryd.func38 (by kernel_rfl) rfl

/-- What raw.Same does at trees of at most so many nodes. -/
def SameUpto (m : Nat) : Prop := ∀ (t u : Lfc.Raw) (v v' : Value) (w : World), t.size ≤ m → TreeV w t v → TreeV w u v' →
    Calls Tryd.prog 38 #[v, v'] w fun e w' => e = .returned (.bool (Lfc.Raw.same false t u)) ∧ Below w.heap.size w w'

set_option maxRecDepth 100000 in
set_option maxHeartbeats 1000000 in
theorem equalFunc_any (m : Nat) (ih : SameUpto m) (ts us : List Lfc.Raw) (A A' : Option Addr) (c c' : Nat) (w : World) (hm : Lfc.Raw.sizes ts ≤ m) (hmax : ts.length ≤ 1000000000) (h : TreesAt w A ts) (h' : TreesAt w A' us) :
    Calls Tryd.prog 66 #[.slice A ts.length c, .slice A' us.length c', .func (.func 38) #[] #[]] w fun e w' => e = .returned (.bool (Lfc.Raw.sames false ts us)) ∧ Below w.heap.size w w' := by
  have he := enters_same
  have IH := Lib.hid ih
  have HA := Lib.hid h
  have HA' := Lib.hid h'
  clear ih h h'
  by_cases hl : ts.length = us.length
  · have hs := sames_spec false ts us
    have hf := sames_false false ts us
    have HS := Lib.hid hs
    have HF := Lib.hid hf
    have HL := Lib.hid hl
    generalize Lfc.Raw.sames false ts us = res at *
    rw [← hl]
    clear hs hf hl
    go_enter Tryd.func66, Tryd.ntmps66
    go_wp2_with fail
    go_loopw [17] (fun i wr => ∃ k : Nat, k ≤ ts.length ∧ i = .int .i64 k ∧ Below w.heap.size w wr ∧ Hid (∀ j (h : j < ts.length) (h' : j < us.length), j < k → Lfc.Raw.same false ts[j] us[j] = true)) (fun i _ => ts.length - (intOf i).toNat)
    case atStart => exact ⟨0, by omega, rfl, Below.refl _ _, Lib.hid fun j _ _ hj => by omega⟩
    case round =>
      obtain ⟨k, hk, rfl, hbw, hp⟩ := hrel
      by_cases hlt : k < ts.length
      · have hlt' : k < us.length := by have := HL.out; omega
        obtain ⟨b, o, k1, n1, p1, xs, B, c1, rfl, hb, ht, d0, d1, d2, d3, hcu, hB, hT⟩ := (HA.out.below hbw).at_ hlt
        obtain ⟨b', o', k2, n2, p2, ys, B', c2, rfl, hb', ht', e0, e1, e2, e3, hcu', hB', hT'⟩ := (HA'.out.below hbw).at_ hlt'
        have hmem := Lfc.Raw.sizes_mem ts ts[k] (List.getElem_mem _)
        clear hB hB' ht ht'
        have b1 : Below wr.heap.size wr ((wr.alloc (.cells #[.int .i64 k1, S n1, .int .i64 p1, .slice B xs.length c1] 42)).alloc (.cells #[.int .i64 k2, S n2, .int .i64 p2, .slice B' ys.length c2] 42)) := ((Below.refl _ _).alloc (Nat.le_refl _) _).alloc (by simp) _
        have hT2 := hT.below b1
        have hT2' := hT'.below b1
        cases hq : Lfc.Raw.same false ts[k] us[k]
        · have hres := HF.out k hlt hlt' hq
          subst hres
          have HQ := Lib.hid hq
          clear hq
          go_wp2_with fail
          refine (IH.out ts[k] us[k] _ _ _ (by omega) hT2 hT2').mono ?_
          rintro e w1 ⟨rfl, hb1⟩
          rw [HQ.out]
          go_wp2_with fail
          go_ret
          exact ⟨rfl, hbw.trans ((b1.mono hbw.size).trans (hb1.mono (Nat.le_trans hbw.size b1.size)))⟩
        · have HQ := Lib.hid hq
          clear hq
          go_wp2_with fail
          refine (IH.out ts[k] us[k] _ _ _ (by omega) hT2 hT2').mono ?_
          rintro e w1 ⟨rfl, hb1⟩
          rw [HQ.out]
          go_wp2_with fail
          go_roundw
          case rel =>
            refine ⟨k + 1, by omega, by go_num, hbw.trans ((b1.mono hbw.size).trans (hb1.mono (Nat.le_trans hbw.size b1.size))), Lib.hid fun j h h' hj => ?_⟩
            rcases Nat.lt_or_ge j k with h1 | h1
            · exact hp.out j h h' h1
            · obtain rfl : j = k := by omega
              exact HQ.out
          case measure => simp [intOf]; omega
      · have hres := HS.out.2 ⟨HL.out, fun j h h' => hp.out j h h' (by omega)⟩
        subst hres
        go_wp2_with fail
        go_ret
        exact ⟨rfl, hbw⟩
  · rw [sames_len false ts us hl]
    have hne : ((ts.length : Int) != (us.length : Int)) = true := by simp; omega
    clear hl
    go_enter Tryd.func66, Tryd.ntmps66
    go_wp2_with fail
    go_ret
    exact ⟨rfl, Below.refl _ _⟩

set_option maxRecDepth 100000 in
set_option maxHeartbeats 1000000 in
theorem same_upto (m : Nat) (hm : m ≤ 1000000000) : SameUpto m := by
  induction m with
  | zero => intro t u v v' w h _ _; have := t.size_pos; omega
  | succ m ih =>
    intro t u v v' w hsz hv hv'
    obtain ⟨kd, nm, ps, ts⟩ := t
    obtain ⟨kd', nm', ps', us⟩ := u
    obtain ⟨A, c, rfl, hc, hA⟩ := hv.open_
    obtain ⟨A', c', rfl, hc', hA'⟩ := hv'.open_
    simp only [Lfc.Raw.size] at hsz
    have hlen := Lfc.Raw.sizes_len ts
    have b0 : Below w.heap.size w ((w.alloc (.cells #[.int .i64 kd, S nm, .int .i64 ps, .slice A ts.length c] 42)).alloc (.cells #[.int .i64 kd', S nm', .int .i64 ps', .slice A' us.length c'] 42)) := ((Below.refl _ _).alloc (Nat.le_refl _) _).alloc (by simp) _
    have HE := Lib.hid (fun W (hb : Below w.heap.size w W) => equalFunc_any m (ih (by omega)) ts us A A' c c' W (by omega) (by omega) (hA.below hb) (hA'.below hb))
    have hsame : Lfc.Raw.same false (.node kd nm ps ts) (.node kd' nm' ps' us) = (decide (kd = kd') && decide (nm = nm') && Lfc.Raw.sames false ts us) := by
      rw [Lfc.Raw.same]; simp
    rw [hsame]
    clear ih hA hA' hv hv' hsame
    by_cases h1 : kd = kd'
    · have g1 : ((kd : Int) == kd') = true := by simp [h1]
      by_cases h2 : nm = nm'
      · have g2 : (nm == nm') = true := by simp [h2]
        rw [decide_eq_true h1, decide_eq_true h2, Bool.true_and, Bool.true_and]
        clear h1 h2
        go_enter Tryd.func38, Tryd.ntmps38
        go_wp2_with fail
        refine (HE.out _ b0).mono ?_
        rintro e w1 ⟨rfl, hb1⟩
        go_wp2_with fail
        go_ret
        exact ⟨rfl, b0.trans (hb1.mono b0.size)⟩
      · have g2 : (nm == nm') = false := by simp [h2]
        rw [decide_eq_false h2, Bool.and_false, Bool.false_and]
        clear h1 h2
        go_enter Tryd.func38, Tryd.ntmps38
        go_wp2_with fail
        go_ret
        exact ⟨rfl, b0⟩
    · have g1 : ((kd : Int) == kd') = false := by simp [h1]
      rw [decide_eq_false h1, Bool.false_and, Bool.false_and]
      clear h1
      go_enter Tryd.func38, Tryd.ntmps38
      go_wp2_with fail
      go_ret
      exact ⟨rfl, b0⟩
end Go.Proofs.YtmdhkcefbkdkbaaDoor
