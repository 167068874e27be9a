/- Contracts of WellFormed. -/
import Derived.Test.YtkhfnkokdmoipaaDoorRawFormed
set_option linter.unusedVariables false
set_option linter.unusedSimpArgs false
namespace Go.Proofs.YtkhfnkokdmoipaaDoor
open Go.RowKit

theorem forms_spec : ∀ (ts : List Lfc.Raw), Lfc.Raw.forms ts = true ↔ ∀ k (h : k < ts.length), ts[k].form = true
  | [] => by simp [Lfc.Raw.forms]
  | a :: r => by
    rw [Lfc.Raw.forms, Bool.and_eq_true, forms_spec r]
    constructor
    · rintro ⟨h1, h2⟩ k h
      cases k with
      | zero => exact h1
      | succ k => exact h2 k (by simpa using h)
    · intro h
      exact ⟨h 0 (by simp), fun k hk => h (k + 1) (by simpa using hk)⟩
theorem forms_false (ts : List Lfc.Raw) (k : Nat) (h : k < ts.length) (hf : ts[k].form = false) : Lfc.Raw.forms ts = false := by
  cases hs : Lfc.Raw.forms ts
  · rfl
  · rw [(forms_spec ts).1 hs k h] at hf; cases hf

set_option maxRecDepth 100000 in
set_option maxHeartbeats 1000000 in
theorem indexNot_any (m : Nat) (ih : WholeUpto m) (ts : List Lfc.Raw) (A : Option Addr) (c : Nat) (w : World) (B : Nat) (hm : Lfc.Raw.sizes ts ≤ m) (hmax : ts.length ≤ 1000000000) (h : TreesAt w A ts) (hB : WholeAt w B) :
    Calls Tryd.prog 65 #[.slice A ts.length c, .func (.func 47) #[] #[.pointer (some ⟨B, 0, none⟩)]] w fun e w' => ∃ i : Int, e = .returned (.int .i64 i) ∧ decide (i ≥ 0) = !Lfc.Raw.forms ts ∧ Below w.heap.size w w' := by
  have he := enters_not
  have IH := Lib.hid (notWhole_any m ih)
  have HA := Lib.hid h
  have HB := Lib.hid hB
  have HS := Lib.hid (forms_spec ts)
  have HF := Lib.hid (forms_false ts)
  clear ih h hB
  generalize Lfc.Raw.forms ts = res at *
  go_enter Tryd.func65, Tryd.ntmps65
  go_wp2_with fail
  go_loopw [8] (fun i wr => ∃ k : Nat, k ≤ ts.length ∧ i = .int .i64 k ∧ Below w.heap.size w wr ∧ Hid (∀ j (h : j < ts.length), j < k → ts[j].form = true)) (fun i _ => ts.length - (intOf i).toNat)
  case atStart => exact ⟨0, by omega, rfl, Below.refl _ _, Lib.hid fun j _ hj => by omega⟩
  case round =>
    obtain ⟨k, hk, rfl, hbw, hp⟩ := hrel
    by_cases hlt : k < ts.length
    · obtain ⟨b, o, k1, n1, p1, xs, B1, c1, rfl, hb, ht, d0, d1, d2, d3, hcu, hB, hT⟩ := (HA.out.below hbw).at_ hlt
      have hmem := Lfc.Raw.sizes_mem ts ts[k] (List.getElem_mem _)
      clear hB ht
      have hT2 := Lib.hid hT
      have HB2 := Lib.hid (HB.out.below hbw)
      cases hq : ts[k].form
      · have hres := HF.out k hlt hq
        subst hres
        have HQ := Lib.hid hq
        clear hq
        go_wp2_with fail
        refine (IH.out ts[k] _ _ B (by omega) hT2.out HB2.out).mono ?_
        rintro e w1 ⟨rfl, hb1⟩
        rw [HQ.out]
        go_wp2_with fail
        go_ret
        exact ⟨k, rfl, by simp, hbw.trans (hb1.mono hbw.size)⟩
      · have HQ := Lib.hid hq
        clear hq
        go_wp2_with fail
        refine (IH.out ts[k] _ _ B (by omega) hT2.out HB2.out).mono ?_
        rintro e w1 ⟨rfl, hb1⟩
        rw [HQ.out]
        go_wp2_with fail
        go_roundw
        case rel =>
          refine ⟨k + 1, by omega, by go_num, hbw.trans (hb1.mono hbw.size), Lib.hid fun j h hj => ?_⟩
          rcases Nat.lt_or_ge j k with h1 | h1
          · exact hp.out j h h1
          · obtain rfl : j = k := by omega
            exact HQ.out
        case measure => simp [intOf]; omega
    · have hres := HS.out.2 fun j h => hp.out j h (by omega)
      subst hres
      go_wp2_with fail
      go_ret
      exact ⟨-1, rfl, by decide, hbw⟩

set_option maxRecDepth 100000 in
set_option maxHeartbeats 1000000 in
theorem containsNot_any (m : Nat) (ih : WholeUpto m) (ts : List Lfc.Raw) (A : Option Addr) (c : Nat) (w : World) (B : Nat) (hm : Lfc.Raw.sizes ts ≤ m) (hmax : ts.length ≤ 1000000000) (h : TreesAt w A ts) (hB : WholeAt w B) :
    Calls Tryd.prog 46 #[.slice A ts.length c, .func (.func 47) #[] #[.pointer (some ⟨B, 0, none⟩)]] w fun e w' => e = .returned (.bool (!Lfc.Raw.forms ts)) ∧ Below w.heap.size w w' := by
  have IH := Lib.hid (indexNot_any m ih ts A c w B hm hmax h hB)
  clear ih h hB
  go_enter Tryd.func46, Tryd.ntmps46
  go_wp2_with fail
  refine IH.out.mono ?_
  rintro e w1 ⟨i, rfl, hi, hb1⟩
  have HI := Lib.hid hi
  clear hi
  go_wp2_with fail
  go_ret
  exact ⟨ret_bool HI.out, hb1⟩

set_option maxRecDepth 100000 in
set_option maxHeartbeats 1000000 in
theorem whole_upto (m : Nat) (hmm : m ≤ 1000000000) : WholeUpto m := by
  induction m with
  | zero => intro t v w B h _ _; have := t.size_pos; omega
  | succ m ih =>
    intro t v w B hsz hv hB
    obtain ⟨kd, nm, ps, ts⟩ := t
    obtain ⟨A, c, rfl, hc, hA⟩ := hv.open_
    have hsz' := hsz
    simp only [Lfc.Raw.size] at hsz'
    have hlen := Lfc.Raw.sizes_len ts
    have b0 : Below w.heap.size w (w.alloc (.cells #[.int .i64 kd, S nm, .int .i64 ps, .slice A ts.length c] 39)) := (Below.refl _ _).alloc (Nat.le_refl _) _
    have HF := Lib.hid (formed_any kd ps nm ts _ _ (by omega) (hv.below b0))
    have HC := Lib.hid (fun W (hb : Below w.heap.size w W) => containsNot_any m (ih (by omega)) ts A c W B (by omega) (by omega) (hA.below hb) (hB.below hb))
    rw [Lfc.Raw.form]
    clear ih hA hv hB
    generalize Lfc.formed kd nm ts.length = q1 at *
    generalize Lfc.Raw.forms ts = q2 at *
    have hx : (w.alloc (.cells #[.int .i64 kd, S nm, .int .i64 ps, .slice A ts.length c] 39)).cell? ⟨w.heap.size, 3, none⟩ = some (.slice A ts.length c) := by simp
    cases q1
    · go_enter Tryd.func44, Tryd.ntmps44
      go_wp2_with fail
      refine HF.out.mono ?_
      rintro e w1 ⟨rfl, hb1⟩
      go_wp2_with fail
      go_ret
      exact ⟨rfl, b0.trans (hb1.mono b0.size)⟩
    · go_enter Tryd.func44, Tryd.ntmps44
      go_wp2_with fail
      refine HF.out.mono ?_
      rintro e w1 ⟨rfl, hb1⟩
      have hx1 := (hb1.cell (p := ⟨w.heap.size, 3, none⟩) (by simp)).trans hx
      go_wp2_with fail
      refine (HC.out _ (b0.trans (hb1.mono b0.size))).mono ?_
      rintro e w2 ⟨rfl, hb2⟩
      cases q2
      all_goals
        go_wp2_with fail
        go_ret
        exact ⟨rfl, (b0.trans (hb1.mono b0.size)).trans (hb2.mono (b0.trans (hb1.mono b0.size)).size)⟩
end Go.Proofs.YtkhfnkokdmoipaaDoor
