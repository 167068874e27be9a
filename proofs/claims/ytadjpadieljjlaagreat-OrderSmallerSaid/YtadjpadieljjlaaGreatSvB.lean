/- Parts of the proof: OrForm, OrRef, OrShape, OrVld. -/
import Derived.Test.YtadjpadieljjlaaGreatOrMem
import Derived.Laws.EntriesVeiled
import Derived.Deep.CutBlock
import Derived.Deep.DeepCutAuto
import Derived.StillTailTactics
import Derived.Test.YtadjpadieljjlaaGreatRawMem
/- Contracts of count, form, small, args of orders. -/
set_option linter.unusedVariables false
set_option linter.unusedSimpArgs false
namespace Go.Proofs.YtadjpadieljjlaaGreat
open Go.RowKit

set_option maxRecDepth 100000 in
set_option maxHeartbeats 2000000 in
theorem oCount_any (m : Nat) (hmm : m ≤ 1000000) : ∀ (o : Lfc.Ord) (v : Value) (lim : Int) (w : World), o.size ≤ m → 0 ≤ lim → lim ≤ 1000 → OrdV w o v →
    Calls Tryz.prog 84 #[v, .int .i64 lim] w fun e w' => e = .returned (.int .i64 (o.cnt lim)) ∧ Below w.heap.size w w' := by
  induction m with
  | zero => intro o v lim w h _ _ _; have := o.size_pos; omega
  | succ m ih0 =>
    intro o v lim w hm hl0 hl1 hv
    have ih := ih0 (by omega)
    clear ih0
    obtain ⟨kd, ar, ts⟩ := o
    obtain ⟨A, c, rfl, hc, hA⟩ := hv.open_
    simp only [Lfc.Ord.size] at hm
    have hlen := Lfc.Ord.sizes_len ts
    have IH := Lib.hid ih
    have HSP := Lib.hid (fun (k : Nat) (h : k < ts.length) (l : Int) (h0 : 0 ≤ l) => Lfc.cnt_spec _ ts[k] l (Nat.le_refl _) h0)
    have b0 : Below w.heap.size w (w.alloc (.cells #[.int .i64 kd, .int .i64 ar, .slice A ts.length c] 26)) := (Below.refl _ _).alloc (Nat.le_refl _) _
    have HA := Lib.hid hA
    have HR : Hid (Lfc.Ord.cnt (.node kd ar ts) lim = Lfc.Ord.cnts ts lim 1) := Lib.hid rfl
    rw [HR.out]
    clear ih hA hv HR
    go_enter Tryz.func84, Tryz.ntmps84
    go_wp2_with fail
    go_loopw [5, 11] (fun n i wr => ∃ (k : Nat) (q : Int), k ≤ ts.length ∧ i = .int .i64 k ∧ n = .int .i64 q ∧ 1 ≤ q ∧ q ≤ 1 + (Lfc.Ord.sizes (ts.take k) : Int) ∧ Hid (Lfc.Ord.cnts (ts.drop k) lim q = Lfc.Ord.cnts ts lim 1) ∧ Below w.heap.size w wr) (fun _ i _ => ts.length - (intOf i).toNat)
    case atStart => exact ⟨0, 1, by omega, rfl, rfl, by omega, by simp [Lfc.Ord.sizes], Lib.hid (by simp), b0⟩
    case round =>
      obtain ⟨k, q, hk, rfl, rfl, hq1, hq2, HC, hbw⟩ := hrel
      have hle := Lfc.Ord.sizes_take_le ts k
      by_cases hlt : k < ts.length
      · obtain ⟨b, o, k1, a1, us, B, c1, rfl, hb, ht, d0, d1, d2, hcu, hB, hT⟩ := (HA.out.below hbw).at_ hlt
        have hst := Lfc.Ord.sizes_take ts k hlt
        have hmem := Lfc.Ord.sizes_mem ts ts[k] (List.getElem_mem _)
        have HD : Hid (Lfc.Ord.cnts (ts[k] :: ts.drop (k + 1)) lim q = Lfc.Ord.cnts ts lim 1) := Lib.hid (by rw [← List.drop_eq_getElem_cons hlt]; exact HC.out)
        have b1 : Below wr.heap.size wr (wr.alloc (.cells #[.int .i64 k1, .int .i64 a1, .slice B us.length c1] 26)) := (Below.refl _ _).alloc (Nat.le_refl _) _
        have hT2 := hT.below b1
        have HB1 := Lib.hid b1
        clear hB ht
        by_cases hlim : lim < q
        · have HRES : Hid (Lfc.Ord.cnts ts lim 1 = q) := Lib.hid (by rw [← HD.out, Lfc.Ord.cnts, if_pos hlim])
          have hd1 : decide (q > lim) = true := by simpa using hlim
          have hd2 : decide (lim < q) = true := by simpa using hlim
          go_wp2_with fail
          go_ret
          exact ⟨ret_int HRES.out.symm, hbw.trans (HB1.out.mono hbw.size)⟩
        · have hd1 : decide (q > lim) = false := by simp; omega
          have hd2 : decide (lim < q) = false := by simp; omega
          obtain ⟨e1, e2, _, _⟩ := HSP.out k hlt (lim - q) (by omega)
          have HD2 : Hid (Lfc.Ord.cnts (ts.drop (k + 1)) lim (q + Lfc.Ord.cnt ts[k] (lim - q)) = Lfc.Ord.cnts ts lim 1) := Lib.hid (by rw [← HD.out, Lfc.Ord.cnts, if_neg hlim])
          have hw1 : IntKind.i64.wrap (lim - q) = lim - q := IntWalk.i64_in _ (by omega)
          have CALL := Lib.hid (IH.out ts[k] _ (lim - q) _ (by omega) (by omega) (by omega) hT2)
          have HST := Lib.hid hst
          generalize hZ : Lfc.Ord.cnt ts[k] (lim - q) = z at *
          generalize Lfc.Ord.sizes (ts.take k) = y at *
          clear hst hZ HD
          go_wp2_with fail
          refine CALL.out.mono ?_
          rintro e w1 ⟨rfl, hb1⟩
          have hq3 : q + z ≤ 1 + (Lfc.Ord.sizes (ts.take (k + 1)) : Int) := by have := HST.out; omega
          have hq4 := Lfc.Ord.sizes_take_le ts (k + 1)
          go_wp2_with fail
          go_roundw
          case rel => exact ⟨k + 1, q + z, by omega, by go_num, by go_num, by omega, hq3, HD2, hbw.trans ((HB1.out.trans (hb1.mono HB1.out.size)).mono hbw.size)⟩
          case measure => simp [intOf]; omega
      · have HRES : Hid (Lfc.Ord.cnts ts lim 1 = q) := Lib.hid (by rw [← HC.out, List.drop_eq_nil_of_le (by omega)]; rfl)
        go_wp2_with fail
        go_ret
        exact ⟨ret_int HRES.out.symm, hbw⟩

theorem enters_oForm : ∀ args w, (callFunc 108 args).run Tryz.prog w = .ok (.enter 108 args) w := enters_of Tryz.func108 (by kernel_rfl) rfl

set_option maxRecDepth 100000 in
set_option maxHeartbeats 2000000 in
theorem oFormIndex_any (m : Nat) (ih : ∀ (o : Lfc.Ord) (v : Value) (w : World), o.size ≤ m → OrdV w o v → Calls Tryz.prog 108 #[v] w fun e w' => e = .returned (.bool (!(o).form)) ∧ Below w.heap.size w w')
    (ts : List Lfc.Ord) (A : Option Addr) (c : Nat) (w : World) (hm : Lfc.Ord.sizes ts ≤ m) (hmax : ts.length ≤ 1000000) (h : OrdsAt w A ts) :
    Calls Tryz.prog 109 #[.slice A ts.length c, .func (.func 108) #[] #[]] w fun e w' => ∃ i : Int, e = .returned (.int .i64 i) ∧ decide (i ≥ 0) = !Lfc.Ord.forms ts ∧ Below w.heap.size w w' := by
  have he := enters_oForm
  have IH := Lib.hid ih
  have HA := Lib.hid h
  have HS := Lib.hid (Lfc.forms_specO ts)
  have HF := Lib.hid (Lfc.forms_falseO ts)
  clear ih h
  generalize Lfc.Ord.forms ts = res at *
  go_enter Tryz.func109, Tryz.ntmps109
  go_wp2_with fail
  go_loopw [8] (fun i wr => ∃ k : Nat, k ≤ ts.length ∧ i = .int .i64 k ∧ Below w.heap.size w wr ∧ Hid (∀ j (h : j < ts.length), j < k → (ts[j]).form = true)) (fun i _ => ts.length - (intOf i).toNat)
  case atStart => exact ⟨0, by omega, rfl, Below.refl _ _, Lib.hid fun j _ hj => by omega⟩
  case round =>
    obtain ⟨k, hk, rfl, hbw, hp⟩ := hrel
    by_cases hlt : k < ts.length
    · obtain ⟨b, o, k1, a1, xs, B1, c1, rfl, hb, ht, d0, d1, d2, hcu, hB, hT⟩ := (HA.out.below hbw).at_ hlt
      have hmem := Lfc.Ord.sizes_mem ts ts[k] (List.getElem_mem _)
      clear hB ht
      have hT2 := Lib.hid hT
      cases hq : (ts[k]).form
      · have hres := HF.out k hlt hq
        subst hres
        have HQ := Lib.hid hq
        clear hq
        go_wp2_with fail
        refine (IH.out ts[k] _ _ (by omega) hT2.out).mono ?_
        rintro e w1 ⟨rfl, hb1⟩
        rw [HQ.out]
        go_wp2_with fail
        go_ret
        exact ⟨k, rfl, by simp, hbw.trans (hb1.mono hbw.size)⟩
      · have HQ := Lib.hid hq
        clear hq
        go_wp2_with fail
        refine (IH.out ts[k] _ _ (by omega) hT2.out).mono ?_
        rintro e w1 ⟨rfl, hb1⟩
        rw [HQ.out]
        go_wp2_with fail
        go_roundw
        case rel =>
          refine ⟨k + 1, by omega, by go_num, hbw.trans (hb1.mono hbw.size), Lib.hid fun j h hj => ?_⟩
          rcases Nat.lt_or_ge j k with h1 | h1
          · exact hp.out j h h1
          · obtain rfl : j = k := by omega
            exact HQ.out
        case measure => simp [intOf]; omega
    · have hres := HS.out.2 fun j h => hp.out j h (by omega)
      subst hres
      go_wp2_with fail
      go_ret
      exact ⟨-1, rfl, by decide, hbw⟩

set_option maxRecDepth 100000 in
set_option maxHeartbeats 2000000 in
theorem oFormContains_any (m : Nat) (ih : ∀ (o : Lfc.Ord) (v : Value) (w : World), o.size ≤ m → OrdV w o v → Calls Tryz.prog 108 #[v] w fun e w' => e = .returned (.bool (!(o).form)) ∧ Below w.heap.size w w')
    (ts : List Lfc.Ord) (A : Option Addr) (c : Nat) (w : World) (hm : Lfc.Ord.sizes ts ≤ m) (hmax : ts.length ≤ 1000000) (h : OrdsAt w A ts) :
    Calls Tryz.prog 87 #[.slice A ts.length c, .func (.func 108) #[] #[]] w fun e w' => e = .returned (.bool (!Lfc.Ord.forms ts)) ∧ Below w.heap.size w w' := by
  have IH := Lib.hid (oFormIndex_any m ih ts A c w hm hmax h)
  clear ih h
  go_enter Tryz.func87, Tryz.ntmps87
  go_wp2_with fail
  refine IH.out.mono ?_
  rintro e w1 ⟨i, rfl, hi, hb1⟩
  have HI := Lib.hid hi
  clear hi
  go_wp2_with fail
  go_ret
  exact ⟨ret_bool HI.out, hb1⟩

set_option maxRecDepth 100000 in
set_option maxHeartbeats 2000000 in
theorem oForm_upto (m : Nat) (hmm : m ≤ 1000000) : ∀ (o : Lfc.Ord) (v : Value) (w : World), o.size ≤ m → OrdV w o v →
    Calls Tryz.prog 85 #[v] w fun e w' => e = .returned (.bool o.form) ∧ Below w.heap.size w w' := by
  induction m with
  | zero => intro o v w h _; have := o.size_pos; omega
  | succ m ih0 =>
    intro o v w hsz hv
    have ih := ih0 (by omega)
    clear ih0
    have hn : ∀ (o : Lfc.Ord) (v : Value) (w : World), o.size ≤ m → OrdV w o v → Calls Tryz.prog 108 #[v] w fun e w' => e = .returned (.bool (!o.form)) ∧ Below w.heap.size w w' := by
      intro o v w hm hv
      obtain ⟨kd, ar, ts⟩ := o
      obtain ⟨A, c, rfl, hc, hA⟩ := hv.open_
      have b0 : Below w.heap.size w (w.alloc (.cells #[.int .i64 kd, .int .i64 ar, .slice A ts.length c] 26)) := (Below.refl _ _).alloc (Nat.le_refl _) _
      have IH := Lib.hid (ih _ _ _ hm (hv.below b0))
      clear ih hv hA
      generalize (Lfc.Ord.node kd ar ts).form = q at *
      go_enter Tryz.func108, Tryz.ntmps108
      go_wp2_with fail
      refine IH.out.mono ?_
      rintro e w1 ⟨rfl, hb1⟩
      cases q
      all_goals
        go_wp2_with fail
        go_ret
        exact ⟨rfl, b0.trans (hb1.mono b0.size)⟩
    obtain ⟨kd, ar, ts⟩ := o
    obtain ⟨A, c, rfl, hc, hA⟩ := hv.open_
    have hsz' := hsz
    simp only [Lfc.Ord.size] at hsz'
    have hlen := Lfc.Ord.sizes_len ts
    have hbx : Hid (Below w.heap.size w (w.alloc (.cells #[.int .i64 kd, .int .i64 ar, .slice A ts.length c] 26))) := Lib.hid ((Below.refl _ _).alloc (Nat.le_refl _) _)
    have HC := Lib.hid (oFormContains_any m hn ts A c _ (by omega) (by omega) (hA.below hbx.out))
    rw [Lfc.Ord.form]
    clear ih hn hA hv
    by_cases hk1 : kd = 1
    · subst hk1
      rw [if_pos rfl]
      by_cases hl0 : ts.length = 0
      · have hl1 : ((ts.length : Int) == 0) = true := by simp [hl0]
        have HD : Hid (decide (ts.length = 0) = true) := Lib.hid (decide_eq_true hl0)
        rw [HD.out]
        clear hl0
        go_enter Tryz.func85, Tryz.ntmps85
        go_wp2_with fail
        go_ret
        exact ⟨rfl, hbx.out⟩
      · have hl1 : ((ts.length : Int) == 0) = false := by rw [beq_eq_false_iff_ne]; omega
        have HD : Hid (decide (ts.length = 0) = false) := Lib.hid (decide_eq_false hl0)
        rw [HD.out]
        clear hl0
        go_enter Tryz.func85, Tryz.ntmps85
        go_wp2_with fail
        go_ret
        exact ⟨rfl, hbx.out⟩
    · have hk1f : (kd == 1) = false := by simpa using hk1
      rw [if_neg hk1]
      by_cases hk2 : kd = 2 ∨ kd = 3
      · rw [if_pos hk2]
        clear hk1
        by_cases ha0 : ar = 0
        · subst ha0
          rw [decide_eq_true rfl, Bool.true_and]
          by_cases hl0 : 0 < ts.length
          · have hl1 : decide ((ts.length : Int) > 0) = true := by rw [decide_eq_true_eq]; omega
            have hl2 : decide ((0 : Int) < (ts.length : Int)) = true := by rw [decide_eq_true_eq]; omega
            have HD : Hid (decide (0 < ts.length) = true) := Lib.hid (decide_eq_true hl0)
            rw [HD.out, Bool.true_and]
            generalize Lfc.Ord.forms ts = q at *
            rcases hk2 with rfl | rfl
            all_goals
              go_enter Tryz.func85, Tryz.ntmps85
              go_wp2_with fail
              refine HC.out.mono ?_
              rintro e w1 ⟨rfl, hb1⟩
              cases q
              all_goals
                go_wp2_with fail
                go_ret
                exact ⟨rfl, hbx.out.trans (hb1.mono hbx.out.size)⟩
          · have hl1 : decide ((ts.length : Int) > 0) = false := by rw [decide_eq_false_iff_not]; omega
            have hl2 : decide ((0 : Int) < (ts.length : Int)) = false := by rw [decide_eq_false_iff_not]; omega
            have HD : Hid (decide (0 < ts.length) = false) := Lib.hid (decide_eq_false hl0)
            rw [HD.out]
            rcases hk2 with rfl | rfl
            all_goals
              go_enter Tryz.func85, Tryz.ntmps85
              go_wp2_with fail
              go_ret
              exact ⟨rfl, hbx.out⟩
        · have ha1 : (ar == 0) = false := by simpa using ha0
          have HD : Hid (decide (ar = 0) = false) := Lib.hid (decide_eq_false ha0)
          rw [HD.out]
          rcases hk2 with rfl | rfl
          all_goals
            go_enter Tryz.func85, Tryz.ntmps85
            go_wp2_with fail
            go_ret
            exact ⟨by simp, hbx.out⟩
      · rw [if_neg hk2]
        have hk2f : (kd == 2) = false := by simp; omega
        have hk3f : (kd == 3) = false := by simp; omega
        go_enter Tryz.func85, Tryz.ntmps85
        go_wp2_with fail
        go_ret
        exact ⟨rfl, hbx.out⟩

set_option maxRecDepth 100000 in
set_option maxHeartbeats 2000000 in
theorem oSmall_any (o : Lfc.Ord) (v : Value) (w : World) (hsz : o.size ≤ 1000000) (hv : OrdV w o v) :
    Calls Tryz.prog 54 #[v] w fun e w' => e = .returned (.bool (decide (o.size ≤ 64) && o.form)) ∧ Below w.heap.size w w' := by
  obtain ⟨k1, k2, k3, k4⟩ := Lfc.cnt_spec _ o 64 (Nat.le_refl _) (by omega)
  have HT : Hid (decide (o.cnt 64 ≤ 64) = decide (o.size ≤ 64)) := Lib.hid (by
    rw [decide_eq_decide]
    constructor
    · intro h
      rcases Int.lt_or_le 64 (o.size : Int) with h1 | h1
      · have := k4 h1; omega
      · omega
    · intro h
      rw [k3 (by omega)]; omega)
  obtain ⟨A, c, kd, ar, ts, hT, rfl, hc, hA⟩ : ∃ A c kd ar ts, o = .node kd ar ts ∧ v = .agg #[.int .i64 kd, .int .i64 ar, .slice A ts.length c] ∧ ts.length ≤ c ∧ OrdsAt w A ts := by
    obtain ⟨kd, ar, ts⟩ := o
    obtain ⟨A, c, rfl, hc, hA⟩ := hv.open_
    exact ⟨A, c, kd, ar, ts, rfl, rfl, hc, hA⟩
  obtain ⟨w1, hw1⟩ : ∃ w1, w.alloc (.cells #[.int .i64 kd, .int .i64 ar, .slice A ts.length c] 26) = w1 := ⟨_, rfl⟩
  have b01 : Below w.heap.size w w1 := by rw [← hw1]; exact (Below.refl _ _).alloc (Nat.le_refl _) _
  have q1 : w1.heap[w.heap.size]? = some (.cells #[.int .i64 kd, .int .i64 ar, .slice A ts.length c] 26 (0, 0)) := by rw [← hw1]; exact heap_alloc_new _ _
  obtain ⟨y0, y1, y2⟩ := cells3o q1
  have C1 := Lib.hid (oCount_any _ hsz o _ 64 w1 (Nat.le_refl _) (by omega) (by omega) (hv.below b01))
  have C2 := Lib.hid (fun W (hW : Below w1.heap.size w1 W) => oForm_upto _ hsz o _ W (Nat.le_refl _) ((hv.below b01).below hW))
  have HQ := Lib.hid q1
  rw [← HT.out]
  clear hT hA hv k2 k3 k4 q1 HT
  generalize o.cnt 64 = z at *
  generalize o.form = f at *
  go_enter Tryz.func54, Tryz.ntmps54
  go_wp2_with fail
  refine C1.out.mono ?_
  rintro e w2 ⟨rfl, hb2⟩
  obtain ⟨x0, x1, x2⟩ := cells3o ((hb2.block _ (lt_of_block HQ.out)).trans HQ.out)
  cases hz : decide (z ≤ 64)
  · go_wp2_with fail
    go_ret
    exact ⟨ret_bool (by simp [hz]), b01.trans (hb2.mono b01.size)⟩
  · go_wp2_with fail
    refine (C2.out _ hb2).mono ?_
    rintro e w3 ⟨rfl, hb3⟩
    cases f
    all_goals
      go_wp2_with fail
      go_ret
      exact ⟨ret_bool (by simp [hz]), b01.trans ((hb2.trans (hb3.mono hb2.size)).mono b01.size)⟩

/-- Two variables that hold the bounds. -/
def LH (F1 F2 : Nat) (lo hi : Int) (w : World) : Prop := (F1 < w.heap.size ∧ w.cell? ⟨F1, 0, none⟩ = some (.int .i64 lo)) ∧ (F2 < w.heap.size ∧ w.cell? ⟨F2, 0, none⟩ = some (.int .i64 hi))
theorem LH.below {F1 F2 : Nat} {lo hi : Int} {w w' : World} (h : LH F1 F2 lo hi w) (hb : Below w.heap.size w w') : LH F1 F2 lo hi w' :=
  ⟨⟨Nat.lt_of_lt_of_le h.1.1 hb.size, (hb.cell (p := ⟨F1, 0, none⟩) h.1.1).trans h.1.2⟩, ⟨Nat.lt_of_lt_of_le h.2.1 hb.size, (hb.cell (p := ⟨F2, 0, none⟩) h.2.1).trans h.2.2⟩⟩

theorem enters_oArgs : ∀ args w, (callFunc 88 args).run Tryz.prog w = .ok (.enter 88 args) w := enters_of Tryz.func88 (by kernel_rfl) rfl

set_option maxRecDepth 100000 in
set_option maxHeartbeats 2000000 in
theorem oArgsIndex_any (F1 F2 : Nat) (lo hi : Int) (m : Nat) (ih : ∀ (o : Lfc.Ord) (v : Value) (w : World) (hF : LH F1 F2 lo hi w), o.size ≤ m → OrdV w o v → Calls Tryz.prog 88 #[v, .pointer (some ⟨F1, 0, none⟩), .pointer (some ⟨F2, 0, none⟩)] w fun e w' => e = .returned (.bool (!(o).rng lo hi)) ∧ Below w.heap.size w w')
    (ts : List Lfc.Ord) (A : Option Addr) (c : Nat) (w : World) (hF : LH F1 F2 lo hi w) (hm : Lfc.Ord.sizes ts ≤ m) (hmax : ts.length ≤ 1000000) (h : OrdsAt w A ts) :
    Calls Tryz.prog 109 #[.slice A ts.length c, .func (.func 88) #[] #[.pointer (some ⟨F1, 0, none⟩), .pointer (some ⟨F2, 0, none⟩)]] w fun e w' => ∃ i : Int, e = .returned (.int .i64 i) ∧ decide (i ≥ 0) = !Lfc.Ord.rngs lo hi ts ∧ Below w.heap.size w w' := by
  have he := enters_oArgs
  have IH := Lib.hid ih
  have HA := Lib.hid h
  have HS := Lib.hid (Lfc.rngs_spec lo hi ts)
  have HF := Lib.hid (Lfc.rngs_false lo hi ts)
  have HLH := Lib.hid hF
  clear hF
  clear ih h
  generalize Lfc.Ord.rngs lo hi ts = res at *
  go_enter Tryz.func109, Tryz.ntmps109
  go_wp2_with fail
  go_loopw [8] (fun i wr => ∃ k : Nat, k ≤ ts.length ∧ i = .int .i64 k ∧ Below w.heap.size w wr ∧ Hid (∀ j (h : j < ts.length), j < k → (ts[j]).rng lo hi = true)) (fun i _ => ts.length - (intOf i).toNat)
  case atStart => exact ⟨0, by omega, rfl, Below.refl _ _, Lib.hid fun j _ hj => by omega⟩
  case round =>
    obtain ⟨k, hk, rfl, hbw, hp⟩ := hrel
    by_cases hlt : k < ts.length
    · obtain ⟨b, o, k1, a1, xs, B1, c1, rfl, hb, ht, d0, d1, d2, hcu, hB, hT⟩ := (HA.out.below hbw).at_ hlt
      have hmem := Lfc.Ord.sizes_mem ts ts[k] (List.getElem_mem _)
      clear hB ht
      have hT2 := Lib.hid hT
      cases hq : (ts[k]).rng lo hi
      · have hres := HF.out k hlt hq
        subst hres
        have HQ := Lib.hid hq
        clear hq
        go_wp2_with fail
        refine (IH.out ts[k] _ _ (HLH.out.below hbw) (by omega) hT2.out).mono ?_
        rintro e w1 ⟨rfl, hb1⟩
        rw [HQ.out]
        go_wp2_with fail
        go_ret
        exact ⟨k, rfl, by simp, hbw.trans (hb1.mono hbw.size)⟩
      · have HQ := Lib.hid hq
        clear hq
        go_wp2_with fail
        refine (IH.out ts[k] _ _ (HLH.out.below hbw) (by omega) hT2.out).mono ?_
        rintro e w1 ⟨rfl, hb1⟩
        rw [HQ.out]
        go_wp2_with fail
        go_roundw
        case rel =>
          refine ⟨k + 1, by omega, by go_num, hbw.trans (hb1.mono hbw.size), Lib.hid fun j h hj => ?_⟩
          rcases Nat.lt_or_ge j k with h1 | h1
          · exact hp.out j h h1
          · obtain rfl : j = k := by omega
            exact HQ.out
        case measure => simp [intOf]; omega
    · have hres := HS.out.2 fun j h => hp.out j h (by omega)
      subst hres
      go_wp2_with fail
      go_ret
      exact ⟨-1, rfl, by decide, hbw⟩

set_option maxRecDepth 100000 in
set_option maxHeartbeats 2000000 in
theorem oArgsContains_any (F1 F2 : Nat) (lo hi : Int) (m : Nat) (ih : ∀ (o : Lfc.Ord) (v : Value) (w : World) (hF : LH F1 F2 lo hi w), o.size ≤ m → OrdV w o v → Calls Tryz.prog 88 #[v, .pointer (some ⟨F1, 0, none⟩), .pointer (some ⟨F2, 0, none⟩)] w fun e w' => e = .returned (.bool (!(o).rng lo hi)) ∧ Below w.heap.size w w')
    (ts : List Lfc.Ord) (A : Option Addr) (c : Nat) (w : World) (hF : LH F1 F2 lo hi w) (hm : Lfc.Ord.sizes ts ≤ m) (hmax : ts.length ≤ 1000000) (h : OrdsAt w A ts) :
    Calls Tryz.prog 87 #[.slice A ts.length c, .func (.func 88) #[] #[.pointer (some ⟨F1, 0, none⟩), .pointer (some ⟨F2, 0, none⟩)]] w fun e w' => e = .returned (.bool (!Lfc.Ord.rngs lo hi ts)) ∧ Below w.heap.size w w' := by
  have IH := Lib.hid (oArgsIndex_any F1 F2 lo hi m ih ts A c w hF hm hmax h)
  clear ih h
  go_enter Tryz.func87, Tryz.ntmps87
  go_wp2_with fail
  refine IH.out.mono ?_
  rintro e w1 ⟨i, rfl, hi, hb1⟩
  have HI := Lib.hid hi
  clear hi
  go_wp2_with fail
  go_ret
  exact ⟨ret_bool HI.out, hb1⟩

set_option maxRecDepth 100000 in
set_option maxHeartbeats 2000000 in
theorem oArgs_upto (lo hi : Int) (m : Nat) (hmm : m ≤ 1000000) : ∀ (o : Lfc.Ord) (v : Value) (w : World), o.size ≤ m → OrdV w o v →
    Calls Tryz.prog 56 #[v, .int .i64 lo, .int .i64 hi] w fun e w' => e = .returned (.bool (o.rng lo hi)) ∧ Below w.heap.size w w' := by
  induction m with
  | zero => intro o v w h _; have := o.size_pos; omega
  | succ m ih0 =>
    intro o v w hsz hv
    have ih := ih0 (by omega)
    clear ih0
    have hn : ∀ (F1 F2 : Nat) (o : Lfc.Ord) (v : Value) (w : World) (hF : LH F1 F2 lo hi w), o.size ≤ m → OrdV w o v → Calls Tryz.prog 88 #[v, .pointer (some ⟨F1, 0, none⟩), .pointer (some ⟨F2, 0, none⟩)] w fun e w' => e = .returned (.bool (!o.rng lo hi)) ∧ Below w.heap.size w w' := by
      intro F1 F2 o v w hF hm hv
      obtain ⟨kd, ar, ts⟩ := o
      obtain ⟨A, c, rfl, hc, hA⟩ := hv.open_
      have b0 : Below w.heap.size w (w.alloc (.cells #[.int .i64 kd, .int .i64 ar, .slice A ts.length c] 26)) := (Below.refl _ _).alloc (Nat.le_refl _) _
      have IH := Lib.hid (ih _ _ _ hm (hv.below b0))
      have x1 := (hF.below b0).1.2
      have x2 := (hF.below b0).2.2
      clear ih hv hA hF
      generalize (Lfc.Ord.node kd ar ts).rng lo hi = q at *
      go_enter Tryz.func88, Tryz.ntmps88
      go_wp2_with fail
      refine IH.out.mono ?_
      rintro e w1 ⟨rfl, hb1⟩
      cases q
      all_goals
        go_wp2_with fail
        go_ret
        exact ⟨rfl, b0.trans (hb1.mono b0.size)⟩
    obtain ⟨kd, ar, ts⟩ := o
    obtain ⟨A, c, rfl, hc, hA⟩ := hv.open_
    have hsz' := hsz
    simp only [Lfc.Ord.size] at hsz'
    have hlen := Lfc.Ord.sizes_len ts
    obtain ⟨wc, hwc⟩ : ∃ wc, ((w.alloc (.cells #[.int .i64 kd, .int .i64 ar, .slice A ts.length c] 26)).alloc (.cells #[.int .i64 lo] 3)).alloc (.cells #[.int .i64 hi] 3) = wc := ⟨_, rfl⟩
    have bc : Below w.heap.size w wc := by rw [← hwc]; exact (((Below.refl _ _).alloc (Nat.le_refl _) _).alloc (by simp) _).alloc (by simp <;> omega) _
    have hLH : LH (w.heap.size + 1) (w.heap.size + 2) lo hi wc := by
      rw [← hwc]
      refine ⟨⟨by simp, ?_⟩, ⟨by simp, ?_⟩⟩
      · have h := heap_alloc_new (w.alloc (.cells #[.int .i64 kd, .int .i64 ar, .slice A ts.length c] 26)) (.cells #[.int .i64 lo] 3)
        rw [World.size_alloc] at h
        exact Lib.cell_of_heap ((Lib.alloc_old _ _ _ (by simp)).trans h) 0
      · have h := heap_alloc_new ((w.alloc (.cells #[.int .i64 kd, .int .i64 ar, .slice A ts.length c] 26)).alloc (.cells #[.int .i64 lo] 3)) (.cells #[.int .i64 hi] 3)
        rw [World.size_alloc, World.size_alloc] at h
        exact Lib.cell_of_heap h 0
    have hbx : wc.heap[w.heap.size]? = some (.cells #[.int .i64 kd, .int .i64 ar, .slice A ts.length c] 26 (0, 0)) := by
      rw [← hwc]
      exact (Lib.alloc_old _ _ _ (by simp <;> omega)).trans ((Lib.alloc_old _ _ _ (by simp)).trans (heap_alloc_new w _))
    obtain ⟨y0, y1, y2⟩ := cells3o hbx
    have z1 := hLH.1.2
    have z2 := hLH.2.2
    have HC := Lib.hid (oArgsContains_any (w.heap.size + 1) (w.heap.size + 2) lo hi m (hn _ _) ts A c wc hLH (by omega) (by omega) (hA.below bc))
    have HB := Lib.hid bc
    have HWC := Lib.hid hwc
    rw [Lfc.Ord.rng]
    clear ih hn hA hv bc hLH hbx hwc
    by_cases hk1 : kd = 1
    · subst hk1
      rw [if_pos rfl]
      go_enter Tryz.func56, Tryz.ntmps56
      go_upto_region 1 with fail
      rw [HWC.out]
      cases h1 : decide (lo ≤ ar)
      · have h1' : decide (ar ≥ lo) = false := h1
        go_wp2_with fail
        go_ret
        exact ⟨ret_bool (by rw [h1]; rfl), HB.out⟩
      · have h1' : decide (ar ≥ lo) = true := h1
        cases h2 : decide (ar ≤ hi)
        all_goals
          go_wp2_with fail
          go_ret
          exact ⟨ret_bool (by rw [h1, h2]; rfl), HB.out⟩
    · have hk1f : (kd == 1) = false := by simpa using hk1
      rw [if_neg hk1]
      generalize Lfc.Ord.rngs lo hi ts = q at *
      go_enter Tryz.func56, Tryz.ntmps56
      go_upto_region 1 with fail
      rw [HWC.out]
      go_wp2_with fail
      refine HC.out.mono ?_
      rintro e w1 ⟨rfl, hb1⟩
      cases q
      all_goals
        go_wp2_with fail
        go_ret
        exact ⟨rfl, HB.out.trans (hb1.mono HB.out.size)⟩

end Go.Proofs.YtadjpadieljjlaaGreat

/- Contracts of Count, shaped, ranged, Valid of orders, of the reference; of order.Valid. -/
set_option linter.unusedVariables false
set_option linter.unusedSimpArgs false
namespace Go.Proofs.YtadjpadieljjlaaGreat
open Go.RowKit

set_option maxRecDepth 100000 in
set_option maxHeartbeats 2000000 in
theorem rCount_any (m : Nat) (hmm : m ≤ 1000000) : ∀ (o : Lfc.Ord) (v : Value) (w : World), o.size ≤ m → OrdV w o v →
    Calls Tryz.prog 95 #[v] w fun e w' => e = .returned (.int .i64 (o.size : Int)) ∧ Below w.heap.size w w' := by
  induction m with
  | zero => intro o v w h _; have := o.size_pos; omega
  | succ m ih0 =>
    intro o v w hm hv
    have ih := ih0 (by omega)
    clear ih0
    obtain ⟨kd, ar, ts⟩ := o
    obtain ⟨A, c, rfl, hc, hA⟩ := hv.open_
    simp only [Lfc.Ord.size] at hm
    have hlen := Lfc.Ord.sizes_len ts
    have IH := Lib.hid ih
    obtain ⟨w0, hw0⟩ : ∃ w0, w.alloc (.cells #[.int .i64 kd, .int .i64 ar, .slice A ts.length c] 26) = w0 := ⟨_, rfl⟩
    have b0 : Below w.heap.size w w0 := by rw [← hw0]; exact (Below.refl _ _).alloc (Nat.le_refl _) _
    have hq0 : w0.heap[w.heap.size]? = some (.cells #[.int .i64 kd, .int .i64 ar, .slice A ts.length c] 26 (0, 0)) := by rw [← hw0]; exact heap_alloc_new _ _
    have s0 := lt_of_block hq0
    have HQ := Lib.hid hq0
    have HA := Lib.hid (hA.below b0)
    have HB0 := Lib.hid b0
    obtain ⟨y0, y1, y2⟩ := cells3o hq0
    clear ih hA hv hq0 b0
    simp only [Lfc.Ord.size]
    go_enter Tryz.func95, Tryz.ntmps95
    go_wp2_with fail
    go_loopw [3, 4] (fun n i wr => ∃ k : Nat, k ≤ ts.length ∧ i = .int .i64 k ∧ n = .int .i64 ((Lfc.Ord.sizes (ts.take k) + 1 : Nat) : Int) ∧ Below w0.heap.size w0 wr) (fun _ i _ => ts.length - (intOf i).toNat)
    case atStart => exact ⟨0, by omega, rfl, by simp [Lfc.Ord.sizes], by first | exact Below.refl _ _ | (rw [hw0]; exact Below.refl _ _)⟩
    case round =>
      clear hw0 y0 y1 y2
      obtain ⟨k, hk, rfl, rfl, hbw⟩ := hrel
      obtain ⟨x0, x1, x2⟩ := cells3o ((hbw.block _ s0).trans HQ.out)
      have hle3 := Lfc.Ord.sizes_take_le ts k
      by_cases hlt : k < ts.length
      · obtain ⟨b, o, k1, a1, us, B, c1, rfl, hb, ht, d0, d1, d2, hcu, hB, hT⟩ := (HA.out.below hbw).at_ hlt
        have hst := Lfc.Ord.sizes_take ts k hlt
        have hle2 := Lfc.Ord.sizes_take_le ts (k + 1)
        have hmem := Lfc.Ord.sizes_mem ts ts[k] (List.getElem_mem _)
        have HS := Lib.hid hst
        clear hB ht
        generalize hZ : ts[k].size = z at *
        generalize hY : Lfc.Ord.sizes (ts.take k) = y at *
        have HZ := Lib.hid hZ
        clear hZ hst hY
        go_wp2_with fail
        refine (IH.out ts[k] _ _ (by rw [HZ.out]; omega) hT).mono ?_
        rintro e w1 ⟨rfl, hb1⟩
        rw [HZ.out]
        have hyz : y + z ≤ Lfc.Ord.sizes ts := by have := HS.out; omega
        go_wp2_with fail
        go_roundw
        case rel => exact ⟨k + 1, by omega, by go_num, by rw [HS.out]; go_num, hbw.trans (hb1.mono hbw.size)⟩
        case measure => simp [intOf]; omega
      · have hkl : k = ts.length := by omega
        go_wp2_with fail
        go_ret
        exact ⟨ret_int (by rw [hkl, List.take_length]), HB0.out.trans (hbw.mono (Nat.le_of_lt s0))⟩

set_option maxRecDepth 100000 in
set_option maxHeartbeats 2000000 in
theorem rShaped_any (m : Nat) (hmm : m ≤ 1000000) : ∀ (o : Lfc.Ord) (v : Value) (w : World), o.size ≤ m → OrdV w o v →
    Calls Tryz.prog 96 #[v] w fun e w' => e = .returned (.bool o.form) ∧ Below w.heap.size w w' := by
  induction m with
  | zero => intro o v w h _; have := o.size_pos; omega
  | succ m ih0 =>
    intro o v w hm hv
    have ih := ih0 (by omega)
    clear ih0
    obtain ⟨kd, ar, ts⟩ := o
    obtain ⟨A, c, rfl, hc, hA⟩ := hv.open_
    simp only [Lfc.Ord.size] at hm
    have hlen := Lfc.Ord.sizes_len ts
    have IH := Lib.hid ih
    obtain ⟨w0, hw0⟩ : ∃ w0, w.alloc (.cells #[.int .i64 kd, .int .i64 ar, .slice A ts.length c] 26) = w0 := ⟨_, rfl⟩
    have b0 : Below w.heap.size w w0 := by rw [← hw0]; exact (Below.refl _ _).alloc (Nat.le_refl _) _
    have hq0 : w0.heap[w.heap.size]? = some (.cells #[.int .i64 kd, .int .i64 ar, .slice A ts.length c] 26 (0, 0)) := by rw [← hw0]; exact heap_alloc_new _ _
    have s0 := lt_of_block hq0
    have HQ := Lib.hid hq0
    have HA := Lib.hid (hA.below b0)
    have HB0 := Lib.hid b0
    obtain ⟨y0, y1, y2⟩ := cells3o hq0
    clear ih hA hv hq0 b0
    have HS := Lib.hid (Lfc.forms_specO ts)
    have HF := Lib.hid (Lfc.forms_falseO ts)
    rw [Lfc.Ord.form]
    by_cases hk1 : kd = 1
    · subst hk1
      rw [if_pos rfl]
      by_cases hl0 : ts.length = 0
      · have hl1 : ((ts.length : Int) == 0) = true := by simp [hl0]
        have HD : Hid (decide (ts.length = 0) = true) := Lib.hid (decide_eq_true hl0)
        rw [HD.out]
        clear hl0
        go_enter Tryz.func96, Tryz.ntmps96
        go_wp2_with fail
        go_ret
        exact ⟨rfl, HB0.out⟩
      · have hl1 : ((ts.length : Int) == 0) = false := by rw [beq_eq_false_iff_ne]; omega
        have HD : Hid (decide (ts.length = 0) = false) := Lib.hid (decide_eq_false hl0)
        rw [HD.out]
        clear hl0
        go_enter Tryz.func96, Tryz.ntmps96
        go_wp2_with fail
        go_ret
        exact ⟨rfl, HB0.out⟩
    · have hk1f : (kd == 1) = false := by simpa using hk1
      rw [if_neg hk1]
      by_cases hk2 : kd = 2 ∨ kd = 3
      · rw [if_pos hk2]
        clear hk1
        have GOAL : Hid (∀ l : Bool, l = (decide (ar = 0) && decide (0 < ts.length) && Lfc.Ord.forms ts) → Ending.returned (.bool l) = Ending.returned (.bool (decide (ar = 0) && decide (0 < ts.length) && Lfc.Ord.forms ts))) := Lib.hid (fun l h => by rw [h])
        rcases hk2 with rfl | rfl
        all_goals
          go_enter Tryz.func96, Tryz.ntmps96
          go_wp2_with fail
          go_loopw [3] (fun i wr => ∃ k : Nat, k ≤ ts.length ∧ i = .int .i64 k ∧ Below w0.heap.size w0 wr ∧ Hid (∀ j (h : j < ts.length), j < k → (ts[j]).form = true)) (fun i _ => ts.length - (intOf i).toNat)
          case atStart => exact ⟨0, by omega, rfl, by first | exact Below.refl _ _ | (rw [hw0]; exact Below.refl _ _), Lib.hid fun j _ hj => by omega⟩
          case round =>
            clear hw0 y0 y1 y2
            obtain ⟨k, hk, rfl, hbw, hp⟩ := hrel
            obtain ⟨x0, x1, x2⟩ := cells3o ((hbw.block _ s0).trans HQ.out)
            by_cases hlt : k < ts.length
            · obtain ⟨b, o, k1, a1, us, B, c1, rfl, hb, ht, d0, d1, d2, hcu, hB, hT⟩ := (HA.out.below hbw).at_ hlt
              have hmem := Lfc.Ord.sizes_mem ts ts[k] (List.getElem_mem _)
              clear hB ht
              have hT2 := Lib.hid hT
              cases hq : (ts[k]).form
              · have hres := HF.out k hlt hq
                have HRES := Lib.hid hres
                have HQQ := Lib.hid hq
                clear hq hres
                go_wp2_with fail
                refine (IH.out ts[k] _ _ (by omega) hT2.out).mono ?_
                rintro e w1 ⟨rfl, hb1⟩
                rw [HQQ.out]
                go_wp2_with fail
                go_ret
                exact ⟨ret_bool (by simp [HRES.out]), HB0.out.trans ((hbw.trans (hb1.mono hbw.size)).mono (Nat.le_of_lt s0))⟩
              · have HQQ := Lib.hid hq
                clear hq
                go_wp2_with fail
                refine (IH.out ts[k] _ _ (by omega) hT2.out).mono ?_
                rintro e w1 ⟨rfl, hb1⟩
                rw [HQQ.out]
                go_wp2_with fail
                go_roundw
                case rel =>
                  refine ⟨k + 1, by omega, by go_num, hbw.trans (hb1.mono hbw.size), Lib.hid fun j h hj => ?_⟩
                  rcases Nat.lt_or_ge j k with h1 | h1
                  · exact hp.out j h h1
                  · obtain rfl : j = k := by omega
                    exact HQQ.out
                case measure => simp [intOf]; omega
            · have HRES := Lib.hid (HS.out.2 fun j h => hp.out j h (by omega))
              by_cases hl0 : 0 < ts.length
              · have hl1 : decide ((ts.length : Int) > 0) = true := by rw [decide_eq_true_eq]; omega
                have hl2 : decide ((0 : Int) < (ts.length : Int)) = true := by rw [decide_eq_true_eq]; omega
                by_cases ha0 : ar = 0
                · subst ha0
                  go_wp2_with fail
                  go_ret
                  exact ⟨ret_bool (by rw [HRES.out]), HB0.out.trans (hbw.mono (Nat.le_of_lt s0))⟩
                · have ha1 : (ar == 0) = false := by simpa using ha0
                  go_wp2_with fail
                  go_ret
                  exact ⟨ret_bool (by simp [ha0]), HB0.out.trans (hbw.mono (Nat.le_of_lt s0))⟩
              · have hl1 : decide ((ts.length : Int) > 0) = false := by rw [decide_eq_false_iff_not]; omega
                have hl2 : decide ((0 : Int) < (ts.length : Int)) = false := by rw [decide_eq_false_iff_not]; omega
                go_wp2_with fail
                go_ret
                exact ⟨ret_bool (by rw [decide_eq_false hl0]; simp), HB0.out.trans (hbw.mono (Nat.le_of_lt s0))⟩
      · rw [if_neg hk2]
        have hk2f : (kd == 2) = false := by simp; omega
        have hk3f : (kd == 3) = false := by simp; omega
        go_enter Tryz.func96, Tryz.ntmps96
        go_wp2_with fail
        go_ret
        exact ⟨rfl, HB0.out⟩

set_option maxRecDepth 100000 in
set_option maxHeartbeats 2000000 in
theorem rRanged_any (lo hi : Int) (m : Nat) (hmm : m ≤ 1000000) : ∀ (o : Lfc.Ord) (v : Value) (w : World), o.size ≤ m → OrdV w o v →
    Calls Tryz.prog 97 #[v, .int .i64 lo, .int .i64 hi] w fun e w' => e = .returned (.bool (o.rng lo hi)) ∧ Below w.heap.size w w' := by
  induction m with
  | zero => intro o v w h _; have := o.size_pos; omega
  | succ m ih0 =>
    intro o v w hm hv
    have ih := ih0 (by omega)
    clear ih0
    obtain ⟨kd, ar, ts⟩ := o
    obtain ⟨A, c, rfl, hc, hA⟩ := hv.open_
    simp only [Lfc.Ord.size] at hm
    have hlen := Lfc.Ord.sizes_len ts
    have IH := Lib.hid ih
    obtain ⟨w0, hw0⟩ : ∃ w0, w.alloc (.cells #[.int .i64 kd, .int .i64 ar, .slice A ts.length c] 26) = w0 := ⟨_, rfl⟩
    have b0 : Below w.heap.size w w0 := by rw [← hw0]; exact (Below.refl _ _).alloc (Nat.le_refl _) _
    have hq0 : w0.heap[w.heap.size]? = some (.cells #[.int .i64 kd, .int .i64 ar, .slice A ts.length c] 26 (0, 0)) := by rw [← hw0]; exact heap_alloc_new _ _
    have s0 := lt_of_block hq0
    have HQ := Lib.hid hq0
    have HA := Lib.hid (hA.below b0)
    have HB0 := Lib.hid b0
    obtain ⟨y0, y1, y2⟩ := cells3o hq0
    clear ih hA hv hq0 b0
    have HS := Lib.hid (Lfc.rngs_spec lo hi ts)
    have HF := Lib.hid (Lfc.rngs_false lo hi ts)
    rw [Lfc.Ord.rng]
    by_cases hk1 : kd = 1
    · subst hk1
      rw [if_pos rfl]
      go_enter Tryz.func97, Tryz.ntmps97
      go_upto_region 1 with fail
      cases h1 : decide (lo ≤ ar)
      · have h1' : decide (ar ≥ lo) = false := h1
        go_wp2_with fail
        go_ret
        exact ⟨ret_bool (by rw [h1]; rfl), HB0.out⟩
      · have h1' : decide (ar ≥ lo) = true := h1
        cases h2 : decide (ar ≤ hi)
        all_goals
          go_wp2_with fail
          go_ret
          exact ⟨ret_bool (by rw [h1, h2]; rfl), HB0.out⟩
    · have hk1f : (kd == 1) = false := by simpa using hk1
      rw [if_neg hk1]
      go_enter Tryz.func97, Tryz.ntmps97
      go_wp2_with fail
      go_loopw [7] (fun i wr => ∃ k : Nat, k ≤ ts.length ∧ i = .int .i64 k ∧ Below w0.heap.size w0 wr ∧ Hid (∀ j (h : j < ts.length), j < k → (ts[j]).rng lo hi = true)) (fun i _ => ts.length - (intOf i).toNat)
      case atStart => exact ⟨0, by omega, rfl, by first | exact Below.refl _ _ | (rw [hw0]; exact Below.refl _ _), Lib.hid fun j _ hj => by omega⟩
      case round =>
        clear hw0 y0 y1 y2
        obtain ⟨k, hk, rfl, hbw, hp⟩ := hrel
        obtain ⟨x0, x1, x2⟩ := cells3o ((hbw.block _ s0).trans HQ.out)
        by_cases hlt : k < ts.length
        · obtain ⟨b, o, k1, a1, us, B, c1, rfl, hb, ht, d0, d1, d2, hcu, hB, hT⟩ := (HA.out.below hbw).at_ hlt
          have hmem := Lfc.Ord.sizes_mem ts ts[k] (List.getElem_mem _)
          clear hB ht
          have hT2 := Lib.hid hT
          cases hq : (ts[k]).rng lo hi
          · have hres := HF.out k hlt hq
            have HRES := Lib.hid hres
            have HQQ := Lib.hid hq
            clear hq hres
            go_wp2_with fail
            refine (IH.out ts[k] _ _ (by omega) hT2.out).mono ?_
            rintro e w1 ⟨rfl, hb1⟩
            rw [HQQ.out]
            go_wp2_with fail
            go_ret
            exact ⟨ret_bool (by simp [HRES.out]), HB0.out.trans ((hbw.trans (hb1.mono hbw.size)).mono (Nat.le_of_lt s0))⟩
          · have HQQ := Lib.hid hq
            clear hq
            go_wp2_with fail
            refine (IH.out ts[k] _ _ (by omega) hT2.out).mono ?_
            rintro e w1 ⟨rfl, hb1⟩
            rw [HQQ.out]
            go_wp2_with fail
            go_roundw
            case rel =>
              refine ⟨k + 1, by omega, by go_num, hbw.trans (hb1.mono hbw.size), Lib.hid fun j h hj => ?_⟩
              rcases Nat.lt_or_ge j k with h1 | h1
              · exact hp.out j h h1
              · obtain rfl : j = k := by omega
                exact HQQ.out
            case measure => simp [intOf]; omega
        · have HRES := Lib.hid (HS.out.2 fun j h => hp.out j h (by omega))
          go_wp2_with fail
          go_ret
          exact ⟨ret_bool (by rw [HRES.out]), HB0.out.trans (hbw.mono (Nat.le_of_lt s0))⟩

end Go.Proofs.YtadjpadieljjlaaGreat

/- Contracts of Shape and SameOrder of orders. -/
set_option linter.unusedVariables false
set_option linter.unusedSimpArgs false
namespace Go.Proofs.YtadjpadieljjlaaGreat
open Go.RowKit

theorem enters_shape : ∀ args w, (callFunc 34 args).run Tryz.prog w = .ok (.enter 34 args) w := enters_of Tryz.func34 (by kernel_rfl) rfl
/-- What Shape does at orders of at most so many parts. -/
def ShpUpto (m : Nat) : Prop := ∀ (t u : Lfc.Ord) (v v' : Value) (w : World), t.size ≤ m → OrdV w t v → OrdV w u v' →
    Calls Tryz.prog 34 #[v, v'] w fun e w' => e = .returned (.bool (Lfc.Ord.shp t u)) ∧ Below w.heap.size w w'
set_option maxRecDepth 100000 in
set_option maxHeartbeats 2000000 in
theorem oEqual_any (m : Nat) (ih : ShpUpto m) (ts us : List Lfc.Ord) (A A' : Option Addr) (c c' : Nat) (w : World) (hm : Lfc.Ord.sizes ts ≤ m) (hmax : ts.length ≤ 1000000) (h : OrdsAt w A ts) (h' : OrdsAt w A' us) :
    Calls Tryz.prog 58 #[.slice A ts.length c, .slice A' us.length c', .func (.func 34) #[] #[]] w fun e w' => e = .returned (.bool (Lfc.Ord.shps ts us)) ∧ Below w.heap.size w w' := by
  have he := enters_shape
  have IH := Lib.hid ih
  have HA := Lib.hid h
  have HA' := Lib.hid h'
  clear ih h h'
  by_cases hl : ts.length = us.length
  · have HS := Lib.hid (Lfc.shps_spec ts us)
    have HF := Lib.hid (Lfc.shps_false ts us)
    have HL := Lib.hid hl
    generalize Lfc.Ord.shps ts us = res at *
    rw [← hl]
    clear hl
    go_enter Tryz.func58, Tryz.ntmps58
    go_wp2_with fail
    go_loopw [17] (fun i wr => ∃ k : Nat, k ≤ ts.length ∧ i = .int .i64 k ∧ Below w.heap.size w wr ∧ Hid (∀ j (h : j < ts.length) (h' : j < us.length), j < k → Lfc.Ord.shp ts[j] us[j] = true)) (fun i _ => ts.length - (intOf i).toNat)
    case atStart => exact ⟨0, by omega, rfl, Below.refl _ _, Lib.hid fun j _ _ hj => by omega⟩
    case round =>
      obtain ⟨k, hk, rfl, hbw, hp⟩ := hrel
      by_cases hlt : k < ts.length
      · have hlt' : k < us.length := by have := HL.out; omega
        obtain ⟨b, o, k1, n1, xs, B, c1, rfl, hb, ht, d0, d1, d2, hcu, hB, hT⟩ := (HA.out.below hbw).at_ hlt
        obtain ⟨b', o', k2, n2, ys, B', c2, rfl, hb', ht', e0, e1, e2, hcu', hB', hT'⟩ := (HA'.out.below hbw).at_ hlt'
        have hmem := Lfc.Ord.sizes_mem ts ts[k] (List.getElem_mem _)
        clear hB hB' ht ht'
        have b1 : Below wr.heap.size wr ((wr.alloc (.cells #[.int .i64 k1, .int .i64 n1, .slice B xs.length c1] 26)).alloc (.cells #[.int .i64 k2, .int .i64 n2, .slice B' ys.length c2] 26)) := ((Below.refl _ _).alloc (Nat.le_refl _) _).alloc (by simp) _
        have hT2 := hT.below b1
        have hT2' := hT'.below b1
        cases hq : Lfc.Ord.shp ts[k] us[k]
        · have hres := HF.out k hlt hlt' hq
          subst hres
          have HQ := Lib.hid hq
          clear hq
          go_wp2_with fail
          refine (IH.out ts[k] us[k] _ _ _ (by omega) hT2 hT2').mono ?_
          rintro e w1 ⟨rfl, hb1⟩
          rw [HQ.out]
          go_wp2_with fail
          go_ret
          exact ⟨rfl, hbw.trans ((b1.mono hbw.size).trans (hb1.mono (Nat.le_trans hbw.size b1.size)))⟩
        · have HQ := Lib.hid hq
          clear hq
          go_wp2_with fail
          refine (IH.out ts[k] us[k] _ _ _ (by omega) hT2 hT2').mono ?_
          rintro e w1 ⟨rfl, hb1⟩
          rw [HQ.out]
          go_wp2_with fail
          go_roundw
          case rel =>
            refine ⟨k + 1, by omega, by go_num, hbw.trans ((b1.mono hbw.size).trans (hb1.mono (Nat.le_trans hbw.size b1.size))), Lib.hid fun j h h' hj => ?_⟩
            rcases Nat.lt_or_ge j k with h1 | h1
            · exact hp.out j h h' h1
            · obtain rfl : j = k := by omega
              exact HQ.out
          case measure => simp [intOf]; omega
      · have hres := HS.out.2 ⟨HL.out, fun j h h' => hp.out j h h' (by omega)⟩
        subst hres
        go_wp2_with fail
        go_ret
        exact ⟨rfl, hbw⟩
  · rw [Lfc.shps_len ts us hl]
    have hne : ((ts.length : Int) != (us.length : Int)) = true := by simp; omega
    clear hl
    go_enter Tryz.func58, Tryz.ntmps58
    go_wp2_with fail
    go_ret
    exact ⟨rfl, Below.refl _ _⟩

set_option maxRecDepth 100000 in
set_option maxHeartbeats 2000000 in
theorem oShape_upto (m : Nat) (hmm : m ≤ 1000000) : ∀ (t u : Lfc.Ord) (v v' : Value) (w : World), t.size ≤ m → OrdV w t v → OrdV w u v' →
    Calls Tryz.prog 34 #[v, v'] w fun e w' => e = .returned (.bool (Lfc.Ord.shp t u)) ∧ Below w.heap.size w w' := by
  induction m with
  | zero => intro t u v v' w h _ _; have := t.size_pos; omega
  | succ m ih0 =>
    intro t u v v' w hsz hv hv'
    have ih := ih0 (by omega)
    clear ih0
    obtain ⟨kd, ar, ts⟩ := t
    obtain ⟨kd', ar', us⟩ := u
    obtain ⟨A, c, rfl, hc, hA⟩ := hv.open_
    obtain ⟨A', c', rfl, hc', hA'⟩ := hv'.open_
    simp only [Lfc.Ord.size] at hsz
    have hlen := Lfc.Ord.sizes_len ts
    have hlen' := Lfc.Ord.sizes_len us
    obtain ⟨wa, hwa⟩ : ∃ wa, w.alloc (.cells #[.int .i64 kd, .int .i64 ar, .slice A ts.length c] 26) = wa := ⟨_, rfl⟩
    obtain ⟨wb, hwb⟩ : ∃ wb, wa.alloc (.cells #[.int .i64 kd', .int .i64 ar', .slice A' us.length c'] 26) = wb := ⟨_, rfl⟩
    have ba : Below w.heap.size w wa := by rw [← hwa]; exact (Below.refl _ _).alloc (Nat.le_refl _) _
    have bab : Below wa.heap.size wa wb := by rw [← hwb]; exact (Below.refl _ _).alloc (Nat.le_refl _) _
    have qa : wa.heap[w.heap.size]? = some (.cells #[.int .i64 kd, .int .i64 ar, .slice A ts.length c] 26 (0, 0)) := by rw [← hwa]; exact heap_alloc_new _ _
    have qb : wb.heap[wa.heap.size]? = some (.cells #[.int .i64 kd', .int .i64 ar', .slice A' us.length c'] 26 (0, 0)) := by rw [← hwb]; exact heap_alloc_new _ _
    have sa := lt_of_block qa
    have sb := lt_of_block qb
    have qab := (bab.block _ sa).trans qa
    have bb : Below w.heap.size w wb := ba.trans (bab.mono (by omega))
    have HA := Lib.hid (hA.below bb)
    have HA' := Lib.hid (hA'.below bb)
    have QA := Lib.hid qab
    have QB := Lib.hid qb
    have HB := Lib.hid bb
    have IH := Lib.hid ih
    obtain ⟨y0, y1, y2⟩ := cells3o qab
    obtain ⟨z0, z1, z2⟩ := cells3o qb
    clear ih hv hv' hA hA' ba bab qa qb qab bb
    rw [Lfc.Ord.shp]
    have HE := Lib.hid (oEqual_any m IH.out ts us A A' c c' wb (by omega) (by omega) HA.out HA'.out)
    by_cases hk : kd = kd'
    · rw [decide_eq_true hk, Bool.true_and]
      have hk2 : (kd == kd') = true := by simpa using hk
      subst hk
      generalize Lfc.Ord.shps ts us = q at *
      go_enter Tryz.func34, Tryz.ntmps34
      go_wp2_with fail
      refine HE.out.mono ?_
      rintro e w1 ⟨rfl, hb1⟩
      cases q
      all_goals
        go_wp2_with fail
        go_ret
        exact ⟨rfl, HB.out.trans (hb1.mono HB.out.size)⟩
    · have hk2 : (kd == kd') = false := by simpa using hk
      have HD : Hid (decide (kd = kd') = false) := Lib.hid (decide_eq_false hk)
      rw [HD.out]
      go_enter Tryz.func34, Tryz.ntmps34
      go_wp2_with fail
      go_ret
      exact ⟨by simp, HB.out⟩

set_option maxRecDepth 100000 in
set_option maxHeartbeats 2000000 in
theorem rShape_upto (m : Nat) (hmm : m ≤ 1000000) : ∀ (t u : Lfc.Ord) (v v' : Value) (w : World), t.size ≤ m → u.size ≤ 1000000 → OrdV w t v → OrdV w u v' →
    Calls Tryz.prog 67 #[v, v'] w fun e w' => e = .returned (.bool (Lfc.Ord.shp t u)) ∧ Below w.heap.size w w' := by
  induction m with
  | zero => intro t u v v' w h _ _; have := t.size_pos; omega
  | succ m ih0 =>
    intro t u v v' w hsz hsu hv hv'
    have ih := ih0 (by omega)
    clear ih0
    obtain ⟨kd, ar, ts⟩ := t
    obtain ⟨kd', ar', us⟩ := u
    obtain ⟨A, c, rfl, hc, hA⟩ := hv.open_
    obtain ⟨A', c', rfl, hc', hA'⟩ := hv'.open_
    simp only [Lfc.Ord.size] at hsz hsu
    have hlen := Lfc.Ord.sizes_len ts
    have hlen' := Lfc.Ord.sizes_len us
    obtain ⟨wa, hwa⟩ : ∃ wa, w.alloc (.cells #[.int .i64 kd, .int .i64 ar, .slice A ts.length c] 26) = wa := ⟨_, rfl⟩
    obtain ⟨wb, hwb⟩ : ∃ wb, wa.alloc (.cells #[.int .i64 kd', .int .i64 ar', .slice A' us.length c'] 26) = wb := ⟨_, rfl⟩
    have ba : Below w.heap.size w wa := by rw [← hwa]; exact (Below.refl _ _).alloc (Nat.le_refl _) _
    have bab : Below wa.heap.size wa wb := by rw [← hwb]; exact (Below.refl _ _).alloc (Nat.le_refl _) _
    have qa : wa.heap[w.heap.size]? = some (.cells #[.int .i64 kd, .int .i64 ar, .slice A ts.length c] 26 (0, 0)) := by rw [← hwa]; exact heap_alloc_new _ _
    have qb : wb.heap[wa.heap.size]? = some (.cells #[.int .i64 kd', .int .i64 ar', .slice A' us.length c'] 26 (0, 0)) := by rw [← hwb]; exact heap_alloc_new _ _
    have sa := lt_of_block qa
    have sb := lt_of_block qb
    have qab := (bab.block _ sa).trans qa
    have bb : Below w.heap.size w wb := ba.trans (bab.mono (by omega))
    have HA := Lib.hid (hA.below bb)
    have HA' := Lib.hid (hA'.below bb)
    have QA := Lib.hid qab
    have QB := Lib.hid qb
    have HB := Lib.hid bb
    have IH := Lib.hid ih
    obtain ⟨y0, y1, y2⟩ := cells3o qab
    obtain ⟨z0, z1, z2⟩ := cells3o qb
    clear ih hv hv' hA hA' ba bab qa qb qab bb
    rw [Lfc.Ord.shp]
    have HS := Lib.hid (Lfc.shps_spec ts us)
    have HF := Lib.hid (Lfc.shps_false ts us)
    by_cases hk : kd = kd'
    · have hk2 : (kd != kd') = false := by simpa using hk
      subst hk
      by_cases hl : ts.length = us.length
      · have hl2 : ((ts.length : Int) != (us.length : Int)) = false := by simp; omega
        have HL := Lib.hid hl
        clear hl
        go_enter Tryz.func67, Tryz.ntmps67
        go_wp2_with fail
        go_loopw [5] (fun i wr => ∃ k : Nat, k ≤ ts.length ∧ i = .int .i64 k ∧ Below wb.heap.size wb wr ∧ Hid (∀ j (h : j < ts.length) (h' : j < us.length), j < k → Lfc.Ord.shp ts[j] us[j] = true)) (fun i _ => ts.length - (intOf i).toNat)
        case atStart => exact ⟨0, by omega, rfl, by first | exact Below.refl _ _ | (rw [hwa, hwb]; exact Below.refl _ _), Lib.hid fun j _ _ hj => by omega⟩
        case round =>
          clear hwa hwb y0 y1 y2 z0 z1 z2
          obtain ⟨k, hk, rfl, hbw, hp⟩ := hrel
          obtain ⟨y0, y1, y2⟩ := cells3o ((hbw.block _ (by omega)).trans QA.out)
          obtain ⟨z0, z1, z2⟩ := cells3o ((hbw.block _ sb).trans QB.out)
          by_cases hlt : k < ts.length
          · have hlt' : k < us.length := by have := HL.out; omega
            obtain ⟨b, o, k1, n1, xs, B, c1, rfl, hb, ht, d0, d1, d2, hcu, hB, hT⟩ := (HA.out.below hbw).at_ hlt
            obtain ⟨b', o', k2, n2, ys, B', c2, rfl, hb', ht', e0, e1, e2, hcu', hB', hT'⟩ := (HA'.out.below hbw).at_ hlt'
            have hmem := Lfc.Ord.sizes_mem ts ts[k] (List.getElem_mem _)
            have hmem' := Lfc.Ord.sizes_mem us us[k] (List.getElem_mem _)
            have hi0 : (0 : Int) ≤ (k : Int) := Int.natCast_nonneg _
            have hi1 : (k : Int) < (ts.length : Int) := by omega
            have hi2 : (k : Int) < (us.length : Int) := by omega
            clear hB hB' ht ht'
            have bd : Below wr.heap.size wr wr.drew := (Below.refl _ _).drew
            have hT2 := hT.below bd
            have hT2' := hT'.below bd
            have CALL := Lib.hid (IH.out ts[k] us[k] _ _ wr.drew (by omega) (by omega) hT2 hT2')
            cases hq : Lfc.Ord.shp ts[k] us[k]
            · have HRES := Lib.hid (HF.out k hlt hlt' hq)
              rw [hq] at CALL
              clear hq hT hT' hT2 hT2'
              go_wp2_with fail
              refine wp_region_still_tail 10 (by kernel_rfl) (by kernel_rfl) ?_
              simp only [List.take_succ_cons, List.take_zero, List.drop_succ_cons, List.drop_zero]
              change wpStill Tryz.prog _ wr.drew _ _ _
              repeat still_step
              try refine wpStill_nil ?_
              change wpList _ _ _ _ _ wr.drew
              have HD : Hid (Below wb.heap.size wb wr.drew) := Lib.hid hbw.drew
              go_wp2_with fail
              refine CALL.out.mono ?_
              rintro e w1 ⟨rfl, hb1⟩
              go_wp2_with fail
              go_ret
              exact ⟨ret_bool (by simp [HRES.out]), HB.out.trans ((HD.out.trans (hb1.mono HD.out.size)).mono HB.out.size)⟩
            · have HQ := Lib.hid hq
              rw [hq] at CALL
              clear hq hT hT' hT2 hT2'
              go_wp2_with fail
              refine wp_region_still_tail 10 (by kernel_rfl) (by kernel_rfl) ?_
              simp only [List.take_succ_cons, List.take_zero, List.drop_succ_cons, List.drop_zero]
              change wpStill Tryz.prog _ wr.drew _ _ _
              repeat still_step
              try refine wpStill_nil ?_
              change wpList _ _ _ _ _ wr.drew
              have HD : Hid (Below wb.heap.size wb wr.drew) := Lib.hid hbw.drew
              go_wp2_with fail
              refine CALL.out.mono ?_
              rintro e w1 ⟨rfl, hb1⟩
              go_wp2_with fail
              go_roundw
              case rel =>
                refine ⟨k + 1, by omega, by go_num, HD.out.trans (hb1.mono HD.out.size), Lib.hid fun j h h' hj => ?_⟩
                rcases Nat.lt_or_ge j k with h1 | h1
                · exact hp.out j h h' h1
                · obtain rfl : j = k := by omega
                  exact HQ.out
              case measure => simp [intOf]; omega
          · have HRES := Lib.hid (HS.out.2 ⟨HL.out, fun j h h' => hp.out j h h' (by omega)⟩)
            go_wp2_with fail
            go_ret
            exact ⟨ret_bool (by simp [HRES.out]), HB.out.trans (hbw.mono HB.out.size)⟩
      · have hl2 : ((ts.length : Int) != (us.length : Int)) = true := by simp; omega
        have HRES := Lib.hid (Lfc.shps_len ts us hl)
        go_enter Tryz.func67, Tryz.ntmps67
        go_wp2_with fail
        go_ret
        exact ⟨ret_bool (by simp [HRES.out]), HB.out⟩
    · have hk2 : (kd != kd') = true := by simpa using hk
      go_enter Tryz.func67, Tryz.ntmps67
      go_wp2_with fail
      go_ret
      exact ⟨ret_bool (by simp [hk]), HB.out⟩

end Go.Proofs.YtadjpadieljjlaaGreat

/- Contracts of Valid of orders: the program's and the reference's; of Params. -/
set_option linter.unusedVariables false
set_option linter.unusedSimpArgs false
namespace Go.Proofs.YtadjpadieljjlaaGreat
open Go.RowKit

set_option maxRecDepth 100000 in
set_option maxHeartbeats 2000000 in
theorem oValid_any (o : Lfc.Ord) (v : Value) (n : Int) (w : World) (hsz : o.size ≤ 1000000) (hn0 : -1000 ≤ n) (hn1 : n ≤ 1000) (hv : OrdV w o v) :
    Calls Tryz.prog 33 #[v, .int .i64 n] w fun e w' => e = .returned (.int .i64 (o.vld n)) ∧ Below w.heap.size w w' := by
  obtain ⟨A, c, kd, ar, ts, hT, rfl, hc, hA⟩ : ∃ A c kd ar ts, o = .node kd ar ts ∧ v = .agg #[.int .i64 kd, .int .i64 ar, .slice A ts.length c] ∧ ts.length ≤ c ∧ OrdsAt w A ts := by
    obtain ⟨kd, ar, ts⟩ := o
    obtain ⟨A, c, rfl, hc, hA⟩ := hv.open_
    exact ⟨A, c, kd, ar, ts, rfl, rfl, hc, hA⟩
  obtain ⟨w1, hw1⟩ : ∃ w1, w.alloc (.cells #[.int .i64 kd, .int .i64 ar, .slice A ts.length c] 26) = w1 := ⟨_, rfl⟩
  have b01 : Below w.heap.size w w1 := by rw [← hw1]; exact (Below.refl _ _).alloc (Nat.le_refl _) _
  have q1 : w1.heap[w.heap.size]? = some (.cells #[.int .i64 kd, .int .i64 ar, .slice A ts.length c] 26 (0, 0)) := by rw [← hw1]; exact heap_alloc_new _ _
  obtain ⟨y0, y1, y2⟩ := cells3o q1
  have C1 := Lib.hid (oSmall_any o _ w1 hsz (hv.below b01))
  have C2 := Lib.hid (fun W (hW : Below w1.heap.size w1 W) => oArgs_upto 0 (n - 1) _ hsz o _ W (Nat.le_refl _) ((hv.below b01).below hW))
  have HQ := Lib.hid q1
  have HR : Hid (o.vld n = if 64 < o.size ∨ o.form = false then 92 else if o.rng 0 (n - 1) = false then 5 else 0) := Lib.hid rfl
  have hw2 : IntKind.i64.wrap (n - 1) = n - 1 := IntWalk.i64_in _ (by omega)
  have s01 := b01.size
  rw [HR.out]
  have HSM : Hid ((64 < o.size ∨ o.form = false) ↔ (decide (o.size ≤ 64) && o.form) = false) := Lib.hid (by
    rw [Bool.and_eq_false_iff, decide_eq_false_iff_not]
    constructor
    · rintro (h | h)
      · exact .inl (by omega)
      · exact .inr h
    · rintro (h | h)
      · exact .inl (by omega)
      · exact .inr h)
  clear hT hA hv q1 HR
  generalize (decide (o.size ≤ 64) && o.form) = f at *
  cases f
  · have HS2 := Lib.hid (HSM.out.2 rfl)
    rw [if_pos HS2.out]
    clear HSM
    go_enter Tryz.func33, Tryz.ntmps33
    go_wp2_with fail
    refine C1.out.mono ?_
    rintro e w2 ⟨rfl, hb2⟩
    go_wp2_with fail
    go_ret
    exact ⟨rfl, b01.trans (hb2.mono s01)⟩
  · have HS2 : Hid (¬ (64 < o.size ∨ o.form = false)) := Lib.hid (fun h => by have := HSM.out.1 h; cases this)
    rw [if_neg HS2.out]
    clear HSM
    generalize o.rng 0 (n - 1) = r at *
    go_enter Tryz.func33, Tryz.ntmps33
    go_wp2_with fail
    refine C1.out.mono ?_
    rintro e w2 ⟨rfl, hb2⟩
    obtain ⟨x0, x1, x2⟩ := cells3o ((hb2.block _ (lt_of_block HQ.out)).trans HQ.out)
    go_wp2_with fail
    refine (C2.out _ hb2).mono ?_
    rintro e w3 ⟨rfl, hb3⟩
    cases r
    all_goals
      go_wp2_with fail
      go_ret
      exact ⟨by simp, b01.trans ((hb2.trans (hb3.mono hb2.size)).mono s01)⟩

set_option maxRecDepth 100000 in
set_option maxHeartbeats 2000000 in
theorem rValid_any (o : Lfc.Ord) (v : Value) (n : Int) (w : World) (hsz : o.size ≤ 1000000) (hn0 : -1000 ≤ n) (hn1 : n ≤ 1000) (hv : OrdV w o v) :
    Calls Tryz.prog 66 #[v, .int .i64 n] w fun e w' => e = .returned (.int .i64 (o.vld n)) ∧ Below w.heap.size w w' := by
  obtain ⟨A, c, kd, ar, ts, hT, rfl, hc, hA⟩ : ∃ A c kd ar ts, o = .node kd ar ts ∧ v = .agg #[.int .i64 kd, .int .i64 ar, .slice A ts.length c] ∧ ts.length ≤ c ∧ OrdsAt w A ts := by
    obtain ⟨kd, ar, ts⟩ := o
    obtain ⟨A, c, rfl, hc, hA⟩ := hv.open_
    exact ⟨A, c, kd, ar, ts, rfl, rfl, hc, hA⟩
  obtain ⟨w1, hw1⟩ : ∃ w1, w.alloc (.cells #[.int .i64 kd, .int .i64 ar, .slice A ts.length c] 26) = w1 := ⟨_, rfl⟩
  have b01 : Below w.heap.size w w1 := by rw [← hw1]; exact (Below.refl _ _).alloc (Nat.le_refl _) _
  have q1 : w1.heap[w.heap.size]? = some (.cells #[.int .i64 kd, .int .i64 ar, .slice A ts.length c] 26 (0, 0)) := by rw [← hw1]; exact heap_alloc_new _ _
  obtain ⟨y0, y1, y2⟩ := cells3o q1
  have C1 := Lib.hid (rCount_any _ hsz o _ w1 (Nat.le_refl _) (hv.below b01))
  have C2 := Lib.hid (fun W (hW : Below w1.heap.size w1 W) => rShaped_any _ hsz o _ W (Nat.le_refl _) ((hv.below b01).below hW))
  have C3 := Lib.hid (fun W (hW : Below w1.heap.size w1 W) => rRanged_any 0 (n - 1) _ hsz o _ W (Nat.le_refl _) ((hv.below b01).below hW))
  have HQ := Lib.hid q1
  have HR : Hid (o.vld n = if 64 < o.size ∨ o.form = false then 92 else if o.rng 0 (n - 1) = false then 5 else 0) := Lib.hid rfl
  have hw2 : IntKind.i64.wrap (n - 1) = n - 1 := IntWalk.i64_in _ (by omega)
  have s01 := b01.size
  rw [HR.out]
  clear hT hA hv q1 HR
  generalize o.form = f at *
  generalize o.rng 0 (n - 1) = r at *
  by_cases hbig : 64 < o.size
  · have hd1 : decide ((o.size : Int) > 64) = true := by rw [decide_eq_true_eq]; omega
    have hd2 : decide ((64 : Int) < (o.size : Int)) = true := by rw [decide_eq_true_eq]; omega
    rw [if_pos (.inl hbig)]
    go_enter Tryz.func66, Tryz.ntmps66
    go_wp2_with fail
    refine C1.out.mono ?_
    rintro e w2 ⟨rfl, hb2⟩
    go_wp2_with fail
    go_ret
    exact ⟨rfl, b01.trans (hb2.mono s01)⟩
  · have hd1 : decide ((o.size : Int) > 64) = false := by rw [decide_eq_false_iff_not]; omega
    have hd2 : decide ((64 : Int) < (o.size : Int)) = false := by rw [decide_eq_false_iff_not]; omega
    cases f
    · rw [if_pos (.inr rfl)]
      go_enter Tryz.func66, Tryz.ntmps66
      go_wp2_with fail
      refine C1.out.mono ?_
      rintro e w2 ⟨rfl, hb2⟩
      obtain ⟨x0, x1, x2⟩ := cells3o ((hb2.block _ (lt_of_block HQ.out)).trans HQ.out)
      go_wp2_with fail
      refine (C2.out _ hb2).mono ?_
      rintro e w3 ⟨rfl, hb3⟩
      go_wp2_with fail
      go_ret
      exact ⟨rfl, b01.trans ((hb2.trans (hb3.mono hb2.size)).mono s01)⟩
    · have HNB := Lib.hid hbig
      rw [if_neg (by rintro (h | h); exact hbig h; cases h)]
      go_enter Tryz.func66, Tryz.ntmps66
      go_wp2_with fail
      refine C1.out.mono ?_
      rintro e w2 ⟨rfl, hb2⟩
      obtain ⟨x0, x1, x2⟩ := cells3o ((hb2.block _ (lt_of_block HQ.out)).trans HQ.out)
      go_wp2_with fail
      refine (C2.out _ hb2).mono ?_
      rintro e w3 ⟨rfl, hb3'⟩
      have hb3 := hb2.trans (hb3'.mono hb2.size)
      obtain ⟨x0, x1, x2⟩ := cells3o ((hb3.block _ (lt_of_block HQ.out)).trans HQ.out)
      go_wp2_with fail
      refine (C3.out _ hb3).mono ?_
      rintro e w4 ⟨rfl, hb4⟩
      cases r
      all_goals
        go_wp2_with fail
        go_ret
        exact ⟨by simp, b01.trans ((hb3.trans (hb4.mono hb3.size)).mono s01)⟩
end Go.Proofs.YtadjpadieljjlaaGreat
