/- Contracts of bound, all, atom, object. -/
import Derived.Test.YtadjpadieljjlaaGreatTmP
import Derived.Test.YtadjpadieljjlaaGreatRawMem
import Derived.Test.YtadjpadieljjlaaGreatNames
import Derived.Laws.EntriesVeiled
set_option linter.unusedVariables false
set_option linter.unusedSimpArgs false
namespace Go.Proofs.YtadjpadieljjlaaGreat
open Go.RowKit

set_option maxRecDepth 100000 in
set_option maxHeartbeats 1000000 in
theorem tBound_any (k p : Int) (m : Nat) (n : List UInt8) (ts : List Lfc.Raw) (v : Value) (w : World) (hm : m ≤ 2) (hlen : ts.length ≤ 1000000000) (hv : TreeV w (.node k n p ts) v) :
    Calls Tryz.prog 99 #[v, .int .i64 m] w fun e w' => e = .returned (.bool (Lfc.tbound n p ts.length m)) ∧ Below w.heap.size w w' := by
  have hn := hv.name_le
  obtain ⟨A, c, rfl, hc, hA⟩ := hv.open_
  clear hA hv
  have HI := Lib.hid (fun W => isName_any n W (by omega))
  generalize hl : ts.length = l at *
  generalize hq : Lfc.isName n = q at *
  have HQ := Lib.hid hq
  clear hq hl
  go_enter Tryz.func99, Tryz.ntmps99
  go_wp2_with (go_at_call 113; refine (HI.out _).mono ?_; rintro e w1 ⟨rfl, rfl⟩)
  all_goals
    go_ret
    refine ⟨ret_bool ?_, (Below.refl _ _).alloc (Nat.le_refl _) _⟩
    have e1 : ((l : Int) = (m : Int)) ↔ l = m := by omega
    have hq := HQ.out
    clear HI HQ
    rw [Bool.eq_iff_iff]
    simp_all [Lfc.tbound]

/-- What object does at terms of at most so many nodes. -/
def ObjUpto (m : Nat) : Prop := ∀ (t : Lfc.Raw) (v : Value) (w : World), t.size ≤ m → TreeV w t v →
    Calls Tryz.prog 70 #[v] w fun e w' => e = .returned (.bool t.obj) ∧ Below w.heap.size w w'
theorem enters_notObj : ∀ args w, (callFunc 115 args).run Tryz.prog w = .ok (.enter 115 args) w := enters_of Tryz.func115 (by kernel_rfl) rfl

set_option maxRecDepth 100000 in
set_option maxHeartbeats 1000000 in
theorem notObj_any (m : Nat) (ih : ObjUpto m) (t : Lfc.Raw) (v : Value) (w : World) (hm : t.size ≤ m) (hv : TreeV w t v) :
    Calls Tryz.prog 115 #[v] w fun e w' => e = .returned (.bool (!t.obj)) ∧ Below w.heap.size w w' := by
  obtain ⟨kd, nm, ps, ts⟩ := t
  obtain ⟨A, c, rfl, hc, hA⟩ := hv.open_
  have b0 : Below w.heap.size w (w.alloc (.cells #[.int .i64 kd, S nm, .int .i64 ps, .slice A ts.length c] 51)) := (Below.refl _ _).alloc (Nat.le_refl _) _
  have IH := Lib.hid (ih _ _ _ hm (hv.below b0))
  clear ih hv hA
  generalize (Lfc.Raw.node kd nm ps ts).obj = q at *
  go_enter Tryz.func115, Tryz.ntmps115
  go_wp2_with fail
  refine IH.out.mono ?_
  rintro e w1 ⟨rfl, hb1⟩
  cases q
  all_goals
    go_wp2_with fail
    go_ret
    exact ⟨rfl, b0.trans (hb1.mono b0.size)⟩

set_option maxRecDepth 100000 in
set_option maxHeartbeats 1000000 in
theorem indexObj_any (m : Nat) (ih : ObjUpto m) (ts : List Lfc.Raw) (A : Option Addr) (c : Nat) (w : World) (hm : Lfc.Raw.sizes ts ≤ m) (hmax : ts.length ≤ 1000000000) (h : TreesAt w A ts) :
    Calls Tryz.prog 124 #[.slice A ts.length c, .func (.func 115) #[] #[]] w fun e w' => ∃ i : Int, e = .returned (.int .i64 i) ∧ decide (i ≥ 0) = !Lfc.Raw.objs ts ∧ Below w.heap.size w w' := by
  have he := enters_notObj
  have IH := Lib.hid (notObj_any m ih)
  have HA := Lib.hid h
  have HS := Lib.hid (Lfc.objs_spec ts)
  have HF := Lib.hid (Lfc.objs_false ts)
  clear ih h
  generalize Lfc.Raw.objs ts = res at *
  go_enter Tryz.func124, Tryz.ntmps124
  go_wp2_with fail
  go_loopw [8] (fun i wr => ∃ k : Nat, k ≤ ts.length ∧ i = .int .i64 k ∧ Below w.heap.size w wr ∧ Hid (∀ j (h : j < ts.length), j < k → ts[j].obj = true)) (fun i _ => ts.length - (intOf i).toNat)
  case atStart => exact ⟨0, by omega, rfl, Below.refl _ _, Lib.hid fun j _ hj => by omega⟩
  case round =>
    obtain ⟨k, hk, rfl, hbw, hp⟩ := hrel
    by_cases hlt : k < ts.length
    · obtain ⟨b, o, k1, n1, p1, xs, B1, c1, rfl, hb, ht, d0, d1, d2, d3, hcu, hB, hT⟩ := (HA.out.below hbw).at_ hlt
      have hmem := Lfc.Raw.sizes_mem ts ts[k] (List.getElem_mem _)
      clear hB ht
      have hT2 := Lib.hid hT
      cases hq : ts[k].obj
      · have hres := HF.out k hlt hq
        subst hres
        have HQ := Lib.hid hq
        clear hq
        go_wp2_with fail
        refine (IH.out ts[k] _ _ (by omega) hT2.out).mono ?_
        rintro e w1 ⟨rfl, hb1⟩
        rw [HQ.out]
        go_wp2_with fail
        go_ret
        exact ⟨k, rfl, by simp, hbw.trans (hb1.mono hbw.size)⟩
      · have HQ := Lib.hid hq
        clear hq
        go_wp2_with fail
        refine (IH.out ts[k] _ _ (by omega) hT2.out).mono ?_
        rintro e w1 ⟨rfl, hb1⟩
        rw [HQ.out]
        go_wp2_with fail
        go_roundw
        case rel =>
          refine ⟨k + 1, by omega, by go_num, hbw.trans (hb1.mono hbw.size), Lib.hid fun j h hj => ?_⟩
          rcases Nat.lt_or_ge j k with h1 | h1
          · exact hp.out j h h1
          · obtain rfl : j = k := by omega
            exact HQ.out
        case measure => simp [intOf]; omega
    · have hres := HS.out.2 fun j h => hp.out j h (by omega)
      subst hres
      go_wp2_with fail
      go_ret
      exact ⟨-1, rfl, by decide, hbw⟩

set_option maxRecDepth 100000 in
set_option maxHeartbeats 1000000 in
theorem containsObj_any (m : Nat) (ih : ObjUpto m) (ts : List Lfc.Raw) (A : Option Addr) (c : Nat) (w : World) (hm : Lfc.Raw.sizes ts ≤ m) (hmax : ts.length ≤ 1000000000) (h : TreesAt w A ts) :
    Calls Tryz.prog 114 #[.slice A ts.length c, .func (.func 115) #[] #[]] w fun e w' => e = .returned (.bool (!Lfc.Raw.objs ts)) ∧ Below w.heap.size w w' := by
  have IH := Lib.hid (indexObj_any m ih ts A c w hm hmax h)
  clear ih h
  go_enter Tryz.func114, Tryz.ntmps114
  go_wp2_with fail
  refine IH.out.mono ?_
  rintro e w1 ⟨i, rfl, hi, hb1⟩
  have HI := Lib.hid hi
  clear hi
  go_wp2_with fail
  go_ret
  exact ⟨ret_bool HI.out, hb1⟩

set_option maxRecDepth 100000 in
set_option maxHeartbeats 1000000 in
theorem tAll_any (m : Nat) (ih : ObjUpto m) (k p : Int) (n : List UInt8) (ts : List Lfc.Raw) (v : Value) (w : World) (hm : Lfc.Raw.sizes ts ≤ m) (hmax : ts.length ≤ 1000000000) (hv : TreeV w (.node k n p ts) v) :
    Calls Tryz.prog 101 #[v] w fun e w' => e = .returned (.bool (Lfc.Raw.objs ts)) ∧ Below w.heap.size w w' := by
  obtain ⟨A, c, rfl, hc, hA⟩ := hv.open_
  have b0 : Below w.heap.size w (w.alloc (.cells #[.int .i64 k, S n, .int .i64 p, .slice A ts.length c] 51)) := (Below.refl _ _).alloc (Nat.le_refl _) _
  have IH := Lib.hid (containsObj_any m ih ts A c _ hm hmax (hA.below b0))
  clear ih hv hA
  generalize Lfc.Raw.objs ts = q at *
  go_enter Tryz.func101, Tryz.ntmps101
  go_wp2_with fail
  refine IH.out.mono ?_
  rintro e w1 ⟨rfl, hb1⟩
  cases q
  all_goals
    go_wp2_with fail
    go_ret
    exact ⟨rfl, b0.trans (hb1.mono b0.size)⟩

set_option maxRecDepth 100000 in
set_option maxHeartbeats 1000000 in
theorem tAtom_any (m : Nat) (ih : ObjUpto m) (k p : Int) (n : List UInt8) (ts : List Lfc.Raw) (v : Value) (w : World) (hm : Lfc.Raw.sizes ts ≤ m) (hmax : ts.length ≤ 1000000000) (hv : TreeV w (.node k n p ts) v) :
    Calls Tryz.prog 100 #[v] w fun e w' => e = .returned (.bool (Lfc.Raw.atm (.node k n p ts))) ∧ Below w.heap.size w w' := by
  have hn := hv.name_le
  obtain ⟨A, c, rfl, hc, hA⟩ := hv.open_
  have HB : Hid (Below w.heap.size w (w.alloc (.cells #[.int .i64 k, S n, .int .i64 p, .slice A ts.length c] 51))) := Lib.hid ((Below.refl _ _).alloc (Nat.le_refl _) _)
  have IH := Lib.hid (tAll_any m ih k p n ts _ _ hm hmax (hv.below HB.out))
  have HI := Lib.hid (fun W => isName_any n W (by omega))
  have HR : Hid (Lfc.Raw.atm (.node k n p ts) = (decide (k = 4) && Lfc.isName n && decide (p = 0) && Lfc.Raw.objs ts)) := Lib.hid rfl
  rw [HR.out]
  clear ih hv hA HR
  generalize Lfc.Raw.objs ts = r at *
  generalize Lfc.isName n = q at *
  by_cases hk : k = 4
  · subst hk
    cases q
    · go_enter Tryz.func100, Tryz.ntmps100
      go_wp2_with fail
      refine (HI.out _).mono ?_
      rintro e w1 ⟨rfl, rfl⟩
      go_wp2_with fail
      go_ret
      exact ⟨rfl, HB.out⟩
    · by_cases hp : p = 0
      · subst hp
        go_enter Tryz.func100, Tryz.ntmps100
        go_wp2_with fail
        refine (HI.out _).mono ?_
        rintro e w1 ⟨rfl, rfl⟩
        go_wp2_with fail
        refine IH.out.mono ?_
        rintro e w1 ⟨rfl, hb1⟩
        cases r
        all_goals
          go_wp2_with fail
          go_ret
          exact ⟨rfl, HB.out.trans (hb1.mono HB.out.size)⟩
      · have hp2 : (p == 0) = false := by simpa using hp
        rw [decide_eq_false hp]
        go_enter Tryz.func100, Tryz.ntmps100
        go_wp2_with fail
        refine (HI.out _).mono ?_
        rintro e w1 ⟨rfl, rfl⟩
        go_wp2_with fail
        go_ret
        exact ⟨by simp, HB.out⟩
  · have hk2 : (k == 4) = false := by simpa using hk
    rw [decide_eq_false hk]
    go_enter Tryz.func100, Tryz.ntmps100
    go_wp2_with fail
    go_ret
    exact ⟨by simp, HB.out⟩
end Go.Proofs.YtadjpadieljjlaaGreat
