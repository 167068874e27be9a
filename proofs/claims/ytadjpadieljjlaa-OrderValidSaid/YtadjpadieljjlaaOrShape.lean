/- Contracts of Shape and SameOrder of orders. -/
import Derived.Test.YtadjpadieljjlaaOrRef
import Derived.StillTailTactics
set_option linter.unusedVariables false
set_option linter.unusedSimpArgs false
namespace Go.Proofs.Ytadjpadieljjlaa
open Go.RowKit

theorem enters_shape : ∀ args w, (callFunc 12 args).run Try.prog w = .ok (.enter 12 args) w := enters_of Try.func12 (by kernel_rfl) rfl
/-- What Shape does at orders of at most so many parts. -/
def ShpUpto (m : Nat) : Prop := ∀ (t u : Lfc.Ord) (v v' : Value) (w : World), t.size ≤ m → OrdV w t v → OrdV w u v' →
    Calls Try.prog 12 #[v, v'] w fun e w' => e = .returned (.bool (Lfc.Ord.shp t u)) ∧ Below w.heap.size w w'
set_option maxRecDepth 100000 in
set_option maxHeartbeats 2000000 in
theorem oEqual_any (m : Nat) (ih : ShpUpto m) (ts us : List Lfc.Ord) (A A' : Option Addr) (c c' : Nat) (w : World) (hm : Lfc.Ord.sizes ts ≤ m) (hmax : ts.length ≤ 1000000) (h : OrdsAt w A ts) (h' : OrdsAt w A' us) :
    Calls Try.prog 24 #[.slice A ts.length c, .slice A' us.length c', .func (.func 12) #[] #[]] w fun e w' => e = .returned (.bool (Lfc.Ord.shps ts us)) ∧ Below w.heap.size w w' := by
  have he := enters_shape
  have IH := Lib.hid ih
  have HA := Lib.hid h
  have HA' := Lib.hid h'
  clear ih h h'
  by_cases hl : ts.length = us.length
  · have HS := Lib.hid (Lfc.shps_spec ts us)
    have HF := Lib.hid (Lfc.shps_false ts us)
    have HL := Lib.hid hl
    generalize Lfc.Ord.shps ts us = res at *
    rw [← hl]
    clear hl
    go_enter Try.func24, Try.ntmps24
    go_wp2_with fail
    go_loopw [17] (fun i wr => ∃ k : Nat, k ≤ ts.length ∧ i = .int .i64 k ∧ Below w.heap.size w wr ∧ Hid (∀ j (h : j < ts.length) (h' : j < us.length), j < k → Lfc.Ord.shp ts[j] us[j] = true)) (fun i _ => ts.length - (intOf i).toNat)
    case atStart => exact ⟨0, by omega, rfl, Below.refl _ _, Lib.hid fun j _ _ hj => by omega⟩
    case round =>
      obtain ⟨k, hk, rfl, hbw, hp⟩ := hrel
      by_cases hlt : k < ts.length
      · have hlt' : k < us.length := by have := HL.out; omega
        obtain ⟨b, o, k1, n1, xs, B, c1, rfl, hb, ht, d0, d1, d2, hcu, hB, hT⟩ := (HA.out.below hbw).at_ hlt
        obtain ⟨b', o', k2, n2, ys, B', c2, rfl, hb', ht', e0, e1, e2, hcu', hB', hT'⟩ := (HA'.out.below hbw).at_ hlt'
        have hmem := Lfc.Ord.sizes_mem ts ts[k] (List.getElem_mem _)
        clear hB hB' ht ht'
        have b1 : Below wr.heap.size wr ((wr.alloc (.cells #[.int .i64 k1, .int .i64 n1, .slice B xs.length c1] 28)).alloc (.cells #[.int .i64 k2, .int .i64 n2, .slice B' ys.length c2] 28)) := ((Below.refl _ _).alloc (Nat.le_refl _) _).alloc (by simp) _
        have hT2 := hT.below b1
        have hT2' := hT'.below b1
        cases hq : Lfc.Ord.shp ts[k] us[k]
        · have hres := HF.out k hlt hlt' hq
          subst hres
          have HQ := Lib.hid hq
          clear hq
          go_wp2_with fail
          refine (IH.out ts[k] us[k] _ _ _ (by omega) hT2 hT2').mono ?_
          rintro e w1 ⟨rfl, hb1⟩
          rw [HQ.out]
          go_wp2_with fail
          go_ret
          exact ⟨rfl, hbw.trans ((b1.mono hbw.size).trans (hb1.mono (Nat.le_trans hbw.size b1.size)))⟩
        · have HQ := Lib.hid hq
          clear hq
          go_wp2_with fail
          refine (IH.out ts[k] us[k] _ _ _ (by omega) hT2 hT2').mono ?_
          rintro e w1 ⟨rfl, hb1⟩
          rw [HQ.out]
          go_wp2_with fail
          go_roundw
          case rel =>
            refine ⟨k + 1, by omega, by go_num, hbw.trans ((b1.mono hbw.size).trans (hb1.mono (Nat.le_trans hbw.size b1.size))), Lib.hid fun j h h' hj => ?_⟩
            rcases Nat.lt_or_ge j k with h1 | h1
            · exact hp.out j h h' h1
            · obtain rfl : j = k := by omega
              exact HQ.out
          case measure => simp [intOf]; omega
      · have hres := HS.out.2 ⟨HL.out, fun j h h' => hp.out j h h' (by omega)⟩
        subst hres
        go_wp2_with fail
        go_ret
        exact ⟨rfl, hbw⟩
  · rw [Lfc.shps_len ts us hl]
    have hne : ((ts.length : Int) != (us.length : Int)) = true := by simp; omega
    clear hl
    go_enter Try.func24, Try.ntmps24
    go_wp2_with fail
    go_ret
    exact ⟨rfl, Below.refl _ _⟩

set_option maxRecDepth 100000 in
set_option maxHeartbeats 2000000 in
theorem oShape_upto (m : Nat) (hmm : m ≤ 1000000) : ∀ (t u : Lfc.Ord) (v v' : Value) (w : World), t.size ≤ m → OrdV w t v → OrdV w u v' →
    Calls Try.prog 12 #[v, v'] w fun e w' => e = .returned (.bool (Lfc.Ord.shp t u)) ∧ Below w.heap.size w w' := by
  induction m with
  | zero => intro t u v v' w h _ _; have := t.size_pos; omega
  | succ m ih0 =>
    intro t u v v' w hsz hv hv'
    have ih := ih0 (by omega)
    clear ih0
    obtain ⟨kd, ar, ts⟩ := t
    obtain ⟨kd', ar', us⟩ := u
    obtain ⟨A, c, rfl, hc, hA⟩ := hv.open_
    obtain ⟨A', c', rfl, hc', hA'⟩ := hv'.open_
    simp only [Lfc.Ord.size] at hsz
    have hlen := Lfc.Ord.sizes_len ts
    have hlen' := Lfc.Ord.sizes_len us
    obtain ⟨wa, hwa⟩ : ∃ wa, w.alloc (.cells #[.int .i64 kd, .int .i64 ar, .slice A ts.length c] 28) = wa := ⟨_, rfl⟩
    obtain ⟨wb, hwb⟩ : ∃ wb, wa.alloc (.cells #[.int .i64 kd', .int .i64 ar', .slice A' us.length c'] 28) = wb := ⟨_, rfl⟩
    have ba : Below w.heap.size w wa := by rw [← hwa]; exact (Below.refl _ _).alloc (Nat.le_refl _) _
    have bab : Below wa.heap.size wa wb := by rw [← hwb]; exact (Below.refl _ _).alloc (Nat.le_refl _) _
    have qa : wa.heap[w.heap.size]? = some (.cells #[.int .i64 kd, .int .i64 ar, .slice A ts.length c] 28 (0, 0)) := by rw [← hwa]; exact heap_alloc_new _ _
    have qb : wb.heap[wa.heap.size]? = some (.cells #[.int .i64 kd', .int .i64 ar', .slice A' us.length c'] 28 (0, 0)) := by rw [← hwb]; exact heap_alloc_new _ _
    have sa := lt_of_block qa
    have sb := lt_of_block qb
    have qab := (bab.block _ sa).trans qa
    have bb : Below w.heap.size w wb := ba.trans (bab.mono (by omega))
    have HA := Lib.hid (hA.below bb)
    have HA' := Lib.hid (hA'.below bb)
    have QA := Lib.hid qab
    have QB := Lib.hid qb
    have HB := Lib.hid bb
    have IH := Lib.hid ih
    obtain ⟨y0, y1, y2⟩ := cells3o qab
    obtain ⟨z0, z1, z2⟩ := cells3o qb
    clear ih hv hv' hA hA' ba bab qa qb qab bb
    rw [Lfc.Ord.shp]
    have HE := Lib.hid (oEqual_any m IH.out ts us A A' c c' wb (by omega) (by omega) HA.out HA'.out)
    by_cases hk : kd = kd'
    · rw [decide_eq_true hk, Bool.true_and]
      have hk2 : (kd == kd') = true := by simpa using hk
      subst hk
      generalize Lfc.Ord.shps ts us = q at *
      go_enter Try.func12, Try.ntmps12
      go_wp2_with fail
      refine HE.out.mono ?_
      rintro e w1 ⟨rfl, hb1⟩
      cases q
      all_goals
        go_wp2_with fail
        go_ret
        exact ⟨rfl, HB.out.trans (hb1.mono HB.out.size)⟩
    · have hk2 : (kd == kd') = false := by simpa using hk
      have HD : Hid (decide (kd = kd') = false) := Lib.hid (decide_eq_false hk)
      rw [HD.out]
      go_enter Try.func12, Try.ntmps12
      go_wp2_with fail
      go_ret
      exact ⟨by simp, HB.out⟩

set_option maxRecDepth 100000 in
set_option maxHeartbeats 2000000 in
theorem rShape_upto (m : Nat) (hmm : m ≤ 1000000) : ∀ (t u : Lfc.Ord) (v v' : Value) (w : World), t.size ≤ m → u.size ≤ 1000000 → OrdV w t v → OrdV w u v' →
    Calls Try.prog 13 #[v, v'] w fun e w' => e = .returned (.bool (Lfc.Ord.shp t u)) ∧ Below w.heap.size w w' := by
  induction m with
  | zero => intro t u v v' w h _ _; have := t.size_pos; omega
  | succ m ih0 =>
    intro t u v v' w hsz hsu hv hv'
    have ih := ih0 (by omega)
    clear ih0
    obtain ⟨kd, ar, ts⟩ := t
    obtain ⟨kd', ar', us⟩ := u
    obtain ⟨A, c, rfl, hc, hA⟩ := hv.open_
    obtain ⟨A', c', rfl, hc', hA'⟩ := hv'.open_
    simp only [Lfc.Ord.size] at hsz hsu
    have hlen := Lfc.Ord.sizes_len ts
    have hlen' := Lfc.Ord.sizes_len us
    obtain ⟨wa, hwa⟩ : ∃ wa, w.alloc (.cells #[.int .i64 kd, .int .i64 ar, .slice A ts.length c] 28) = wa := ⟨_, rfl⟩
    obtain ⟨wb, hwb⟩ : ∃ wb, wa.alloc (.cells #[.int .i64 kd', .int .i64 ar', .slice A' us.length c'] 28) = wb := ⟨_, rfl⟩
    have ba : Below w.heap.size w wa := by rw [← hwa]; exact (Below.refl _ _).alloc (Nat.le_refl _) _
    have bab : Below wa.heap.size wa wb := by rw [← hwb]; exact (Below.refl _ _).alloc (Nat.le_refl _) _
    have qa : wa.heap[w.heap.size]? = some (.cells #[.int .i64 kd, .int .i64 ar, .slice A ts.length c] 28 (0, 0)) := by rw [← hwa]; exact heap_alloc_new _ _
    have qb : wb.heap[wa.heap.size]? = some (.cells #[.int .i64 kd', .int .i64 ar', .slice A' us.length c'] 28 (0, 0)) := by rw [← hwb]; exact heap_alloc_new _ _
    have sa := lt_of_block qa
    have sb := lt_of_block qb
    have qab := (bab.block _ sa).trans qa
    have bb : Below w.heap.size w wb := ba.trans (bab.mono (by omega))
    have HA := Lib.hid (hA.below bb)
    have HA' := Lib.hid (hA'.below bb)
    have QA := Lib.hid qab
    have QB := Lib.hid qb
    have HB := Lib.hid bb
    have IH := Lib.hid ih
    obtain ⟨y0, y1, y2⟩ := cells3o qab
    obtain ⟨z0, z1, z2⟩ := cells3o qb
    clear ih hv hv' hA hA' ba bab qa qb qab bb
    rw [Lfc.Ord.shp]
    have HS := Lib.hid (Lfc.shps_spec ts us)
    have HF := Lib.hid (Lfc.shps_false ts us)
    by_cases hk : kd = kd'
    · have hk2 : (kd != kd') = false := by simpa using hk
      subst hk
      by_cases hl : ts.length = us.length
      · have hl2 : ((ts.length : Int) != (us.length : Int)) = false := by simp; omega
        have HL := Lib.hid hl
        clear hl
        go_enter Try.func13, Try.ntmps13
        go_wp2_with fail
        go_loopw [5] (fun i wr => ∃ k : Nat, k ≤ ts.length ∧ i = .int .i64 k ∧ Below wb.heap.size wb wr ∧ Hid (∀ j (h : j < ts.length) (h' : j < us.length), j < k → Lfc.Ord.shp ts[j] us[j] = true)) (fun i _ => ts.length - (intOf i).toNat)
        case atStart => exact ⟨0, by omega, rfl, by first | exact Below.refl _ _ | (rw [hwa, hwb]; exact Below.refl _ _), Lib.hid fun j _ _ hj => by omega⟩
        case round =>
          clear hwa hwb y0 y1 y2 z0 z1 z2
          obtain ⟨k, hk, rfl, hbw, hp⟩ := hrel
          obtain ⟨y0, y1, y2⟩ := cells3o ((hbw.block _ (by omega)).trans QA.out)
          obtain ⟨z0, z1, z2⟩ := cells3o ((hbw.block _ sb).trans QB.out)
          by_cases hlt : k < ts.length
          · have hlt' : k < us.length := by have := HL.out; omega
            obtain ⟨b, o, k1, n1, xs, B, c1, rfl, hb, ht, d0, d1, d2, hcu, hB, hT⟩ := (HA.out.below hbw).at_ hlt
            obtain ⟨b', o', k2, n2, ys, B', c2, rfl, hb', ht', e0, e1, e2, hcu', hB', hT'⟩ := (HA'.out.below hbw).at_ hlt'
            have hmem := Lfc.Ord.sizes_mem ts ts[k] (List.getElem_mem _)
            have hmem' := Lfc.Ord.sizes_mem us us[k] (List.getElem_mem _)
            have hi0 : (0 : Int) ≤ (k : Int) := Int.natCast_nonneg _
            have hi1 : (k : Int) < (ts.length : Int) := by omega
            have hi2 : (k : Int) < (us.length : Int) := by omega
            clear hB hB' ht ht'
            have bd : Below wr.heap.size wr wr.drew := (Below.refl _ _).drew
            have hT2 := hT.below bd
            have hT2' := hT'.below bd
            have CALL := Lib.hid (IH.out ts[k] us[k] _ _ wr.drew (by omega) (by omega) hT2 hT2')
            cases hq : Lfc.Ord.shp ts[k] us[k]
            · have HRES := Lib.hid (HF.out k hlt hlt' hq)
              rw [hq] at CALL
              clear hq hT hT' hT2 hT2'
              go_wp2_with fail
              refine wp_region_still_tail 10 (by kernel_rfl) (by kernel_rfl) ?_
              simp only [List.take_succ_cons, List.take_zero, List.drop_succ_cons, List.drop_zero]
              change wpStill Try.prog _ wr.drew _ _ _
              repeat still_step
              try refine wpStill_nil ?_
              change wpList _ _ _ _ _ wr.drew
              have HD : Hid (Below wb.heap.size wb wr.drew) := Lib.hid hbw.drew
              go_wp2_with fail
              refine CALL.out.mono ?_
              rintro e w1 ⟨rfl, hb1⟩
              go_wp2_with fail
              go_ret
              exact ⟨ret_bool (by simp [HRES.out]), HB.out.trans ((HD.out.trans (hb1.mono HD.out.size)).mono HB.out.size)⟩
            · have HQ := Lib.hid hq
              rw [hq] at CALL
              clear hq hT hT' hT2 hT2'
              go_wp2_with fail
              refine wp_region_still_tail 10 (by kernel_rfl) (by kernel_rfl) ?_
              simp only [List.take_succ_cons, List.take_zero, List.drop_succ_cons, List.drop_zero]
              change wpStill Try.prog _ wr.drew _ _ _
              repeat still_step
              try refine wpStill_nil ?_
              change wpList _ _ _ _ _ wr.drew
              have HD : Hid (Below wb.heap.size wb wr.drew) := Lib.hid hbw.drew
              go_wp2_with fail
              refine CALL.out.mono ?_
              rintro e w1 ⟨rfl, hb1⟩
              go_wp2_with fail
              go_roundw
              case rel =>
                refine ⟨k + 1, by omega, by go_num, HD.out.trans (hb1.mono HD.out.size), Lib.hid fun j h h' hj => ?_⟩
                rcases Nat.lt_or_ge j k with h1 | h1
                · exact hp.out j h h' h1
                · obtain rfl : j = k := by omega
                  exact HQ.out
              case measure => simp [intOf]; omega
          · have HRES := Lib.hid (HS.out.2 ⟨HL.out, fun j h h' => hp.out j h h' (by omega)⟩)
            go_wp2_with fail
            go_ret
            exact ⟨ret_bool (by simp [HRES.out]), HB.out.trans (hbw.mono HB.out.size)⟩
      · have hl2 : ((ts.length : Int) != (us.length : Int)) = true := by simp; omega
        have HRES := Lib.hid (Lfc.shps_len ts us hl)
        go_enter Try.func13, Try.ntmps13
        go_wp2_with fail
        go_ret
        exact ⟨ret_bool (by simp [HRES.out]), HB.out⟩
    · have hk2 : (kd != kd') = true := by simpa using hk
      go_enter Try.func13, Try.ntmps13
      go_wp2_with fail
      go_ret
      exact ⟨ret_bool (by simp [hk]), HB.out⟩

set_option maxRecDepth 100000 in
set_option maxHeartbeats 2000000 in
theorem rSameOrder_upto (m : Nat) (hmm : m ≤ 1000000) : ∀ (t u : Lfc.Ord) (v v' : Value) (w : World), t.size ≤ m → u.size ≤ 1000000 → OrdV w t v → OrdV w u v' →
    Calls Try.prog 11 #[v, v'] w fun e w' => e = .returned (.bool (Lfc.Ord.eqo t u)) ∧ Below w.heap.size w w' := by
  induction m with
  | zero => intro t u v v' w h _ _; have := t.size_pos; omega
  | succ m ih0 =>
    intro t u v v' w hsz hsu hv hv'
    have ih := ih0 (by omega)
    clear ih0
    obtain ⟨kd, ar, ts⟩ := t
    obtain ⟨kd', ar', us⟩ := u
    obtain ⟨A, c, rfl, hc, hA⟩ := hv.open_
    obtain ⟨A', c', rfl, hc', hA'⟩ := hv'.open_
    simp only [Lfc.Ord.size] at hsz hsu
    have hlen := Lfc.Ord.sizes_len ts
    have hlen' := Lfc.Ord.sizes_len us
    obtain ⟨wa, hwa⟩ : ∃ wa, w.alloc (.cells #[.int .i64 kd, .int .i64 ar, .slice A ts.length c] 28) = wa := ⟨_, rfl⟩
    obtain ⟨wb, hwb⟩ : ∃ wb, wa.alloc (.cells #[.int .i64 kd', .int .i64 ar', .slice A' us.length c'] 28) = wb := ⟨_, rfl⟩
    have ba : Below w.heap.size w wa := by rw [← hwa]; exact (Below.refl _ _).alloc (Nat.le_refl _) _
    have bab : Below wa.heap.size wa wb := by rw [← hwb]; exact (Below.refl _ _).alloc (Nat.le_refl _) _
    have qa : wa.heap[w.heap.size]? = some (.cells #[.int .i64 kd, .int .i64 ar, .slice A ts.length c] 28 (0, 0)) := by rw [← hwa]; exact heap_alloc_new _ _
    have qb : wb.heap[wa.heap.size]? = some (.cells #[.int .i64 kd', .int .i64 ar', .slice A' us.length c'] 28 (0, 0)) := by rw [← hwb]; exact heap_alloc_new _ _
    have sa := lt_of_block qa
    have sb := lt_of_block qb
    have qab := (bab.block _ sa).trans qa
    have bb : Below w.heap.size w wb := ba.trans (bab.mono (by omega))
    have HA := Lib.hid (hA.below bb)
    have HA' := Lib.hid (hA'.below bb)
    have QA := Lib.hid qab
    have QB := Lib.hid qb
    have HB := Lib.hid bb
    have IH := Lib.hid ih
    obtain ⟨y0, y1, y2⟩ := cells3o qab
    obtain ⟨z0, z1, z2⟩ := cells3o qb
    clear ih hv hv' hA hA' ba bab qa qb qab bb
    rw [Lfc.Ord.eqo]
    have HS := Lib.hid (Lfc.eqos_spec ts us)
    have HF := Lib.hid (Lfc.eqos_false ts us)
    by_cases hk : kd = kd'
    · have hk2 : (kd != kd') = false := by simpa using hk
      subst hk
      by_cases ha : ar = ar'
      · have ha2 : (ar != ar') = false := by simpa using ha
        subst ha
        by_cases hl : ts.length = us.length
        · have hl2 : ((ts.length : Int) != (us.length : Int)) = false := by simp; omega
          have HL := Lib.hid hl
          clear hl
          go_enter Try.func11, Try.ntmps11
          go_wp2_with fail
          go_loopw [5] (fun i wr => ∃ k : Nat, k ≤ ts.length ∧ i = .int .i64 k ∧ Below wb.heap.size wb wr ∧ Hid (∀ j (h : j < ts.length) (h' : j < us.length), j < k → Lfc.Ord.eqo ts[j] us[j] = true)) (fun i _ => ts.length - (intOf i).toNat)
          case atStart => exact ⟨0, by omega, rfl, by first | exact Below.refl _ _ | (rw [hwa, hwb]; exact Below.refl _ _), Lib.hid fun j _ _ hj => by omega⟩
          case round =>
            clear hwa hwb y0 y1 y2 z0 z1 z2
            obtain ⟨k, hk, rfl, hbw, hp⟩ := hrel
            obtain ⟨y0, y1, y2⟩ := cells3o ((hbw.block _ (by omega)).trans QA.out)
            obtain ⟨z0, z1, z2⟩ := cells3o ((hbw.block _ sb).trans QB.out)
            by_cases hlt : k < ts.length
            · have hlt' : k < us.length := by have := HL.out; omega
              obtain ⟨b, o, k1, n1, xs, B, c1, rfl, hb, ht, d0, d1, d2, hcu, hB, hT⟩ := (HA.out.below hbw).at_ hlt
              obtain ⟨b', o', k2, n2, ys, B', c2, rfl, hb', ht', e0, e1, e2, hcu', hB', hT'⟩ := (HA'.out.below hbw).at_ hlt'
              have hmem := Lfc.Ord.sizes_mem ts ts[k] (List.getElem_mem _)
              have hmem' := Lfc.Ord.sizes_mem us us[k] (List.getElem_mem _)
              have hi0 : (0 : Int) ≤ (k : Int) := Int.natCast_nonneg _
              have hi1 : (k : Int) < (ts.length : Int) := by omega
              have hi2 : (k : Int) < (us.length : Int) := by omega
              clear hB hB' ht ht'
              have bd : Below wr.heap.size wr wr.drew := (Below.refl _ _).drew
              have hT2 := hT.below bd
              have hT2' := hT'.below bd
              have CALL := Lib.hid (IH.out ts[k] us[k] _ _ wr.drew (by omega) (by omega) hT2 hT2')
              cases hq : Lfc.Ord.eqo ts[k] us[k]
              · have HRES := Lib.hid (HF.out k hlt hlt' hq)
                rw [hq] at CALL
                clear hq hT hT' hT2 hT2'
                go_wp2_with fail
                refine wp_region_still_tail 10 (by kernel_rfl) (by kernel_rfl) ?_
                simp only [List.take_succ_cons, List.take_zero, List.drop_succ_cons, List.drop_zero]
                change wpStill Try.prog _ wr.drew _ _ _
                repeat still_step
                try refine wpStill_nil ?_
                change wpList _ _ _ _ _ wr.drew
                have HD : Hid (Below wb.heap.size wb wr.drew) := Lib.hid hbw.drew
                go_wp2_with fail
                refine CALL.out.mono ?_
                rintro e w1 ⟨rfl, hb1⟩
                go_wp2_with fail
                go_ret
                exact ⟨ret_bool (by simp [HRES.out]), HB.out.trans ((HD.out.trans (hb1.mono HD.out.size)).mono HB.out.size)⟩
              · have HQ := Lib.hid hq
                rw [hq] at CALL
                clear hq hT hT' hT2 hT2'
                go_wp2_with fail
                refine wp_region_still_tail 10 (by kernel_rfl) (by kernel_rfl) ?_
                simp only [List.take_succ_cons, List.take_zero, List.drop_succ_cons, List.drop_zero]
                change wpStill Try.prog _ wr.drew _ _ _
                repeat still_step
                try refine wpStill_nil ?_
                change wpList _ _ _ _ _ wr.drew
                have HD : Hid (Below wb.heap.size wb wr.drew) := Lib.hid hbw.drew
                go_wp2_with fail
                refine CALL.out.mono ?_
                rintro e w1 ⟨rfl, hb1⟩
                go_wp2_with fail
                go_roundw
                case rel =>
                  refine ⟨k + 1, by omega, by go_num, HD.out.trans (hb1.mono HD.out.size), Lib.hid fun j h h' hj => ?_⟩
                  rcases Nat.lt_or_ge j k with h1 | h1
                  · exact hp.out j h h' h1
                  · obtain rfl : j = k := by omega
                    exact HQ.out
                case measure => simp [intOf]; omega
            · have HRES := Lib.hid (HS.out.2 ⟨HL.out, fun j h h' => hp.out j h h' (by omega)⟩)
              go_wp2_with fail
              go_ret
              exact ⟨ret_bool (by simp [HRES.out]), HB.out.trans (hbw.mono HB.out.size)⟩
        · have hl2 : ((ts.length : Int) != (us.length : Int)) = true := by simp; omega
          have HRES : Hid (Lfc.Ord.eqos ts us = false) := Lib.hid (by
            cases hs : Lfc.Ord.eqos ts us
            · rfl
            · exact absurd ((Lfc.eqos_spec ts us).1 hs).1 hl)
          go_enter Try.func11, Try.ntmps11
          go_wp2_with fail
          go_ret
          exact ⟨ret_bool (by simp [HRES.out]), HB.out⟩
      · have ha2 : (ar != ar') = true := by simpa using ha
        go_enter Try.func11, Try.ntmps11
        go_wp2_with fail
        go_ret
        exact ⟨ret_bool (by simp [ha]), HB.out⟩
    · have hk2 : (kd != kd') = true := by simpa using hk
      go_enter Try.func11, Try.ntmps11
      go_wp2_with fail
      go_ret
      exact ⟨ret_bool (by simp [hk]), HB.out⟩

end Go.Proofs.Ytadjpadieljjlaa
