/- Contracts of Count, shaped, ranged, Valid of orders, of the reference; of order.Valid. -/
import Derived.Test.YtadjpadieljjlaaOrForm
set_option linter.unusedVariables false
set_option linter.unusedSimpArgs false
namespace Go.Proofs.Ytadjpadieljjlaa
open Go.RowKit

set_option maxRecDepth 100000 in
set_option maxHeartbeats 2000000 in
theorem rCount_any (m : Nat) (hmm : m ≤ 1000000) : ∀ (o : Lfc.Ord) (v : Value) (w : World), o.size ≤ m → OrdV w o v →
    Calls Try.prog 19 #[v] w fun e w' => e = .returned (.int .i64 (o.size : Int)) ∧ Below w.heap.size w w' := by
  induction m with
  | zero => intro o v w h _; have := o.size_pos; omega
  | succ m ih0 =>
    intro o v w hm hv
    have ih := ih0 (by omega)
    clear ih0
    obtain ⟨kd, ar, ts⟩ := o
    obtain ⟨A, c, rfl, hc, hA⟩ := hv.open_
    simp only [Lfc.Ord.size] at hm
    have hlen := Lfc.Ord.sizes_len ts
    have IH := Lib.hid ih
    obtain ⟨w0, hw0⟩ : ∃ w0, w.alloc (.cells #[.int .i64 kd, .int .i64 ar, .slice A ts.length c] 28) = w0 := ⟨_, rfl⟩
    have b0 : Below w.heap.size w w0 := by rw [← hw0]; exact (Below.refl _ _).alloc (Nat.le_refl _) _
    have hq0 : w0.heap[w.heap.size]? = some (.cells #[.int .i64 kd, .int .i64 ar, .slice A ts.length c] 28 (0, 0)) := by rw [← hw0]; exact heap_alloc_new _ _
    have s0 := lt_of_block hq0
    have HQ := Lib.hid hq0
    have HA := Lib.hid (hA.below b0)
    have HB0 := Lib.hid b0
    obtain ⟨y0, y1, y2⟩ := cells3o hq0
    clear ih hA hv hq0 b0
    simp only [Lfc.Ord.size]
    go_enter Try.func19, Try.ntmps19
    go_wp2_with fail
    go_loopw [3, 4] (fun n i wr => ∃ k : Nat, k ≤ ts.length ∧ i = .int .i64 k ∧ n = .int .i64 ((Lfc.Ord.sizes (ts.take k) + 1 : Nat) : Int) ∧ Below w0.heap.size w0 wr) (fun _ i _ => ts.length - (intOf i).toNat)
    case atStart => exact ⟨0, by omega, rfl, by simp [Lfc.Ord.sizes], by first | exact Below.refl _ _ | (rw [hw0]; exact Below.refl _ _)⟩
    case round =>
      clear hw0 y0 y1 y2
      obtain ⟨k, hk, rfl, rfl, hbw⟩ := hrel
      obtain ⟨x0, x1, x2⟩ := cells3o ((hbw.block _ s0).trans HQ.out)
      have hle3 := Lfc.Ord.sizes_take_le ts k
      by_cases hlt : k < ts.length
      · obtain ⟨b, o, k1, a1, us, B, c1, rfl, hb, ht, d0, d1, d2, hcu, hB, hT⟩ := (HA.out.below hbw).at_ hlt
        have hst := Lfc.Ord.sizes_take ts k hlt
        have hle2 := Lfc.Ord.sizes_take_le ts (k + 1)
        have hmem := Lfc.Ord.sizes_mem ts ts[k] (List.getElem_mem _)
        have HS := Lib.hid hst
        clear hB ht
        generalize hZ : ts[k].size = z at *
        generalize hY : Lfc.Ord.sizes (ts.take k) = y at *
        have HZ := Lib.hid hZ
        clear hZ hst hY
        go_wp2_with fail
        refine (IH.out ts[k] _ _ (by rw [HZ.out]; omega) hT).mono ?_
        rintro e w1 ⟨rfl, hb1⟩
        rw [HZ.out]
        have hyz : y + z ≤ Lfc.Ord.sizes ts := by have := HS.out; omega
        go_wp2_with fail
        go_roundw
        case rel => exact ⟨k + 1, by omega, by go_num, by rw [HS.out]; go_num, hbw.trans (hb1.mono hbw.size)⟩
        case measure => simp [intOf]; omega
      · have hkl : k = ts.length := by omega
        go_wp2_with fail
        go_ret
        exact ⟨ret_int (by rw [hkl, List.take_length]), HB0.out.trans (hbw.mono (Nat.le_of_lt s0))⟩

set_option maxRecDepth 100000 in
set_option maxHeartbeats 2000000 in
theorem rShaped_any (m : Nat) (hmm : m ≤ 1000000) : ∀ (o : Lfc.Ord) (v : Value) (w : World), o.size ≤ m → OrdV w o v →
    Calls Try.prog 20 #[v] w fun e w' => e = .returned (.bool o.form) ∧ Below w.heap.size w w' := by
  induction m with
  | zero => intro o v w h _; have := o.size_pos; omega
  | succ m ih0 =>
    intro o v w hm hv
    have ih := ih0 (by omega)
    clear ih0
    obtain ⟨kd, ar, ts⟩ := o
    obtain ⟨A, c, rfl, hc, hA⟩ := hv.open_
    simp only [Lfc.Ord.size] at hm
    have hlen := Lfc.Ord.sizes_len ts
    have IH := Lib.hid ih
    obtain ⟨w0, hw0⟩ : ∃ w0, w.alloc (.cells #[.int .i64 kd, .int .i64 ar, .slice A ts.length c] 28) = w0 := ⟨_, rfl⟩
    have b0 : Below w.heap.size w w0 := by rw [← hw0]; exact (Below.refl _ _).alloc (Nat.le_refl _) _
    have hq0 : w0.heap[w.heap.size]? = some (.cells #[.int .i64 kd, .int .i64 ar, .slice A ts.length c] 28 (0, 0)) := by rw [← hw0]; exact heap_alloc_new _ _
    have s0 := lt_of_block hq0
    have HQ := Lib.hid hq0
    have HA := Lib.hid (hA.below b0)
    have HB0 := Lib.hid b0
    obtain ⟨y0, y1, y2⟩ := cells3o hq0
    clear ih hA hv hq0 b0
    have HS := Lib.hid (Lfc.forms_specO ts)
    have HF := Lib.hid (Lfc.forms_falseO ts)
    rw [Lfc.Ord.form]
    by_cases hk1 : kd = 1
    · subst hk1
      rw [if_pos rfl]
      by_cases hl0 : ts.length = 0
      · have hl1 : ((ts.length : Int) == 0) = true := by simp [hl0]
        have HD : Hid (decide (ts.length = 0) = true) := Lib.hid (decide_eq_true hl0)
        rw [HD.out]
        clear hl0
        go_enter Try.func20, Try.ntmps20
        go_wp2_with fail
        go_ret
        exact ⟨rfl, HB0.out⟩
      · have hl1 : ((ts.length : Int) == 0) = false := by rw [beq_eq_false_iff_ne]; omega
        have HD : Hid (decide (ts.length = 0) = false) := Lib.hid (decide_eq_false hl0)
        rw [HD.out]
        clear hl0
        go_enter Try.func20, Try.ntmps20
        go_wp2_with fail
        go_ret
        exact ⟨rfl, HB0.out⟩
    · have hk1f : (kd == 1) = false := by simpa using hk1
      rw [if_neg hk1]
      by_cases hk2 : kd = 2 ∨ kd = 3
      · rw [if_pos hk2]
        clear hk1
        have GOAL : Hid (∀ l : Bool, l = (decide (ar = 0) && decide (0 < ts.length) && Lfc.Ord.forms ts) → Ending.returned (.bool l) = Ending.returned (.bool (decide (ar = 0) && decide (0 < ts.length) && Lfc.Ord.forms ts))) := Lib.hid (fun l h => by rw [h])
        rcases hk2 with rfl | rfl
        all_goals
          go_enter Try.func20, Try.ntmps20
          go_wp2_with fail
          go_loopw [3] (fun i wr => ∃ k : Nat, k ≤ ts.length ∧ i = .int .i64 k ∧ Below w0.heap.size w0 wr ∧ Hid (∀ j (h : j < ts.length), j < k → (ts[j]).form = true)) (fun i _ => ts.length - (intOf i).toNat)
          case atStart => exact ⟨0, by omega, rfl, by first | exact Below.refl _ _ | (rw [hw0]; exact Below.refl _ _), Lib.hid fun j _ hj => by omega⟩
          case round =>
            clear hw0 y0 y1 y2
            obtain ⟨k, hk, rfl, hbw, hp⟩ := hrel
            obtain ⟨x0, x1, x2⟩ := cells3o ((hbw.block _ s0).trans HQ.out)
            by_cases hlt : k < ts.length
            · obtain ⟨b, o, k1, a1, us, B, c1, rfl, hb, ht, d0, d1, d2, hcu, hB, hT⟩ := (HA.out.below hbw).at_ hlt
              have hmem := Lfc.Ord.sizes_mem ts ts[k] (List.getElem_mem _)
              clear hB ht
              have hT2 := Lib.hid hT
              cases hq : (ts[k]).form
              · have hres := HF.out k hlt hq
                have HRES := Lib.hid hres
                have HQQ := Lib.hid hq
                clear hq hres
                go_wp2_with fail
                refine (IH.out ts[k] _ _ (by omega) hT2.out).mono ?_
                rintro e w1 ⟨rfl, hb1⟩
                rw [HQQ.out]
                go_wp2_with fail
                go_ret
                exact ⟨ret_bool (by simp [HRES.out]), HB0.out.trans ((hbw.trans (hb1.mono hbw.size)).mono (Nat.le_of_lt s0))⟩
              · have HQQ := Lib.hid hq
                clear hq
                go_wp2_with fail
                refine (IH.out ts[k] _ _ (by omega) hT2.out).mono ?_
                rintro e w1 ⟨rfl, hb1⟩
                rw [HQQ.out]
                go_wp2_with fail
                go_roundw
                case rel =>
                  refine ⟨k + 1, by omega, by go_num, hbw.trans (hb1.mono hbw.size), Lib.hid fun j h hj => ?_⟩
                  rcases Nat.lt_or_ge j k with h1 | h1
                  · exact hp.out j h h1
                  · obtain rfl : j = k := by omega
                    exact HQQ.out
                case measure => simp [intOf]; omega
            · have HRES := Lib.hid (HS.out.2 fun j h => hp.out j h (by omega))
              by_cases hl0 : 0 < ts.length
              · have hl1 : decide ((ts.length : Int) > 0) = true := by rw [decide_eq_true_eq]; omega
                have hl2 : decide ((0 : Int) < (ts.length : Int)) = true := by rw [decide_eq_true_eq]; omega
                by_cases ha0 : ar = 0
                · subst ha0
                  go_wp2_with fail
                  go_ret
                  exact ⟨ret_bool (by rw [HRES.out]), HB0.out.trans (hbw.mono (Nat.le_of_lt s0))⟩
                · have ha1 : (ar == 0) = false := by simpa using ha0
                  go_wp2_with fail
                  go_ret
                  exact ⟨ret_bool (by simp [ha0]), HB0.out.trans (hbw.mono (Nat.le_of_lt s0))⟩
              · have hl1 : decide ((ts.length : Int) > 0) = false := by rw [decide_eq_false_iff_not]; omega
                have hl2 : decide ((0 : Int) < (ts.length : Int)) = false := by rw [decide_eq_false_iff_not]; omega
                go_wp2_with fail
                go_ret
                exact ⟨ret_bool (by rw [decide_eq_false hl0]; simp), HB0.out.trans (hbw.mono (Nat.le_of_lt s0))⟩
      · rw [if_neg hk2]
        have hk2f : (kd == 2) = false := by simp; omega
        have hk3f : (kd == 3) = false := by simp; omega
        go_enter Try.func20, Try.ntmps20
        go_wp2_with fail
        go_ret
        exact ⟨rfl, HB0.out⟩

set_option maxRecDepth 100000 in
set_option maxHeartbeats 2000000 in
theorem rRanged_any (lo hi : Int) (m : Nat) (hmm : m ≤ 1000000) : ∀ (o : Lfc.Ord) (v : Value) (w : World), o.size ≤ m → OrdV w o v →
    Calls Try.prog 22 #[v, .int .i64 lo, .int .i64 hi] w fun e w' => e = .returned (.bool (o.rng lo hi)) ∧ Below w.heap.size w w' := by
  induction m with
  | zero => intro o v w h _; have := o.size_pos; omega
  | succ m ih0 =>
    intro o v w hm hv
    have ih := ih0 (by omega)
    clear ih0
    obtain ⟨kd, ar, ts⟩ := o
    obtain ⟨A, c, rfl, hc, hA⟩ := hv.open_
    simp only [Lfc.Ord.size] at hm
    have hlen := Lfc.Ord.sizes_len ts
    have IH := Lib.hid ih
    obtain ⟨w0, hw0⟩ : ∃ w0, w.alloc (.cells #[.int .i64 kd, .int .i64 ar, .slice A ts.length c] 28) = w0 := ⟨_, rfl⟩
    have b0 : Below w.heap.size w w0 := by rw [← hw0]; exact (Below.refl _ _).alloc (Nat.le_refl _) _
    have hq0 : w0.heap[w.heap.size]? = some (.cells #[.int .i64 kd, .int .i64 ar, .slice A ts.length c] 28 (0, 0)) := by rw [← hw0]; exact heap_alloc_new _ _
    have s0 := lt_of_block hq0
    have HQ := Lib.hid hq0
    have HA := Lib.hid (hA.below b0)
    have HB0 := Lib.hid b0
    obtain ⟨y0, y1, y2⟩ := cells3o hq0
    clear ih hA hv hq0 b0
    have HS := Lib.hid (Lfc.rngs_spec lo hi ts)
    have HF := Lib.hid (Lfc.rngs_false lo hi ts)
    rw [Lfc.Ord.rng]
    by_cases hk1 : kd = 1
    · subst hk1
      rw [if_pos rfl]
      go_enter Try.func22, Try.ntmps22
      go_upto_region 1 with fail
      cases h1 : decide (lo ≤ ar)
      · have h1' : decide (ar ≥ lo) = false := h1
        go_wp2_with fail
        go_ret
        exact ⟨ret_bool (by rw [h1]; rfl), HB0.out⟩
      · have h1' : decide (ar ≥ lo) = true := h1
        cases h2 : decide (ar ≤ hi)
        all_goals
          go_wp2_with fail
          go_ret
          exact ⟨ret_bool (by rw [h1, h2]; rfl), HB0.out⟩
    · have hk1f : (kd == 1) = false := by simpa using hk1
      rw [if_neg hk1]
      go_enter Try.func22, Try.ntmps22
      go_wp2_with fail
      go_loopw [7] (fun i wr => ∃ k : Nat, k ≤ ts.length ∧ i = .int .i64 k ∧ Below w0.heap.size w0 wr ∧ Hid (∀ j (h : j < ts.length), j < k → (ts[j]).rng lo hi = true)) (fun i _ => ts.length - (intOf i).toNat)
      case atStart => exact ⟨0, by omega, rfl, by first | exact Below.refl _ _ | (rw [hw0]; exact Below.refl _ _), Lib.hid fun j _ hj => by omega⟩
      case round =>
        clear hw0 y0 y1 y2
        obtain ⟨k, hk, rfl, hbw, hp⟩ := hrel
        obtain ⟨x0, x1, x2⟩ := cells3o ((hbw.block _ s0).trans HQ.out)
        by_cases hlt : k < ts.length
        · obtain ⟨b, o, k1, a1, us, B, c1, rfl, hb, ht, d0, d1, d2, hcu, hB, hT⟩ := (HA.out.below hbw).at_ hlt
          have hmem := Lfc.Ord.sizes_mem ts ts[k] (List.getElem_mem _)
          clear hB ht
          have hT2 := Lib.hid hT
          cases hq : (ts[k]).rng lo hi
          · have hres := HF.out k hlt hq
            have HRES := Lib.hid hres
            have HQQ := Lib.hid hq
            clear hq hres
            go_wp2_with fail
            refine (IH.out ts[k] _ _ (by omega) hT2.out).mono ?_
            rintro e w1 ⟨rfl, hb1⟩
            rw [HQQ.out]
            go_wp2_with fail
            go_ret
            exact ⟨ret_bool (by simp [HRES.out]), HB0.out.trans ((hbw.trans (hb1.mono hbw.size)).mono (Nat.le_of_lt s0))⟩
          · have HQQ := Lib.hid hq
            clear hq
            go_wp2_with fail
            refine (IH.out ts[k] _ _ (by omega) hT2.out).mono ?_
            rintro e w1 ⟨rfl, hb1⟩
            rw [HQQ.out]
            go_wp2_with fail
            go_roundw
            case rel =>
              refine ⟨k + 1, by omega, by go_num, hbw.trans (hb1.mono hbw.size), Lib.hid fun j h hj => ?_⟩
              rcases Nat.lt_or_ge j k with h1 | h1
              · exact hp.out j h h1
              · obtain rfl : j = k := by omega
                exact HQQ.out
            case measure => simp [intOf]; omega
        · have HRES := Lib.hid (HS.out.2 fun j h => hp.out j h (by omega))
          go_wp2_with fail
          go_ret
          exact ⟨ret_bool (by rw [HRES.out]), HB0.out.trans (hbw.mono (Nat.le_of_lt s0))⟩

end Go.Proofs.Ytadjpadieljjlaa
