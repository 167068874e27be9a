/- Contracts of Valid of orders: the program's and the reference's; of Params. -/
import Derived.Test.YtadjpadieljjlaaOrShape
import Derived.Test.YtadjpadieljjlaaRawMem
set_option linter.unusedVariables false
set_option linter.unusedSimpArgs false
namespace Go.Proofs.Ytadjpadieljjlaa
open Go.RowKit

set_option maxRecDepth 100000 in
set_option maxHeartbeats 2000000 in
theorem oValid_any (o : Lfc.Ord) (v : Value) (n : Int) (w : World) (hsz : o.size ≤ 1000000) (hn0 : -1000 ≤ n) (hn1 : n ≤ 1000) (hv : OrdV w o v) :
    Calls Try.prog 9 #[v, .int .i64 n] w fun e w' => e = .returned (.int .i64 (o.vld n)) ∧ Below w.heap.size w w' := by
  obtain ⟨A, c, kd, ar, ts, hT, rfl, hc, hA⟩ : ∃ A c kd ar ts, o = .node kd ar ts ∧ v = .agg #[.int .i64 kd, .int .i64 ar, .slice A ts.length c] ∧ ts.length ≤ c ∧ OrdsAt w A ts := by
    obtain ⟨kd, ar, ts⟩ := o
    obtain ⟨A, c, rfl, hc, hA⟩ := hv.open_
    exact ⟨A, c, kd, ar, ts, rfl, rfl, hc, hA⟩
  obtain ⟨w1, hw1⟩ : ∃ w1, w.alloc (.cells #[.int .i64 kd, .int .i64 ar, .slice A ts.length c] 28) = w1 := ⟨_, rfl⟩
  have b01 : Below w.heap.size w w1 := by rw [← hw1]; exact (Below.refl _ _).alloc (Nat.le_refl _) _
  have q1 : w1.heap[w.heap.size]? = some (.cells #[.int .i64 kd, .int .i64 ar, .slice A ts.length c] 28 (0, 0)) := by rw [← hw1]; exact heap_alloc_new _ _
  obtain ⟨y0, y1, y2⟩ := cells3o q1
  have C1 := Lib.hid (oSmall_any o _ w1 hsz (hv.below b01))
  have C2 := Lib.hid (fun W (hW : Below w1.heap.size w1 W) => oArgs_upto 0 (n - 1) _ hsz o _ W (Nat.le_refl _) ((hv.below b01).below hW))
  have HQ := Lib.hid q1
  have HR : Hid (o.vld n = if 64 < o.size ∨ o.form = false then 92 else if o.rng 0 (n - 1) = false then 5 else 0) := Lib.hid rfl
  have hw2 : IntKind.i64.wrap (n - 1) = n - 1 := IntWalk.i64_in _ (by omega)
  have s01 := b01.size
  rw [HR.out]
  have HSM : Hid ((64 < o.size ∨ o.form = false) ↔ (decide (o.size ≤ 64) && o.form) = false) := Lib.hid (by
    rw [Bool.and_eq_false_iff, decide_eq_false_iff_not]
    constructor
    · rintro (h | h)
      · exact .inl (by omega)
      · exact .inr h
    · rintro (h | h)
      · exact .inl (by omega)
      · exact .inr h)
  clear hT hA hv q1 HR
  generalize (decide (o.size ≤ 64) && o.form) = f at *
  cases f
  · have HS2 := Lib.hid (HSM.out.2 rfl)
    rw [if_pos HS2.out]
    clear HSM
    go_enter Try.func9, Try.ntmps9
    go_wp2_with fail
    refine C1.out.mono ?_
    rintro e w2 ⟨rfl, hb2⟩
    go_wp2_with fail
    go_ret
    exact ⟨rfl, b01.trans (hb2.mono s01)⟩
  · have HS2 : Hid (¬ (64 < o.size ∨ o.form = false)) := Lib.hid (fun h => by have := HSM.out.1 h; cases this)
    rw [if_neg HS2.out]
    clear HSM
    generalize o.rng 0 (n - 1) = r at *
    go_enter Try.func9, Try.ntmps9
    go_wp2_with fail
    refine C1.out.mono ?_
    rintro e w2 ⟨rfl, hb2⟩
    obtain ⟨x0, x1, x2⟩ := cells3o ((hb2.block _ (lt_of_block HQ.out)).trans HQ.out)
    go_wp2_with fail
    refine (C2.out _ hb2).mono ?_
    rintro e w3 ⟨rfl, hb3⟩
    cases r
    all_goals
      go_wp2_with fail
      go_ret
      exact ⟨by simp, b01.trans ((hb2.trans (hb3.mono hb2.size)).mono s01)⟩

set_option maxRecDepth 100000 in
set_option maxHeartbeats 2000000 in
theorem rValid_any (o : Lfc.Ord) (v : Value) (n : Int) (w : World) (hsz : o.size ≤ 1000000) (hn0 : -1000 ≤ n) (hn1 : n ≤ 1000) (hv : OrdV w o v) :
    Calls Try.prog 10 #[v, .int .i64 n] w fun e w' => e = .returned (.int .i64 (o.vld n)) ∧ Below w.heap.size w w' := by
  obtain ⟨A, c, kd, ar, ts, hT, rfl, hc, hA⟩ : ∃ A c kd ar ts, o = .node kd ar ts ∧ v = .agg #[.int .i64 kd, .int .i64 ar, .slice A ts.length c] ∧ ts.length ≤ c ∧ OrdsAt w A ts := by
    obtain ⟨kd, ar, ts⟩ := o
    obtain ⟨A, c, rfl, hc, hA⟩ := hv.open_
    exact ⟨A, c, kd, ar, ts, rfl, rfl, hc, hA⟩
  obtain ⟨w1, hw1⟩ : ∃ w1, w.alloc (.cells #[.int .i64 kd, .int .i64 ar, .slice A ts.length c] 28) = w1 := ⟨_, rfl⟩
  have b01 : Below w.heap.size w w1 := by rw [← hw1]; exact (Below.refl _ _).alloc (Nat.le_refl _) _
  have q1 : w1.heap[w.heap.size]? = some (.cells #[.int .i64 kd, .int .i64 ar, .slice A ts.length c] 28 (0, 0)) := by rw [← hw1]; exact heap_alloc_new _ _
  obtain ⟨y0, y1, y2⟩ := cells3o q1
  have C1 := Lib.hid (rCount_any _ hsz o _ w1 (Nat.le_refl _) (hv.below b01))
  have C2 := Lib.hid (fun W (hW : Below w1.heap.size w1 W) => rShaped_any _ hsz o _ W (Nat.le_refl _) ((hv.below b01).below hW))
  have C3 := Lib.hid (fun W (hW : Below w1.heap.size w1 W) => rRanged_any 0 (n - 1) _ hsz o _ W (Nat.le_refl _) ((hv.below b01).below hW))
  have HQ := Lib.hid q1
  have HR : Hid (o.vld n = if 64 < o.size ∨ o.form = false then 92 else if o.rng 0 (n - 1) = false then 5 else 0) := Lib.hid rfl
  have hw2 : IntKind.i64.wrap (n - 1) = n - 1 := IntWalk.i64_in _ (by omega)
  have s01 := b01.size
  rw [HR.out]
  clear hT hA hv q1 HR
  generalize o.form = f at *
  generalize o.rng 0 (n - 1) = r at *
  by_cases hbig : 64 < o.size
  · have hd1 : decide ((o.size : Int) > 64) = true := by rw [decide_eq_true_eq]; omega
    have hd2 : decide ((64 : Int) < (o.size : Int)) = true := by rw [decide_eq_true_eq]; omega
    rw [if_pos (.inl hbig)]
    go_enter Try.func10, Try.ntmps10
    go_wp2_with fail
    refine C1.out.mono ?_
    rintro e w2 ⟨rfl, hb2⟩
    go_wp2_with fail
    go_ret
    exact ⟨rfl, b01.trans (hb2.mono s01)⟩
  · have hd1 : decide ((o.size : Int) > 64) = false := by rw [decide_eq_false_iff_not]; omega
    have hd2 : decide ((64 : Int) < (o.size : Int)) = false := by rw [decide_eq_false_iff_not]; omega
    cases f
    · rw [if_pos (.inr rfl)]
      go_enter Try.func10, Try.ntmps10
      go_wp2_with fail
      refine C1.out.mono ?_
      rintro e w2 ⟨rfl, hb2⟩
      obtain ⟨x0, x1, x2⟩ := cells3o ((hb2.block _ (lt_of_block HQ.out)).trans HQ.out)
      go_wp2_with fail
      refine (C2.out _ hb2).mono ?_
      rintro e w3 ⟨rfl, hb3⟩
      go_wp2_with fail
      go_ret
      exact ⟨rfl, b01.trans ((hb2.trans (hb3.mono hb2.size)).mono s01)⟩
    · have HNB := Lib.hid hbig
      rw [if_neg (by rintro (h | h); exact hbig h; cases h)]
      go_enter Try.func10, Try.ntmps10
      go_wp2_with fail
      refine C1.out.mono ?_
      rintro e w2 ⟨rfl, hb2⟩
      obtain ⟨x0, x1, x2⟩ := cells3o ((hb2.block _ (lt_of_block HQ.out)).trans HQ.out)
      go_wp2_with fail
      refine (C2.out _ hb2).mono ?_
      rintro e w3 ⟨rfl, hb3'⟩
      have hb3 := hb2.trans (hb3'.mono hb2.size)
      obtain ⟨x0, x1, x2⟩ := cells3o ((hb3.block _ (lt_of_block HQ.out)).trans HQ.out)
      go_wp2_with fail
      refine (C3.out _ hb3).mono ?_
      rintro e w4 ⟨rfl, hb4⟩
      cases r
      all_goals
        go_wp2_with fail
        go_ret
        exact ⟨by simp, b01.trans ((hb3.trans (hb4.mono hb3.size)).mono s01)⟩
end Go.Proofs.Ytadjpadieljjlaa
