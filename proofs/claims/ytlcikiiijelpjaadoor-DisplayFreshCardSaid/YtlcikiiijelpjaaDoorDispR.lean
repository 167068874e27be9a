/- The contract of the reference's Fresh. -/
import Derived.Test.YtlcikiiijelpjaaDoorDispD
set_option linter.unusedVariables false
set_option linter.unusedSimpArgs false
namespace Go.Proofs.YtlcikiiijelpjaaDoor
open Go.RowKit

set_option maxRecDepth 100000 in
set_option maxHeartbeats 1000000 in
theorem rFresh_any (h : List UInt8) (l : List (List UInt8)) (A : Option Addr) (c : Nat) (w : World) (hh : h.length ≤ 1000000) (hl : l.length ≤ 60) (hA : NamesAt w A l) :
    Calls Tryd.prog 7 #[S h, .slice A l.length c] w fun e w' => (∃ s, e = .returned (S s) ∧ Lfc.FirstFree (Lfc.hintOf h) l s) ∧ Below w.heap.size w w' := by
  have CI := Lib.hid (rIsName_any h w (by omega))
  have CC := Lib.hid (fun x W (hb : Below w.heap.size w W) => rIn_any l x A c W (by omega) (hA.below hb))
  have DG := Lib.hid (fun (k : Nat) (hk : k + 1 < 100) W => show Calls Tryd.prog 15 #[.int .i64 ((k : Int) + 1)] W fun e w' => e = .returned (S (Lib.decDigits (k + 1))) ∧ Below W.heap.size W w' from digits_any (k + 1) W hk)
  clear hA
  cases hq : Lfc.isName h
  · rw [hq] at CI
    have HB := Lib.hid (Lfc.hintOf_no hq)
    clear hq
    rw [HB.out]
    go_enter Tryd.func7, Tryd.ntmps7
    go_wp2_with fail
    refine CI.out.mono ?_
    rintro e w1 ⟨rfl, hw1⟩
    obtain rfl := hw1
    go_wp2_with fail
    refine (CC.out [120] _ (Below.refl _ _)).mono ?_
    rintro e w2 ⟨rfl, hw2⟩
    obtain rfl := hw2
    cases hm : decide ([120] ∈ l)
    · have HM := Lib.hid (of_decide_eq_false hm)
      clear hm
      go_wp2_with fail
      go_ret
      exact ⟨⟨_, rfl, 0, rfl, HM.out, fun j hj => by omega⟩, Below.refl _ _⟩
    · have HT0 : Hid (∀ j, j < 0 + 1 → Lfc.nmN [120] j ∈ l) := Lib.hid (fun j hj => by
        obtain rfl : j = 0 := by omega
        exact of_decide_eq_true hm)
      clear hm
      go_wp2_with fail
      go_loopw [6, 7] (fun i sv wr => ∃ k : Nat, i = .int .i64 ((k : Int) + 1) ∧ k ≤ l.length ∧ Hid (Below w.heap.size w wr) ∧ Hid (∀ j, j < k + 1 → Lfc.nmN [120] j ∈ l)) (fun i _ _ => l.length + 1 - (intOf i).toNat)
      case atStart => exact ⟨0, rfl, Nat.zero_le _, Lib.hid (Below.refl _ _), HT0⟩
      case round =>
        obtain ⟨k, rfl, hk, HB1, HT⟩ := hrel
        have hk2 := Lfc.taken_le (by omega) HT.out
        have hle : (k : Int) + 1 ≤ (l.length : Int) := by omega
        have hcat : ¬ 9223372036854775807 < 1 + (Lib.decDigits (k + 1)).length := by rw [Lfc.dec_len (k + 1) (by omega)]; split <;> omega
        have happ : (⟨#[120]⟩ : ByteArray) ++ ⟨(Lib.decDigits (k + 1)).toArray⟩ = ⟨([120] ++ Lib.decDigits (k + 1)).toArray⟩ := by apply ByteArray.ext; simp [ByteArray.data_append]
        go_wp2_with fail
        refine (DG.out k (by omega) _).mono ?_
        rintro e w3 ⟨rfl, b3⟩
        have HB3 := Lib.hid (HB1.out.trans (b3.mono HB1.out.size))
        clear b3
        go_wp2_with fail
        refine (CC.out (Lfc.nmN [120] (k + 1)) _ HB3.out).mono ?_
        rintro e w4 ⟨rfl, hw4⟩
        obtain rfl := hw4
        cases hm : decide (Lfc.nmN [120] (k + 1) ∈ l)
        · have HM := Lib.hid (of_decide_eq_false hm)
          clear hm
          go_wp2_with fail
          go_ret
          exact ⟨⟨_, rfl, k + 1, rfl, HM.out, HT.out⟩, HB3.out⟩
        · have HT2 : Hid (∀ j, j < k + 1 + 1 → Lfc.nmN [120] j ∈ l) := Lib.hid (fun j hj => by
            rcases Nat.lt_or_ge j (k + 1) with h1 | h1
            · exact HT.out j h1
            · obtain rfl : j = k + 1 := by omega
              exact of_decide_eq_true hm)
          clear hm
          go_wp2_with fail
          go_roundw
          case rel => exact ⟨k + 1, by go_num, by omega, HB3, HT2⟩
          case measure => simp [intOf]; omega
  · rw [hq] at CI
    by_cases h50 : 50 < h.length
    · have HB := Lib.hid (Lfc.hintOf_long h50)
      have h5 : ¬ (h.length : Int) ≤ 50 := by omega
      have h6 : (50 : Int) < (h.length : Int) := by omega
      clear hq h50
      rw [HB.out]
      go_enter Tryd.func7, Tryd.ntmps7
      go_wp2_with fail
      refine CI.out.mono ?_
      rintro e w1 ⟨rfl, hw1⟩
      obtain rfl := hw1
      go_wp2_with fail
      refine (CC.out [120] _ (Below.refl _ _)).mono ?_
      rintro e w2 ⟨rfl, hw2⟩
      obtain rfl := hw2
      cases hm : decide ([120] ∈ l)
      · have HM := Lib.hid (of_decide_eq_false hm)
        clear hm
        go_wp2_with fail
        go_ret
        exact ⟨⟨_, rfl, 0, rfl, HM.out, fun j hj => by omega⟩, Below.refl _ _⟩
      · have HT0 : Hid (∀ j, j < 0 + 1 → Lfc.nmN [120] j ∈ l) := Lib.hid (fun j hj => by
          obtain rfl : j = 0 := by omega
          exact of_decide_eq_true hm)
        clear hm
        go_wp2_with fail
        go_loopw [6, 7] (fun i sv wr => ∃ k : Nat, i = .int .i64 ((k : Int) + 1) ∧ k ≤ l.length ∧ Hid (Below w.heap.size w wr) ∧ Hid (∀ j, j < k + 1 → Lfc.nmN [120] j ∈ l)) (fun i _ _ => l.length + 1 - (intOf i).toNat)
        case atStart => exact ⟨0, rfl, Nat.zero_le _, Lib.hid (Below.refl _ _), HT0⟩
        case round =>
          obtain ⟨k, rfl, hk, HB1, HT⟩ := hrel
          have hk2 := Lfc.taken_le (by omega) HT.out
          have hle : (k : Int) + 1 ≤ (l.length : Int) := by omega
          have hcat : ¬ 9223372036854775807 < 1 + (Lib.decDigits (k + 1)).length := by rw [Lfc.dec_len (k + 1) (by omega)]; split <;> omega
          have happ : (⟨#[120]⟩ : ByteArray) ++ ⟨(Lib.decDigits (k + 1)).toArray⟩ = ⟨([120] ++ Lib.decDigits (k + 1)).toArray⟩ := by apply ByteArray.ext; simp [ByteArray.data_append]
          go_wp2_with fail
          refine (DG.out k (by omega) _).mono ?_
          rintro e w3 ⟨rfl, b3⟩
          have HB3 := Lib.hid (HB1.out.trans (b3.mono HB1.out.size))
          clear b3
          go_wp2_with fail
          refine (CC.out (Lfc.nmN [120] (k + 1)) _ HB3.out).mono ?_
          rintro e w4 ⟨rfl, hw4⟩
          obtain rfl := hw4
          cases hm : decide (Lfc.nmN [120] (k + 1) ∈ l)
          · have HM := Lib.hid (of_decide_eq_false hm)
            clear hm
            go_wp2_with fail
            go_ret
            exact ⟨⟨_, rfl, k + 1, rfl, HM.out, HT.out⟩, HB3.out⟩
          · have HT2 : Hid (∀ j, j < k + 1 + 1 → Lfc.nmN [120] j ∈ l) := Lib.hid (fun j hj => by
              rcases Nat.lt_or_ge j (k + 1) with h1 | h1
              · exact HT.out j h1
              · obtain rfl : j = k + 1 := by omega
                exact of_decide_eq_true hm)
            clear hm
            go_wp2_with fail
            go_roundw
            case rel => exact ⟨k + 1, by go_num, by omega, HB3, HT2⟩
            case measure => simp [intOf]; omega
    · have HB := Lib.hid (Lfc.hintOf_ok hq (by omega))
      have h5 : (h.length : Int) ≤ 50 := by omega
      clear hq h50
      rw [HB.out]
      go_enter Tryd.func7, Tryd.ntmps7
      go_wp2_with fail
      refine CI.out.mono ?_
      rintro e w1 ⟨rfl, hw1⟩
      obtain rfl := hw1
      go_wp2_with fail
      refine (CC.out h _ (Below.refl _ _)).mono ?_
      rintro e w2 ⟨rfl, hw2⟩
      obtain rfl := hw2
      cases hm : decide (h ∈ l)
      · have HM := Lib.hid (of_decide_eq_false hm)
        clear hm
        go_wp2_with fail
        go_ret
        exact ⟨⟨_, rfl, 0, rfl, HM.out, fun j hj => by omega⟩, Below.refl _ _⟩
      · have HT0 : Hid (∀ j, j < 0 + 1 → Lfc.nmN h j ∈ l) := Lib.hid (fun j hj => by
          obtain rfl : j = 0 := by omega
          exact of_decide_eq_true hm)
        clear hm
        go_wp2_with fail
        go_loopw [6, 7] (fun i sv wr => ∃ k : Nat, i = .int .i64 ((k : Int) + 1) ∧ k ≤ l.length ∧ Hid (Below w.heap.size w wr) ∧ Hid (∀ j, j < k + 1 → Lfc.nmN h j ∈ l)) (fun i _ _ => l.length + 1 - (intOf i).toNat)
        case atStart => exact ⟨0, rfl, Nat.zero_le _, Lib.hid (Below.refl _ _), HT0⟩
        case round =>
          obtain ⟨k, rfl, hk, HB1, HT⟩ := hrel
          have hk2 := Lfc.taken_le (by omega) HT.out
          have hle : (k : Int) + 1 ≤ (l.length : Int) := by omega
          have hcat : ¬ 9223372036854775807 < h.length + (Lib.decDigits (k + 1)).length := by rw [Lfc.dec_len (k + 1) (by omega)]; split <;> omega
          have happ : (⟨h.toArray⟩ : ByteArray) ++ ⟨(Lib.decDigits (k + 1)).toArray⟩ = ⟨(h ++ Lib.decDigits (k + 1)).toArray⟩ := by apply ByteArray.ext; simp [ByteArray.data_append]
          go_wp2_with fail
          refine (DG.out k (by omega) _).mono ?_
          rintro e w3 ⟨rfl, b3⟩
          have HB3 := Lib.hid (HB1.out.trans (b3.mono HB1.out.size))
          clear b3
          go_wp2_with fail
          refine (CC.out (Lfc.nmN h (k + 1)) _ HB3.out).mono ?_
          rintro e w4 ⟨rfl, hw4⟩
          obtain rfl := hw4
          cases hm : decide (Lfc.nmN h (k + 1) ∈ l)
          · have HM := Lib.hid (of_decide_eq_false hm)
            clear hm
            go_wp2_with fail
            go_ret
            exact ⟨⟨_, rfl, k + 1, rfl, HM.out, HT.out⟩, HB3.out⟩
          · have HT2 : Hid (∀ j, j < k + 1 + 1 → Lfc.nmN h j ∈ l) := Lib.hid (fun j hj => by
              rcases Nat.lt_or_ge j (k + 1) with h1 | h1
              · exact HT.out j h1
              · obtain rfl : j = k + 1 := by omega
                exact of_decide_eq_true hm)
            clear hm
            go_wp2_with fail
            go_roundw
            case rel => exact ⟨k + 1, by go_num, by omega, HB3, HT2⟩
            case measure => simp [intOf]; omega
end Go.Proofs.YtlcikiiijelpjaaDoor
