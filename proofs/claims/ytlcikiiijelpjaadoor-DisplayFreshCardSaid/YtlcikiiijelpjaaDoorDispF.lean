/- The contracts of display.Fresh, and of the reference's Digits and Fresh. -/
import Derived.Test.YtlcikiiijelpjaaDoorNames
import Derived.Test.YtlcikiiijelpjaaDoorRawNames
import Derived.Test.YtlcikiiijelpjaaDoorDispP
set_option linter.unusedVariables false
set_option linter.unusedSimpArgs false
namespace Lfc
theorem hintOf_no {h : List UInt8} (hi : isName h = false) : hintOf h = [120] := by simp [hintOf, hi]
theorem hintOf_long {h : List UInt8} (hl : 50 < h.length) : hintOf h = [120] := by unfold hintOf; rw [if_neg]; simp; omega
theorem hintOf_ok {h : List UInt8} (hi : isName h = true) (hl : h.length ≤ 50) : hintOf h = h := by simp [hintOf, hi, hl]
end Lfc
namespace Go.Proofs.YtlcikiiijelpjaaDoor
open Go.RowKit

theorem scat (a b : List UInt8) : Value.string (⟨a.toArray⟩ ++ ⟨b.toArray⟩) = S (a ++ b) := congrArg Value.string (by apply ByteArray.ext; simp [ByteArray.data_append])

set_option maxRecDepth 100000 in
set_option maxHeartbeats 1000000 in
theorem dFresh_any (h : List UInt8) (l : List (List UInt8)) (A : Option Addr) (c : Nat) (w : World) (hh : h.length ≤ 1000000) (hl : l.length ≤ 60) (hA : NamesAt w A l) :
    Calls Tryd.prog 6 #[S h, .slice A l.length c] w fun e w' => (∃ s, e = .returned (S s) ∧ Lfc.FirstFree (Lfc.hintOf h) l s) ∧ w = w' := by
  have CI := Lib.hid (isName_any h w (by omega))
  have CC := Lib.hid (fun x => contains_any l x A c w (by omega) hA)
  have IT := Lib.hid (fun (k : Nat) (hk : k + 1 < 100) => show Calls Tryd.prog 13 #[.int .i64 ((k : Int) + 1)] w fun e w' => e = .returned (S (Lib.decDigits (k + 1))) ∧ w' = w from Tryd.strconv_Itoa_small (k + 1) hk w)
  clear hA
  cases hq : Lfc.isName h
  · rw [hq] at CI
    have HB := Lib.hid (Lfc.hintOf_no hq)
    clear hq
    rw [HB.out]
    go_enter Tryd.func6, Tryd.ntmps6
    go_wp2_with fail
    refine CI.out.mono ?_
    rintro e w1 ⟨rfl, rfl⟩
    go_wp2_with fail
    go_loopw [5, 6] (fun nm i wr => ∃ k : Nat, nm = S (Lfc.nmN [120] k) ∧ i = .int .i64 ((k : Int) + 1) ∧ k ≤ l.length ∧ wr = w ∧ Hid (∀ j, j < k → Lfc.nmN [120] j ∈ l)) (fun _ i _ => l.length + 1 - (intOf i).toNat)
    case atStart => exact ⟨0, rfl, rfl, Nat.zero_le _, rfl, Lib.hid (fun j hj => by omega)⟩
    case round =>
      obtain ⟨k, rfl, rfl, hk, rfl, HT⟩ := hrel
      go_wp2_with fail
      refine (CC.out _).mono ?_
      rintro e w2 ⟨rfl, rfl⟩
      cases hm : decide (Lfc.nmN [120] k ∈ l)
      · have HM := Lib.hid (of_decide_eq_false hm)
        clear hm
        go_wp2_with fail
        go_ret
        exact ⟨⟨_, rfl, k, rfl, HM.out, HT.out⟩, rfl⟩
      · have HT2 : Hid (∀ j, j < k + 1 → Lfc.nmN [120] j ∈ l) := Lib.hid (fun j hj => by
          rcases Nat.lt_or_ge j k with h1 | h1
          · exact HT.out j h1
          · obtain rfl : j = k := by omega
            exact of_decide_eq_true hm)
        have hk2 := Lfc.taken_le (by omega) HT2.out
        have hcat : ¬ 9223372036854775807 < 1 + (Lib.decDigits (k + 1)).length := by rw [Lfc.dec_len (k + 1) (by omega)]; split <;> omega
        clear hm
        go_wp2_with fail
        refine (IT.out k (by omega)).mono ?_
        rintro e w3 ⟨rfl, hw3⟩
        obtain rfl := hw3.symm
        clear hw3
        go_wp2_with fail
        go_roundw
        case rel => exact ⟨k + 1, scat _ _, by go_num, by omega, trivial, HT2⟩
        case measure => simp [intOf]; omega
  · rw [hq] at CI
    by_cases h50 : 50 < h.length
    · have HB := Lib.hid (Lfc.hintOf_long h50)
      have h5 : (h.length : Int) > 50 := by omega
      have h6 : (50 : Int) < (h.length : Int) := by omega
      clear hq h50
      rw [HB.out]
      go_enter Tryd.func6, Tryd.ntmps6
      go_wp2_with fail
      refine CI.out.mono ?_
      rintro e w1 ⟨rfl, rfl⟩
      go_wp2_with fail
      go_loopw [5, 6] (fun nm i wr => ∃ k : Nat, nm = S (Lfc.nmN [120] k) ∧ i = .int .i64 ((k : Int) + 1) ∧ k ≤ l.length ∧ wr = w ∧ Hid (∀ j, j < k → Lfc.nmN [120] j ∈ l)) (fun _ i _ => l.length + 1 - (intOf i).toNat)
      case atStart => exact ⟨0, rfl, rfl, Nat.zero_le _, rfl, Lib.hid (fun j hj => by omega)⟩
      case round =>
        obtain ⟨k, rfl, rfl, hk, rfl, HT⟩ := hrel
        go_wp2_with fail
        refine (CC.out _).mono ?_
        rintro e w2 ⟨rfl, rfl⟩
        cases hm : decide (Lfc.nmN [120] k ∈ l)
        · have HM := Lib.hid (of_decide_eq_false hm)
          clear hm
          go_wp2_with fail
          go_ret
          exact ⟨⟨_, rfl, k, rfl, HM.out, HT.out⟩, rfl⟩
        · have HT2 : Hid (∀ j, j < k + 1 → Lfc.nmN [120] j ∈ l) := Lib.hid (fun j hj => by
            rcases Nat.lt_or_ge j k with h1 | h1
            · exact HT.out j h1
            · obtain rfl : j = k := by omega
              exact of_decide_eq_true hm)
          have hk2 := Lfc.taken_le (by omega) HT2.out
          have hcat : ¬ 9223372036854775807 < 1 + (Lib.decDigits (k + 1)).length := by rw [Lfc.dec_len (k + 1) (by omega)]; split <;> omega
          clear hm
          go_wp2_with fail
          refine (IT.out k (by omega)).mono ?_
          rintro e w3 ⟨rfl, hw3⟩
          obtain rfl := hw3.symm
          clear hw3
          go_wp2_with fail
          go_roundw
          case rel => exact ⟨k + 1, scat _ _, by go_num, by omega, trivial, HT2⟩
          case measure => simp [intOf]; omega
    · have HB := Lib.hid (Lfc.hintOf_ok hq (by omega))
      have h5 : ¬ (h.length : Int) > 50 := by omega
      have h6 : ¬ (50 : Int) < (h.length : Int) := by omega
      clear hq h50
      rw [HB.out]
      go_enter Tryd.func6, Tryd.ntmps6
      go_wp2_with fail
      refine CI.out.mono ?_
      rintro e w1 ⟨rfl, rfl⟩
      go_wp2_with fail
      go_loopw [5, 6] (fun nm i wr => ∃ k : Nat, nm = S (Lfc.nmN h k) ∧ i = .int .i64 ((k : Int) + 1) ∧ k ≤ l.length ∧ wr = w ∧ Hid (∀ j, j < k → Lfc.nmN h j ∈ l)) (fun _ i _ => l.length + 1 - (intOf i).toNat)
      case atStart => exact ⟨0, rfl, rfl, Nat.zero_le _, rfl, Lib.hid (fun j hj => by omega)⟩
      case round =>
        obtain ⟨k, rfl, rfl, hk, rfl, HT⟩ := hrel
        go_wp2_with fail
        refine (CC.out _).mono ?_
        rintro e w2 ⟨rfl, rfl⟩
        cases hm : decide (Lfc.nmN h k ∈ l)
        · have HM := Lib.hid (of_decide_eq_false hm)
          clear hm
          go_wp2_with fail
          go_ret
          exact ⟨⟨_, rfl, k, rfl, HM.out, HT.out⟩, rfl⟩
        · have HT2 : Hid (∀ j, j < k + 1 → Lfc.nmN h j ∈ l) := Lib.hid (fun j hj => by
            rcases Nat.lt_or_ge j k with h1 | h1
            · exact HT.out j h1
            · obtain rfl : j = k := by omega
              exact of_decide_eq_true hm)
          have hk2 := Lfc.taken_le (by omega) HT2.out
          have hcat : ¬ 9223372036854775807 < h.length + (Lib.decDigits (k + 1)).length := by rw [Lfc.dec_len (k + 1) (by omega)]; split <;> omega
          clear hm
          go_wp2_with fail
          refine (IT.out k (by omega)).mono ?_
          rintro e w3 ⟨rfl, hw3⟩
          obtain rfl := hw3.symm
          clear hw3
          go_wp2_with fail
          go_roundw
          case rel => exact ⟨k + 1, scat _ _, by go_num, by omega, trivial, HT2⟩
          case measure => simp [intOf]; omega
end Go.Proofs.YtlcikiiijelpjaaDoor
