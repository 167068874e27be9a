/- Slices of names: slices.Contains, and the reference's In. -/
import Derived.Test.YtlcikiiijelpjaaDoorLeaf
set_option linter.unusedVariables false
set_option linter.unusedSimpArgs false
namespace Go.Proofs.YtlcikiiijelpjaaDoor
open Go.RowKit

/-- A slice of names. -/
def NamesAt (w : World) (A : Option Addr) (l : List (List UInt8)) : Prop := 0 < l.length → ∃ b o, A = some ⟨b, o, none⟩ ∧ b < w.heap.size ∧ ∀ k (h : k < l.length), w.cell? ⟨b, o + k, none⟩ = some (S l[k])
theorem NamesAt.below {w w' : World} {A : Option Addr} {l : List (List UInt8)} (h : NamesAt w A l) (hb : Below w.heap.size w w') : NamesAt w' A l := fun hne => by
  obtain ⟨b, o, hA, hlt, h⟩ := h hne
  exact ⟨b, o, hA, Nat.lt_of_lt_of_le hlt hb.size, fun k hk => (hb.cell (p := ⟨b, o + k, none⟩) hlt).trans (h k hk)⟩
theorem namesAt_nil (w : World) (A : Option Addr) : NamesAt w A [] := fun h => absurd h (by simp)

theorem mem_at {l : List (List UInt8)} {x : List UInt8} (k : Nat) (h : k < l.length) (e : x = l[k]) : decide (x ∈ l) = true := by
  subst e; simp
theorem mem_none {l : List (List UInt8)} {x : List UInt8} (h : ∀ k (h : k < l.length), x ≠ l[k]) : decide (x ∈ l) = false := by
  simp only [decide_eq_false_iff_not, List.mem_iff_getElem, not_exists]
  exact fun k hk e => h k hk e.symm

set_option maxRecDepth 100000 in
set_option maxHeartbeats 1000000 in
theorem index_any (l : List (List UInt8)) (x : List UInt8) (A : Option Addr) (c : Nat) (w : World) (hl : l.length ≤ 1000000000) (h : NamesAt w A l) :
    Calls Tryd.prog 24 #[.slice A l.length c, S x] w fun e w' => ∃ i : Int, e = .returned (.int .i64 i) ∧ decide (i ≥ 0) = decide (x ∈ l) ∧ w = w' := by
  have HA := Lib.hid h
  clear h
  go_enter Tryd.func24, Tryd.ntmps24
  go_wp2_with fail
  go_loop [8] (fun i => ∃ k : Nat, k ≤ l.length ∧ i = .int .i64 k ∧ Hid (∀ j (h : j < l.length), j < k → x ≠ l[j])) (fun i => l.length - (intOf i).toNat)
  case atStart => exact ⟨0, by omega, rfl, Lib.hid fun j _ hj => by omega⟩
  case round =>
    obtain ⟨k, hk, rfl, hp⟩ := hrel
    by_cases hlt : k < l.length
    · obtain ⟨b, o, rfl, hb, hcells⟩ := HA.out (by omega)
      have hc := hcells k hlt
      clear hcells
      obtain ⟨q, g1, d1⟩ : ∃ q, (x == l[k]) = q ∧ decide (x = l[k]) = q := ⟨_, rfl, by rw [Bool.eq_iff_iff]; simp⟩
      cases q
      · have HD := Lib.hid (of_decide_eq_false d1)
        clear d1
        go_wp2_with fail
        go_round
        case rel =>
          refine ⟨k + 1, by omega, by go_num, Lib.hid fun j h hj => ?_⟩
          rcases Nat.lt_or_ge j k with h1 | h1
          · exact hp.out j h h1
          · obtain rfl : j = k := by omega
            exact HD.out
        case measure => simp [intOf]; omega
      · have HD := Lib.hid (mem_at k hlt (of_decide_eq_true d1))
        clear d1
        go_wp2_with fail
        go_ret
        exact ⟨k, rfl, ⟨fun _ => of_decide_eq_true HD.out, fun _ => Int.natCast_nonneg k⟩, rfl⟩
    · have HD := Lib.hid (mem_none fun j h => hp.out j h (by omega))
      go_wp2_with fail
      go_ret
      exact ⟨-1, rfl, ⟨fun h => absurd h (by decide), fun h => absurd h (of_decide_eq_false HD.out)⟩, rfl⟩

set_option maxRecDepth 100000 in
set_option maxHeartbeats 1000000 in
theorem contains_any (l : List (List UInt8)) (x : List UInt8) (A : Option Addr) (c : Nat) (w : World) (hl : l.length ≤ 1000000000) (h : NamesAt w A l) :
    Calls Tryd.prog 12 #[.slice A l.length c, S x] w fun e w' => e = .returned (.bool (decide (x ∈ l))) ∧ w = w' := by
  have IH := Lib.hid (index_any l x A c w hl h)
  clear h
  go_enter Tryd.func12, Tryd.ntmps12
  go_wp2_with fail
  refine IH.out.mono ?_
  rintro e w1 ⟨i, rfl, hi, rfl⟩
  have HI := Lib.hid hi
  clear hi
  go_wp2_with fail
  go_ret
  exact ⟨ret_bool HI.out, rfl⟩

set_option maxRecDepth 100000 in
set_option maxHeartbeats 1000000 in
theorem rIn_any (l : List (List UInt8)) (x : List UInt8) (A : Option Addr) (c : Nat) (w : World) (hl : l.length ≤ 1000000000) (h : NamesAt w A l) :
    Calls Tryd.prog 8 #[.slice A l.length c, S x] w fun e w' => e = .returned (.bool (decide (x ∈ l))) ∧ w = w' := by
  have HA := Lib.hid h
  clear h
  generalize hd : decide (x ∈ l) = res at *
  have HR := Lib.hid hd
  clear hd
  go_enter Tryd.func8, Tryd.ntmps8
  go_wp2_with fail
  go_loop [5] (fun i => ∃ k : Nat, k ≤ l.length ∧ i = .int .i64 k ∧ Hid (∀ j (h : j < l.length), j < k → x ≠ l[j])) (fun i => l.length - (intOf i).toNat)
  case atStart => exact ⟨0, by omega, rfl, Lib.hid fun j _ hj => by omega⟩
  case round =>
    obtain ⟨k, hk, rfl, hp⟩ := hrel
    by_cases hlt : k < l.length
    · obtain ⟨b, o, rfl, hb, hcells⟩ := HA.out (by omega)
      have hc := hcells k hlt
      clear hcells
      obtain ⟨q, g1, d1⟩ : ∃ q, (l[k] == x) = q ∧ decide (x = l[k]) = q := ⟨_, rfl, by rw [Bool.eq_iff_iff]; simp; exact eq_comm⟩
      cases q
      · have HD := Lib.hid (of_decide_eq_false d1)
        clear d1
        go_wp2_with fail
        go_round
        case rel =>
          refine ⟨k + 1, by omega, by go_num, Lib.hid fun j h hj => ?_⟩
          rcases Nat.lt_or_ge j k with h1 | h1
          · exact hp.out j h h1
          · obtain rfl : j = k := by omega
            exact HD.out
        case measure => simp [intOf]; omega
      · have HD := Lib.hid (mem_at k hlt (of_decide_eq_true d1))
        clear d1
        go_wp2_with fail
        go_ret
        exact ⟨ret_bool (by rw [← HR.out, HD.out]), rfl⟩
    · have HD := Lib.hid (mem_none fun j h => hp.out j h (by omega))
      go_wp2_with fail
      go_ret
      exact ⟨ret_bool (by rw [← HR.out, HD.out]), rfl⟩
end Go.Proofs.YtlcikiiijelpjaaDoor
