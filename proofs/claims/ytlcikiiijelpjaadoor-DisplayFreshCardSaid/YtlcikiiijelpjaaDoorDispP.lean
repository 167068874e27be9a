/- The names that a binder may get: the first one that is free. -/
import Derived.Test.YtlcikiiijelpjaaDoorPlain
import Derived.Lib.ItoaNum
set_option linter.unusedVariables false
set_option linter.unusedSimpArgs false
namespace Lfc

/-- The names in turn: the name itself, and the name with a number. -/
def nmN (b : List UInt8) : Nat → List UInt8
  | 0 => b
  | i + 1 => b ++ Go.Lib.decDigits (i + 1)
theorem dec_len (i : Nat) (h : i < 100) : (Go.Lib.decDigits i).length = if i < 10 then 1 else 2 := by
  by_cases h1 : i < 10
  · rw [Go.Lib.decDigits_one h1, if_pos h1]; rfl
  · rw [Go.Lib.decDigits_two h1 h, if_neg h1]; rfl
theorem byte_inj {a b : Nat} (ha : a < 200) (hb : b < 200) (h : UInt8.ofNat a = UInt8.ofNat b) : a = b := by
  have := congrArg UInt8.toNat h
  simp at this
  omega
theorem dec_inj {i j : Nat} (hi : i < 100) (hj : j < 100) (h : Go.Lib.decDigits i = Go.Lib.decDigits j) : i = j := by
  by_cases h1 : i < 10
  · by_cases h2 : j < 10
    · rw [Go.Lib.decDigits_one h1, Go.Lib.decDigits_one h2] at h
      injection h with h
      have := byte_inj (by omega) (by omega) h
      omega
    · have := congrArg List.length h
      rw [dec_len i hi, dec_len j hj, if_pos h1, if_neg h2] at this
      omega
  · by_cases h2 : j < 10
    · have := congrArg List.length h
      rw [dec_len i hi, dec_len j hj, if_neg h1, if_pos h2] at this
      omega
    · rw [Go.Lib.decDigits_two h1 hi, Go.Lib.decDigits_two h2 hj] at h
      injection h with a b
      injection b with b _
      have := byte_inj (by omega) (by omega) a
      have := byte_inj (by omega) (by omega) b
      omega
theorem nmN_inj {b : List UInt8} {i j : Nat} (hi : i < 100) (hj : j < 100) (h : nmN b i = nmN b j) : i = j := by
  cases i with
  | zero =>
    cases j with
    | zero => rfl
    | succ j =>
      have := congrArg List.length h
      have hl := dec_len (j + 1) hj
      simp only [nmN, List.length_append, hl] at this
      split at this <;> omega
  | succ i =>
    cases j with
    | zero =>
      have := congrArg List.length h
      have hl := dec_len (i + 1) hi
      simp only [nmN, List.length_append, hl] at this
      split at this <;> omega
    | succ j => exact dec_inj hi hj (List.append_cancel_left h)
theorem nodup_len : ∀ (xs used : List (List UInt8)), xs.Nodup → (∀ x ∈ xs, x ∈ used) → xs.length ≤ used.length
  | [], _, _, _ => Nat.zero_le _
  | x :: r, used, hd, hs => by
    have hx := hs x (by simp)
    have h1 := nodup_len r (used.erase x) (List.nodup_cons.1 hd).2 (fun y hy => (List.mem_erase_of_ne (fun e => (List.nodup_cons.1 hd).1 (by rw [← e]; exact hy))).2 (hs y (List.mem_cons_of_mem _ hy)))
    rw [List.length_erase_of_mem hx] at h1
    have := List.length_pos_of_mem hx
    simp only [List.length_cons]
    omega
/-- As many names as are in use: the next one is free. -/
theorem taken_le {b : List UInt8} {used : List (List UInt8)} {i : Nat} (hi : i < 100) (h : ∀ j, j < i → nmN b j ∈ used) : i ≤ used.length := by
  have h1 := nodup_len ((List.range i).map (nmN b)) used (by
    rw [List.Nodup, List.pairwise_map]
    exact (List.nodup_range (n := i)).imp_of_mem (fun {x y} hx hy hne e => hne (nmN_inj (by have := List.mem_range.1 hx; omega) (by have := List.mem_range.1 hy; omega) e))) (fun x hx => by
    obtain ⟨j, hj, rfl⟩ := List.mem_map.1 hx
    exact h j (List.mem_range.1 hj))
  simpa using h1
/-- The first free name. -/
def FirstFree (b : List UInt8) (used : List (List UInt8)) (s : List UInt8) : Prop := ∃ i, s = nmN b i ∧ s ∉ used ∧ ∀ j, j < i → nmN b j ∈ used
theorem FirstFree.unique {b s s' : List UInt8} {used : List (List UInt8)} (h : FirstFree b used s) (h' : FirstFree b used s') : s = s' := by
  obtain ⟨i, rfl, hn, ha⟩ := h
  obtain ⟨i', rfl, hn', ha'⟩ := h'
  rcases Nat.lt_trichotomy i i' with hlt | rfl | hlt
  · exact absurd (ha' i hlt) hn
  · rfl
  · exact absurd (ha i' hlt) hn'
/-- What a hint becomes. -/
def hintOf (h : List UInt8) : List UInt8 := if isName h && decide (h.length ≤ 50) then h else [120]
end Lfc
