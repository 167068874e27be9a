/- Contracts of IsName and IsFree, of the program and of the reference. -/
import Derived.Test.YtadjpadieljjlaaLeaf
namespace Go.Proofs.Ytadjpadieljjlaa
open Go.RowKit

theorem runName0 (l : List UInt8) (w : World) (hl : l.length ≤ 65536) :
    Calls Try.prog 71 #[S l, .int .i64 0, .func (.func 72) #[] #[]] w fun e w' => e = .returned (.int .i64 ((Lfc.runLen Lfc.nameB l : Nat) : Int)) ∧ w = w' := by
  have h := runName_any l 0 w hl (Nat.zero_le _)
  rw [List.drop_zero, Nat.zero_add] at h
  exact h

set_option maxHeartbeats 1000000 in
theorem isName_any (l : List UInt8) (w : World) (hl : l.length ≤ 9223372036854775807) : Calls Try.prog 66 #[S l] w fun e w' => e = .returned (.bool (Lfc.isName l)) ∧ w = w' := by
  cases l with
  | nil =>
    go_enter Try.func66, Try.ntmps66
    go_wp2_with fail
    go_ret
    exact ⟨ret_bool (by simp [Lfc.isName]), rfl⟩
  | cons c r =>
    by_cases h64 : (c :: r).length ≤ 64
    · have hw : (c :: r).length ≤ 65536 := by omega
      have hd : decide ((r.length : Int) + 1 ≤ 64) = true := by simp at h64 ⊢; omega
      generalize hR : Lfc.runLen Lfc.nameB (c :: r) = n
      generalize hS : Lfc.reservedB (c :: r) = b
      have HR := Lib.hid hR
      have HS := Lib.hid hS
      clear hR hS
      cases b
      all_goals
       go_enter Try.func66, Try.ntmps66
       go_wp2_with (first | (go_at_call 71; refine (runName0 _ _ hw).mono ?_; rintro e w' ⟨rfl, rfl⟩; rw [HR.out]) | (go_at_call 73; refine (reserved_any _ _).mono ?_; rintro e w' ⟨rfl, rfl⟩; rw [HS.out]))
       all_goals
         go_ret
         exact ⟨ret_bool (by rw [Bool.eq_iff_iff]; have hr := HR.out; have hs := HS.out; simp [Lfc.isName, hr, hs] at *; try omega), rfl⟩
    · have hd : decide ((r.length : Int) + 1 ≤ 64) = false := by simp at h64 ⊢; omega
      go_enter Try.func66, Try.ntmps66
      go_wp2_with fail
      go_ret
      exact ⟨ret_bool (by simp only [Lfc.isName]; rw [decide_eq_false h64]; simp), rfl⟩

theorem runLen_all (p : UInt8 → Bool) (l : List UInt8) : Lfc.runLen p l = l.length ↔ ∀ k (h : k < l.length), p l[k] = true := by
  induction l with
  | nil => simp [Lfc.runLen]
  | cons c r ih =>
    rw [Lfc.runLen]
    constructor
    · intro h k hk
      have hle := Lfc.runLen_le p r
      split at h
      · rename_i hc
        cases k with
        | zero => exact hc
        | succ k => exact (ih.1 (by simp at h; omega)) k (by simpa using hk)
      · simp at h
    · intro h
      have hc : p c = true := h 0 (by simp)
      rw [if_pos hc, List.length_cons, ih.2 fun k hk => h (k + 1) (by simpa using hk)]

end Go.Proofs.Ytadjpadieljjlaa
