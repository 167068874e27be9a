/- Contracts of IsName and IsFree, of the program and of the reference. -/
import Derived.Test.YtadjpadieljjlaaGreatLeaf
namespace Go.Proofs.YtadjpadieljjlaaGreat
open Go.RowKit

theorem runName0 (l : List UInt8) (w : World) (hl : l.length ≤ 65536) :
    Calls Tryz.prog 121 #[S l, .int .i64 0, .func (.func 122) #[] #[]] w fun e w' => e = .returned (.int .i64 ((Lfc.runLen Lfc.nameB l : Nat) : Int)) ∧ w = w' := by
  have h := runName_any l 0 w hl (Nat.zero_le _)
  rw [List.drop_zero, Nat.zero_add] at h
  exact h

set_option maxHeartbeats 1000000 in
theorem isName_any (l : List UInt8) (w : World) (hl : l.length ≤ 9223372036854775807) : Calls Tryz.prog 113 #[S l] w fun e w' => e = .returned (.bool (Lfc.isName l)) ∧ w = w' := by
  cases l with
  | nil =>
    go_enter Tryz.func113, Tryz.ntmps113
    go_wp2_with fail
    go_ret
    exact ⟨ret_bool (by simp [Lfc.isName]), rfl⟩
  | cons c r =>
    by_cases h64 : (c :: r).length ≤ 64
    · have hw : (c :: r).length ≤ 65536 := by omega
      have hd : decide ((r.length : Int) + 1 ≤ 64) = true := by simp at h64 ⊢; omega
      generalize hR : Lfc.runLen Lfc.nameB (c :: r) = n
      generalize hS : Lfc.reservedB (c :: r) = b
      have HR := Lib.hid hR
      have HS := Lib.hid hS
      clear hR hS
      cases b
      all_goals
       go_enter Tryz.func113, Tryz.ntmps113
       go_wp2_with (first | (go_at_call 121; refine (runName0 _ _ hw).mono ?_; rintro e w' ⟨rfl, rfl⟩; rw [HR.out]) | (go_at_call 123; refine (reserved_any _ _).mono ?_; rintro e w' ⟨rfl, rfl⟩; rw [HS.out]))
       all_goals
         go_ret
         exact ⟨ret_bool (by rw [Bool.eq_iff_iff]; have hr := HR.out; have hs := HS.out; simp [Lfc.isName, hr, hs] at *; try omega), rfl⟩
    · have hd : decide ((r.length : Int) + 1 ≤ 64) = false := by simp at h64 ⊢; omega
      go_enter Tryz.func113, Tryz.ntmps113
      go_wp2_with fail
      go_ret
      exact ⟨ret_bool (by simp only [Lfc.isName]; rw [decide_eq_false h64]; simp), rfl⟩

theorem runLen_all (p : UInt8 → Bool) (l : List UInt8) : Lfc.runLen p l = l.length ↔ ∀ k (h : k < l.length), p l[k] = true := by
  induction l with
  | nil => simp [Lfc.runLen]
  | cons c r ih =>
    rw [Lfc.runLen]
    constructor
    · intro h k hk
      have hle := Lfc.runLen_le p r
      split at h
      · rename_i hc
        cases k with
        | zero => exact hc
        | succ k => exact (ih.1 (by simp at h; omega)) k (by simpa using hk)
      · simp at h
    · intro h
      have hc : p c = true := h 0 (by simp)
      rw [if_pos hc, List.length_cons, ih.2 fun k hk => h (k + 1) (by simpa using hk)]

set_option maxHeartbeats 1000000 in
theorem rIsName_any (l : List UInt8) (w : World) (hl : l.length ≤ 9223372036854775807) : Calls Tryz.prog 104 #[S l] w fun e w' => e = .returned (.bool (Lfc.isName l)) ∧ w = w' := by
  cases l with
  | nil =>
    go_enter Tryz.func104, Tryz.ntmps104
    go_wp2_with fail
    go_ret
    exact ⟨ret_bool (by simp [Lfc.isName]), rfl⟩
  | cons c r =>
    have hz : ((r.length : Int) + 1 == 0) = false := by simp; omega
    by_cases h64 : (c :: r).length ≤ 64
    · have hd : decide (64 < (r.length : Int) + 1) = false := by simp at h64 ⊢; omega
      cases hS : Lfc.reservedB (c :: r)
      · have HS := Lib.hid hS
        clear hS
        by_cases hc : c.toNat = 64
        · have hc' : ((c.toNat : Int) == 64) = true := by simp; omega
          have hf : Lfc.isName (c :: r) = false := by simp [Lfc.isName, hc]
          rw [hf]
          clear hc hf
          go_enter Tryz.func104, Tryz.ntmps104
          go_wp2_with (go_at_call 117; refine (rReserved_any _ _).mono ?_; rintro e w' ⟨rfl, rfl⟩; rw [HS.out])
          go_ret
          exact ⟨rfl, rfl⟩
        · have hc' : ((c.toNat : Int) == 64) = false := by simp; omega
          have hn : Lfc.isName (c :: r) = decide (Lfc.runLen Lfc.nameB (c :: r) = (c :: r).length) := by
            simp only [Lfc.isName]; rw [decide_eq_true h64, HS.out]; simp [hc]
          have hall := runLen_all Lfc.nameB (c :: r)
          rw [hn]
          have Hall := Lib.hid hall
          clear hc hn hall
          go_enter Tryz.func104, Tryz.ntmps104
          go_wp2_with (go_at_call 117; refine (rReserved_any _ _).mono ?_; rintro e w' ⟨rfl, rfl⟩; rw [HS.out])
          go_loop [3] (fun i => ∃ k : Nat, k ≤ (c :: r).length ∧ i = .int .i64 k ∧ Hid (∀ j (h : j < (c :: r).length), j < k → Lfc.nameB (c :: r)[j] = true)) (fun i => (c :: r).length - (intOf i).toNat)
          case atStart => exact ⟨0, by simp, rfl, Lib.hid fun j _ h => by omega⟩
          case round =>
            obtain ⟨k, hk, rfl, hp⟩ := hrel
            by_cases hlt : k < (c :: r).length
            · have hlt' : k < r.length + 1 := by simpa using hlt
              cases hb : Lfc.nameB (c :: r)[k]
              · go_wp2_with fail
                refine (rNameByte_any _ _).mono ?_
                rintro e w' ⟨rfl, rfl⟩
                rw [hb]
                go_wp2_with fail
                go_ret
                exact ⟨ret_bool (by symm; apply decide_eq_false; intro hh; rw [Hall.out.1 hh k hlt] at hb; cases hb), rfl⟩
              · have Hb := Lib.hid hb
                clear hb
                go_wp2_with fail
                refine (rNameByte_any _ _).mono ?_
                rintro e w' ⟨rfl, rfl⟩
                rw [Hb.out]
                go_wp2_with fail
                go_round
                case rel =>
                  refine ⟨k + 1, by omega, by go_num, Lib.hid fun j h hj => ?_⟩
                  rcases Nat.lt_or_ge j k with h1 | h1
                  · exact hp.out j h h1
                  · obtain rfl : j = k := by omega
                    exact Hb.out
                case measure => simp [intOf] at *; omega
            · have hlt' : ¬ k < r.length + 1 := by simpa using hlt
              go_wp2_with fail
              go_ret
              exact ⟨ret_bool (by symm; apply decide_eq_true; exact Hall.out.2 fun j h => hp.out j h (by omega)), rfl⟩
      · have HS := Lib.hid hS
        have hf : Lfc.isName (c :: r) = false := by simp [Lfc.isName, hS]
        rw [hf]
        clear hS hf
        go_enter Tryz.func104, Tryz.ntmps104
        go_wp2_with (go_at_call 117; refine (rReserved_any _ _).mono ?_; rintro e w' ⟨rfl, rfl⟩; rw [HS.out])
        go_ret
        exact ⟨rfl, rfl⟩
    · have hd : decide (64 < (r.length : Int) + 1) = true := by simp at h64 ⊢; omega
      have hf : Lfc.isName (c :: r) = false := by simp only [Lfc.isName]; rw [decide_eq_false h64]; simp
      rw [hf]
      clear hf
      go_enter Tryz.func104, Tryz.ntmps104
      go_wp2_with fail
      go_ret
      exact ⟨rfl, rfl⟩

end Go.Proofs.YtadjpadieljjlaaGreat
