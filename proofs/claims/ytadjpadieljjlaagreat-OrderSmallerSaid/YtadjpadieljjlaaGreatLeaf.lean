/- Contracts of the leaf functions of layer 1: byte classes, reserved words, the longest sequence of a class, the end of a comment. -/
import Derived.Test.YtadjpadieljjlaaGreatRows
import Derived.Test.YtadjpadieljjlaaGreatPlain
import Derived.Test.YtadjpadieljjlaaGreatShelf
import Derived.WalkKit
import Derived.WalkSpells
import Derived.WalkLawsBesides
import Derived.Lib.Hide
import Derived.Shelf.Abstract
namespace Go.Proofs.YtadjpadieljjlaaGreat
open Go.RowKit

abbrev B (c : UInt8) : Value := .int .u8 (c.toNat : Int)
abbrev S (l : List UInt8) : Value := .string ⟨l.toArray⟩

theorem bsize (l : List UInt8) : (⟨l.toArray⟩ : ByteArray).size = l.length := by simp [ByteArray.size]
@[go_sem] theorem bget (l : List UInt8) (k : Nat) (h : k < (⟨l.toArray⟩ : ByteArray).size) : (⟨l.toArray⟩ : ByteArray)[k] = l[k]'(by rw [bsize] at h; exact h) := rfl
@[go_sem] theorem bext (l : List UInt8) (a b : Nat) : (⟨l.toArray⟩ : ByteArray).extract a b = ⟨((l.drop a).take (b - a)).toArray⟩ := by
  apply ByteArray.ext
  apply Array.ext'
  rw [ByteArray.data_extract, Array.toList_extract]

@[go_sem] theorem takeRest (l : List UInt8) (a : Nat) : (l.drop a).take (l.length - a) = l.drop a := List.take_of_length_le (by rw [List.length_drop]; omega)

theorem ret_bool {a b : Bool} (h : a = b) : Ending.returned (.bool a) = .returned (.bool b) := by rw [h]
theorem ret_int {k : IntKind} {a b : Int} (h : a = b) : Ending.returned (.int k a) = .returned (.int k b) := by rw [h]

set_option maxHeartbeats 1000000 in
theorem rSpecial_any (c : UInt8) (w : World) : Calls Tryz.prog 127 #[B c] w fun e w' => e = .returned (.bool (Lfc.specialB c)) ∧ w = w' := by
  go_enter Tryz.func127, Tryz.ntmps127
  go_wp2
  all_goals
    go_ret
    exact ⟨ret_bool (by rw [Bool.eq_iff_iff]; simp [Lfc.specialB] <;> omega), rfl⟩

set_option maxHeartbeats 1000000 in
theorem rNameByte_any (c : UInt8) (w : World) : Calls Tryz.prog 118 #[B c] w fun e w' => e = .returned (.bool (Lfc.nameB c)) ∧ w = w' := by
  go_enter Tryz.func118, Tryz.ntmps118
  go_wp2_with (go_at_call 127; refine (rSpecial_any c _).mono ?_; rintro e w' ⟨rfl, rfl⟩)
  all_goals
    go_ret
    exact ⟨ret_bool (by rw [Bool.eq_iff_iff]; simp [Lfc.nameB, Lfc.specialB] at * <;> omega), rfl⟩

theorem idx_neg (l : List UInt8) (c : UInt8) : (Lib.indexByte l c < 0) ↔ ¬ c ∈ l := by
  constructor
  · intro h hm
    have h1 := Lib.indexByte_ge l c
    obtain ⟨k, hk⟩ := List.mem_iff_getElem?.1 hm
    exact Lib.indexByte_none (by omega) k hk
  · intro h
    rcases Int.lt_or_le (Lib.indexByte l c) 0 with h0 | h0
    · exact h0
    · obtain ⟨o, ho⟩ := Int.eq_ofNat_of_zero_le h0
      exact absurd (List.mem_iff_getElem?.2 ⟨o, (Lib.indexByte_some ho).1⟩) h

theorem mem_name (c : UInt8) : c ∈ [(40 : UInt8), 41, 91, 93, 123, 125, 58, 46, 37] ↔ ((c.toNat = 40 ∨ c.toNat = 41 ∨ c.toNat = 91 ∨ c.toNat = 93 ∨ c.toNat = 123 ∨ c.toNat = 125 ∨ c.toNat = 58 ∨ c.toNat = 46) ∨ c.toNat = 37) := by
  simp [← UInt8.toNat_inj]; omega
theorem mem_special (c : UInt8) : c ∈ [(40 : UInt8), 41, 91, 93, 123, 125, 58, 46] ↔ (c.toNat = 40 ∨ c.toNat = 41 ∨ c.toNat = 91 ∨ c.toNat = 93 ∨ c.toNat = 123 ∨ c.toNat = 125 ∨ c.toNat = 58 ∨ c.toNat = 46) := by
  simp [← UInt8.toNat_inj]

theorem idxName_any (c : UInt8) (w : World) : Calls Tryz.prog 130 #[.string ⟨#[40, 41, 91, 93, 123, 125, 58, 46, 37]⟩, B c] w fun e w' => ∃ i : Int, e = .returned (.int .i64 i) ∧ (i < 0 ↔ ¬ ((c.toNat = 40 ∨ c.toNat = 41 ∨ c.toNat = 91 ∨ c.toNat = 93 ∨ c.toNat = 123 ∨ c.toNat = 125 ∨ c.toNat = 58 ∨ c.toNat = 46) ∨ c.toNat = 37)) ∧ w = w' := by
  refine (Tryz.strings_IndexByte _ _ _).mono ?_
  rintro e w' ⟨rfl, rfl⟩
  refine ⟨_, rfl, ?_, rfl⟩
  rw [idx_neg, show ((c.toNat : Int).toNat.toUInt8) = c by simp, ← mem_name]

theorem idxSpecial_any (c : UInt8) (w : World) : Calls Tryz.prog 130 #[.string ⟨#[40, 41, 91, 93, 123, 125, 58, 46]⟩, B c] w fun e w' => ∃ i : Int, e = .returned (.int .i64 i) ∧ (i < 0 ↔ ¬ (c.toNat = 40 ∨ c.toNat = 41 ∨ c.toNat = 91 ∨ c.toNat = 93 ∨ c.toNat = 123 ∨ c.toNat = 125 ∨ c.toNat = 58 ∨ c.toNat = 46)) ∧ w = w' := by
  refine (Tryz.strings_IndexByte _ _ _).mono ?_
  rintro e w' ⟨rfl, rfl⟩
  refine ⟨_, rfl, ?_, rfl⟩
  rw [idx_neg, show ((c.toNat : Int).toNat.toUInt8) = c by simp, ← mem_special]

set_option maxRecDepth 100000 in
set_option maxHeartbeats 1000000 in
theorem nameByte_any (c : UInt8) (w : World) : Calls Tryz.prog 122 #[B c] w fun e w' => e = .returned (.bool (Lfc.nameB c)) ∧ w = w' := by
  go_enter Tryz.func122, Tryz.ntmps122
  go_wp2_with (go_at_call 130; refine (idxName_any _ _).mono ?_; rintro e w' ⟨i, rfl, hi, rfl⟩; have Hi := Lib.hid hi; clear hi)
  · go_ret
    have hi := Hi.out
    exact ⟨ret_bool (by rw [Bool.eq_iff_iff]; simp [Lfc.nameB, hi] at * <;> omega), rfl⟩
  all_goals
    go_ret
    exact ⟨ret_bool (by rw [Bool.eq_iff_iff]; simp [Lfc.nameB] at * <;> omega), rfl⟩

set_option maxHeartbeats 1000000 in
theorem reserved_any (l : List UInt8) (w : World) : Calls Tryz.prog 123 #[S l] w fun e w' => e = .returned (.bool (Lfc.reservedB l)) ∧ w = w' := by
  go_enter Tryz.func123, Tryz.ntmps123
  go_wp2
  all_goals
    go_ret
    exact ⟨ret_bool (by simp_all [Lfc.reservedB]), rfl⟩

set_option maxHeartbeats 1000000 in
theorem rReserved_any (l : List UInt8) (w : World) : Calls Tryz.prog 117 #[S l] w fun e w' => e = .returned (.bool (Lfc.reservedB l)) ∧ w = w' := by
  go_enter Tryz.func117, Tryz.ntmps117
  go_wp2
  all_goals
    go_ret
    exact ⟨ret_bool (by simp_all [Lfc.reservedB]), rfl⟩

theorem runLen_drop (p : UInt8 → Bool) (l : List UInt8) (k : Nat) (h : k < l.length) : Lfc.runLen p (l.drop k) = if p l[k] then Lfc.runLen p (l.drop (k + 1)) + 1 else 0 := by
  rw [List.drop_eq_getElem_cons h, Lfc.runLen]

set_option maxHeartbeats 1000000 in
theorem run_any (f : FuncId) (he : ∀ args w, (callFunc f args).run Tryz.prog w = .ok (.enter f args) w) (p : UInt8 → Bool) (hf : ∀ c w, Calls Tryz.prog f #[B c] w fun e w' => e = .returned (.bool (p c)) ∧ w = w') (l : List UInt8) (at_ : Nat) (w : World) (hl : l.length ≤ 65536) (ha : at_ ≤ l.length) :
    Calls Tryz.prog 121 #[S l, .int .i64 at_, .func (.func f) #[] #[]] w fun e w' => e = .returned (.int .i64 ((at_ + Lfc.runLen p (l.drop at_) : Nat) : Int)) ∧ w = w' := by
  have Hf := Lib.hid hf
  clear hf
  go_enter Tryz.func121, Tryz.ntmps121
  go_wp2_with fail
  go_loop [1] (fun i => ∃ k : Nat, k ≤ l.length ∧ i = .int .i64 k ∧ Hid (k + Lfc.runLen p (l.drop k) = at_ + Lfc.runLen p (l.drop at_))) (fun i => l.length - (intOf i).toNat)
  case atStart => exact ⟨at_, ha, rfl, Lib.hid rfl⟩
  case round =>
    obtain ⟨k, hk, rfl, hr⟩ := hrel
    by_cases hlt : k < l.length
    · have hd := runLen_drop p l k hlt
      cases hp : p l[k]
      · rw [hp] at hd
        have Hd := Lib.hid hd
        have Hp := Lib.hid hp
        clear hd hp
        go_wp2_with fail
        refine (Hf.out _ _).mono ?_
        rintro e w' ⟨rfl, rfl⟩
        rw [Hp.out]
        go_wp2_with fail
        go_ret
        exact ⟨ret_int (by have := Hd.out; have := hr.out; simp at *; omega), rfl⟩
      · rw [hp] at hd
        have Hd := Lib.hid hd
        have Hp := Lib.hid hp
        clear hd hp
        go_wp2_with fail
        refine (Hf.out _ _).mono ?_
        rintro e w' ⟨rfl, rfl⟩
        rw [Hp.out]
        go_wp2_with fail
        go_round
        case rel => exact ⟨k + 1, by omega, by go_num, Lib.hid (by have := Hd.out; have := hr.out; simp at *; omega)⟩
        case measure => simp [intOf]; omega
    · go_wp2_with fail
      go_ret
      have hk' : k = l.length := by omega
      exact ⟨ret_int (by have := hr.out; subst hk'; simp [Lfc.runLen] at *; omega), rfl⟩

theorem runName_any (l : List UInt8) (at_ : Nat) (w : World) (hl : l.length ≤ 65536) (ha : at_ ≤ l.length) :
    Calls Tryz.prog 121 #[S l, .int .i64 at_, .func (.func 122) #[] #[]] w fun e w' => e = .returned (.int .i64 ((at_ + Lfc.runLen Lfc.nameB (l.drop at_) : Nat) : Int)) ∧ w = w' :=
  run_any 122 (enters_of Tryz.func122 (by kernel_rfl) rfl) _ nameByte_any l at_ w hl ha
theorem cmt_drop2 (d : Nat) (l : List UInt8) (k : Nat) (h : k + 1 < l.length) : Lfc.cmt d (l.drop k) = if l[k].toNat = 37 ∧ l[k + 1].toNat = 123 then Lfc.cmt (d + 1) (l.drop (k + 2))
    else if l[k].toNat = 125 ∧ l[k + 1].toNat = 37 then (if d ≤ 1 then some (l.drop (k + 2)) else Lfc.cmt (d - 1) (l.drop (k + 2))) else Lfc.cmt d (l.drop (k + 1)) := by
  rw [List.drop_eq_getElem_cons (by omega : k < l.length), List.drop_eq_getElem_cons h, Lfc.cmt, ← List.drop_eq_getElem_cons h]
theorem cmt_short (d : Nat) (l : List UInt8) (k : Nat) (h : ¬ k + 1 < l.length) : Lfc.cmt d (l.drop k) = none := by
  have hl : (l.drop k).length ≤ 1 := by rw [List.length_drop]; omega
  match l.drop k, hl with
  | [], _ => simp [Lfc.cmt]
  | [a], _ => simp [Lfc.cmt]

/-- Where the comment ends, or -1. -/
def cmtEnd (l : List UInt8) : Option (List UInt8) → Int
  | some r => ((l.length - r.length : Nat) : Int)
  | none => -1

theorem take2 (l : List UInt8) (k : Nat) (h : k + 1 < l.length) : (l.drop k).take 2 = [l[k], l[k + 1]] := by
  rw [List.drop_eq_getElem_cons (by omega : k < l.length), List.drop_eq_getElem_cons h]; rfl

end Go.Proofs.YtadjpadieljjlaaGreat
