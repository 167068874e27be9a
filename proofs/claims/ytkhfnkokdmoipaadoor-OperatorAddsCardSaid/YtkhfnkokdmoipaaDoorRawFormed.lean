/- Contracts of formed. -/
import Derived.Test.YtkhfnkokdmoipaaDoorRawRSame
import Derived.Test.YtkhfnkokdmoipaaDoorNames
set_option linter.unusedVariables false
set_option linter.unusedSimpArgs false
namespace Go.Proofs.YtkhfnkokdmoipaaDoor
open Go.RowKit

theorem lenCase0 (m : Nat) : ∃ b, ((m : Int) == 0) = b ∧ decide (m = 0) = b := ⟨_, rfl, by rw [Bool.eq_iff_iff]; simp⟩
theorem lenCase1 (m : Nat) : ∃ b, ((m : Int) == 1) = b ∧ decide (m = 1) = b := ⟨_, rfl, by rw [Bool.eq_iff_iff]; simp; omega⟩
theorem lenCase2 (m : Nat) : ∃ b, ((m : Int) == 2) = b ∧ decide (m = 2) = b := ⟨_, rfl, by rw [Bool.eq_iff_iff]; simp; omega⟩
theorem nameCase (n q : List UInt8) : ∃ b, (n == q) = b ∧ decide (n = q) = b := ⟨_, rfl, by rw [Bool.eq_iff_iff]; simp⟩

set_option maxRecDepth 100000 in
set_option maxHeartbeats 1000000 in
theorem formed_any (k p : Int) (n : List UInt8) (ts : List Lfc.Raw) (v : Value) (w : World) (hlen : ts.length ≤ 1000000000) (hv : TreeV w (.node k n p ts) v) :
    Calls Tryd.prog 45 #[v] w fun e w' => e = .returned (.bool (Lfc.formed k n ts.length)) ∧ Below w.heap.size w w' := by
  have hn := hv.name_le
  obtain ⟨A, c, rfl, hc, hA⟩ := hv.open_
  clear hA hv
  have b0 : Below w.heap.size w (w.alloc (.cells #[.int .i64 k, S n, .int .i64 p, .slice A ts.length c] 39)) := (Below.refl _ _).alloc (Nat.le_refl _) _
  have HI := Lib.hid (fun W => isName_any n W (by omega))
  generalize hm : ts.length = m at *
  have hk : (k = 1 ∨ k = 2) ∨ (k = 3 ∨ k = 4) ∨ (k = 5 ∨ k = 6 ∨ k = 9) ∨ (k = 7 ∨ k = 8) ∨ (k ≠ 1 ∧ k ≠ 2 ∧ k ≠ 3 ∧ k ≠ 4 ∧ k ≠ 5 ∧ k ≠ 6 ∧ k ≠ 7 ∧ k ≠ 8 ∧ k ≠ 9) := by omega
  rcases hk with hk | hk | hk | hk | hk
  · have e : Lfc.formed k n m = (Lfc.isName n && decide (m = 0)) := by unfold Lfc.formed; rw [if_pos hk]
    rw [e]
    clear e
    generalize Lfc.isName n = q at *
    obtain ⟨bm, g0, d0⟩ := lenCase0 m
    rw [d0]
    clear d0
    rcases hk with rfl | rfl
    all_goals
      cases q
      all_goals
        cases bm
        all_goals
          go_enter Tryd.func45, Tryd.ntmps45
          go_wp2_with fail
          refine (HI.out _).mono ?_
          rintro e w1 ⟨rfl, rfl⟩
          go_wp2_with fail
          go_ret
          exact ⟨rfl, b0⟩
  · have e : Lfc.formed k n m = (decide (n = []) && decide (m = 0)) := by unfold Lfc.formed; rw [if_neg (by omega), if_pos hk]
    rw [e]
    clear e
    obtain ⟨bm, g0, d0⟩ := lenCase0 m
    obtain ⟨q, g1, d1⟩ := nameCase n []
    rw [d0, d1]
    clear d0 d1
    rcases hk with rfl | rfl
    all_goals
      cases q
      all_goals
        cases bm
        all_goals
          go_enter Tryd.func45, Tryd.ntmps45
          go_wp2_with fail
          go_ret
          exact ⟨rfl, b0⟩
  · have e : Lfc.formed k n m = (decide (n = []) && decide (m = 2)) := by unfold Lfc.formed; rw [if_neg (by omega), if_neg (by omega), if_pos hk]
    rw [e]
    clear e
    obtain ⟨bm, g0, d0⟩ := lenCase2 m
    obtain ⟨q, g1, d1⟩ := nameCase n []
    rw [d0, d1]
    clear d0 d1
    rcases hk with rfl | rfl | rfl
    all_goals
      cases q
      all_goals
        cases bm
        all_goals
          go_enter Tryd.func45, Tryd.ntmps45
          go_wp2_with fail
          go_ret
          exact ⟨rfl, b0⟩
  · have e : Lfc.formed k n m = ((Lfc.isName n || decide (n = [95])) && (decide (m = 1) || decide (m = 2))) := by unfold Lfc.formed; rw [if_neg (by omega), if_neg (by omega), if_neg (by omega), if_pos hk]
    rw [e]
    clear e
    obtain ⟨bm, g0, d0⟩ := lenCase1 m
    obtain ⟨bn, g1, d1⟩ := lenCase2 m
    obtain ⟨r, g2, d2⟩ := nameCase n [95]
    rw [d0, d1, d2]
    clear d0 d1 d2
    generalize Lfc.isName n = q at *
    rcases hk with rfl | rfl
    all_goals
      cases q
      all_goals
        cases r
        all_goals
          cases bm
          all_goals
            cases bn
            all_goals
              go_enter Tryd.func45, Tryd.ntmps45
              go_wp2_with fail
              refine (HI.out _).mono ?_
              rintro e w1 ⟨rfl, rfl⟩
              go_wp2_with fail
              go_ret
              exact ⟨rfl, b0⟩
  · obtain ⟨h1, h2, h3, h4, h5, h6, h7, h8, h9⟩ := hk
    have e : Lfc.formed k n m = false := by unfold Lfc.formed; rw [if_neg (by omega), if_neg (by omega), if_neg (by omega), if_neg (by omega)]
    rw [e]
    have e1 : (k == 1) = false := by simp [h1]
    have e2 : (k == 2) = false := by simp [h2]
    have e3 : (k == 3) = false := by simp [h3]
    have e4 : (k == 4) = false := by simp [h4]
    have e5 : (k == 5) = false := by simp [h5]
    have e6 : (k == 6) = false := by simp [h6]
    have e7 : (k == 7) = false := by simp [h7]
    have e8 : (k == 8) = false := by simp [h8]
    have e9 : (k == 9) = false := by simp [h9]
    clear e h1 h2 h3 h4 h5 h6 h7 h8 h9
    go_enter Tryd.func45, Tryd.ntmps45
    go_wp2_with fail
    go_ret
    exact ⟨rfl, b0⟩

theorem enters_whole : ∀ args w, (callFunc 44 args).run Tryd.prog w = .ok (.enter 44 args) w := enters_of Tryd.func44 (by kernel_rfl) rfl
theorem enters_not : ∀ args w, (callFunc 47 args).run Tryd.prog w = .ok (.enter 47 args) w := enters_of Tryd.func47 (by kernel_rfl) rfl

/-- The variable that holds whole. -/
def WholeAt (w : World) (B : Nat) : Prop := B < w.heap.size ∧ w.cell? ⟨B, 0, none⟩ = some (.func (.func 44) #[] #[.pointer (some ⟨B, 0, none⟩)])
theorem WholeAt.below {w w' : World} {B : Nat} (h : WholeAt w B) (hb : Below w.heap.size w w') : WholeAt w' B :=
  ⟨Nat.lt_of_lt_of_le h.1 hb.size, (hb.cell (p := ⟨B, 0, none⟩) h.1).trans h.2⟩
/-- What whole does at trees of at most so many nodes. -/
def WholeUpto (m : Nat) : Prop := ∀ (t : Lfc.Raw) (v : Value) (w : World) (B : Nat), t.size ≤ m → TreeV w t v → WholeAt w B →
    Calls Tryd.prog 44 #[v, .pointer (some ⟨B, 0, none⟩)] w fun e w' => e = .returned (.bool t.form) ∧ Below w.heap.size w w'

set_option maxRecDepth 100000 in
set_option maxHeartbeats 1000000 in
theorem notWhole_any (m : Nat) (ih : WholeUpto m) (t : Lfc.Raw) (v : Value) (w : World) (B : Nat) (hm : t.size ≤ m) (hv : TreeV w t v) (hB : WholeAt w B) :
    Calls Tryd.prog 47 #[v, .pointer (some ⟨B, 0, none⟩)] w fun e w' => e = .returned (.bool (!t.form)) ∧ Below w.heap.size w w' := by
  have he := enters_whole
  obtain ⟨kd, nm, ps, ts⟩ := t
  obtain ⟨A, c, rfl, hc, hA⟩ := hv.open_
  have b0 : Below w.heap.size w (w.alloc (.cells #[.int .i64 kd, S nm, .int .i64 ps, .slice A ts.length c] 39)) := (Below.refl _ _).alloc (Nat.le_refl _) _
  have IH := Lib.hid (ih _ _ _ B hm (hv.below b0) (hB.below b0))
  have hcell := (hB.below b0).2
  clear ih hB hv hA
  generalize (Lfc.Raw.node kd nm ps ts).form = q at *
  go_enter Tryd.func47, Tryd.ntmps47
  go_wp2_with fail
  refine IH.out.mono ?_
  rintro e w1 ⟨rfl, hb1⟩
  cases q
  all_goals
    go_wp2_with fail
    go_ret
    exact ⟨rfl, b0.trans (hb1.mono b0.size)⟩
end Go.Proofs.YtkhfnkokdmoipaaDoor
