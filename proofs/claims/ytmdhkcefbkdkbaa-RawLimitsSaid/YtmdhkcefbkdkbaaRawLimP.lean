/- Trees that are just so deep and so large. -/
import Derived.Test.YtmdhkcefbkdkbaaRawText
set_option linter.unusedVariables false
set_option linter.unusedSimpArgs false
namespace Lfc
def lams : Nat → Raw
  | 0 => .node 1 [97] 0 []
  | k + 1 => .node 8 [120] 0 [lams k]
theorem lams_size : ∀ k, (lams k).size = k + 1
  | 0 => rfl
  | k + 1 => by rw [lams, Raw.size, Raw.sizes, Raw.sizes, lams_size k]
theorem lams_depth : ∀ k, (lams k).depth = k + 1
  | 0 => rfl
  | k + 1 => by rw [lams, Raw.depth, Raw.depths, Raw.depths, lams_depth k]; omega
theorem lams_form : ∀ k, (lams k).form = true
  | 0 => by decide
  | k + 1 => by
    rw [lams, Raw.form, Raw.forms, Raw.forms, lams_form k]
    have : formed 8 [120] [lams k].length = true := by
      show formed 8 [120] 1 = true
      decide
    rw [this]; rfl
theorem lams_wf (k : Nat) : (lams k).wf = if 128 < k + 1 then 2 else 0 := by
  unfold Raw.wf
  rw [lams_form, lams_size, lams_depth, if_neg (by simp)]
  by_cases h : 128 < k + 1
  · rw [if_pos h, if_pos (by omega)]
  · rw [if_neg h, if_neg (by omega)]
def bal (n : Nat) : Raw := if n ≤ 1 then .node 3 [] 0 [] else if n = 2 then .node 8 [120] 0 [.node 3 [] 0 []] else .node 5 [] 0 [bal ((n - 1) / 2), bal (n - 1 - (n - 1) / 2)]
termination_by n
decreasing_by all_goals omega
theorem bal_one : bal 1 = .node 3 [] 0 [] := by rw [bal]; rfl
theorem bal_two : bal 2 = .node 8 [120] 0 [.node 3 [] 0 []] := by rw [bal]; rfl
theorem bal_more (n : Nat) (h : 3 ≤ n) : bal n = .node 5 [] 0 [bal ((n - 1) / 2), bal (n - 1 - (n - 1) / 2)] := by rw [bal, if_neg (by omega), if_neg (by omega)]
theorem bal_all (m : Nat) : ∀ n, 1 ≤ n → n ≤ m → (bal n).size = n ∧ (bal n).form = true := by
  induction m with
  | zero => intro n h1 h2; omega
  | succ m ih =>
    intro n h1 h2
    by_cases e1 : n = 1
    · subst e1; rw [bal_one]; decide
    by_cases e2 : n = 2
    · subst e2; rw [bal_two]; decide
    have a := ih ((n - 1) / 2) (by omega) (by omega)
    have b := ih (n - 1 - (n - 1) / 2) (by omega) (by omega)
    rw [bal_more n (by omega)]
    constructor
    · rw [Raw.size, Raw.sizes, Raw.sizes, Raw.sizes, a.1, b.1]; omega
    · rw [Raw.form, Raw.forms, Raw.forms, Raw.forms, a.2, b.2]
      have : formed 5 [] [bal ((n - 1) / 2), bal (n - 1 - (n - 1) / 2)].length = true := by
        show formed 5 [] 2 = true
        decide
      rw [this]; rfl
theorem bal_depth (d : Nat) : ∀ n, n ≤ 2 ^ d → (bal n).depth ≤ d + 1 := by
  induction d with
  | zero => intro n h; rw [bal, if_pos (by simpa using h)]; decide
  | succ d ih =>
    intro n h
    have h2 : 2 ^ (d + 1) = 2 * 2 ^ d := by rw [Nat.pow_succ]; omega
    by_cases e1 : n ≤ 1
    · rw [bal, if_pos e1]; simp [Raw.depth, Raw.depths]
    by_cases e2 : n = 2
    · subst e2; rw [bal_two]; simp [Raw.depth, Raw.depths]
    have a := ih ((n - 1) / 2) (by omega)
    have b := ih (n - 1 - (n - 1) / 2) (by omega)
    rw [bal_more n (by omega), Raw.depth, Raw.depths, Raw.depths, Raw.depths]
    omega
theorem bal_wf (n : Nat) (h1 : 1 ≤ n) (h2 : n ≤ 5000) : (bal n).wf = if 4096 < n then 2 else 0 := by
  have a := bal_all n n h1 (Nat.le_refl _)
  have b := bal_depth 13 n (by omega)
  unfold Raw.wf
  rw [a.2, a.1, if_neg (by simp)]
  by_cases h : 4096 < n
  · rw [if_pos h, if_pos (by omega)]
  · rw [if_neg h, if_neg (by omega)]
end Lfc
