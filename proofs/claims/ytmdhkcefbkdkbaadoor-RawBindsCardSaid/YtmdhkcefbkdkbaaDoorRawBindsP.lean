/- A binder around a tree takes just its own name away from the free ones. No program in sight. -/
import Derived.Test.YtmdhkcefbkdkbaaDoorRawFreeP
set_option linter.unusedVariables false
set_option linter.unusedSimpArgs false
namespace Lfc
mutual
/-- A node of this name is explicit. -/
def Raw.expl (x : List UInt8) : Raw → Bool
  | .node k n _ ts => (decide (k = 2) && decide (n = x)) || Raw.expls x ts
def Raw.expls (x : List UInt8) : List Raw → Bool
  | [] => false
  | a :: r => Raw.expl x a || Raw.expls x r
end
theorem expls_app (x : List UInt8) : ∀ a c : List Raw, Raw.expls x (a ++ c) = (Raw.expls x a || Raw.expls x c)
  | [], c => by simp [Raw.expls]
  | a :: r, c => by simp only [List.cons_append, Raw.expls, expls_app x r c, Bool.or_assoc]
theorem expls_take (x : List UInt8) (ts : List Raw) (k : Nat) (h : k < ts.length) : Raw.expls x (ts.take (k + 1)) = (Raw.expls x (ts.take k) || Raw.expl x ts[k]) := by
  rw [List.take_succ_eq_append_getElem h, expls_app]; simp [Raw.expls]

def without (x : List UInt8) (l : List (List UInt8)) : List (List UInt8) := l.filter fun n => decide (n ≠ x)
theorem addN_self (x : List UInt8) (l : List (List UInt8)) : without x (addN x l) = without x l := by
  unfold addN without
  split
  · rfl
  · simp
theorem addN_other (x n : List UInt8) (h : n ≠ x) (l : List (List UInt8)) : addN n (without x l) = without x (addN n l) := by
  unfold addN without
  by_cases hm : n ∈ l
  · rw [if_pos hm, if_pos (by simp [hm, h])]
  · rw [if_neg hm, if_neg (by simp [hm])]
    simp [h]
/-- The binders, and one more name. -/
def MoreB (x : List UInt8) (B1 B2 : List (List UInt8)) : Prop := ∀ n, n ∈ B2 ↔ n ∈ B1 ∨ n = x
theorem MoreB.snoc {x : List UInt8} {B1 B2 : List (List UInt8)} (h : MoreB x B1 B2) (n : List UInt8) : MoreB x (B1 ++ [n]) (B2 ++ [n]) := fun m => by
  simp only [List.mem_append, List.mem_singleton, h m]
  constructor
  · rintro ((h | h) | h)
    · exact .inl (.inl h)
    · exact .inr h
    · exact .inl (.inr h)
  · rintro ((h | h) | h)
    · exact .inl (.inl h)
    · exact .inr h
    · exact .inl (.inr h)
mutual
theorem fr_without (x : List UInt8) : ∀ (t : Raw) (B1 B2 out : List (List UInt8)), MoreB x B1 B2 → Raw.expl x t = false → Raw.fr B2 t (without x out) = without x (Raw.fr B1 t out)
  | .node k n p ts, B1, B2, out, hB, he => by
    simp only [Raw.expl, Bool.or_eq_false_iff, Bool.and_eq_false_iff, decide_eq_false_iff_not] at he
    simp only [Raw.fr]
    split
    · by_cases h1 : n ∈ B1
      · rw [if_pos h1, if_pos ((hB n).2 (.inl h1))]
      · rw [if_neg h1]
        by_cases h2 : n = x
        · rw [if_pos ((hB n).2 (.inr h2)), h2, addN_self]
        · rw [if_neg (fun h => by rcases (hB n).1 h with h | h; exact h1 h; exact h2 h)]
          exact addN_other x n h2 out
    split
    · rename_i hk
      exact addN_other x n (fun e => by rcases he.1 with h | h; exact h hk; exact h e) out
    split
    · exact frB_without x ts B1 B2 n out hB he.2
    · exact frs_without x ts B1 B2 out hB he.2
theorem frs_without (x : List UInt8) : ∀ (ts : List Raw) (B1 B2 out : List (List UInt8)), MoreB x B1 B2 → Raw.expls x ts = false → Raw.frs B2 ts (without x out) = without x (Raw.frs B1 ts out)
  | [], _, _, _, _, _ => by simp [Raw.frs]
  | a :: r, B1, B2, out, hB, he => by
    simp only [Raw.expls, Bool.or_eq_false_iff] at he
    simp only [Raw.frs]
    rw [fr_without x a B1 B2 out hB he.1]
    exact frs_without x r B1 B2 _ hB he.2
theorem frB_without (x : List UInt8) : ∀ (ts : List Raw) (B1 B2 : List (List UInt8)) (n : List UInt8) (out : List (List UInt8)), MoreB x B1 B2 → Raw.expls x ts = false → Raw.frB B2 n ts (without x out) = without x (Raw.frB B1 n ts out)
  | [], _, _, _, _, _, _ => by simp [Raw.frB]
  | [a], B1, B2, n, out, hB, he => by
    simp only [Raw.expls, Bool.or_eq_false_iff] at he
    simp only [Raw.frB]
    exact fr_without x a _ _ out (hB.snoc n) he.1
  | a :: a' :: r, B1, B2, n, out, hB, he => by
    simp only [Raw.expls, Bool.or_eq_false_iff] at he
    simp only [Raw.frB]
    rw [fr_without x a B1 B2 out hB he.1]
    exact fr_without x a' _ _ _ (hB.snoc n) he.2.1
end
theorem free_lam {t : Raw} {x : List UInt8} (h1 : t.wf = 0) (h2 : (Raw.node 8 x 0 [t]).wf = 0) (he : Raw.expl x t = false) : (Raw.node 8 x 0 [t]).freeN = without x t.freeN := by
  have e1 : (Raw.node 8 x 0 [t]).freeN = Raw.fr [] (.node 8 x 0 [t]) [] := if_pos h2
  have e2 : t.freeN = Raw.fr [] t [] := if_pos h1
  rw [e1, e2, Raw.fr, if_neg (by decide), if_neg (by decide), if_pos (.inr rfl), Raw.frB]
  exact fr_without x t [] ([] ++ [x]) [] (fun n => by simp) he
theorem without_take (x : List UInt8) (l : List (List UInt8)) (k : Nat) (h : k < l.length) : without x (l.take (k + 1)) = if l[k] = x then without x (l.take k) else without x (l.take k) ++ [l[k]] := by
  rw [List.take_succ_eq_append_getElem h]
  unfold without
  rw [List.filter_append]
  split
  · rename_i e; simp [e]
  · rename_i e; simp [e]
end Lfc
