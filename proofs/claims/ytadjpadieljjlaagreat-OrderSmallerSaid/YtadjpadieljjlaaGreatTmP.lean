/- The plain model of terms (layer 5): objects, types, kinds. No program in sight. -/
import Derived.Test.YtadjpadieljjlaaGreatRawPlain
set_option linter.unusedVariables false
set_option linter.unusedSimpArgs false
namespace Lfc

/-- A Pi or a Lam has a name that may be there, and so many arguments. -/
def tbound (n : List UInt8) (p : Int) (m k : Nat) : Bool := decide (p = 0) && decide (m = k) && (decide (n = []) || decide (n = [95]) || isName n)
mutual
/-- An object of any size. -/
def Raw.obj : Raw → Bool
  | .node k n p as =>
    if k = 3 then tbound n p as.length 1 && Raw.objs as
    else if k = 4 then isName n && decide (p = 0) && Raw.objs as
    else if k = 5 then decide (n = []) && decide (0 ≤ p) && decide (p ≤ 1048576) && Raw.objs as
    else if k = 6 then decide (n = []) && decide (0 ≤ p) && decide (p < 2048) && Raw.objs as
    else false
def Raw.objs : List Raw → Bool
  | [] => true
  | a :: r => Raw.obj a && Raw.objs r
end
/-- A constant whose arguments are objects. -/
def Raw.atm : Raw → Bool
  | .node k n p as => decide (k = 4) && isName n && decide (p = 0) && Raw.objs as
mutual
/-- A type of any size. -/
def Raw.typ : Raw → Bool
  | .node k n p as => (decide (k = 4) && isName n && decide (p = 0) && Raw.objs as) || (decide (k = 2) && tbound n p as.length 2 && Raw.typs as)
def Raw.typs : List Raw → Bool
  | [] => true
  | a :: r => Raw.typ a && Raw.typs r
end
mutual
/-- A kind of any size. -/
def Raw.knd : Raw → Bool
  | .node k n p as => if k = 1 then decide (n = []) && decide (p = 0) && decide (as.length = 0) else decide (k = 2) && tbound n p as.length 2 && Raw.knds as
def Raw.knds : List Raw → Bool
  | [] => true
  | [b] => Raw.knd b
  | a :: r => Raw.typ a && Raw.knds r
end
def Raw.small (t : Raw) : Bool := decide (t.size ≤ 4096) && decide (t.depth ≤ 128)
/-- The error of a term, or 0. -/
def Raw.twf (t : Raw) : Int := if !t.obj && !t.typ && !t.knd then 1 else if !t.small then 2 else 0

theorem objs_spec : ∀ (ts : List Raw), Raw.objs ts = true ↔ ∀ k (h : k < ts.length), ts[k].obj = true
  | [] => by simp [Raw.objs]
  | a :: r => by
    rw [Raw.objs, Bool.and_eq_true, objs_spec r]
    constructor
    · rintro ⟨h1, h2⟩ k h
      cases k with
      | zero => exact h1
      | succ k => exact h2 k (by simpa using h)
    · intro h
      exact ⟨h 0 (by simp), fun k hk => h (k + 1) (by simpa using hk)⟩
theorem objs_false (ts : List Raw) (k : Nat) (h : k < ts.length) (hf : ts[k].obj = false) : Raw.objs ts = false := by
  cases hs : Raw.objs ts
  · rfl
  · rw [(objs_spec ts).1 hs k h] at hf; cases hf
theorem atm_node (k p : Int) (n : List UInt8) (as : List Raw) : Raw.atm (.node k n p as) = (decide (k = 4) && isName n && decide (p = 0) && Raw.objs as) := rfl
theorem typ_node (k p : Int) (n : List UInt8) (as : List Raw) : Raw.typ (.node k n p as) = (Raw.atm (.node k n p as) || (decide (k = 2) && tbound n p as.length 2 && Raw.typs as)) := by rw [Raw.typ, atm_node]
end Lfc
