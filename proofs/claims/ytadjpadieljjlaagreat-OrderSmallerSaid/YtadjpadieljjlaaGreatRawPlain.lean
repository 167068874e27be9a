/- The plain model of syntax trees (layer 2). No program in sight. -/
import Derived.Test.YtadjpadieljjlaaGreatPlain
set_option linter.unusedVariables false
set_option linter.unusedSimpArgs false
namespace Lfc

inductive Raw where
  | node (kind : Int) (name : List UInt8) (pos : Int) (args : List Raw)

def Raw.kind : Raw → Int | .node k _ _ _ => k
def Raw.name : Raw → List UInt8 | .node _ n _ _ => n
def Raw.pos : Raw → Int | .node _ _ p _ => p
def Raw.args : Raw → List Raw | .node _ _ _ as => as

mutual
def Raw.size : Raw → Nat
  | .node _ _ _ as => Raw.sizes as + 1
def Raw.sizes : List Raw → Nat
  | [] => 0
  | a :: r => Raw.size a + Raw.sizes r
end
mutual
def Raw.depth : Raw → Nat
  | .node _ _ _ as => Raw.depths as + 1
def Raw.depths : List Raw → Nat
  | [] => 0
  | a :: r => max (Raw.depth a) (Raw.depths r)
end
mutual
/-- The same trees; with offsets, if at_ is true. -/
def Raw.same (at_ : Bool) : Raw → Raw → Bool
  | .node k n p as, .node k' n' p' as' => decide (k = k') && decide (n = n') && (!at_ || decide (p = p')) && Raw.sames at_ as as'
def Raw.sames (at_ : Bool) : List Raw → List Raw → Bool
  | [], [] => true
  | a :: r, a' :: r' => Raw.same at_ a a' && Raw.sames at_ r r'
  | _, _ => false
end

/-- A node has the name and the number of arguments of its kind. -/
def formed (k : Int) (n : List UInt8) (m : Nat) : Bool :=
  if k = 1 ∨ k = 2 then isName n && decide (m = 0)
  else if k = 3 ∨ k = 4 then decide (n = []) && decide (m = 0)
  else if k = 5 ∨ k = 6 ∨ k = 9 then decide (n = []) && decide (m = 2)
  else if k = 7 ∨ k = 8 then (isName n || decide (n = [95])) && (decide (m = 1) || decide (m = 2))
  else false
mutual
def Raw.form : Raw → Bool
  | .node k n _ as => formed k n as.length && Raw.forms as
def Raw.forms : List Raw → Bool
  | [] => true
  | a :: r => Raw.form a && Raw.forms r
end
def Raw.wf (t : Raw) : Int := if !t.form then 1 else if 4096 < t.size ∨ 128 < t.depth then 2 else 0

theorem Raw.sizes_app (a b : List Raw) : Raw.sizes (a ++ b) = Raw.sizes a + Raw.sizes b := by
  induction a with
  | nil => simp [Raw.sizes]
  | cons x r ih => simp only [List.cons_append, Raw.sizes, ih]; omega
theorem Raw.depths_app (a b : List Raw) : Raw.depths (a ++ b) = max (Raw.depths a) (Raw.depths b) := by
  induction a with
  | nil => simp [Raw.depths]
  | cons x r ih => simp only [List.cons_append, Raw.depths, ih]; omega
theorem Raw.size_pos (t : Raw) : 1 ≤ t.size := by cases t; simp [Raw.size]
theorem Raw.sizes_len (l : List Raw) : l.length ≤ Raw.sizes l := by
  induction l with
  | nil => simp [Raw.sizes]
  | cons a r ih => have := a.size_pos; simp only [Raw.sizes, List.length_cons]; omega
theorem Raw.sizes_mem (l : List Raw) (t : Raw) (h : t ∈ l) : t.size ≤ Raw.sizes l := by
  induction l with
  | nil => cases h
  | cons a r ih =>
    simp only [Raw.sizes]
    rcases List.mem_cons.1 h with rfl | h
    · omega
    · have := ih h; omega
theorem Raw.depth_le_size (n : Nat) : ∀ (t : Raw), t.size ≤ n → t.depth ≤ t.size := by
  induction n with
  | zero => intro t h; have := t.size_pos; omega
  | succ n ih =>
    intro t h
    obtain ⟨k, nm, p, as⟩ := t
    simp only [Raw.size, Raw.depth] at h ⊢
    have : ∀ (l : List Raw), Raw.sizes l ≤ n → Raw.depths l ≤ Raw.sizes l := by
      intro l
      induction l with
      | nil => intro _; simp [Raw.depths, Raw.sizes]
      | cons a r ihl =>
        intro hl
        simp only [Raw.sizes, Raw.depths] at hl ⊢
        have h1 := ih a (by omega)
        have h2 := ihl (by omega)
        omega
    have := this as (by omega)
    omega
end Lfc
