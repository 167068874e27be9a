/- The nodes of a term with the number of the binders around each. No program in sight. -/
import Derived.Test.YtadjpadieljjlaaGreatTmP
set_option linter.unusedVariables false
set_option linter.unusedSimpArgs false
namespace Lfc

/-- Is the argument with this number under the binder of its node? -/
def under (k : Int) (i : Nat) : Nat := if k = 3 ∨ (k = 2 ∧ i = 1) then 1 else 0
mutual
def Raw.nodes (d : Nat) : Raw → List (Nat × Raw)
  | .node k n p as => (d, .node k n p as) :: Raw.nodesL d k 0 as
def Raw.nodesL (d : Nat) (k : Int) (i : Nat) : List Raw → List (Nat × Raw)
  | [] => []
  | a :: r => Raw.nodes (d + under k i) a ++ Raw.nodesL d k (i + 1) r
end
theorem nodesL_app (d : Nat) (k : Int) : ∀ (a b : List Raw) (i : Nat), Raw.nodesL d k i (a ++ b) = Raw.nodesL d k i a ++ Raw.nodesL d k (i + a.length) b
  | [], b, i => by simp [Raw.nodesL]
  | x :: a, b, i => by
    rw [List.cons_append, Raw.nodesL, Raw.nodesL, nodesL_app d k a b (i + 1), List.append_assoc, List.length_cons, show i + 1 + a.length = i + (a.length + 1) by omega]
theorem nodesL_take (d : Nat) (k : Int) (ts : List Raw) (j : Nat) (h : j < ts.length) : Raw.nodesL d k 0 (ts.take (j + 1)) = Raw.nodesL d k 0 (ts.take j) ++ Raw.nodes (d + under k j) ts[j] := by
  rw [List.take_succ_eq_append_getElem h, nodesL_app]
  simp [Raw.nodesL, List.length_take, Nat.min_eq_left (Nat.le_of_lt h)]
theorem nodesL_pre (d : Nat) (k : Int) (ts : List Raw) (j : Nat) : Raw.nodesL d k 0 (ts.take j) <+: Raw.nodesL d k 0 ts := by
  refine ⟨Raw.nodesL d k (0 + (ts.take j).length) (ts.drop j), ?_⟩
  rw [← nodesL_app, List.take_append_drop]
theorem nodes_mem (d : Nat) (k p : Int) (n : List UInt8) (ts : List Raw) (j : Nat) (h : j < ts.length) (y : Nat × Raw) (hy : y ∈ Raw.nodes (d + under k j) ts[j]) : y ∈ Raw.nodes d (.node k n p ts) := by
  rw [Raw.nodes]
  refine List.mem_cons_of_mem _ ((nodesL_pre d k ts (j + 1)).subset ?_)
  rw [nodesL_take d k ts j h]
  exact List.mem_append_right _ hy
theorem nodes_len (m : Nat) : ∀ (t : Raw) (d : Nat), t.size ≤ m → (Raw.nodes d t).length = t.size := by
  induction m with
  | zero => intro t d h; have := t.size_pos; omega
  | succ m ih =>
    intro t d h
    obtain ⟨k, n, p, ts⟩ := t
    simp only [Raw.size] at h
    have hl : ∀ (l : List Raw) (i : Nat), Raw.sizes l ≤ m → (Raw.nodesL d k i l).length = Raw.sizes l := by
      intro l
      induction l with
      | nil => intro i _; simp [Raw.nodesL, Raw.sizes]
      | cons a r ihl =>
        intro i hs
        simp only [Raw.sizes] at hs
        rw [Raw.nodesL, List.length_append, ih a _ (by omega), ihl _ (by omega), Raw.sizes]
    rw [Raw.nodes, List.length_cons, hl ts 0 (by omega), Raw.size]
theorem nodes_size (t : Raw) (d : Nat) : (Raw.nodes d t).length = t.size := nodes_len _ t d (Nat.le_refl _)
/-- At a node so many binders deep. -/
theorem nodes_deep (m : Nat) : ∀ (t : Raw) (d : Nat), t.size ≤ m → ∀ y ∈ Raw.nodes d t, y.1 < d + t.size := by
  induction m with
  | zero => intro t d h; have := t.size_pos; omega
  | succ m ih =>
    intro t d h y hy
    obtain ⟨k, n, p, ts⟩ := t
    simp only [Raw.size] at h ⊢
    have hl : ∀ (l : List Raw) (i : Nat), Raw.sizes l ≤ m → ∀ y ∈ Raw.nodesL d k i l, y.1 < d + 1 + Raw.sizes l := by
      intro l
      induction l with
      | nil => intro i _ y hy; simp [Raw.nodesL] at hy
      | cons a r ihl =>
        intro i hs y hy
        simp only [Raw.sizes] at hs ⊢
        rw [Raw.nodesL] at hy
        rcases List.mem_append.1 hy with hy | hy
        · have := ih a _ (by omega) y hy
          have hu : under k i ≤ 1 := by unfold under; split <;> omega
          omega
        · have := ihl _ (by omega) y hy; omega
    rw [Raw.nodes] at hy
    rcases List.mem_cons.1 hy with rfl | hy
    · simp only; omega
    · have := hl ts 0 (by omega) y hy; omega
theorem nodesL_size (d : Nat) (k : Int) : ∀ (l : List Raw) (i : Nat), (Raw.nodesL d k i l).length = Raw.sizes l
  | [], i => by simp [Raw.nodesL, Raw.sizes]
  | a :: r, i => by rw [Raw.nodesL, List.length_append, nodes_size, nodesL_size d k r, Raw.sizes]
theorem sizesTake (ts : List Raw) (k : Nat) (h : k < ts.length) : Raw.sizes (ts.take k) + ts[k].size ≤ Raw.sizes ts := by
  have h1 : Raw.sizes ts = Raw.sizes (ts.take (k + 1)) + Raw.sizes (ts.drop (k + 1)) := by rw [← Raw.sizes_app, List.take_append_drop]
  rw [List.take_succ_eq_append_getElem h, Raw.sizes_app] at h1
  simp only [Raw.sizes] at h1
  omega
end Lfc
namespace Lfc
/-- The greatest free variable of some nodes, plus one. -/
def scopeN (l : List (Nat × Raw)) : Int := l.foldl (fun n x => if x.2.kind = 5 then max n (x.2.pos - x.1 + 1) else n) 0
theorem scopeN_snoc (l : List (Nat × Raw)) (d : Nat) (t : Raw) : scopeN (l ++ [(d, t)]) = if t.kind = 5 then max (scopeN l) (t.pos - d + 1) else scopeN l := by simp [scopeN]
theorem scopeN_nonneg (l : List (Nat × Raw)) : ∀ n : Int, 0 ≤ n → 0 ≤ l.foldl (fun n (x : Nat × Raw) => if x.2.kind = 5 then max n (x.2.pos - x.1 + 1) else n) n := by
  induction l with
  | nil => intro n h; exact h
  | cons a r ih => intro n h; rw [List.foldl_cons]; apply ih; split <;> omega
end Lfc
