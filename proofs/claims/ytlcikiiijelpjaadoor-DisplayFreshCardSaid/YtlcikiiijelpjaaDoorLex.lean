/- The contract of token.Lex: it returns the tokens of the plain model, in a slice of its own. -/
import Derived.Test.YtlcikiiijelpjaaDoorNext
namespace Go.Proofs.YtlcikiiijelpjaaDoor
open Go.RowKit

def tokCells (l : List Lfc.Tok) : List Value := l.flatMap fun t => [.int .i64 t.kind, S t.text, .int .i64 (t.pos : Int)]
theorem tokCells_len (l : List Lfc.Tok) : (tokCells l).length = l.length * 3 := by
  induction l with
  | nil => rfl
  | cons a t ih => simp only [tokCells, List.flatMap_cons, List.length_append, List.length_cons, List.length_nil] at *; omega
theorem tokCells_snoc (l : List Lfc.Tok) (t : Lfc.Tok) : tokCells (l ++ [t]) = tokCells l ++ [.int .i64 t.kind, S t.text, .int .i64 (t.pos : Int)] := by simp [tokCells]

theorem only_of_below {a w : World} (h : Below a.heap.size a w) (row : Option Nat) : a.grownBy w row := ⟨h.os, h.tape, h.output, h.size, fun i hi _ => h.block i hi⟩
theorem own_below {w w' : World} {base : Nat} {e : TypeId} {size n : Nat} {v : Value} {xs : List Value} (h : w.ownsRow base e size v n xs) (hb : Below w.heap.size w w') : w'.ownsRow base e size v n xs :=
  h.kept (only_of_below hb none) (by cases hv : v.ownBlock <;> simp)
theorem own_form {w : World} {base : Nat} {e : TypeId} {size n : Nat} {v : Value} {xs : List Value} (h : w.ownsRow base e size v n xs) : ∃ A c, v = .slice A n c := by
  rcases h.2 with ⟨rfl, rfl⟩ | ⟨g, cap, cur, rfl, _⟩
  · exact ⟨_, _, rfl⟩
  · exact ⟨_, _, rfl⟩
theorem own_nil (w : World) (base : Nat) (e : TypeId) (size : Nat) : w.ownsRow base e size (.slice none 0 0) 0 [] := ⟨by simp, .inl ⟨rfl, rfl⟩⟩

theorem addr_add (b j : Nat) : (⟨b, 0, none⟩ : Addr).add j = ⟨b, j, none⟩ := by
  unfold Addr.add; split <;> simp_all
theorem cells_new (W : World) (n : Nat) (hn : n = W.heap.size) (xs : List Value) (e : TypeId) (j : Nat) (u : Value) (h : xs[j]? = some u) : (W.alloc (.cells xs.toArray e)).cell? ((⟨n, 0, none⟩ : Addr).add j) = some u := by
  subst hn
  rw [addr_add, cell_of_row _ _ j xs.toArray e (0, 0) (heap_alloc_new W _)]
  simpa using h
theorem own_block_ge {w : World} {base : Nat} {e : TypeId} {size n : Nat} {v : Value} {xs : List Value} (h : w.ownsRow base e size v n xs) : ∀ k, v.ownBlock = some k → base ≤ k := by
  rcases h.2 with ⟨rfl, rfl⟩ | ⟨g, cap, cur, rfl, hg, _⟩
  · intro k hk; cases hk
  · intro k hk; cases hk; exact hg

/-- What the round of Lex needs of the text that is left. -/
theorem lexR_at (l : List UInt8) (k : Nat) (acc : List Lfc.Tok) (h : k < l.length) : Lfc.lexR k (l.drop k) acc =
    if (Lfc.nx (l.drop k)).err ≠ 0 then ([], (Lfc.nx (l.drop k)).err, k)
    else if (Lfc.nx (l.drop k)).kind = 0 then Lfc.lexR (k + (Lfc.nx (l.drop k)).len) (l.drop (k + (Lfc.nx (l.drop k)).len)) acc
    else if acc.length = 20000 then ([], 7, k)
    else Lfc.lexR (k + (Lfc.nx (l.drop k)).len) (l.drop (k + (Lfc.nx (l.drop k)).len)) (acc ++ [⟨(Lfc.nx (l.drop k)).kind, (Lfc.nx (l.drop k)).text, k⟩]) := by
  have e1 : l.drop k = l[k] :: l.drop (k + 1) := List.drop_eq_getElem_cons h
  have e2 : ∀ m, l.drop (k + m) = (l[k] :: l.drop (k + 1)).drop m := fun m => by rw [← e1, List.drop_drop]
  rw [e2, e1]
  exact Lfc.lexR_cons _ _ _ _
theorem nx_at (l : List UInt8) (k : Nat) (h : k < l.length) (he : (Lfc.nx (l.drop k)).err = 0) : 1 ≤ (Lfc.nx (l.drop k)).len ∧ k + (Lfc.nx (l.drop k)).len ≤ l.length := by
  have e1 : l.drop k = l[k] :: l.drop (k + 1) := List.drop_eq_getElem_cons h
  rw [e1] at he ⊢
  have := Lfc.nx_len _ _ he
  rw [List.length_drop] at this
  omega

end Go.Proofs.YtlcikiiijelpjaaDoor
