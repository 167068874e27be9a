/- Free's memory: a map of the names found, two rows of names. -/
import Derived.Test.YtkhfnkokdmoipaaDoorRawFreeP
import Derived.Test.YtkhfnkokdmoipaaDoorRawNames
import Derived.Maps.OwnSet
import Derived.Maps.AppendAt
import Derived.Maps.Views
set_option linter.unusedVariables false
set_option linter.unusedSimpArgs false
namespace Go.Proofs.YtkhfnkokdmoipaaDoor
open Go.RowKit Go.Maps Go.WideMaps

def nameCells (l : List (List UInt8)) : List Value := l.map fun n => S n
/-- The map in block Bm holds just these names. -/
def SeenAt (w : World) (Bm : Nat) (out : List (List UInt8)) : Prop := ∃ D : DataW Unit, w.ownsMap Tryd.prog 9 (plainElem Tryd.prog 4) Bm out.length D ∧ ∀ n : List UInt8, D.atKey (.string n) (.lit (.bool false)) = .lit (.bool (decide (n ∈ out)))

theorem plainElem_bool_inv {v : Value} {z : DataW Unit × List MemPlace} (h : plainElem Tryd.prog 4 v = some z) : ∃ x, v = .bool x ∧ z = (.lit (.bool x), []) := by
  unfold plainElem at h
  rw [Tryd.underlying4] at h
  cases v <;> simp at h
  exact ⟨_, rfl, h.symm⟩
theorem keyOf_name (n : List UInt8) (hn : n.length ≤ 1000000) : keyOf Tryd.prog 9 (S n) = some (.string n) := by
  simpa using keyOf_string_mk (P := Tryd.prog) Tryd.underlying9 (s := ⟨n.toArray⟩) (by simp [ByteArray.size]; unfold maxLen; omega)
theorem seen_made (w : World) : SeenAt (w.alloc (.map #[] 0)) w.heap.size [] :=
  ⟨.map [], World.ownsMap_made _ _ _ _, fun n => rfl⟩
theorem seen_put {D : DataW Unit} (hm : IsMap D) {out : List (List UInt8)} (hD : ∀ n : List UInt8, D.atKey (.string n) (.lit (.bool false)) = .lit (.bool (decide (n ∈ out)))) (x : List UInt8) :
    ∀ n : List UInt8, (D.put (.string x) (.lit (.bool true))).atKey (.string n) (.lit (.bool false)) = .lit (.bool (decide (n ∈ out ++ [x]))) := by
  intro n
  by_cases h : n = x
  · subst h
    rw [atKey_put_same hm (by simp [WideAt.IsKeyLit])]
    simp
  · rw [atKey_put_other (by simpa using h), hD n]
    simp [h]

/-- Boxes and blocks of other types stand. -/
def KeptR (w w' : World) : Prop := ∀ (k : Nat) (c : Array Value) (t : TypeId), w.heap[k]? = some (.cells c t (0, 0)) → t ≠ 9 → t ≠ 44 → w'.heap[k]? = some (.cells c t (0, 0))
theorem KeptR.refl (w : World) : KeptR w w := fun _ _ _ h _ _ => h
theorem KeptR.trans {w w' w'' : World} (h : KeptR w w') (h' : KeptR w' w'') : KeptR w w'' := fun k c t hk h1 h2 => h' k c t (h k c t hk h1 h2) h1 h2
theorem KeptR.alloc (w : World) (o : Obj) : KeptR w (w.alloc o) := fun k _ _ h _ _ => (Lib.alloc_old w o k (lt_of_block h)).trans h
theorem KeptR.drew (w : World) : KeptR w w.drew := fun _ _ _ h _ _ => h
theorem KeptR.grown {w w' : World} {row : Option Nat} (hg : w.grownBy w' row) (hrow : ∀ g c t, row = some g → w.heap[g]? = some (.cells c t (0, 0)) → t = 9) : KeptR w w' := by
  intro k c t hk h1 _
  rw [hg.block k (lt_of_block hk) (fun e => h1 (hrow k c t e.symm hk))]
  exact hk
theorem KeptR.setCell {w : World} {b : Nat} {v : Value} (hb : w.heap[b]? = some (.cells #[v] 44 (0, 0))) (u : Value) : KeptR w (w.setCell ⟨b, 0, none⟩ u) := by
  intro k c t hk _ h2
  rw [Below.heap_setCell _ _ _ _ (fun e => ?_)]
  · exact hk
  · have e' : k = b := e
    subst e'
    rw [hb] at hk
    cases hk
    exact h2 rfl
end Go.Proofs.YtkhfnkokdmoipaaDoor
