/- Maps with names as keys, whatever the values are. -/
import Derived.Test.YtlcikiiijelpjaaDoorOth
import Derived.Maps.OwnSet
import Derived.Maps.Views
set_option linter.unusedVariables false
set_option linter.unusedSimpArgs false
namespace Go.Proofs.YtlcikiiijelpjaaDoor
open Go.RowKit Go.Maps Go.WideMaps

def heldR (v : Value) : Option (DataW Value × List MemPlace) := some (.held v, [])
/-- The map in block Mb holds just these values; z is the element type's zero. -/
def VMap (z : Value) (w : World) (Mb N : Nat) (g : List UInt8 → Option Value) : Prop := ∃ D : DataW Value, w.ownsMap Tryd.prog 9 heldR Mb N D ∧ ∀ n : List UInt8, D.atKey (.string n) (.held z) = .held ((g n).getD z) ∧ Maps.has D (.string n) = (g n).isSome
theorem vkey_name (n : List UInt8) (hn : n.length ≤ 1000000) : keyOf Tryd.prog 9 (S n) = some (.string n) := by
  simpa using keyOf_string_mk (P := Tryd.prog) Tryd.underlying9 (s := ⟨n.toArray⟩) (by simp [ByteArray.size]; unfold maxLen; omega)
theorem VMap.look {z : Value} {w : World} {Mb N : Nat} {g : List UInt8 → Option Value} (h : VMap z w Mb N g) (T e : TypeId) (hT : Tryd.prog.underlying T = some (.map 9 e)) (hz : ∀ w, (zeroValue e).run Tryd.prog w = .ok z w) (n : List UInt8) (hn : n.length ≤ 1000000) :
    (Instr.lookup T (.map (some Mb)) (S n) true).run Tryd.prog w = .ok (.tuple #[(g n).getD z, .bool (g n).isSome]) w := by
  obtain ⟨D, hown, hD⟩ := h
  obtain ⟨v, ps, hrun, hv⟩ := hown.look_ok (string_keyed Tryd.underlying9) hT (hz w) (show heldR z = some (.held z, []) from rfl) (vkey_name n hn)
  rw [(hD n).1, heldR] at hv
  simp only [Option.some.injEq, Prod.mk.injEq, DataW.held.injEq] at hv
  rw [(hD n).2, hv.1] at hrun
  exact hrun
theorem VMap.look1 {z : Value} {w : World} {Mb N : Nat} {g : List UInt8 → Option Value} (h : VMap z w Mb N g) (T e : TypeId) (hT : Tryd.prog.underlying T = some (.map 9 e)) (hz : ∀ w, (zeroValue e).run Tryd.prog w = .ok z w) (n : List UInt8) (hn : n.length ≤ 1000000) :
    (Instr.lookup T (.map (some Mb)) (S n) false).run Tryd.prog w = .ok ((g n).getD z) w := by
  obtain ⟨D, hown, hD⟩ := h
  obtain ⟨v, ps, hrun, hv⟩ := hown.lookup (string_keyed Tryd.underlying9) hT (hz w) (show heldR z = some (.held z, []) from rfl) (vkey_name n hn)
  rw [(hD n).1, heldR] at hv
  simp only [Option.some.injEq, Prod.mk.injEq, DataW.held.injEq] at hv
  rw [hv.1] at hrun
  exact hrun
theorem VMap.made (z : Value) (w : World) : VMap z (w.alloc (.map #[] 0)) w.heap.size 0 (fun _ => none) :=
  ⟨.map [], World.ownsMap_made _ _ _ _, fun n => ⟨rfl, rfl⟩⟩
theorem VMap.kept {z : Value} {w w' : World} {Mb N : Nat} {g : List UInt8 → Option Value} {row : Option Nat} (h : VMap z w Mb N g) (hg : w.grownBy w' row) (hne : some Mb ≠ row) : VMap z w' Mb N g := by
  obtain ⟨D, hown, hD⟩ := h
  exact ⟨D, hown.kept hg hne, hD⟩
theorem VMap.below {z : Value} {w w' : World} {Mb N : Nat} {g : List UInt8 → Option Value} (h : VMap z w Mb N g) (hb : Below w.heap.size w w') : VMap z w' Mb N g :=
  h.kept (row := none) ⟨hb.os, hb.tape, hb.output, hb.size, fun k hk _ => hb.block k hk⟩ (fun e => by cases e)
theorem VMap.lt {z : Value} {w : World} {Mb N : Nat} {g : List UInt8 → Option Value} (h : VMap z w Mb N g) : Mb < w.heap.size := by
  obtain ⟨D, hown, _⟩ := h
  exact hown.lt
theorem VMap.put {z : Value} {w : World} {Mb N : Nat} {g : List UInt8 → Option Value} (h : VMap z w Mb N g) (T e : TypeId) (hT : Tryd.prog.underlying T = some (.map 9 e)) (hN : N ≤ 1000000000) (n : List UInt8) (hn : n.length ≤ 1000000) (v : Value) :
    ∃ w', (Instr.mapUpdate T (.map (some Mb)) (S n) v).run Tryd.prog w = .ok () w' ∧ VMap z w' Mb (N + 1) (fun x => if x = n then some v else g x) ∧ Oth Mb w w' := by
  obtain ⟨D, hown, hD⟩ := h
  obtain ⟨w', hrun, hown', hturn⟩ := hown.store (string_keyed Tryd.underlying9) hT (by unfold maxLen; omega) (vkey_name n hn) (show heldR v = some (.held v, []) from rfl)
  refine ⟨w', hrun, ⟨_, hown', fun x => ?_⟩, hturn.grown⟩
  by_cases e : x = n
  · subst e
    rw [atKey_put_same hown.isMap (by simp [WideAt.IsKeyLit]), has_put_same hown.isMap (by simp [WideAt.IsKeyLit])]
    simp
  · rw [atKey_put_other (by simpa using e), has_put_other (by simpa using e)]
    simp only [if_neg e]
    exact hD x
theorem VMap.congr {z : Value} {w : World} {Mb N : Nat} {g g' : List UInt8 → Option Value} (h : VMap z w Mb N g) (e : ∀ n, g n = g' n) : VMap z w Mb N g' := by
  obtain rfl : g = g' := funext e
  exact h
end Go.Proofs.YtlcikiiijelpjaaDoor
