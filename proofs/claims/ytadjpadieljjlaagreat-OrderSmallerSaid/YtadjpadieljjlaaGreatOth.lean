/- Only one block is written. -/
import Derived.Test.YtadjpadieljjlaaGreatLeaf
set_option linter.unusedVariables false
set_option linter.unusedSimpArgs false
namespace Go.Proofs.YtadjpadieljjlaaGreat
open Go.RowKit
/-- Only block T is written; else only new memory is made. -/
abbrev Oth (T : Nat) (w w' : World) : Prop := w.grownBy w' (some T)
theorem Oth.refl (T : Nat) (w : World) : Oth T w w := ⟨rfl, rfl, rfl, Nat.le_refl _, fun _ _ _ => rfl⟩
theorem Oth.trans {T : Nat} {w w1 w2 : World} (h : Oth T w w1) (h' : Oth T w1 w2) : Oth T w w2 :=
  ⟨h'.os.trans h.os, h'.tape.trans h.tape, h'.output.trans h.output, Nat.le_trans h.size h'.size, fun k hk hn => (h'.block k (Nat.lt_of_lt_of_le hk h.size) hn).trans (h.block k hk hn)⟩
theorem Oth.of_below {T : Nat} {w w' : World} (h : Below w.heap.size w w') : Oth T w w' := ⟨h.os, h.tape, h.output, h.size, fun k hk _ => h.block k hk⟩
theorem Oth.of_new {T : Nat} {w w1 w2 : World} (h : Oth T w w1) (h' : Below w.heap.size w1 w2) : Oth T w w2 :=
  ⟨h'.os.trans h.os, h'.tape.trans h.tape, h'.output.trans h.output, Nat.le_trans h.size h'.size, fun k hk hn => (h'.block k hk).trans (h.block k hk hn)⟩
theorem Oth.set {T j : Nat} (w : World) (v : Value) : Oth T w (w.setCell ⟨T, j, none⟩ v) :=
  ⟨rfl, rfl, rfl, by simp [World.setCell], fun k _ hk => Below.heap_setCell _ _ _ _ (fun e => hk (by simp [e]))⟩
theorem Oth.drew {T : Nat} {w w' : World} (h : Oth T w w') : Oth T w w'.drew := ⟨h.os, h.tape, h.output, h.size, h.block⟩
theorem Oth.cell {T : Nat} {w w' : World} (h : Oth T w w') {p : Addr} (hp : p.block < w.heap.size) (hn : p.block ≠ T) : w'.cell? p = w.cell? p :=
  World.cell?_of_block (h.block _ hp (fun e => hn (Option.some.inj e)))
theorem Oth.heap {T : Nat} {w w' : World} (h : Oth T w w') {k : Nat} {o : Obj} (hk : w.heap[k]? = some o) (hn : k ≠ T) : w'.heap[k]? = some o :=
  (h.block k (lt_of_block hk) (fun e => hn (Option.some.inj e))).trans hk
theorem Oth.below {T B : Nat} {w w1 w2 : World} (h : Below B w w1) (h' : Oth T w1 w2) (hT : B ≤ T) (hB : B ≤ w1.heap.size) : Below B w w2 :=
  ⟨h'.os.trans h.os, h'.tape.trans h.tape, h'.output.trans h.output, Nat.le_trans h.size h'.size, fun k hk => (h'.block k (by omega) (fun e => by have := Option.some.inj e; omega)).trans (h.block k hk)⟩

end Go.Proofs.YtadjpadieljjlaaGreat
