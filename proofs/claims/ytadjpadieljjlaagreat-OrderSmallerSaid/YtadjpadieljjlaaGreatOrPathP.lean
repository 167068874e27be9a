/- The plain model of Path; what its walk keeps. -/
import Derived.Test.YtadjpadieljjlaaGreatOrFits
import Derived.Test.YtadjpadieljjlaaGreatOrMv
import Derived.RangeFuncBox
import Derived.WalkSmall
import Derived.Maps.AppendAt
set_option linter.unusedVariables false
set_option linter.unusedSimpArgs false
namespace Lfc
mutual
/-- The first path at which t stands in s. -/
def Raw.pth (ks : List Int) (t : Raw) : Raw → Nat → Option (List Int)
  | .node k n p xs, cr => if Raw.stands ks cr (.node k n p xs) t = true then some [] else if Raw.pas ks cr (.node k n p xs) = false then none else Raw.pths ks t xs (if k = 3 then cr + 1 else cr) 0
def Raw.pths (ks : List Int) (t : Raw) : List Raw → Nat → Int → Option (List Int)
  | [], _, _ => none
  | a :: r, cr, i => match Raw.pth ks t a cr with
    | some q => some (i :: q)
    | none => Raw.pths ks t r cr (i + 1)
end
def Raw.path (ks : List Int) (t u : Raw) : Option (List Int) := if t.isO && u.isO then Raw.pth ks t u 0 else none
theorem pths_drop {ks : List Int} {t : Raw} {cr : Nat} {xs : List Raw} {j : Nat} (h : j < xs.length) :
    Raw.pths ks t (xs.drop j) cr (j : Int) = match Raw.pth ks t xs[j] cr with | some q => some ((j : Int) :: q) | none => Raw.pths ks t (xs.drop (j + 1)) cr ((j + 1 : Nat) : Int) := by
  rw [List.drop_eq_getElem_cons h, Raw.pths]
  rfl
end Lfc
namespace Go.Proofs.YtadjpadieljjlaaGreat
open Go.RowKit
theorem enters_path : ∀ args w, (callFunc 44 args).run Tryz.prog w = .ok (.enter 44 args) w := enters_of Tryz.func44 (by kernel_rfl) rfl
theorem ownBlock_slice (A : Option Addr) (n c : Nat) : (Value.slice A n c).ownBlock = A.map (·.block) := by cases A <;> rfl
/-- What is kept but the variable in block B and the list that lies in block A (or is moved). -/
structure PtK (B : Nat) (W : World) (A : Option Addr) (w' : World) (A' : Option Addr) : Prop where
  blk : A'.map (·.block) = A.map (·.block) ∨ ∃ g, A'.map (·.block) = some g ∧ W.heap.size ≤ g
  kept : ∀ b, b < W.heap.size → b ≠ B → some b ≠ A.map (·.block) → w'.heap[b]? = W.heap[b]?
  size : W.heap.size ≤ w'.heap.size
theorem PtK.refl (B : Nat) (W : World) (A : Option Addr) : PtK B W A W A := ⟨.inl rfl, fun _ _ _ _ => rfl, Nat.le_refl _⟩
theorem PtK.trans {B : Nat} {W w1 w2 : World} {A A1 A2 : Option Addr} (h : PtK B W A w1 A1) (k : PtK B w1 A1 w2 A2) : PtK B W A w2 A2 := by
  refine ⟨?_, fun b hb hB hA => ?_, Nat.le_trans h.size k.size⟩
  · rcases k.blk with e | ⟨g, e, hg⟩
    · rw [e]; exact h.blk
    · exact .inr ⟨g, e, Nat.le_trans h.size hg⟩
  · rw [k.kept b (Nat.lt_of_lt_of_le hb h.size) hB ?_, h.kept b hb hB hA]
    rcases h.blk with e | ⟨g, e, hg⟩
    · rw [e]; exact hA
    · rw [e]; intro e2; have := Option.some.inj e2; omega
theorem PtK.wide {B : Nat} {W w' : World} (A : Option Addr) (h : Below W.heap.size W w') : PtK B W A w' A := ⟨.inl rfl, fun b hb _ _ => h.block b hb, h.size⟩
theorem PtK.set {B : Nat} {W : World} (A : Option Addr) (v : Value) : PtK B W A (W.setCell ⟨B, 0, none⟩ v) A :=
  ⟨.inl rfl, fun b _ hB _ => Below.heap_setCell _ _ _ _ hB, by simp [World.setCell]⟩
theorem PtK.grown {B : Nat} {W w' : World} {A A' : Option Addr} (hg : W.grownBy w' (A.map (·.block))) (hA : A'.map (·.block) = A.map (·.block) ∨ A'.map (·.block) = some W.heap.size) : PtK B W A w' A' :=
  ⟨hA.imp id (fun e => ⟨_, e, Nat.le_refl _⟩), fun b hb _ h => hg.block b hb h, hg.size⟩
/-- What the walk of Path keeps. -/
structure PtS (w0 : World) (ks : List Int) (A0 : Option Addr) (c0 : Nat) (kt pt : Int) (nt : List UInt8) (At : Option Addr) (lt ct B1 B2 B3 B4 base : Nat) (W : World) (path : List Int) (A : Option Addr) (c : Nat) : Prop where
  below : Below w0.heap.size w0 W
  b1 : W.heap[B1]? = some (.cells #[.int .i64 kt, S nt, .int .i64 pt, .slice At lt ct] 51 (0, 0))
  b2 : W.heap[B2]? = some (.cells #[.slice A0 ks.length c0] 22 (0, 0))
  b3 : W.heap[B3]? = some (.cells #[.slice A path.length c] 22 (0, 0))
  b4 : W.heap[B4]? = some (.cells #[.func (.func 44) #[] #[.pointer (some ⟨B1, 0, none⟩), .pointer (some ⟨B2, 0, none⟩), .pointer (some ⟨B3, 0, none⟩), .pointer (some ⟨B4, 0, none⟩)]] 97 (0, 0))
  own : W.ownsRow base 3 1 (.slice A path.length c) path.length (ints path)
  n : w0.heap.size ≤ B3 ∧ B1 < base ∧ B2 < base ∧ B3 < base ∧ B4 < base ∧ B1 ≠ B3 ∧ B2 ≠ B3 ∧ B4 ≠ B3 ∧ base ≤ W.heap.size
section
variable {w0 : World} {ks : List Int} {A0 : Option Addr} {c0 : Nat} {kt pt : Int} {nt : List UInt8} {At : Option Addr} {lt ct B1 B2 B3 B4 base : Nat} {W w' : World} {path : List Int} {A : Option Addr} {c : Nat}
theorem PtS.blk (h : PtS w0 ks A0 c0 kt pt nt At lt ct B1 B2 B3 B4 base W path A c) {g : Nat} (e : A.map (·.block) = some g) : base ≤ g ∧ g < W.heap.size := h.own.lt g (by rw [ownBlock_slice]; exact e)
theorem PtS.wide (h : PtS w0 ks A0 c0 kt pt nt At lt ct B1 B2 B3 B4 base W path A c) (hb : Below W.heap.size W w') : PtS w0 ks A0 c0 kt pt nt At lt ct B1 B2 B3 B4 base w' path A c := by
  obtain ⟨n0, n1, n2, n3, n4, n5, n6, n7, n8⟩ := h.n
  have hs := hb.size
  exact ⟨h.below.trans (hb.mono h.below.size), (hb.block _ (by omega)).trans h.b1, (hb.block _ (by omega)).trans h.b2, (hb.block _ (by omega)).trans h.b3, (hb.block _ (by omega)).trans h.b4,
    h.own.kept (Oth.of_below (T := B3) hb) (.inr fun e => by rw [ownBlock_slice] at e; have := (h.blk e).1; omega), n0, n1, n2, n3, n4, n5, n6, n7, by omega⟩
/-- The list has grown, and the variable is set to it. -/
theorem PtS.push (h : PtS w0 ks A0 c0 kt pt nt At lt ct B1 B2 B3 B4 base W path A c) {x : Int} {A' : Option Addr} {c' : Nat} (hown : w'.ownsRow base 3 1 (.slice A' (path.length + 1) c') (path.length + 1) (ints path ++ [.int .i64 x])) (hg : W.grownBy w' (A.map (·.block))) :
    PtS w0 ks A0 c0 kt pt nt At lt ct B1 B2 B3 B4 base (w'.setCell ⟨B3, 0, none⟩ (.slice A' (path.length + 1) c')) (path ++ [x]) A' c' := by
  obtain ⟨n0, n1, n2, n3, n4, n5, n6, n7, n8⟩ := h.n
  have hs := hg.size
  have hk : ∀ b, b < base → b ≠ B3 → (w'.setCell ⟨B3, 0, none⟩ (.slice A' (path.length + 1) c')).heap[b]? = W.heap[b]? := fun b hb hB => by
    rw [Below.heap_setCell _ _ _ _ hB]
    exact hg.block b (by omega) (fun e => by have := (h.blk e.symm).1; omega)
  have hb0 : w0.heap.size ≤ base := by omega
  have e1 : (path ++ [x]).length = path.length + 1 := by simp
  refine ⟨⟨hg.os.trans h.below.os, hg.tape.trans h.below.tape, hg.output.trans h.below.output, by simp [World.setCell]; exact Nat.le_trans h.below.size hs, fun b hb => ?_⟩, (hk _ n1 n5).trans h.b1, (hk _ n2 n6).trans h.b2, ?_, (hk _ n4 n7).trans h.b4, ?_, n0, n1, n2, n3, n4, n5, n6, n7, by simp [World.setCell]; omega⟩
  · rw [hk b (by omega) (by omega)]; exact h.below.block b hb
  · have h3 : w'.heap[B3]? = some (.cells #[.slice A path.length c] 22 (0, 0)) := (hg.block B3 (by omega) (fun e => by have := (h.blk e.symm).1; omega)).trans h.b3
    rw [e1]
    simp [World.setCell, Array.getElem?_modify, h3]
  · rw [e1]
    have e2 : ints (path ++ [x]) = ints path ++ [.int .i64 x] := by simp [ints]
    rw [e2]
    exact ownsRow_setCell_other hown (fun e => by have := (hown.lt B3 e).1; omega) _
/-- The list is cut by its last number. -/
theorem PtS.pop {x : Int} (h : PtS w0 ks A0 c0 kt pt nt At lt ct B1 B2 B3 B4 base W (path ++ [x]) A c) : PtS w0 ks A0 c0 kt pt nt At lt ct B1 B2 B3 B4 base (W.setCell ⟨B3, 0, none⟩ (.slice A path.length c)) path A c := by
  obtain ⟨n0, n1, n2, n3, n4, n5, n6, n7, n8⟩ := h.n
  have e1 : (path ++ [x]).length = path.length + 1 := by simp
  have hown := h.own
  rw [e1] at hown
  obtain ⟨g, cap, hv⟩ := ownsRow_succ hown
  injection hv with ha _ hc
  subst ha hc
  have hk : ∀ b, b ≠ B3 → (W.setCell ⟨B3, 0, none⟩ (.slice (some ⟨g, 0, none⟩) path.length c)).heap[b]? = W.heap[b]? := fun b hB => Below.heap_setCell _ _ _ _ hB
  have e2 : ints (path ++ [x]) = ints path ++ [.int .i64 x] := by simp [ints]
  rw [e2] at hown
  have hp : W.ownsRow base 3 1 (.slice (some ⟨g, 0, none⟩) path.length c) path.length (ints path) := ownsRow_pop (last := [.int .i64 x]) (by simp [ints]) hown
  refine ⟨⟨h.below.os, h.below.tape, h.below.output, by simp [World.setCell]; exact h.below.size, fun b hb => by rw [hk b (by omega)]; exact h.below.block b hb⟩, (hk _ n5).trans h.b1, (hk _ n6).trans h.b2, ?_, (hk _ n7).trans h.b4, ownsRow_setCell_other hp (fun e => by have := (hp.lt B3 e).1; omega) _, n0, n1, n2, n3, n4, n5, n6, n7, by simp [World.setCell]; omega⟩
  have h3 := h.b3
  simp [World.setCell, Array.getElem?_modify, h3]
end
end Go.Proofs.YtadjpadieljjlaaGreat
