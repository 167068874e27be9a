/- The contract of token.Spell. -/
import Derived.Test.YtkhfnkokdmoipaaDoorSame
import Derived.Laws.MakeOwn
import Derived.Deep.OwnRows
namespace Lfc
def spT (t : Tok) : List UInt8 := if t.kind = 3 then 37 :: t.text else t.text
def spell : List Tok → List UInt8
  | [] => []
  | t :: r => spT t ++ r.flatMap fun u => 32 :: spT u
end Lfc
namespace Go.Proofs.YtkhfnkokdmoipaaDoor
open Go.RowKit

theorem spT_le (l : List Lfc.Tok) (t : Lfc.Tok) (h : t ∈ l) : (Lfc.spT t).length ≤ (Lfc.spell l).length := by
  cases l with
  | nil => cases h
  | cons a r =>
    rw [Lfc.spell, List.length_append]
    rcases List.mem_cons.1 h with rfl | h
    · omega
    · have : ((32 : UInt8) :: Lfc.spT t).length ≤ (r.flatMap fun u => (32 : UInt8) :: Lfc.spT u).length := by
        induction r with
        | nil => cases h
        | cons b q ih =>
          rw [List.flatMap_cons, List.length_append]
          rcases List.mem_cons.1 h with rfl | h
          · omega
          · have := ih (List.mem_cons_of_mem _ h) h; omega
      simp at this ⊢; omega
theorem bcons (x : List UInt8) : (⟨#[37]⟩ ++ ⟨x.toArray⟩ : ByteArray) = ⟨(37 :: x).toArray⟩ := by
  apply ByteArray.ext; simp [ByteArray.data_append]

theorem run_make_rowN {P : Program} (t e : TypeId) (i : TypeInfo) (z : Value) (ht : P.underlying t = some (.slice e)) (hi : P.info? e = some i) (hz : i.zero = some z)
    (kl kc : IntKind) (n c : Nat) (hnc : n ≤ c) (hbytes : i.bytes * c ≤ 281474976710656) (h63 : c ≤ 9223372036854775807) (w : World) :
    (Instr.makeSlice t (.int kl (n : Int)) (.int kc (c : Int))).run P w = .ok (.slice (some ⟨w.heap.size, 0, none⟩) n c) (w.alloc (.cells (madeCells z.cells (c * i.size)) e)) := by
  have hb : (i.bytes : Int) * (c : Int) ≤ 281474976710656 := by
    have h : ((i.bytes * c : Nat) : Int) ≤ 281474976710656 := by omega
    rwa [Int.natCast_mul] at h
  have hr := run_make (P := P) w t e i z ht hi hz kl kc n c (by omega) (by omega) hb (by omega)
  simp only [Int.toNat_natCast] at hr
  exact hr

def Blk (w : World) (g : Nat) (t : TypeId) (cs : Array Value) : Prop := w.heap[g]? = some (.cells cs t (0, 0))
section
variable {w w' : World} {g : Nat} {t : TypeId} {cs : Array Value}
theorem Blk.lt (h : Blk w g t cs) : g < w.heap.size := by
  rcases Nat.lt_or_ge g w.heap.size with hlt | hge
  · exact hlt
  · unfold Blk at h; rw [Array.getElem?_eq_none hge] at h; cases h
theorem Blk.cell (h : Blk w g t cs) (i : Nat) : w.cell? ⟨g, i, none⟩ = cs[i]? := cell_of_row w g i cs t (0, 0) h
theorem Blk.frozen (h : Blk w g t cs) (i : Nat) : w.frozen? ⟨g, i, none⟩ = false := by
  unfold Blk at h
  simp [World.frozen?, h]
theorem Blk.new (w : World) (t : TypeId) (cs : Array Value) : Blk (w.alloc (.cells cs t)) w.heap.size t cs := heap_alloc_new w _
theorem Blk.alloc (h : Blk w g t cs) (o : Obj) : Blk (w.alloc o) g t cs := (Below.heap_alloc w o g h.lt).trans h
theorem Blk.set_ (h : Blk w g t cs) (i : Nat) (u : Value) : Blk (w.setCell ⟨g, i, none⟩ u) g t (cs.setIfInBounds i u) := by
  unfold Blk at h ⊢
  simp [World.setCell, Array.getElem?_modify, h]
end

theorem strInfo : (Tryd.prog.info? 9).map (fun i => (i.zero, i.size, i.bytes)) = some (some (.string ⟨#[]⟩), 1, 16) := by kernel_rfl

end Go.Proofs.YtkhfnkokdmoipaaDoor
