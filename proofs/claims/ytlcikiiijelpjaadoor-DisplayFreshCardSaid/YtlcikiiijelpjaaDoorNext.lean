/- Contracts of token.name, token.percent and token.next: the item that begins at a byte. -/
import Derived.Test.YtlcikiiijelpjaaDoorLeaf
namespace Go.Proofs.YtlcikiiijelpjaaDoor
open Go.RowKit

def posOf (k : Int) (at_ : Nat) : Int := if k = 0 then 0 else (at_ : Int)
abbrev tokV (x : Lfc.Nx) (at_ : Nat) : Value := .agg #[.int .i64 x.kind, S x.text, .int .i64 (posOf x.kind at_)]
theorem bcell {W w1 : World} (hb : Below W.heap.size W w1) : (∀ b o, b < W.heap.size → w1.cell? ⟨b, o, none⟩ = W.cell? ⟨b, o, none⟩) ∧ (∀ b o, b < W.heap.size → w1.frozen? ⟨b, o, none⟩ = W.frozen? ⟨b, o, none⟩) :=
  ⟨fun b o h => hb.cell (p := ⟨b, o, none⟩) h, fun b o h => hb.frozen (p := ⟨b, o, none⟩) h⟩
/-- An item is returned with its end; only new memory is made. -/
def NxPost (x : Lfc.Nx) (at_ : Nat) (end_ : Int) (w : World) (e : Ending) (w' : World) : Prop :=
  e = .returned (.tuple #[tokV x at_, .int .i64 end_, .int .i64 x.err]) ∧ Below w.heap.size w w'

theorem pre2 (l : List UInt8) (a : Nat) (ha : a < l.length) (h1 : l[a].toNat = 37) : Lib.hasPrefix (l.drop a) [37, 123] = decide (∃ h : a + 1 < l.length, l[a + 1].toNat = 123) := by
  have h37 : l[a] = 37 := UInt8.toNat_inj.1 h1
  rw [Bool.eq_iff_iff, List.drop_eq_getElem_cons ha, h37]
  by_cases h : a + 1 < l.length
  · rw [List.drop_eq_getElem_cons h]
    have e : (l[a + 1].toNat = 123) ↔ 123 = l[a + 1] := ⟨fun h => (UInt8.toNat_inj.1 h).symm, fun h => by rw [← h]; rfl⟩
    simp only [Lib.hasPrefix, List.isPrefixOf]
    simp [h, e]
  · rw [List.drop_eq_nil_of_le (by omega)]
    simp [Lib.hasPrefix, h]

end Go.Proofs.YtlcikiiijelpjaaDoor
