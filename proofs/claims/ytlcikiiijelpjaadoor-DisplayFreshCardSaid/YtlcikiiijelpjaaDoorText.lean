/- Contracts of lfcheckmade.Cut and of text: a text of pieces. -/
import Derived.Test.YtlcikiiijelpjaaDoorLex
import Derived.Lib.AppendStr
import Derived.StillTailTactics
import Derived.Lib.BufferRead
import Derived.Laws.IdiomStrings
namespace Go.Proofs.YtlcikiiijelpjaaDoor
open Go.RowKit

def cutI (x : Int) (n : Nat) : Nat := ((x % 18446744073709551616) % (n : Int)).toNat
theorem cutI_lt (x : Int) (n : Nat) (h : 0 < n) : cutI x n < n := by
  unfold cutI
  have h1 := Int.emod_nonneg (x % 18446744073709551616) (by omega : (n : Int) ≠ 0)
  have h2 := Int.emod_lt_of_pos (x % 18446744073709551616) (by omega : 0 < (n : Int))
  omega

set_option maxHeartbeats 1000000 in
theorem cut_any (x : Int) (n : Nat) (w : World) (h0 : 0 < n) (h1 : n ≤ 1000000) : Calls Tryd.prog 5 #[.int .i64 x, .int .i64 n] w fun e w' => e = .returned (.int .i64 (cutI x n : Int)) ∧ w' = w := by
  go_enter Tryd.func5, Tryd.ntmps5
  go_wp2
  go_ret
  refine ⟨ret_int ?_, rfl⟩
  have hw : IntKind.u64.wrap x = x % 18446744073709551616 := by rw [IntKind.wrap_u64]
  have h2 := Int.emod_nonneg x (by decide : (18446744073709551616 : Int) ≠ 0)
  have h3 := cutI_lt x n h0
  rw [hw, Int.tmod_eq_emod_of_nonneg h2]
  have h4 := Int.emod_nonneg (x % 18446744073709551616) (by omega : (n : Int) ≠ 0)
  have h5 : ((x % 18446744073709551616) % (n : Int)) = (cutI x n : Int) := by unfold cutI; omega
  rw [h5]
  exact IntWalk.wrap64_in _ ⟨by omega, by omega⟩

/-- A slice of numbers that is there. -/
def IntsAt (w : World) (v : Value) (zs : List Int) : Prop :=
  ∃ A c, v = .slice A zs.length c ∧ zs.length ≤ maxLen ∧ (0 < zs.length → ∃ b o, A = some ⟨b, o, none⟩ ∧ b < w.heap.size ∧ ∀ k, k < zs.length → w.cell? ⟨b, o + k, none⟩ = some (.int .i64 (zs.getD k 0)))
theorem IntsAt.below {w w' : World} {v : Value} {zs : List Int} (h : IntsAt w v zs) (hb : Below w.heap.size w w') : IntsAt w' v zs := by
  obtain ⟨A, c, rfl, h1, h2⟩ := h
  refine ⟨A, c, rfl, h1, fun hp => ?_⟩
  obtain ⟨b, o, hA, hlt, hc⟩ := h2 hp
  exact ⟨b, o, hA, Nat.lt_of_lt_of_le hlt hb.size, fun k hk => (hb.cell (p := ⟨b, o + k, none⟩) hlt).trans (hc k hk)⟩

theorem own_string {P : Program} {w : World} {base : Nat} {e src dst : TypeId} {A : Option Addr} {c : Nat} {l : List UInt8} (hs : P.underlying src = some (.slice e)) (he : P.underlying e = some (.int .u8)) (hd : P.underlying dst = some .string)
    (h : w.ownsRow base e 1 (.slice A l.length c) l.length (Lib.byteCells l)) : (convert src dst (.slice A l.length c)).run P w = .ok (S l) w := by
  rcases h.2 with ⟨hv, hn⟩ | ⟨g, cap, cur, hv, _⟩
  · obtain rfl := List.eq_nil_of_length_eq_zero hn
    injection hv with h1 h2 h3
    subst h1 h3
    exact Lib.run_convert_nil_bytes w src dst e 0 hs he hd
  · injection hv with h1 h2 h3
    subst h1
    refine run_convert_bytes_back w src dst e ⟨g, 0, none⟩ c l hs he hd fun j hj => ?_
    exact h.cells (g := g) rfl j _ (by simp [Lib.byteCells, hj])

theorem byteInfo : (Tryd.prog.info? 5).map (fun i => (i.zero, i.size, i.bytes)) = some (some (.int .u8 0), 1, 1) := by kernel_rfl

/-- A text of pieces is returned; only new memory is made. -/
def TextPost (zs : List Int) (w : World) (e : Ending) (w' : World) : Prop :=
  e = .returned (S (Lfc.textOf ((zs.take 300).map fun x => cutI x 32))) ∧ Below w.heap.size w w'

end Go.Proofs.YtlcikiiijelpjaaDoor
