/- The tape of numbers (without names): the contract of Tape.Next. -/
import Derived.Test.YtadjpadieljjlaaGreatRawMem
import Derived.Test.YtadjpadieljjlaaGreatOth
import Derived.StillTailTactics
import Derived.Deep.DeepCutAuto
import Derived.Deep.CutBlock
import Derived.Laws.IdiomStrings
import Derived.Lib.AppendStr
import Derived.Lib.BufferRead
set_option linter.unusedVariables false
set_option linter.unusedSimpArgs false
namespace Go.Proofs.YtadjpadieljjlaaGreat
open Go.RowKit

def cutO (x : Int) (n : Nat) : Nat := ((x % 18446744073709551616) % (n : Int)).toNat
theorem cutO_lt (x : Int) (n : Nat) (h : 0 < n) : cutO x n < n := by
  unfold cutO
  have h1 := Int.emod_nonneg (x % 18446744073709551616) (by omega : (n : Int) ≠ 0)
  have h2 := Int.emod_lt_of_pos (x % 18446744073709551616) (by omega : 0 < (n : Int))
  omega

set_option maxHeartbeats 1000000 in
theorem cutO_any (x : Int) (n : Nat) (w : World) (h0 : 0 < n) (h1 : n ≤ 1000000) : Calls Tryz.prog 38 #[.int .i64 x, .int .i64 n] w fun e w' => e = .returned (.int .i64 (cutO x n : Int)) ∧ w' = w := by
  go_enter Tryz.func38, Tryz.ntmps38
  go_wp2
  go_ret
  refine ⟨ret_int ?_, rfl⟩
  have hw : IntKind.u64.wrap x = x % 18446744073709551616 := by rw [IntKind.wrap_u64]
  have h2 := Int.emod_nonneg x (by decide : (18446744073709551616 : Int) ≠ 0)
  have h3 := cutO_lt x n h0
  rw [hw, Int.tmod_eq_emod_of_nonneg h2]
  have h4 := Int.emod_nonneg (x % 18446744073709551616) (by omega : (n : Int) ≠ 0)
  have h5 : ((x % 18446744073709551616) % (n : Int)) = (cutO x n : Int) := by unfold cutO; omega
  rw [h5]
  exact IntWalk.wrap64_in _ ⟨by omega, by omega⟩

/-- A slice of numbers that is there. -/
def IntsAt (w : World) (v : Value) (zs : List Int) : Prop :=
  ∃ A c, v = .slice A zs.length c ∧ zs.length ≤ maxLen ∧ (0 < zs.length → ∃ b o, A = some ⟨b, o, none⟩ ∧ b < w.heap.size ∧ ∀ k, k < zs.length → w.cell? ⟨b, o + k, none⟩ = some (.int .i64 (zs.getD k 0)))
theorem IntsAt.below {w w' : World} {v : Value} {zs : List Int} (h : IntsAt w v zs) (hb : Below w.heap.size w w') : IntsAt w' v zs := by
  obtain ⟨A, c, rfl, h1, h2⟩ := h
  refine ⟨A, c, rfl, h1, fun hp => ?_⟩
  obtain ⟨b, o, hA, hlt, hc⟩ := h2 hp
  exact ⟨b, o, hA, Nat.lt_of_lt_of_le hlt hb.size, fun k hk => (hb.cell (p := ⟨b, o + k, none⟩) hlt).trans (hc k hk)⟩

theorem own_string {P : Program} {w : World} {base : Nat} {e src dst : TypeId} {A : Option Addr} {c : Nat} {l : List UInt8} (hs : P.underlying src = some (.slice e)) (he : P.underlying e = some (.int .u8)) (hd : P.underlying dst = some .string)
    (h : w.ownsRow base e 1 (.slice A l.length c) l.length (Lib.byteCells l)) : (convert src dst (.slice A l.length c)).run P w = .ok (S l) w := by
  rcases h.2 with ⟨hv, hn⟩ | ⟨g, cap, cur, hv, _⟩
  · obtain rfl := List.eq_nil_of_length_eq_zero hn
    injection hv with h1 h2 h3
    subst h1 h3
    exact Lib.run_convert_nil_bytes w src dst e 0 hs he hd
  · injection hv with h1 h2 h3
    subst h1
    refine run_convert_bytes_back w src dst e ⟨g, 0, none⟩ c l hs he hd fun j hj => ?_
    exact h.cells (g := g) rfl j _ (by simp [Lib.byteCells, hj])

theorem byteInfo : (Tryz.prog.info? 5).map (fun i => (i.zero, i.size, i.bytes)) = some (some (.int .u8 0), 1, 1) := by kernel_rfl

/-- A text of pieces is returned; only new memory is made. -/
def TextPost (zs : List Int) (w : World) (e : Ending) (w' : World) : Prop :=
  e = .returned (S (Lfc.textOf ((zs.take 300).map fun x => cutO x 32))) ∧ Below w.heap.size w w'

/-- A tape in block T. -/
structure TapeI (T : Nat) (w : World) : Prop where
  t : ∃ (A : Option Addr) (n c i : Nat), w.heap[T]? = some (.cells #[.slice A n c, .int .i64 (i : Int)] 33 (0, 0)) ∧ i ≤ n ∧ n ≤ maxLen ∧ (0 < n → ∃ b o, A = some ⟨b, o, none⟩ ∧ b < T ∧ ∀ k, k < n → ∃ x, w.cell? ⟨b, o + k, none⟩ = some (.int .i64 x))
theorem TapeI.lt {T : Nat} {w : World} (h : TapeI T w) : T < w.heap.size := by
  obtain ⟨A, n, c, i, ht, _⟩ := h.t
  exact lt_of_block ht
theorem TapeI.below {T : Nat} {w w' : World} (h : TapeI T w) (hb : Below w.heap.size w w') : TapeI T w' := by
  have hlt := h.lt
  obtain ⟨A, n, c, i, ht, hi, hn, hc⟩ := h.t
  refine ⟨⟨A, n, c, i, (hb.block T hlt).trans ht, hi, hn, fun hp => ?_⟩⟩
  obtain ⟨b, o, hA, hbT, hx⟩ := hc hp
  refine ⟨b, o, hA, hbT, fun k hk => ?_⟩
  obtain ⟨x, hx⟩ := hx k hk
  exact ⟨x, (hb.cell (p := ⟨b, o + k, none⟩) (by simp only; omega)).trans hx⟩
theorem TapeI.moved {T : Nat} {w w' : World} (h : TapeI T w) (ho : Oth T w w') {A : Option Addr} {n c i i' : Nat} (ht : w.heap[T]? = some (.cells #[.slice A n c, .int .i64 (i : Int)] 33 (0, 0))) (ht' : w'.heap[T]? = some (.cells #[.slice A n c, .int .i64 (i' : Int)] 33 (0, 0))) (hi : i' ≤ n) : TapeI T w' := by
  have hlt := h.lt
  obtain ⟨A0, n0, c0, i0, ht0, _, hn, hc⟩ := h.t
  rw [ht] at ht0
  cases ht0
  refine ⟨⟨A, n, c, i', ht', hi, hn, fun hp => ?_⟩⟩
  obtain ⟨b, o, hA, hbT, hx⟩ := hc hp
  refine ⟨b, o, hA, hbT, fun k hk => ?_⟩
  obtain ⟨x, hx⟩ := hx k hk
  exact ⟨x, (ho.cell (p := ⟨b, o + k, none⟩) (by simp only; omega) (by simp only; omega)).trans hx⟩

theorem TapeI.oth {T R : Nat} {w w' : World} (h : TapeI T w) (hR : T < R) (ho : Oth R w w') : TapeI T w' := by
  have hlt := h.lt
  obtain ⟨A, n, c, i, ht, hi, hn, hc⟩ := h.t
  refine ⟨⟨A, n, c, i, ho.heap ht (by omega), hi, hn, fun hp => ?_⟩⟩
  obtain ⟨b, o, hA, hbT, hx⟩ := hc hp
  refine ⟨b, o, hA, hbT, fun k hk => ?_⟩
  obtain ⟨x, hx⟩ := hx k hk
  exact ⟨x, (ho.cell (p := ⟨b, o + k, none⟩) (by simp only; omega) (by simp only; omega)).trans hx⟩
set_option maxRecDepth 100000 in
set_option maxHeartbeats 2000000 in
theorem tapeI_next (T n : Nat) (w : World) (h0 : 0 < n) (h1 : n ≤ 100) (h : TapeI T w) :
    Calls Tryz.prog 12 #[.pointer (some ⟨T, 0, none⟩), .int .i64 (n : Int)] w fun e w' => (∃ r : Nat, r < n ∧ e = .returned (.int .i64 (r : Int))) ∧ TapeI T w' ∧ Oth T w w' := by
  obtain ⟨A, l, c, i, ht, hi, hl, hc⟩ := h.t
  have hT := h.lt
  have H := Lib.hid h
  have HT := Lib.hid ht
  have ht0 := Lib.cell_of_heap ht 0
  have ht1 := Lib.cell_of_heap ht 1
  simp at ht0 ht1
  have hf1 := Lib.frozen_of_heap ht 1
  have hl' : l ≤ 9223372036854775807 := by unfold maxLen at hl; omega
  clear h ht hl
  by_cases hil : i < l
  · obtain ⟨b, o, rfl, hbT, hx⟩ := hc (by omega)
    obtain ⟨x, hx⟩ := hx i hil
    clear hc
    have hd : decide ((i : Int) ≥ (l : Int)) = false := by simp; omega
    obtain ⟨w1, hw1⟩ : ∃ w1, w.setCell ⟨T, 1, none⟩ (.int .i64 ((i : Int) + 1)) = w1 := ⟨_, rfl⟩
    have o1 : Oth T w w1 := by rw [← hw1]; exact Oth.set w _
    have q1 : w1.heap[T]? = some (.cells #[.slice (some ⟨b, o, none⟩) l c, .int .i64 ((i : Int) + 1)] 33 (0, 0)) := by
      rw [← hw1]; simp [World.setCell, Array.getElem?_modify, HT.out]
    have y0 := Lib.cell_of_heap q1 0
    have y1 := Lib.cell_of_heap q1 1
    simp at y0 y1
    have hx1 := (o1.cell (p := ⟨b, o + i, none⟩) (by simp only; omega) (by simp only; omega)).trans hx
    go_enter Tryz.func12, Tryz.ntmps12
    go_upto_region 1 with fail
    refine wp_region_still_tail 9 (by kernel_rfl) (by kernel_rfl) ?_
    simp only [List.take_succ_cons, List.take_zero, List.drop_succ_cons, List.drop_zero]
    change wpStill Tryz.prog _ w.drew _ _ _
    repeat still_step
    try refine wpStill_nil ?_
    change wpList _ _ _ _ _ w.drew
    go_upto_region 4 with fail
    have hq := cutO_lt x n h0
    clear hw1
    have hi2 : IntKind.i64.wrap (i : Int) = (i : Int) := IntWalk.i64_in _ ⟨by omega, by omega⟩
    refine wp_region_still_tail 13 (by kernel_rfl) (by kernel_rfl) ?_
    simp only [List.take_succ_cons, List.take_zero, List.drop_succ_cons, List.drop_zero]
    change wpStill Tryz.prog _ w1.drew.drew _ _ _
    repeat still_step
    still_call (cutO_any x n _ h0 (by omega))
    repeat still_step
    try refine wpStill_nil ?_
    change wpList _ _ _ _ _ w1.drew.drew
    go_wp2_with fail
    go_ret
    exact ⟨⟨_, hq, rfl⟩, (H.out.moved o1 HT.out (i' := i + 1) (by simpa using q1) (by omega)).below (Below.refl _ _).drew.drew, o1.drew.drew⟩
  · have hd : decide ((i : Int) ≥ (l : Int)) = true := by simp; omega
    go_enter Tryz.func12, Tryz.ntmps12
    go_upto_region 1 with fail
    refine wp_region_still_tail 9 (by kernel_rfl) (by kernel_rfl) ?_
    simp only [List.take_succ_cons, List.take_zero, List.drop_succ_cons, List.drop_zero]
    change wpStill Tryz.prog _ w.drew _ _ _
    repeat still_step
    try refine wpStill_nil ?_
    change wpList _ _ _ _ _ w.drew
    go_wp2_with fail
    go_ret
    exact ⟨⟨0, h0, rfl⟩, H.out.below (Below.refl _ _).drew, (Oth.refl _ _).drew⟩
end Go.Proofs.YtadjpadieljjlaaGreat
