/- The tape of numbers: the contract of Tape.Next. -/
import Derived.Test.YtkhfnkokdmoipaaDoorRawMem
import Derived.Test.YtkhfnkokdmoipaaDoorText
import Derived.Test.YtkhfnkokdmoipaaDoorRawFmt4
set_option linter.unusedVariables false
set_option linter.unusedSimpArgs false
namespace Lfc
/-- The names in trees. -/
def words : List (List UInt8) := [[97], [98], [78], [77], [43], [42], [126], [33], [110, 97, 116], [102], [64, 120], [116, 121, 112, 101], []]
theorem words_name (k : Nat) (h : k < 10) : isName (words.getD k []) = true := by
  have : ∀ k : Fin 10, isName (words.getD k.val []) = true := by decide
  exact this ⟨k, h⟩
theorem words_len (k : Nat) : (words.getD k []).length ≤ 4 := by
  by_cases h : k < 13
  · have : ∀ k : Fin 13, (words.getD k.val []).length ≤ 4 := by decide
    exact this ⟨k, h⟩
  · have : words.getD k [] = [] := by rw [List.getD_eq_getElem?_getD, List.getElem?_eq_none (by simp [words]; omega)]; rfl
    rw [this]; simp
end Lfc
namespace Go.Proofs.YtkhfnkokdmoipaaDoor
open Go.RowKit

/-- Only block T is written; else only new memory is made. -/
abbrev Oth (T : Nat) (w w' : World) : Prop := w.grownBy w' (some T)
theorem Oth.refl (T : Nat) (w : World) : Oth T w w := ⟨rfl, rfl, rfl, Nat.le_refl _, fun _ _ _ => rfl⟩
theorem Oth.trans {T : Nat} {w w1 w2 : World} (h : Oth T w w1) (h' : Oth T w1 w2) : Oth T w w2 :=
  ⟨h'.os.trans h.os, h'.tape.trans h.tape, h'.output.trans h.output, Nat.le_trans h.size h'.size, fun k hk hn => (h'.block k (Nat.lt_of_lt_of_le hk h.size) hn).trans (h.block k hk hn)⟩
theorem Oth.of_below {T : Nat} {w w' : World} (h : Below w.heap.size w w') : Oth T w w' := ⟨h.os, h.tape, h.output, h.size, fun k hk _ => h.block k hk⟩
theorem Oth.of_new {T : Nat} {w w1 w2 : World} (h : Oth T w w1) (h' : Below w.heap.size w1 w2) : Oth T w w2 :=
  ⟨h'.os.trans h.os, h'.tape.trans h.tape, h'.output.trans h.output, Nat.le_trans h.size h'.size, fun k hk hn => (h'.block k hk).trans (h.block k hk hn)⟩
theorem Oth.set {T j : Nat} (w : World) (v : Value) : Oth T w (w.setCell ⟨T, j, none⟩ v) :=
  ⟨rfl, rfl, rfl, by simp [World.setCell], fun k _ hk => Below.heap_setCell _ _ _ _ (fun e => hk (by simp [e]))⟩
theorem Oth.drew {T : Nat} {w w' : World} (h : Oth T w w') : Oth T w w'.drew := ⟨h.os, h.tape, h.output, h.size, h.block⟩
theorem Oth.cell {T : Nat} {w w' : World} (h : Oth T w w') {p : Addr} (hp : p.block < w.heap.size) (hn : p.block ≠ T) : w'.cell? p = w.cell? p :=
  World.cell?_of_block (h.block _ hp (fun e => hn (Option.some.inj e)))
theorem Oth.heap {T : Nat} {w w' : World} (h : Oth T w w') {k : Nat} {o : Obj} (hk : w.heap[k]? = some o) (hn : k ≠ T) : w'.heap[k]? = some o :=
  (h.block k (lt_of_block hk) (fun e => hn (Option.some.inj e))).trans hk
theorem Oth.below {T B : Nat} {w w1 w2 : World} (h : Below B w w1) (h' : Oth T w1 w2) (hT : B ≤ T) (hB : B ≤ w1.heap.size) : Below B w w2 :=
  ⟨h'.os.trans h.os, h'.tape.trans h.tape, h'.output.trans h.output, Nat.le_trans h.size h'.size, fun k hk => (h'.block k (by omega) (fun e => by have := Option.some.inj e; omega)).trans (h.block k hk)⟩

/-- A tape in block T, and the names below it. -/
structure TapeAt (T : Nat) (w : World) : Prop where
  t : ∃ (A : Option Addr) (n c i : Nat), w.heap[T]? = some (.cells #[.slice A n c, .int .i64 (i : Int)] 27 (0, 0)) ∧ i ≤ n ∧ n ≤ maxLen ∧ (0 < n → ∃ b o, A = some ⟨b, o, none⟩ ∧ b < T ∧ ∀ k, k < n → ∃ x, w.cell? ⟨b, o + k, none⟩ = some (.int .i64 x))
  words : ∃ b o c, w.cell? ⟨0, 0, none⟩ = some (.slice (some ⟨b, o, none⟩) 13 c) ∧ b < T ∧ 0 < T ∧ ∀ k, k < 13 → w.cell? ⟨b, o + k, none⟩ = some (S (Lfc.words.getD k []))
theorem TapeAt.lt {T : Nat} {w : World} (h : TapeAt T w) : T < w.heap.size := by
  obtain ⟨A, n, c, i, ht, _⟩ := h.t
  exact lt_of_block ht
theorem TapeAt.below {T : Nat} {w w' : World} (h : TapeAt T w) (hb : Below w.heap.size w w') : TapeAt T w' := by
  have hlt := h.lt
  obtain ⟨A, n, c, i, ht, hi, hn, hc⟩ := h.t
  obtain ⟨b, o, cw, h1, h2, h3, h4⟩ := h.words
  refine ⟨⟨A, n, c, i, (hb.block T hlt).trans ht, hi, hn, fun hp => ?_⟩, ⟨b, o, cw, (hb.cell (p := ⟨_, 0, none⟩) (by simp only; omega)).trans h1, h2, h3, fun k hk => (hb.cell (p := ⟨b, o + k, none⟩) (by simp only; omega)).trans (h4 k hk)⟩⟩
  obtain ⟨b, o, hA, hbT, hx⟩ := hc hp
  refine ⟨b, o, hA, hbT, fun k hk => ?_⟩
  obtain ⟨x, hx⟩ := hx k hk
  exact ⟨x, (hb.cell (p := ⟨b, o + k, none⟩) (by simp only; omega)).trans hx⟩
theorem TapeAt.moved {T : Nat} {w w' : World} (h : TapeAt T w) (ho : Oth T w w') {A : Option Addr} {n c i i' : Nat} (ht : w.heap[T]? = some (.cells #[.slice A n c, .int .i64 (i : Int)] 27 (0, 0))) (ht' : w'.heap[T]? = some (.cells #[.slice A n c, .int .i64 (i' : Int)] 27 (0, 0))) (hi : i' ≤ n) : TapeAt T w' := by
  have hlt := h.lt
  obtain ⟨A0, n0, c0, i0, ht0, _, hn, hc⟩ := h.t
  rw [ht] at ht0
  cases ht0
  obtain ⟨b, o, cw, h1, h2, h3, h4⟩ := h.words
  refine ⟨⟨A, n, c, i', ht', hi, hn, fun hp => ?_⟩, ⟨b, o, cw, (ho.cell (p := ⟨_, 0, none⟩) (by simp only; omega) (by simp only; omega)).trans h1, h2, h3, fun k hk => (ho.cell (p := ⟨b, o + k, none⟩) (by simp only; omega) (by simp only; omega)).trans (h4 k hk)⟩⟩
  obtain ⟨b, o, hA, hbT, hx⟩ := hc hp
  refine ⟨b, o, hA, hbT, fun k hk => ?_⟩
  obtain ⟨x, hx⟩ := hx k hk
  exact ⟨x, (ho.cell (p := ⟨b, o + k, none⟩) (by simp only; omega) (by simp only; omega)).trans hx⟩

set_option maxRecDepth 100000 in
set_option maxHeartbeats 2000000 in
theorem tapeNext_any (T n : Nat) (w : World) (h0 : 0 < n) (h1 : n ≤ 100) (h : TapeAt T w) :
    Calls Tryd.prog 14 #[.pointer (some ⟨T, 0, none⟩), .int .i64 (n : Int)] w fun e w' => (∃ r : Nat, r < n ∧ e = .returned (.int .i64 (r : Int))) ∧ TapeAt T w' ∧ Oth T w w' := by
  obtain ⟨A, l, c, i, ht, hi, hl, hc⟩ := h.t
  have hT := h.lt
  have H := Lib.hid h
  have HT := Lib.hid ht
  have ht0 := Lib.cell_of_heap ht 0
  have ht1 := Lib.cell_of_heap ht 1
  simp at ht0 ht1
  have hf1 := Lib.frozen_of_heap ht 1
  have hl' : l ≤ 9223372036854775807 := by unfold maxLen at hl; omega
  clear h ht hl
  by_cases hil : i < l
  · obtain ⟨b, o, rfl, hbT, hx⟩ := hc (by omega)
    obtain ⟨x, hx⟩ := hx i hil
    clear hc
    have hd : decide ((i : Int) ≥ (l : Int)) = false := by simp; omega
    obtain ⟨w1, hw1⟩ : ∃ w1, w.setCell ⟨T, 1, none⟩ (.int .i64 ((i : Int) + 1)) = w1 := ⟨_, rfl⟩
    have o1 : Oth T w w1 := by rw [← hw1]; exact Oth.set w _
    have q1 : w1.heap[T]? = some (.cells #[.slice (some ⟨b, o, none⟩) l c, .int .i64 ((i : Int) + 1)] 27 (0, 0)) := by
      rw [← hw1]; simp [World.setCell, Array.getElem?_modify, HT.out]
    have y0 := Lib.cell_of_heap q1 0
    have y1 := Lib.cell_of_heap q1 1
    simp at y0 y1
    have hx1 := (o1.cell (p := ⟨b, o + i, none⟩) (by simp only; omega) (by simp only; omega)).trans hx
    go_enter Tryd.func14, Tryd.ntmps14
    go_upto_region 1 with fail
    refine wp_region_still_tail 9 (by kernel_rfl) (by kernel_rfl) ?_
    simp only [List.take_succ_cons, List.take_zero, List.drop_succ_cons, List.drop_zero]
    change wpStill Tryd.prog _ w.drew _ _ _
    repeat still_step
    try refine wpStill_nil ?_
    change wpList _ _ _ _ _ w.drew
    go_upto_region 4 with fail
    have hq := cutI_lt x n h0
    clear hw1
    have hi2 : IntKind.i64.wrap (i : Int) = (i : Int) := IntWalk.i64_in _ ⟨by omega, by omega⟩
    refine wp_region_still_tail 13 (by kernel_rfl) (by kernel_rfl) ?_
    simp only [List.take_succ_cons, List.take_zero, List.drop_succ_cons, List.drop_zero]
    change wpStill Tryd.prog _ w1.drew.drew _ _ _
    repeat still_step
    still_call (cut_any x n _ h0 (by omega))
    repeat still_step
    try refine wpStill_nil ?_
    change wpList _ _ _ _ _ w1.drew.drew
    go_wp2_with fail
    go_ret
    exact ⟨⟨_, hq, rfl⟩, (H.out.moved o1 HT.out (i' := i + 1) (by simpa using q1) (by omega)).below (Below.refl _ _).drew.drew, o1.drew.drew⟩
  · have hd : decide ((i : Int) ≥ (l : Int)) = true := by simp; omega
    go_enter Tryd.func14, Tryd.ntmps14
    go_upto_region 1 with fail
    refine wp_region_still_tail 9 (by kernel_rfl) (by kernel_rfl) ?_
    simp only [List.take_succ_cons, List.take_zero, List.drop_succ_cons, List.drop_zero]
    change wpStill Tryd.prog _ w.drew _ _ _
    repeat still_step
    try refine wpStill_nil ?_
    change wpList _ _ _ _ _ w.drew
    go_wp2_with fail
    go_ret
    exact ⟨⟨0, h0, rfl⟩, H.out.below (Below.refl _ _).drew, (Oth.refl _ _).drew⟩
end Go.Proofs.YtkhfnkokdmoipaaDoor
