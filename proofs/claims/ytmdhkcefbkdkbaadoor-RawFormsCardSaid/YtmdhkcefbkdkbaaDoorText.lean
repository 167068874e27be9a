/- Contracts of lfcheckmade.Cut and of text: a text of pieces. -/
import Derived.Test.YtmdhkcefbkdkbaaDoorLex
import Derived.Lib.AppendStr
import Derived.StillTailTactics
import Derived.Lib.BufferRead
import Derived.Laws.IdiomStrings
namespace Go.Proofs.YtmdhkcefbkdkbaaDoor
open Go.RowKit

def cutI (x : Int) (n : Nat) : Nat := ((x % 18446744073709551616) % (n : Int)).toNat
theorem cutI_lt (x : Int) (n : Nat) (h : 0 < n) : cutI x n < n := by
  unfold cutI
  have h1 := Int.emod_nonneg (x % 18446744073709551616) (by omega : (n : Int) ≠ 0)
  have h2 := Int.emod_lt_of_pos (x % 18446744073709551616) (by omega : 0 < (n : Int))
  omega

set_option maxHeartbeats 1000000 in
theorem cut_any (x : Int) (n : Nat) (w : World) (h0 : 0 < n) (h1 : n ≤ 1000000) : Calls Tryd.prog 24 #[.int .i64 x, .int .i64 n] w fun e w' => e = .returned (.int .i64 (cutI x n : Int)) ∧ w' = w := by
  go_enter Tryd.func24, Tryd.ntmps24
  go_wp2
  go_ret
  refine ⟨ret_int ?_, rfl⟩
  have hw : IntKind.u64.wrap x = x % 18446744073709551616 := by rw [IntKind.wrap_u64]
  have h2 := Int.emod_nonneg x (by decide : (18446744073709551616 : Int) ≠ 0)
  have h3 := cutI_lt x n h0
  rw [hw, Int.tmod_eq_emod_of_nonneg h2]
  have h4 := Int.emod_nonneg (x % 18446744073709551616) (by omega : (n : Int) ≠ 0)
  have h5 : ((x % 18446744073709551616) % (n : Int)) = (cutI x n : Int) := by unfold cutI; omega
  rw [h5]
  exact IntWalk.wrap64_in _ ⟨by omega, by omega⟩

/-- A slice of numbers that is there. -/
def IntsAt (w : World) (v : Value) (zs : List Int) : Prop :=
  ∃ A c, v = .slice A zs.length c ∧ zs.length ≤ maxLen ∧ (0 < zs.length → ∃ b o, A = some ⟨b, o, none⟩ ∧ b < w.heap.size ∧ ∀ k, k < zs.length → w.cell? ⟨b, o + k, none⟩ = some (.int .i64 (zs.getD k 0)))
theorem IntsAt.below {w w' : World} {v : Value} {zs : List Int} (h : IntsAt w v zs) (hb : Below w.heap.size w w') : IntsAt w' v zs := by
  obtain ⟨A, c, rfl, h1, h2⟩ := h
  refine ⟨A, c, rfl, h1, fun hp => ?_⟩
  obtain ⟨b, o, hA, hlt, hc⟩ := h2 hp
  exact ⟨b, o, hA, Nat.lt_of_lt_of_le hlt hb.size, fun k hk => (hb.cell (p := ⟨b, o + k, none⟩) hlt).trans (hc k hk)⟩

/-- The package's pieces are there. -/
def PiecesAt (w : World) : Prop :=
  ∃ b o c, w.cell? ⟨0, 0, none⟩ = some (.slice (some ⟨b, o, none⟩) 32 c) ∧ b < w.heap.size ∧ 0 < w.heap.size ∧ ∀ k, k < 32 → w.cell? ⟨b, o + k, none⟩ = some (S (Lfc.pieces.getD k []))
theorem PiecesAt.below {w w' : World} (h : PiecesAt w) (hb : Below w.heap.size w w') : PiecesAt w' := by
  obtain ⟨b, o, c, h1, h2, h3, h4⟩ := h
  exact ⟨b, o, c, (hb.cell (p := ⟨_, 0, none⟩) h3).trans h1, Nat.lt_of_lt_of_le h2 hb.size, Nat.lt_of_lt_of_le h3 hb.size, fun k hk => (hb.cell (p := ⟨b, o + k, none⟩) h2).trans (h4 k hk)⟩

theorem own_string {P : Program} {w : World} {base : Nat} {e src dst : TypeId} {A : Option Addr} {c : Nat} {l : List UInt8} (hs : P.underlying src = some (.slice e)) (he : P.underlying e = some (.int .u8)) (hd : P.underlying dst = some .string)
    (h : w.ownsRow base e 1 (.slice A l.length c) l.length (Lib.byteCells l)) : (convert src dst (.slice A l.length c)).run P w = .ok (S l) w := by
  rcases h.2 with ⟨hv, hn⟩ | ⟨g, cap, cur, hv, _⟩
  · obtain rfl := List.eq_nil_of_length_eq_zero hn
    injection hv with h1 h2 h3
    subst h1 h3
    exact Lib.run_convert_nil_bytes w src dst e 0 hs he hd
  · injection hv with h1 h2 h3
    subst h1
    refine run_convert_bytes_back w src dst e ⟨g, 0, none⟩ c l hs he hd fun j hj => ?_
    exact h.cells (g := g) rfl j _ (by simp [Lib.byteCells, hj])

theorem byteInfo : (Tryd.prog.info? 5).map (fun i => (i.zero, i.size, i.bytes)) = some (some (.int .u8 0), 1, 1) := by kernel_rfl

/-- A text of pieces is returned; only new memory is made. -/
def TextPost (zs : List Int) (w : World) (e : Ending) (w' : World) : Prop :=
  e = .returned (S (Lfc.textOf ((zs.take 300).map fun x => cutI x 32))) ∧ Below w.heap.size w w'

set_option maxRecDepth 100000 in
set_option maxHeartbeats 1000000 in
theorem text_any (v : Value) (zs : List Int) (w : World) (hi : IntsAt w v zs) (hp : PiecesAt w) : Calls Tryd.prog 15 #[v] w (TextPost zs w) := by
  obtain ⟨i0, hi0, hz0, hz1, hz2⟩ := info_parts byteInfo
  obtain ⟨A, c, rfl, hmax, hcells⟩ := hi
  obtain ⟨pb, po, pc, hg, hpb, hgb, hps⟩ := hp
  unfold maxLen at hmax
  have Hcells := Lib.hid hcells
  have Hg := Lib.hid hg
  have Hps := Lib.hid hps
  clear hcells hg hps
  go_enter Tryd.func15, Tryd.ntmps15
  go_wp2_with fail
  go_loopw [3, 4] (fun o i wr => ∃ (k : Nat) (acc : List UInt8), k ≤ zs.length ∧ k ≤ 300 ∧ i = .int .i64 k ∧ acc.length ≤ 64 * k ∧ wr.ownsRow w.heap.size 5 1 o acc.length (Lib.byteCells acc) ∧ Below w.heap.size w wr ∧ Hid (acc = Lfc.textOf ((zs.take k).map fun x => cutI x 32))) (fun _ i _ => zs.length - (intOf i).toNat)
  case atStart => exact ⟨0, [], by omega, by omega, rfl, by simp, own_nil _ _ _ _, Below.refl _ _, Lib.hid rfl⟩
  case round =>
    obtain ⟨k, acc, hk, hk3, rfl, hal, hown, hbw, hr⟩ := hrel
    obtain ⟨OA, oc, rfl⟩ := own_form hown
    by_cases hlt : k < zs.length ∧ k < 300
    · obtain ⟨hlt, h300⟩ := hlt
      obtain ⟨b, o, rfl, hb, hcs⟩ := Hcells.out (by omega)
      have hc1 : wr.cell? ⟨b, o + k, none⟩ = some (.int .i64 (zs.getD k 0)) := (hbw.cell (p := ⟨b, o + k, none⟩) hb).trans (hcs k hlt)
      have hc2 : wr.cell? ⟨0, 0, none⟩ = some (.slice (some ⟨pb, po, none⟩) 32 pc) := (hbw.cell (p := ⟨_, 0, none⟩) hgb).trans Hg.out
      have hcut := cutI_lt (zs.getD k 0) 32 (by omega)
      generalize hX : zs.getD k 0 = x at *
      have hc3 : wr.cell? ⟨pb, po + cutI x 32, none⟩ = some (S (Lfc.pieces.getD (cutI x 32) [])) := (hbw.cell (p := ⟨pb, po + cutI x 32, none⟩) hpb).trans (Hps.out _ hcut)
      clear hcs
      have hd1 : decide (k < zs.length) = true := by simpa using hlt
      have hd2 : decide ((k : Int) < 300) = true := by simp; omega
      generalize hQ : cutI x 32 = q at *
      have HQ := Lib.hid hQ
      have HX := Lib.hid hX
      clear hQ hX
      have hPl := Lfc.pieces_len q
      generalize hP : Lfc.pieces.getD q [] = P at *
      have HP := Lib.hid hP
      clear hP
      have hq1 : (q : Int) < 32 := by omega
      go_wp2_with fail
      refine wp_region_still_tail 11 (by kernel_rfl) (by kernel_rfl) ?_
      simp only [List.take_succ_cons, List.take_zero, List.drop_succ_cons, List.drop_zero]
      change wpStill Tryd.prog _ wr.drew _ _ _
      repeat still_step
      still_call (cut_any _ 32 _ (by omega) (by omega))
      rw [HQ.out]
      repeat still_step
      try refine wpStill_nil ?_
      change wpList _ _ _ _ _ wr.drew
      refine Lib.wpList_append_own_string wr.drew rfl _ _ 37 9 rfl w.heap.size 5 i0 Tryd.underlying37 Tryd.underlying9 hi0 hz0 hz1 hz2 _ _ _ rfl hown.drew ⟨P.toArray⟩ rfl (by rw [bsize]; unfold maxLen; omega) (by rw [bsize]; omega) hbw.size ?_
      intro v' w2 hown2 hg2 _
      have hb2 : Below w.heap.size w w2 := hbw.drew.grown hg2 hbw.size (own_block_ge hown.drew)
      have hown3 : w2.ownsRow w.heap.size 5 1 v' (acc ++ P).length (Lib.byteCells (acc ++ P)) := by
        have e : Lib.byteCells (acc ++ P) = Lib.byteCells acc ++ Lib.strCells ⟨P.toArray⟩ := by simp [Lib.byteCells, Lib.strCells]
        rw [e, List.length_append]; rw [bsize] at hown2; exact hown2
      clear hown2 hg2
      go_wp2_with fail
      go_roundw
      case rel =>
        refine ⟨k + 1, acc ++ P, by omega, by omega, by go_num, by simp; omega, hown3, hb2, Lib.hid ?_⟩
        have e : zs[k] = x := by rw [← HX.out]; simp [List.getD, hlt]
        rw [List.take_succ_eq_append_getElem hlt, e, hr.out, ← HP.out, ← HQ.out]
        simp [Lfc.textOf]
      case measure => simp [intOf]; omega
    · have hconv := own_string Tryd.underlying37 Tryd.underlying5 Tryd.underlying9 hown
      have hd : decide (k < zs.length) = false ∨ (decide (k < zs.length) = true ∧ decide ((k : Int) < 300) = false) := by
        by_cases h : k < zs.length
        · exact .inr ⟨by simpa using h, by simp; omega⟩
        · exact .inl (by simpa using h)
      have hfin : acc = Lfc.textOf ((zs.take 300).map fun x => cutI x 32) := by
        have e : zs.take 300 = zs.take k := by
          rcases Nat.lt_or_ge k 300 with h | h
          · rw [List.take_of_length_le (by omega), List.take_of_length_le (by omega)]
          · rw [show k = 300 by omega]
        rw [e]; exact hr.out
      have Hfin := Lib.hid hfin
      clear hfin hlt
      rcases hd with hd1 | ⟨hd1, hd2⟩
      all_goals
        go_wp2_with fail
        go_ret
        exact ⟨by rw [← Hfin.out]; rfl, hbw⟩
end Go.Proofs.YtmdhkcefbkdkbaaDoor
