/- Parts of the proof that no input makes the law false: OpMade, RawTree, PaExW, PaDoor, RowParseExprs. -/
import Derived.Deep.DrawnRows
import Derived.StillTailTactics
import Derived.Test.YthajalgkjonaaaaGreatDoorPxB
import Derived.Test.YthajalgkjonaaaaGreatDoorPxE
import Derived.Test.YthajalgkjonaaaaGreatDoorPxG
import Derived.Test.YthajalgkjonaaaaGreatDoorPxL
import Derived.Test.YthajalgkjonaaaaGreatDoorPxW
import Derived.Test.YthajalgkjonaaaaGreatDoorPxX
import Derived.Test.YthajalgkjonaaaaGreatDoorPxY
set_option linter.unusedVariables false
set_option linter.unusedSimpArgs false
namespace Lfc
def precs : List Int := [0, 10, 10, 20, 99]
theorem precs_ok (r : Nat) : 0 ≤ precs.getD r 0 ∧ precs.getD r 0 ≤ 99 := by
 match r with
 | 0 => decide
 | 1 => decide
 | 2 => decide
 | 3 => decide
 | 4 => decide
 | r + 5 => simp [precs]
theorem op_good {n : List UInt8} {f p : Int} (hn : isName n = true) (h1 : 1 ≤ f) (h2 : f ≤ 5) (hp : 0 ≤ p ∧ p ≤ 99) : (⟨n, f, p⟩ : Op).bad = 0 := by
 have e1 : decide (f < 1) = false := by simpa using h1
 have e2 : decide (5 < f) = false := by simpa using h2
 have e3 : decide (p < 0) = false := by simpa using hp.1
 have e4 : decide (99 < p) = false := by simpa using hp.2
 unfold Op.bad
 simp only [hn, e1, e2, e3, e4]
 rfl
end Lfc
namespace Go.Proofs.YthajalgkjonaaaaGreatDoor
open Go.RowKit Go.Maps Go.WideMaps
attribute [local go_sem ↓] Go.wp_at_zero Go.wp_at_succ
theorem op_infoM : ∃ i, Tryz.prog.info? 34 = some i ∧ i.zero = some (.agg #[S [], .int .i64 0, .int .i64 0]) ∧ i.size = 3 ∧ i.bytes = 32 := by
 obtain ⟨i0, hi, hz0, hz1, hz2⟩ := info_parts (show (Tryz.prog.info? 34).map (fun i => (i.zero, i.size, i.bytes)) = some (some (.agg #[S [], .int .i64 0, .int .i64 0]), 3, 32) by kernel_rfl)
 exact ⟨i0, hi, hz0, hz1, hz2⟩
theorem precs_cell (w : World) (k : Nat) (h : k < 5) : (w.alloc (.cells #[.int .i64 0, .int .i64 10, .int .i64 10, .int .i64 20, .int .i64 99] 3)).cell? ⟨w.heap.size, k, none⟩ = some (.int .i64 (Lfc.precs.getD k 0)) := by
 have q := heap_alloc_new w (.cells #[.int .i64 0, .int .i64 10, .int .i64 10, .int .i64 20, .int .i64 99] 3)
 match k, h with
 | 0, _ => exact Lib.cell_of_heap q 0
 | 1, _ => exact Lib.cell_of_heap q 1
 | 2, _ => exact Lib.cell_of_heap q 2
 | 3, _ => exact Lib.cell_of_heap q 3
 | 4, _ => exact Lib.cell_of_heap q 4
structure MadeO (w : World) (T : Nat) (l : List Lfc.Op) (v : Value) (wr : World) : Prop where
 tape : TapeAt T wr
 oth : Oth T w wr
 own : wr.ownsRow w.heap.size 34 3 v l.length (opCells l)
 names : ∀ o ∈ l, o.name.length ≤ 1000000
 good : ∀ o ∈ l, o.bad = 0
theorem MadeO.low {w wr W w' : World} {T : Nat} {l : List Lfc.Op} {v : Value} {o : Obj} (h : MadeO w T l v wr) (ho : Oth T wr W) (hg : (W.alloc o).grownBy w' v.ownBlock) : Below w.heap.size (W.alloc o) w' :=
 ⟨hg.os, hg.tape, hg.output, hg.size, fun k hk => hg.block k (by have := h.oth.size; have := ho.size; simp; omega) (fun e => by have := (h.own.lt k e.symm).1; omega)⟩
theorem MadeO.step {w wr W w' : World} {T : Nat} {l : List Lfc.Op} {v v' : Value} {o : Obj} {x : Lfc.Op} (h : MadeO w T l v wr) (hT : T < w.heap.size) (hTW : TapeAt T W) (ho : Oth T wr W) (hg : (W.alloc o).grownBy w' v.ownBlock) (hown : w'.ownsRow w.heap.size 34 3 v' (l.length + 1) (opCells l ++ [S x.name, .int .i64 x.fix, .int .i64 x.prec])) (hx : x.name.length ≤ 1000000) (hxb : x.bad = 0) : MadeO w T (l ++ [x]) v' w' := by
 have hlt := hTW.lt
 have hb : Below w.heap.size (W.alloc o) w' := ⟨hg.os, hg.tape, hg.output, hg.size, fun k hk => hg.block k (by have := h.oth.size; have := ho.size; simp; omega) (fun e => by have := (h.own.lt k e.symm).1; omega)⟩
 have hTb : T < W.heap.size := hlt
 have e : opCells (l ++ [x]) = opCells l ++ [S x.name, .int .i64 x.fix, .int .i64 x.prec] := by rw [opCells_app]; rfl
 refine ⟨?_, (h.oth.trans (ho.trans (Oth.of_below ((Below.refl _ _).alloc (Nat.le_refl _) _)))).of_new hb, by rw [e, List.length_append]; exact hown, fun y hy => ?_, fun y hy => ?_⟩
 ·have hTA := hTW.below ((Below.refl W.heap.size W).alloc (Nat.le_refl _) o)
  obtain ⟨wb, wo, wc, h1, h2, h3, h4⟩ := hTA.words
  obtain ⟨A, n, c, i, ht, hi, hn, hc⟩ := hTA.t
  have hsz := h.oth.size
  have hsz2 := ho.size
  refine ⟨⟨A, n, c, i, (hb.block T hT).trans ht, hi, hn, fun hp => ?_⟩, ⟨wb, wo, wc, (hb.cell (p := ⟨_, 0, none⟩) (by simp only; omega)).trans h1, h2, h3, fun k hk => (hb.cell (p := ⟨wb, wo + k, none⟩) (by simp only; omega)).trans (h4 k hk)⟩⟩
  obtain ⟨b, o, hA, hbT, hx⟩ := hc hp
  refine ⟨b, o, hA, hbT, fun k hk => ?_⟩
  obtain ⟨x, hx⟩ := hx k hk
  exact ⟨x, (hb.cell (p := ⟨b, o + k, none⟩) (by simp only; omega)).trans hx⟩
 ·rcases List.mem_append.1 hy with hy | hy
  ·exact h.names y hy
  ·simp at hy; subst hy; exact hx
 ·rcases List.mem_append.1 hy with hy | hy
  ·exact h.good y hy
  ·simp at hy; subst hy; exact hxb
def OpsPost (w : World) (T : Nat) (e : Ending) (w' : World) : Prop := ∃ l A c, e = .returned (.slice A l.length c) ∧ MadeO w T l (.slice A l.length c) w' ∧ l.length ≤ 4
set_option maxRecDepth 100000 in
set_option maxHeartbeats 8000000 in
theorem madeOps_any (T : Nat) (w : World) (h : TapeAt T w) :
  Calls Tryz.prog 14 #[.pointer (some ⟨T, 0, none⟩)] w (OpsPost w T) := by
 obtain ⟨it, hi, hz0, hz1, hz2⟩ := op_infoM
 have hTw := h.lt
 have M0 : Hid (MadeO w T [] (.slice none 0 0) w) := Lib.hid ⟨h, Oth.refl _ _, own_nil _ _ _ _, by simp, by simp⟩
 clear h
 go_enter Tryz.func14, Tryz.ntmps14
 go_wp2_with fail
 go_loopw [3, 4] (fun v i wr => ∃ (k : Nat) (l : List Lfc.Op) (A : Option Addr) (c : Nat), k ≤ 4 ∧ l.length ≤ k ∧ i = .int .i64 k ∧ v = .slice A l.length c ∧ Hid (MadeO w T l (.slice A l.length c) wr)) (fun _ i _ => 4 - (intOf i).toNat)
 case atStart => exact ⟨0, [], none, 0, by omega, by simp, rfl, rfl, M0⟩
 case round =>
  obtain ⟨k, l, A, c, hk, hlk, rfl, rfl, HI⟩ := hrel
  by_cases hlt : k < 4
  ·have hd0 : (k : Int) < 4 := by omega
   go_wp2_with fail
   refine (tapeNext_any T 3 _ (by omega) (by omega) HI.out.tape).mono ?_
   rintro e w1 ⟨⟨r, hr, rfl⟩, t1, o1⟩
   have hTow : (Value.slice A l.length c).ownBlock = some T → False := fun e => by have := (HI.out.own.lt T e).1; omega
   have M1 : Hid (MadeO w T l (.slice A l.length c) w1) := Lib.hid ⟨t1, HI.out.oth.trans o1, HI.out.own.kept o1 (Or.inr hTow), HI.out.names, HI.out.good⟩
   have HTOW := Lib.hid hTow
   clear t1 o1 HI hTow
   by_cases hr0 : r = 0
   ·subst hr0
    go_wp2_with fail
    go_roundw
    case rel => exact ⟨k + 1, l, A, c, by omega, by omega, by go_num, rfl, M1⟩
    case measure => simp [intOf]; omega
   ·have hd1 : (0 : Int) < (r : Int) := by omega
    have hd2 : (r : Int) > 0 := by omega
    obtain ⟨wb, wo, wc, hw1, hw2, hw3, hw4⟩ := M1.out.tape.words
    have hk4 := hw4 (4 + k) (by omega)
    have hnl := Lfc.words_len (4 + k)
    have HNMN := Lib.hid (Lfc.words_name (4 + k) (by omega))
    generalize Lfc.words.getD (4 + k) [] = nm at *
    have hT1 := M1.out.tape.lt
    have hs1 := M1.out.oth.size
    have SC := Lib.hid (show ∀ W, Oth T w1 W → W.cell? ⟨0, 0, none⟩ = some (.slice (some ⟨wb, wo, none⟩) 13 wc) ∧ W.cell? ⟨wb, wo + (4 + k), none⟩ = some (S nm) from fun W ho => ⟨(ho.cell (p := ⟨_, 0, none⟩) (by simp only; omega) (by simp only; omega)).trans hw1, (ho.cell (p := ⟨wb, _, none⟩) (by simp only; omega) (by simp only; omega)).trans hk4⟩)
    have hi0 : IntKind.i64.wrap (4 + (k : Int)) = 4 + (k : Int) := IntWalk.i64_in _ (by omega)
    have hi1 : (0 : Int) ≤ 4 + (k : Int) := by omega
    have hi2 : 4 + (k : Int) < 13 := by omega
    have hi3 : (4 + (k : Int)).toNat = 4 + k := by omega
    have G0 : Oth T w1 w1.drew := (Oth.refl _ _).drew
    have T0 := Lib.hid (M1.out.tape.below ((Below.refl w1.heap.size w1).drew))
    have NX := Lib.hid (fun W (hW : TapeAt T W) => tapeNext_any T 5 W (by omega) (by omega) hW)
    have HNL := Lib.hid hnl
    have PC := Lib.hid precs_cell
    have OWN := Lib.hid (fun W (ho : Oth T w1 W) => M1.out.own.kept ho (Or.inr HTOW.out))
    have hlm : l.length + 1 ≤ maxLen := by unfold maxLen; omega
    have hl32 : (l.length + 1) * 32 ≤ 140737488355328 := by omega
    have hT1w : w.heap.size ≤ w1.heap.size := hs1
    clear hw1 hw4 hk4 hnl
    go_wp2_with fail
    refine wp_region_held_drew (S := fun W => W.cell? ⟨0, 0, none⟩ = some (.slice (some ⟨wb, wo, none⟩) 13 wc) ∧ W.cell? ⟨wb, wo + (4 + k), none⟩ = some (S nm)) (by kernel_rfl) ?_ (fun hHeld => ?_)
    ·exact SC.out _ G0
    refine tk 0 ?_
    refine tk 1 ?_
    refine tk 2 ?_
    refine tk 3 ?_
    refine tk 4 ?_
    refine tk 5 ?_
    refine tk 6 ?_
    refine tk 10 ?_
    refine wpAnyH_ready (rs := [7, 9]) (by kernel_rfl) (by simp) ?_
    refine AllReadyH.cons rfl (fun K hK => ?_) ?_
    ·go_simp
     go_at_call 32
     refine (NX.out _ T0.out).mono ?_
     rintro e w5 ⟨⟨r1, hr1, rfl⟩, tw5, ow5⟩
     have oow5 := G0.trans ow5
     have hr1a : (0 : Int) ≤ 1 + (r1 : Int) := by omega
     have hr1b : IntKind.i64.wrap (1 + (r1 : Int)) = 1 + (r1 : Int) := IntWalk.i64_in _ (by omega)
     refine hK.out _ _ (SC.out _ oow5) (fun hHeld => ?_)
     clear hK K
     refine nrm ?_
     refine tk 8 ?_
     refine wpAnyH_ready (rs := [9, 11]) (by kernel_rfl) (by simp) ?_
     refine AllReadyH.cons rfl (fun K hK => ?_) ?_
     ·go_simp
      refine hK.out _ _ (SC.out _ (oow5.trans (Oth.of_below ((Below.refl _ _).alloc (Nat.le_refl _) (.cells #[.int .i64 0, .int .i64 10, .int .i64 10, .int .i64 20, .int .i64 99] 3))))) (fun hHeld => ?_)
      clear hK K
      refine nrm ?_
      refine wpAnyH_ready (rs := [11]) (by kernel_rfl) (by simp) ?_
      refine AllReadyH.cons rfl (fun K hK => ?_) ?_
      ·go_simp
       go_at_call 32
       refine (NX.out _ (tw5.below ((Below.refl _ _).alloc (Nat.le_refl _) _))).mono ?_
       rintro e w6 ⟨⟨r2, hr2, rfl⟩, tw6, ow6⟩
       have oow6 := (oow5.trans (Oth.of_below ((Below.refl _ _).alloc (Nat.le_refl _) (.cells #[.int .i64 0, .int .i64 10, .int .i64 10, .int .i64 20, .int .i64 99] 3)))).trans ow6
       have hr2a : (0 : Int) ≤ (r2 : Int) := by omega
       have hr2b : (r2 : Int) < 5 := by omega
       refine hK.out _ _ (SC.out _ oow6) (fun hHeld => ?_)
       clear hK K
       refine nrm ?_
       have xt : w6.cell? ⟨w5.heap.size, r2, none⟩ = some (.int .i64 (Lfc.precs.getD r2 0)) := (ow6.cell (p := ⟨w5.heap.size, r2, none⟩) (by simp) (by have := tw5.lt; simp only; omega)).trans (PC.out w5 r2 hr2)
       have HPR := Lib.hid (Lfc.precs_ok r2)
       generalize Lfc.precs.getD r2 0 = pr at *
       refine tk 12 ?_
       refine wpAnyH_ready (rs := [13]) (by kernel_rfl) (by simp) ?_
       refine AllReadyH.cons rfl (fun K hK => ?_) ?_
       ·go_simp
        refine hK.out _ _ (SC.out _ oow6) (fun hHeld => ?_)
        clear hK K
        refine nrm ?_
        refine tk 14 ?_
        refine wpAnyH_ready (rs := [15]) (by kernel_rfl) (by simp) ?_
        refine AllReadyH.cons rfl (fun K hK => ?_) ?_
        ·go_simp
         refine hK.out _ _ (SC.out _ (oow6.trans (Oth.of_below ((Below.refl _ _).alloc (Nat.le_refl _) _)))) (fun hHeld => ?_)
         clear hK K
         refine nrm ?_
         refine wpAnyH_ready (rs := [16]) (by kernel_rfl) (by simp) ?_
         refine AllReadyH.cons rfl (fun K hK => ?_) ?_
         ·refine step_append_own_at _ (by rfl) _ _ 26 (by rfl) w.heap.size 34 it (.agg #[S [], .int .i64 0, .int .i64 0]) 3 32 Tryz.underlying26 hi hz0 hz1 hz2 rfl (by decide) _ _ _ (by rfl) ((OWN.out _ oow6).alloc _) ⟨w6.heap.size, 0, none⟩ 1 1 [S nm, .int .i64 (1 + (r1 : Int)), .int .i64 pr] (by rfl) (by rfl) (fun j u h => cells_new _ _ (by simp) [S nm, .int .i64 (1 + (r1 : Int)), .int .i64 pr] _ j u h) (by intro u hu; simp at hu; rcases hu with rfl | rfl | rfl <;> rfl) hlm hl32 (alloc_le (Nat.le_trans hT1w oow6.size)) ?_
          intro v' w9 hown9 hg9 _
          obtain ⟨A9, c9, rfl⟩ := own_form hown9
          have HLN : (l ++ [(⟨nm, 1 + (r1 : Int), pr⟩ : Lfc.Op)]).length = l.length + 1 := by simp
          have M9 : Hid (MadeO w T (l ++ [⟨nm, 1 + (r1 : Int), pr⟩]) (.slice A9 (l ++ [(⟨nm, 1 + (r1 : Int), pr⟩ : Lfc.Op)]).length c9) w9) := Lib.hid (by rw [HLN]; exact M1.out.step (x := ⟨nm, 1 + (r1 : Int), pr⟩) hTw tw6 oow6 hg9 hown9 (by have := HNL.out; simp only; omega) (Lfc.op_good HNMN.out (by omega) (by omega) HPR.out))
          have hb9 := M1.out.low oow6 hg9
          refine hK.out _ _ ?_ (fun hHeld => ?_)
          ·(try dsimp only)
           (have e := SC.out _ (oow6.trans (Oth.of_below ((Below.refl _ _).alloc (Nat.le_refl _) (.cells #[S nm, .int .i64 (1 + (r1 : Int)), .int .i64 pr] 34)))); exact ⟨(hb9.cell (p := ⟨_, 0, none⟩) (by simp only; omega)).trans e.1, (hb9.cell (p := ⟨wb, _, none⟩) (by simp only; omega)).trans e.2⟩)
          clear hK K
          try simp only [Act.put, List.setIfInBounds_toArray, List.set_cons_zero, List.set_cons_succ]
          clear hown9 hg9 hb9
          refine tk 17 ?_
          refine wpAnyH_done (by kernel_rfl) ?_ _
          go_wp2_with fail
          go_roundw
          case rel => exact ⟨k + 1, l ++ [⟨nm, 1 + (r1 : Int), pr⟩], A9, c9, by omega, by simp; omega, by go_num, by simp, M9⟩
          case measure => simp [intOf]; omega
         exact AllReadyH.nil
        exact AllReadyH.nil
       exact AllReadyH.nil
      exact AllReadyH.nil
     refine AllReadyH.cons rfl (fun K hK => ?_) ?_
     ·go_simp
      go_at_call 32
      refine (NX.out _ tw5).mono ?_
      rintro e w6 ⟨⟨r2, hr2, rfl⟩, tw6, ow6⟩
      have oow6 := oow5.trans ow6
      have hr2a : (0 : Int) ≤ (r2 : Int) := by omega
      have hr2b : (r2 : Int) < 5 := by omega
      refine hK.out _ _ (SC.out _ oow6) (fun hHeld => ?_)
      clear hK K
      refine nrm ?_
      refine wpAnyH_ready (rs := [9]) (by kernel_rfl) (by simp) ?_
      refine AllReadyH.cons rfl (fun K hK => ?_) ?_
      ·go_simp
       refine hK.out _ _ (SC.out _ (oow6.trans (Oth.of_below ((Below.refl _ _).alloc (Nat.le_refl _) (.cells #[.int .i64 0, .int .i64 10, .int .i64 10, .int .i64 20, .int .i64 99] 3))))) (fun hHeld => ?_)
       clear hK K
       refine nrm ?_
       have xt : (w6.alloc (.cells #[.int .i64 0, .int .i64 10, .int .i64 10, .int .i64 20, .int .i64 99] 3)).cell? ⟨w6.heap.size, r2, none⟩ = some (.int .i64 (Lfc.precs.getD r2 0)) := PC.out w6 r2 hr2
       have HPR := Lib.hid (Lfc.precs_ok r2)
       generalize Lfc.precs.getD r2 0 = pr at *
       refine tk 12 ?_
       refine wpAnyH_ready (rs := [13]) (by kernel_rfl) (by simp) ?_
       refine AllReadyH.cons rfl (fun K hK => ?_) ?_
       ·go_simp
        refine hK.out _ _ (SC.out _ (oow6.trans (Oth.of_below ((Below.refl _ _).alloc (Nat.le_refl _) (.cells #[.int .i64 0, .int .i64 10, .int .i64 10, .int .i64 20, .int .i64 99] 3))))) (fun hHeld => ?_)
        clear hK K
        refine nrm ?_
        refine tk 14 ?_
        refine wpAnyH_ready (rs := [15]) (by kernel_rfl) (by simp) ?_
        refine AllReadyH.cons rfl (fun K hK => ?_) ?_
        ·go_simp
         refine hK.out _ _ (SC.out _ ((oow6.trans (Oth.of_below ((Below.refl _ _).alloc (Nat.le_refl _) (.cells #[.int .i64 0, .int .i64 10, .int .i64 10, .int .i64 20, .int .i64 99] 3)))).trans (Oth.of_below ((Below.refl _ _).alloc (Nat.le_refl _) _)))) (fun hHeld => ?_)
         clear hK K
         refine nrm ?_
         refine wpAnyH_ready (rs := [16]) (by kernel_rfl) (by simp) ?_
         refine AllReadyH.cons rfl (fun K hK => ?_) ?_
         ·refine step_append_own_at _ (by rfl) _ _ 26 (by rfl) w.heap.size 34 it (.agg #[S [], .int .i64 0, .int .i64 0]) 3 32 Tryz.underlying26 hi hz0 hz1 hz2 rfl (by decide) _ _ _ (by rfl) ((OWN.out _ (oow6.trans (Oth.of_below ((Below.refl _ _).alloc (Nat.le_refl _) (.cells #[.int .i64 0, .int .i64 10, .int .i64 10, .int .i64 20, .int .i64 99] 3))))).alloc _) ⟨w6.heap.size + 1, 0, none⟩ 1 1 [S nm, .int .i64 (1 + (r1 : Int)), .int .i64 pr] (by rfl) (by rfl) (fun j u h => cells_new _ _ (by simp) [S nm, .int .i64 (1 + (r1 : Int)), .int .i64 pr] _ j u h) (by intro u hu; simp at hu; rcases hu with rfl | rfl | rfl <;> rfl) hlm hl32 (alloc_le (Nat.le_trans hT1w (oow6.trans (Oth.of_below ((Below.refl _ _).alloc (Nat.le_refl _) (.cells #[.int .i64 0, .int .i64 10, .int .i64 10, .int .i64 20, .int .i64 99] 3)))).size)) ?_
          intro v' w9 hown9 hg9 _
          obtain ⟨A9, c9, rfl⟩ := own_form hown9
          have HLN : (l ++ [(⟨nm, 1 + (r1 : Int), pr⟩ : Lfc.Op)]).length = l.length + 1 := by simp
          have M9 : Hid (MadeO w T (l ++ [⟨nm, 1 + (r1 : Int), pr⟩]) (.slice A9 (l ++ [(⟨nm, 1 + (r1 : Int), pr⟩ : Lfc.Op)]).length c9) w9) := Lib.hid (by rw [HLN]; exact M1.out.step (x := ⟨nm, 1 + (r1 : Int), pr⟩) hTw (tw6.below ((Below.refl _ _).alloc (Nat.le_refl _) _)) (oow6.trans (Oth.of_below ((Below.refl _ _).alloc (Nat.le_refl _) (.cells #[.int .i64 0, .int .i64 10, .int .i64 10, .int .i64 20, .int .i64 99] 3)))) hg9 hown9 (by have := HNL.out; simp only; omega) (Lfc.op_good HNMN.out (by omega) (by omega) HPR.out))
          have hb9 := M1.out.low (oow6.trans (Oth.of_below ((Below.refl _ _).alloc (Nat.le_refl _) (.cells #[.int .i64 0, .int .i64 10, .int .i64 10, .int .i64 20, .int .i64 99] 3)))) hg9
          refine hK.out _ _ ?_ (fun hHeld => ?_)
          ·(try dsimp only)
           (have e := SC.out _ ((oow6.trans (Oth.of_below ((Below.refl _ _).alloc (Nat.le_refl _) (.cells #[.int .i64 0, .int .i64 10, .int .i64 10, .int .i64 20, .int .i64 99] 3)))).trans (Oth.of_below ((Below.refl _ _).alloc (Nat.le_refl _) (.cells #[S nm, .int .i64 (1 + (r1 : Int)), .int .i64 pr] 34)))); exact ⟨(hb9.cell (p := ⟨_, 0, none⟩) (by simp only; omega)).trans e.1, (hb9.cell (p := ⟨wb, _, none⟩) (by simp only; omega)).trans e.2⟩)
          clear hK K
          try simp only [Act.put, List.setIfInBounds_toArray, List.set_cons_zero, List.set_cons_succ]
          clear hown9 hg9 hb9
          refine tk 17 ?_
          refine wpAnyH_done (by kernel_rfl) ?_ _
          go_wp2_with fail
          go_roundw
          case rel => exact ⟨k + 1, l ++ [⟨nm, 1 + (r1 : Int), pr⟩], A9, c9, by omega, by simp; omega, by go_num, by simp, M9⟩
          case measure => simp [intOf]; omega
         exact AllReadyH.nil
        exact AllReadyH.nil
       exact AllReadyH.nil
      exact AllReadyH.nil
     exact AllReadyH.nil
    refine AllReadyH.cons rfl (fun K hK => ?_) ?_
    ·go_simp
     refine hK.out _ _ (SC.out _ (G0.trans (Oth.of_below ((Below.refl _ _).alloc (Nat.le_refl _) (.cells #[.int .i64 0, .int .i64 10, .int .i64 10, .int .i64 20, .int .i64 99] 3))))) (fun hHeld => ?_)
     clear hK K
     refine nrm ?_
     refine wpAnyH_ready (rs := [7]) (by kernel_rfl) (by simp) ?_
     refine AllReadyH.cons rfl (fun K hK => ?_) ?_
     ·go_simp
      go_at_call 32
      refine (NX.out _ (T0.out.below ((Below.refl _ _).alloc (Nat.le_refl _) _))).mono ?_
      rintro e w5 ⟨⟨r1, hr1, rfl⟩, tw5, ow5⟩
      have oow5 := (G0.trans (Oth.of_below ((Below.refl _ _).alloc (Nat.le_refl _) (.cells #[.int .i64 0, .int .i64 10, .int .i64 10, .int .i64 20, .int .i64 99] 3)))).trans ow5
      have hr1a : (0 : Int) ≤ 1 + (r1 : Int) := by omega
      have hr1b : IntKind.i64.wrap (1 + (r1 : Int)) = 1 + (r1 : Int) := IntWalk.i64_in _ (by omega)
      refine hK.out _ _ (SC.out _ oow5) (fun hHeld => ?_)
      clear hK K
      refine nrm ?_
      refine tk 8 ?_
      refine wpAnyH_ready (rs := [11]) (by kernel_rfl) (by simp) ?_
      refine AllReadyH.cons rfl (fun K hK => ?_) ?_
      ·go_simp
       go_at_call 32
       refine (NX.out _ tw5).mono ?_
       rintro e w6 ⟨⟨r2, hr2, rfl⟩, tw6, ow6⟩
       have oow6 := oow5.trans ow6
       have hr2a : (0 : Int) ≤ (r2 : Int) := by omega
       have hr2b : (r2 : Int) < 5 := by omega
       refine hK.out _ _ (SC.out _ oow6) (fun hHeld => ?_)
       clear hK K
       refine nrm ?_
       have xt : w6.cell? ⟨w1.heap.size, r2, none⟩ = some (.int .i64 (Lfc.precs.getD r2 0)) := (ow6.cell (p := ⟨w1.heap.size, r2, none⟩) (by have := ow5.size; simp at this ⊢; omega) (by simp only; omega)).trans ((ow5.cell (p := ⟨w1.heap.size, r2, none⟩) (by simp) (by simp only; omega)).trans (PC.out w1.drew r2 hr2))
       have HPR := Lib.hid (Lfc.precs_ok r2)
       generalize Lfc.precs.getD r2 0 = pr at *
       refine tk 12 ?_
       refine wpAnyH_ready (rs := [13]) (by kernel_rfl) (by simp) ?_
       refine AllReadyH.cons rfl (fun K hK => ?_) ?_
       ·go_simp
        refine hK.out _ _ (SC.out _ oow6) (fun hHeld => ?_)
        clear hK K
        refine nrm ?_
        refine tk 14 ?_
        refine wpAnyH_ready (rs := [15]) (by kernel_rfl) (by simp) ?_
        refine AllReadyH.cons rfl (fun K hK => ?_) ?_
        ·go_simp
         refine hK.out _ _ (SC.out _ (oow6.trans (Oth.of_below ((Below.refl _ _).alloc (Nat.le_refl _) _)))) (fun hHeld => ?_)
         clear hK K
         refine nrm ?_
         refine wpAnyH_ready (rs := [16]) (by kernel_rfl) (by simp) ?_
         refine AllReadyH.cons rfl (fun K hK => ?_) ?_
         ·refine step_append_own_at _ (by rfl) _ _ 26 (by rfl) w.heap.size 34 it (.agg #[S [], .int .i64 0, .int .i64 0]) 3 32 Tryz.underlying26 hi hz0 hz1 hz2 rfl (by decide) _ _ _ (by rfl) ((OWN.out _ oow6).alloc _) ⟨w6.heap.size, 0, none⟩ 1 1 [S nm, .int .i64 (1 + (r1 : Int)), .int .i64 pr] (by rfl) (by rfl) (fun j u h => cells_new _ _ (by simp) [S nm, .int .i64 (1 + (r1 : Int)), .int .i64 pr] _ j u h) (by intro u hu; simp at hu; rcases hu with rfl | rfl | rfl <;> rfl) hlm hl32 (alloc_le (Nat.le_trans hT1w oow6.size)) ?_
          intro v' w9 hown9 hg9 _
          obtain ⟨A9, c9, rfl⟩ := own_form hown9
          have HLN : (l ++ [(⟨nm, 1 + (r1 : Int), pr⟩ : Lfc.Op)]).length = l.length + 1 := by simp
          have M9 : Hid (MadeO w T (l ++ [⟨nm, 1 + (r1 : Int), pr⟩]) (.slice A9 (l ++ [(⟨nm, 1 + (r1 : Int), pr⟩ : Lfc.Op)]).length c9) w9) := Lib.hid (by rw [HLN]; exact M1.out.step (x := ⟨nm, 1 + (r1 : Int), pr⟩) hTw tw6 oow6 hg9 hown9 (by have := HNL.out; simp only; omega) (Lfc.op_good HNMN.out (by omega) (by omega) HPR.out))
          have hb9 := M1.out.low oow6 hg9
          refine hK.out _ _ ?_ (fun hHeld => ?_)
          ·(try dsimp only)
           (have e := SC.out _ (oow6.trans (Oth.of_below ((Below.refl _ _).alloc (Nat.le_refl _) (.cells #[S nm, .int .i64 (1 + (r1 : Int)), .int .i64 pr] 34)))); exact ⟨(hb9.cell (p := ⟨_, 0, none⟩) (by simp only; omega)).trans e.1, (hb9.cell (p := ⟨wb, _, none⟩) (by simp only; omega)).trans e.2⟩)
          clear hK K
          try simp only [Act.put, List.setIfInBounds_toArray, List.set_cons_zero, List.set_cons_succ]
          clear hown9 hg9 hb9
          refine tk 17 ?_
          refine wpAnyH_done (by kernel_rfl) ?_ _
          go_wp2_with fail
          go_roundw
          case rel => exact ⟨k + 1, l ++ [⟨nm, 1 + (r1 : Int), pr⟩], A9, c9, by omega, by simp; omega, by go_num, by simp, M9⟩
          case measure => simp [intOf]; omega
         exact AllReadyH.nil
        exact AllReadyH.nil
       exact AllReadyH.nil
      exact AllReadyH.nil
     exact AllReadyH.nil
    exact AllReadyH.nil
  ·have hd0 : ¬ (k : Int) < 4 := by omega
   go_wp2_with fail
   go_ret
   exact ⟨l, A, c, rfl, HI.out, by omega⟩
end Go.Proofs.YthajalgkjonaaaaGreatDoor
namespace Go.Proofs.YthajalgkjonaaaaGreatDoor
open Go.RowKit
theorem tapeAt_new {w wT : World} {vl : Value} {zl : List Int} (hl : IntsAt w vl zl) (hw : WordsAt w) (T : Nat) (hT : w.heap.size ≤ T) (hb : Below w.heap.size w wT) (ht : wT.heap[T]? = some (.cells #[vl, .int .i64 0] 50 (0, 0))) : TapeAt T wT := by
 obtain ⟨A, c, rfl, h1, h2⟩ := hl
 obtain ⟨b, o, cw, w1, w2, w3, w4⟩ := hw
 refine ⟨⟨A, zl.length, c, 0, ht, Nat.zero_le _, h1, fun hp => ?_⟩, ⟨b, o, cw, (hb.cell (p := ⟨_, 0, none⟩) w3).trans w1, by omega, by omega, fun k hk => (hb.cell (p := ⟨b, o + k, none⟩) w2).trans (w4 k hk)⟩⟩
 obtain ⟨b, o, hA, hlt, hc⟩ := h2 hp
 exact ⟨b, o, hA, by omega, fun k hk => ⟨_, (hb.cell (p := ⟨b, o + k, none⟩) hlt).trans (hc k hk)⟩⟩
end Go.Proofs.YthajalgkjonaaaaGreatDoor
namespace Lfc
theorem exprs_law (t : Raw) (l : List Op) (hf : t.fs = true) (hs : t.size ≤ 63) (hd : t.depth ≤ 6) (ho : ∀ o ∈ l, o.bad = 0) : ∃ u k, exprAll l (t.fmt (l.map (·.name))) = .ok u k ∧ Raw.same false u t = true := by
 obtain ⟨h1, h2⟩ := fs_both t.size t (Nat.le_refl _) hf
 have hw : t.wf = 0 := wf_parts.2 ⟨h1, by omega, by omega⟩
 have hl := text_len (l.map (·.name)) 60 t h2
 obtain ⟨ts, e1, e2⟩ := lex_text (l.map (·.name)) t h1 h2 (by have : t.size * (60 + 20) ≤ 63 * 80 := Nat.mul_le_mul_right _ hs; omega)
 obtain ⟨u, e3, e4⟩ := expr_text ts (t.text (l.map (·.name))).length l (l.map (·.name)) ho (fun o ho => List.mem_map.2 ⟨o, ho, rfl⟩) t hw e2
 refine ⟨u, ts.length, ?_, e4⟩
 unfold exprAll Raw.fmt
 rw [if_pos hw, e1]
 simp only [ne_eq, not_true_eq_false, if_false]
 unfold PE.exprTop
 rw [e3]
 show (if ts.length < ts.length then _ else PR.ok u ts.length) = _
 rw [if_neg (Nat.lt_irrefl _)]
end Lfc
namespace Go.Proofs.YthajalgkjonaaaaGreatDoor
open Go.RowKit
theorem names_own {w : World} {base c : Nat} {A : Option Addr} {q : List (List UInt8)} (h : w.ownsRow base 9 1 (.slice A q.length c) q.length (q.map S)) : NamesAt w A q := fun hne => by
 rcases h.2 with ⟨_, h0⟩ | ⟨g, cap, cur, hv, hbg, hg, _⟩
 ·omega
 ·have hv' := hv
  injection hv' with e1 _ e3
  subst e1 e3
  refine ⟨g, 0, rfl, lt_of_block hg, fun k hk => ?_⟩
  have := h.cells (g := g) rfl k (S q[k]) (by simp [hk])
  rw [show (⟨g, 0, none⟩ : Addr).add k = ⟨g, 0 + k, none⟩ by unfold Addr.add; split <;> simp_all] at this
  exact this
set_option maxRecDepth 100000 in
set_option maxHeartbeats 8000000 in
theorem parseExprs_walk (v0 v1 : Value) (z0 z1 : List Int) (w : World) (i0 : IntsAt w v0 z0) (i1 : IntsAt w v1 z1) (hw : WordsAt w) :
  Calls Tryz.prog 4 #[v0, v1] w fun e w' => e = .returned (.bool true) ∧ Below w.heap.size w w' := by
 obtain ⟨iz, hi, hz0, hz1, hz2⟩ := str_info
 obtain ⟨wT, hwT⟩ : ∃ wT, w.alloc (.cells #[v0, .int .i64 0] 50) = wT := ⟨_, rfl⟩
 have bT : Below w.heap.size w wT := by rw [← hwT]; exact (Below.refl _ _).alloc (Nat.le_refl _) _
 have qT : wT.heap[w.heap.size]? = some (.cells #[v0, .int .i64 0] 50 (0, 0)) := by rw [← hwT]; exact heap_alloc_new _ _
 have C1 := Lib.hid (raw_anyS 5 (by omega) w.heap.size wT (tapeAt_new i0 hw w.heap.size (Nat.le_refl _) bT qT))
 have BT := Lib.hid bT
 have I1 := Lib.hid i1
 have WW := Lib.hid hw
 obtain ⟨A0, c0, rfl, _⟩ := i0
 obtain ⟨A1, c1, rfl, _⟩ := i1
 have hsT := lt_of_block qT
 clear bT qT hw
 go_enter Tryz.func4, Tryz.ntmps4
 go_upto_region 2 with (go_at_call 13; refine C1.out.mono ?_; rintro e w2 ⟨⟨t, v, rfl, hv, hf, hs, hd⟩, ht2, o2⟩; obtain ⟨tk, tn, tp, us, D, g, rfl, rfl, hp⟩ := TreeVP.parts4 hv; obtain ⟨w3, hw3⟩ : ∃ w3, w2.alloc (.cells #[.int .i64 tk, S tn, .int .i64 tp, .slice D us.length g] 46) = w3 := ⟨_, rfl⟩)
 have b2 : Below w.heap.size w w2 := Oth.below BT.out o2 (Nat.le_refl _) BT.out.size
 have b3 : Below w2.heap.size w2 w3 := by rw [← hw3]; exact (Below.refl _ _).alloc (Nat.le_refl _) _
 have q3 : w3.heap[w2.heap.size]? = some (.cells #[.int .i64 tk, S tn, .int .i64 tp, .slice D us.length g] 46 (0, 0)) := by rw [← hw3]; exact heap_alloc_new _ _
 have HV3 : Hid (TreeV w3 (.node tk tn tp us) (.agg #[.int .i64 tk, S tn, .int .i64 tp, .slice D us.length g])) := Lib.hid (TreeV.below ⟨_, _, _, _, rfl, TreeP.toC _ _ _ _ _ hp⟩ b3)
 have B3 := Lib.hid (b2.trans (b3.mono b2.size))
 have Q3 := Lib.hid q3
 have hsz : (Lfc.Raw.node tk tn tp us).size ≤ 63 := by omega
 have hdp : (Lfc.Raw.node tk tn tp us).depth ≤ 6 := by omega
 obtain ⟨t, ht⟩ : ∃ t, (Lfc.Raw.node tk tn tp us) = t := ⟨_, rfl⟩
 rw [ht] at HV3 hf hsz hdp
 clear hv hp ht2 o2 hs hd b2 b3 q3 hwT C1 ht
 clear hw3
 obtain ⟨w4, hw4⟩ : ∃ w4, w3.alloc (.cells #[.slice A1 z1.length c1, .int .i64 0] 50) = w4 := ⟨_, rfl⟩
 have b4 : Below w3.heap.size w3 w4 := by rw [← hw4]; exact (Below.refl _ _).alloc (Nat.le_refl _) _
 have q4 : w4.heap[w3.heap.size]? = some (.cells #[.slice A1 z1.length c1, .int .i64 0] 50 (0, 0)) := by rw [← hw4]; exact heap_alloc_new _ _
 have C4 := Lib.hid (madeOps_any w3.heap.size w4 (tapeAt_new (I1.out.below B3.out) (WW.out.below B3.out) w3.heap.size (Nat.le_refl _) b4 q4))
 have B4 := Lib.hid b4
 clear b4 q4
 go_upto_region 3 with (go_at_call 14; refine C4.out.mono ?_; unfold OpsPost; rintro e w5 ⟨l, Al, cl, rfl, hm, hll⟩)
 have b5 : Below w3.heap.size w3 w5 := Oth.below B4.out hm.oth (Nat.le_refl _) B4.out.size
 have HLO := Lib.hid (OpsAt.of_own hm.names hm.own)
 have HGO := Lib.hid hm.good
 have B5 := Lib.hid (B3.out.trans (b5.mono B3.out.size))
 have HV5 := Lib.hid (HV3.out.below b5)
 have Q5 := Lib.hid ((b5.block _ (lt_of_block Q3.out)).trans Q3.out)
 clear hm b5 C4 hw4 HV3 Q3 B3 B4
 go_wp2_with fail
 go_loopw [7, 8] (fun v i wr => ∃ (k : Nat) (A : Option Addr) (c : Nat), k ≤ l.length ∧ i = .int .i64 k ∧ v = .slice A k c ∧ Hid (wr.ownsRow w5.heap.size 9 1 (.slice A k c) k (((l.take k).map (·.name)).map S)) ∧ Below w5.heap.size w5 wr) (fun _ i _ => l.length - (intOf i).toNat)
 case atStart => exact ⟨0, none, 0, by omega, rfl, rfl, Lib.hid (own_nil _ _ _ _), Below.refl _ _⟩
 case round =>
  obtain ⟨k, A, c, hk, rfl, rfl, HOW, hbw⟩ := hrel
  by_cases hlt : k < l.length
  ·have hlt2 : decide ((k : Int) < (l.length : Int)) = true := by simpa using hlt
   obtain ⟨b, o, rfl, hb, hcs⟩ := HLO.out.2 (by intro e; rw [e] at hlt; simp at hlt)
   obtain ⟨d0, _, _⟩ := hcs k hlt
   have e0 := (hbw.cell (p := ⟨b, _, none⟩) hb).trans d0
   have hi0 : (0 : Int) ≤ (k : Int) := Int.natCast_nonneg _
   have hi1 : (k : Int) < (l.length : Int) := by omega
   have HTK : Hid (((l.take (k + 1)).map (·.name)).map S = ((l.take k).map (·.name)).map S ++ [S l[k].name]) := Lib.hid (by rw [List.take_succ_eq_append_getElem hlt, List.map_append, List.map_append]; rfl)
   have HLM : Hid (k + 1 ≤ maxLen ∧ (k + 1) * 16 ≤ 140737488355328) := Lib.hid ⟨by unfold maxLen; omega, by omega⟩
   have hbs := hbw.size
   clear hcs d0
   generalize l[k].name = nm at *
   go_wp2_with (at_builtin; refine wpList_append_own_any _ rfl _ _ 36 rfl w5.heap.size 9 iz (S []) 1 16 Tryz.underlying36 hi hz0 hz1 hz2 rfl (by decide) _ _ _ rfl (HOW.out.alloc _) (some ⟨wr.heap.size, 0, none⟩) 1 1 [S nm] rfl rfl (fun _ => ⟨_, rfl, cell_one_new _ _ _⟩) (by intro u hu; simp at hu; subst hu; rfl) HLM.out.1 HLM.out.2 (by simp; omega) ?_)
   intro v' w9 hown9 hg9 _
   obtain ⟨A9, c9, rfl⟩ := own_form hown9
   have hb9 := Lib.hid (Below.grown (hbw.alloc hbs _) hg9 (by simp; omega) (own_block_ge HOW.out))
   have HO9 := Lib.hid (show w9.ownsRow w5.heap.size 9 1 (.slice A9 (k + 1) c9) (k + 1) (((l.take (k + 1)).map (·.name)).map S) by rw [HTK.out]; simpa using hown9)
   clear hown9 hg9
   go_wp2_with fail
   go_roundw
   case rel => exact ⟨k + 1, A9, c9, by omega, by go_num, rfl, HO9, hb9.out⟩
   case measure => simp [intOf]; omega
  ·have hkl : k = l.length := by omega
   subst hkl
   have hown : wr.ownsRow w5.heap.size 9 1 (.slice A l.length c) l.length ((l.map (·.name)).map S) := by
    have := HOW.out
    rwa [List.take_length] at this
   have hql : (l.map (·.name)).length = l.length := by simp
   have HN : Hid (NamesAt wr A (l.map (·.name))) := Lib.hid (names_own (c := c) (by rw [hql]; exact hown))
   have CF := Lib.hid (rFormat_any t _ (l.map (·.name)) A c wr (by omega) (HV5.out.below hbw) (by omega) HN.out)
   rw [hql] at CF
   obtain ⟨u, uk, hu, hsame⟩ := Lfc.exprs_law t l hf hsz hdp HGO.out
   have hlen : (t.fmt (l.map (·.name))).length ≤ 9223372036854775807 := by
    have h2 := Lfc.fmt_len (l.map (·.name)) 60 t (Lfc.fs_both t.size t (Nat.le_refl _) hf).2
    have : t.size * (60 + 20) ≤ 63 * 80 := Nat.mul_le_mul_right _ hsz
    omega
   have CE := Lib.hid (fun W (hb : Below wr.heap.size wr W) => pexpr_any l Al cl (t.fmt (l.map (·.name))) W (by omega) (HLO.out.below (hbw.trans (hb.mono hbw.size))) hlen)
   rw [hu] at CE
   have HQ := Lib.hid ((hbw.block _ (lt_of_block Q5.out)).trans Q5.out)
   have hq := HQ.out
   have x0 := Lib.cell_of_heap hq 0
   have x1 := Lib.cell_of_heap hq 1
   have x2 := Lib.cell_of_heap hq 2
   have x3 := Lib.cell_of_heap hq 3
   simp at x0 x1 x2 x3
   have HV9 := Lib.hid (HV5.out.below hbw)
   have HSM := Lib.hid hsame
   have hlt2 : ¬ ((l.length : Int) < (l.length : Int)) := by omega
   generalize t.fmt (l.map (·.name)) = T at *
   clear hown hql hu hsame hq HN HOW
   go_upto_region 9 with (first
    | (go_at_call 16; refine CF.out.mono ?_; rintro e w6 ⟨rfl, b6⟩)
    | (go_at_call 15; refine (CE.out _ b6).mono ?_; rintro e w7 ⟨⟨v, rfl, hv7⟩, b7⟩; obtain ⟨⟨ak, an, ap, as'⟩, rfl⟩ : ∃ u', u = u' := ⟨u, rfl⟩; obtain ⟨E, h, rfl, _, _⟩ := hv7.open_; obtain ⟨w8, hw8⟩ : ∃ w8, w7.alloc (.cells #[.int .i64 ak, S an, .int .i64 ap, .slice E as'.length h] 46) = w8 := ⟨_, rfl⟩))
   have b8 : Below w7.heap.size w7 w8 := by rw [← hw8]; exact (Below.refl _ _).alloc (Nat.le_refl _) _
   have q8 : w8.heap[w7.heap.size]? = some (.cells #[.int .i64 ak, S an, .int .i64 ap, .slice E as'.length h] 46 (0, 0)) := by rw [← hw8]; exact heap_alloc_new _ _
   have b18 := b6.trans ((b7.trans (b8.mono b7.size)).mono b6.size)
   have hq8 := (b18.block _ (lt_of_block HQ.out)).trans HQ.out
   have y0 := Lib.cell_of_heap q8 0
   have y1 := Lib.cell_of_heap q8 1
   have y2 := Lib.cell_of_heap q8 2
   have y3 := Lib.cell_of_heap q8 3
   have z0' := Lib.cell_of_heap hq8 0
   have z1' := Lib.cell_of_heap hq8 1
   have z2' := Lib.cell_of_heap hq8 2
   have z3' := Lib.cell_of_heap hq8 3
   simp at y0 y1 y2 y3 z0' z1' z2' z3'
   have CS := Lib.hid (rSame_any false (.node ak an ap as') t _ _ w8 (by have := Lfc.same_size _ _ HSM.out; omega) (hv7.below b8) (HV9.out.below b18))
   rw [HSM.out] at CS
   have CA := Lib.hid (fun W => awake4_any W)
   have BF := Lib.hid (B5.out.trans ((hbw.trans (b18.mono hbw.size)).mono B5.out.size))
   clear hv7 q8 hq8 b18 hw8 x0 x1 x2 x3 b6 b7 b8 CE CF HQ
   go_wp2_with (first
    | (go_at_call 17; refine CS.out.mono ?_; rintro e wa ⟨rfl, ba⟩)
    | (go_at_call 12; refine (CA.out _).mono ?_; rintro e wb ⟨rfl, bb⟩))
   go_ret
   exact ⟨rfl, BF.out.trans ((ba.trans (bb.mono ba.size)).mono BF.out.size)⟩
end Go.Proofs.YthajalgkjonaaaaGreatDoor
namespace Go.Proofs.YthajalgkjonaaaaGreatDoor
open Go.RowKit Go.Maps Go.WideMaps
def pWordsName : String := Rows.parseExprsRow.named.headD default
theorem pgWords : Tryz.prog.globalNamed pWordsName = some 0 := by kernel_rfl
theorem pgWordsType : (Tryz.prog.globals[0]?).map (·.type) = some 36 := by kernel_rfl
theorem pWords_datum {H : Type} : (Rows.laid_lfcheck_lfcheckmade_words : DataW H) = .slice (Lfc.words.map fun l => .lit (.string l)) [] := rfl
theorem pWordsAt_of {W : World} (h : laidMetH Tryz.prog Rows.parseExprsRow.laid W) : WordsAt W := by
 rw [MakeChecks.laidMetH_plain _ _ _ (by kernel_rfl)] at h
 obtain ⟨ps, hv, _⟩ := h
 obtain ⟨_, _, _, _, _, _, _, _, _, _, hv, _⟩ := hv
 obtain ⟨_, _, _, _, _, _, _, _, _, _, hv, _⟩ := hv
 obtain ⟨_, _, _, _, _, _, _, _, _, _, hv, _⟩ := hv
 obtain ⟨g0, t0, cs0, f0, p0, q0, hg0, ht0, hv0, hd0, _⟩ := hv
 obtain rfl := Option.some.inj (pgWords.symm.trans hg0)
 obtain rfl := Option.some.inj (pgWordsType.symm.trans ht0)
 rw [pWords_datum] at hd0
 obtain ⟨a, cap, hcs, hcap, hel⟩ := open_row Tryz.underlying36 (by kernel_rfl) hd0
 obtain ⟨b, o, spot⟩ := a
 have each : ∀ k, k < 13 → W.cell? ((⟨b, o, spot⟩ : Addr).add k) = some (S (Lfc.words.getD k [])) := by
  intro k hk
  have hk' : k < Lfc.words.length := hk
  obtain ⟨v, n, q, hc, ht⟩ := hel k (.lit (.string Lfc.words[k])) (by rw [List.getElem?_map, List.getElem?_eq_getElem hk']; rfl)
  obtain ⟨s, hs, hx, _⟩ := DataW.trod_string Tryz.underlying9 ht
  simp only [List.cons.injEq, and_true] at hs
  subst hs
  simp only [Prod.mk.injEq, DataW.lit.injEq, Lit.string.injEq] at hx
  rw [hc, List.getD_eq_getElem?_getD, List.getElem?_eq_getElem hk', Option.getD_some, hx.1]
 have hspot : spot = none := by simpa [Addr.add] using World.cell?_spot (each 0 (by decide))
 subst hspot
 have hcell : W.cell? ⟨0, 0, none⟩ = some (.slice (some ⟨b, o, none⟩) 13 cap) := by
  have := World.var?_cell hg0 hv0 0
  rw [Array.eq_one_of_toList hcs, List.length_map, show Lfc.words.length = 13 from rfl] at this
  simpa using this
 have each' : ∀ k, k < 13 → W.cell? ⟨b, o + k, none⟩ = some (S (Lfc.words.getD k [])) := fun k hk => by
  rw [← Go.WideShapes.add_plain]; exact each k hk
 exact ⟨b, o, cap, hcell, lt_of_cell (each' 0 (by decide)), lt_of_cell hcell, each'⟩
end Go.Proofs.YthajalgkjonaaaaGreatDoor
namespace Go.Proofs.YthajalgkjonaaaaGreatDoor.parseExprs
open Go.ChangeShapes Go.WideShapes Go.ChangeAt Go.RowKit
theorem readable : ∀ t ∈ Tryz.f4.params.toList, Tryz.prog.readableRec t = true ∧ t < Tryz.prog.types.size := by
 have h : (Tryz.f4.params.toList.all fun t => Tryz.prog.readableRec t && decide (t < Tryz.prog.types.size)) = true := by kernel_rfl
 intro t ht
 have := List.all_eq_true.1 h t ht
 simp only [Bool.and_eq_true, decide_eq_true_eq] at this
 exact this
set_option maxRecDepth 100000 in
theorem contract (H : Type) (enc : TypeId × Value → H) (W : World) (base : Nat) (args : Array Value) (ds gs : List (DataW H)) (before : List MemPlace)
  (hval : ∀ (j : Nat) t v, Tryz.f4.params[j]? = some t → args[j]? = some v → Value.okWide Tryz.prog W .any base t v)
  (hW : DataW.Whole enc Tryz.prog Tryz.f4.params.toList Rows.parseExprsSpec.vars false W args.toList ds gs before) (hL : laidMetH Tryz.prog Rows.parseExprsRow.laid W) :
  Calls Tryz.prog 4 args W fun e W' => ∃ v, e = .returned v ∧ Rows.parseExprsSpec.post enc Tryz.prog Tryz.f4 false true false false W args v W' := by
 have hW' := hW
 obtain ⟨p, q, hA0, hV, rfl, hfz, hnd⟩ := hW
 have hA : DataW.TrodAll enc Tryz.prog W 0 (fun _ => true) true Tryz.f4.params.toList args.toList ds p := hA0
 rw [Tryz.params4] at hA hval
 obtain ⟨v0, v1, d0, d1, p0, p1, rfl, rfl, rfl, h0, h1⟩ := trodAll_two hA
 obtain ⟨rfl, rfl⟩ := trodVars_none hV
 obtain ⟨z0, i0⟩ := intsAt_of (hval 0 22 v0 rfl rfl) h0
 obtain ⟨z1, i1⟩ := intsAt_of (hval 1 22 v1 rfl rfl) h1
 clear hA0
 refine (parseExprs_walk v0 v1 z0 z1 W i0 i1 (pWordsAt_of hL)).mono fun e W' ⟨he, hb⟩ => ?_
 subst he
 exact ⟨_, rfl, law_post rfl ⟨rfl, rfl, rfl⟩ rfl readable hW' hb⟩
theorem laid_met (os : Os) : laidMet Tryz.prog Rows.parseExprsRow.laid ((World.doorLaid Tryz.prog 400 os).forCall (fun _ _ => 0) ⟨#[], #[.slice none 0 0, .slice none 0 0], []⟩).memory :=
 laidMet_of_run' 8 (by kernel_rfl) (by kernel_rfl)
theorem reads (os : Os) {H : Type} (enc : TypeId × Value → H) : ∃ places, DataW.whole enc Tryz.prog ((World.doorLaid Tryz.prog 400 os).forCall (fun _ _ => 0) ⟨#[], #[.slice none 0 0, .slice none 0 0], []⟩).memory Tryz.f4.params.toList Rows.parseExprsSpec.vars false (#[.slice none 0 0, .slice none 0 0] : Array Value).toList 8 = some ([.nil, .nil], [], places) :=
 ⟨[], by kernel_rfl⟩
set_option maxRecDepth 100000 in
theorem lifted (os : Os) (started : os.Started) (H : Type) (enc : TypeId × Value → H) (F : Stop.Interp) :
  ReturnsInHanded {} Tryz.checked os 4 .any ((OpenSpec.ofChange Rows.parseExprsSpec).preRow enc Tryz.prog Tryz.f4 Rows.parseExprsRow.domain false Rows.parseExprsRow.laid) (((OpenSpec.ofChange Rows.parseExprsSpec).at F).post enc Tryz.prog Tryz.f4 false true false false) := by
 obtain ⟨places, hx⟩ := reads os enc
 refine returnsInHanded_of_row (C := Tryz.checked) (s := OpenSpec.ofChange Rows.parseExprsSpec) own started (by kernel_rfl) Tryz.func4
  (witness_row_atRef (enc := enc) (C := Tryz.checked) false (World.doorLaid Tryz.prog 400 os) #[.slice none 0 0, .slice none 0 0] rfl (by kernel_rfl) (by kernel_rfl) (by kernel_rfl)
   (OpenSpec.preRow_of_cond 8 hx (by kernel_rfl) (fun k hk => by cases hk) (by kernel_rfl) (laid_met os))) ?_
 intro W base args ds gs before hval hW _ _ _ hL _ _
 exact contract H enc W base args ds gs before hval hW hL
theorem said : Rows.ParseExprsSaid :=
 OpenClaim.holds_of_cond 4 Tryz.f4 rfl rfl rfl rfl rfl rfl rfl ⟨rfl, rfl, rfl, rfl, rfl⟩ rfl rfl rfl rfl rfl (by kernel_rfl) Tryz.func4 (by kernel_rfl)
  (of_decide_eq_true (by kernel_rfl)) (by unfold Func.isWrapper; first | (rw [if_pos (by decide +kernel)]; kernel_rfl) | (rw [if_neg (by decide +kernel)]; exact ⟨rfl, rfl⟩))
  (fun os started H enc _ F => by rw [OpenClaim.pre_eq_preRow]; exact lifted os started H enc F)
theorem plain (f : FuncId) (fn : Func) (hf : Tryz.pinned.checked.prog.funcNamed Rows.parseExprsRow.func = some f) (hfn : Tryz.pinned.checked.prog.funcs[f]? = some fn) :
  true = Tryz.pinned.checked.prog.looks [] ∧ ∀ (j : Nat) t, fn.params[j]? = some t → Tryz.pinned.checked.prog.wantsStandIn t = false := by
 obtain rfl : f = 4 := Option.some.inj ((show Tryz.prog.funcNamed Rows.parseExprsRow.func = some 4 by kernel_rfl).symm.trans hf) |>.symm
 obtain rfl : fn = Tryz.f4 := (Option.some.inj (Tryz.func4.symm.trans hfn)).symm
 refine ⟨by kernel_rfl, fun j t ht => ?_⟩
 have hall : (Tryz.f4.params.toList.all fun u => !Tryz.prog.wantsStandIn u) = true := by kernel_rfl
 have hm : t ∈ Tryz.f4.params.toList := by simpa using Array.mem_of_getElem? ht
 exact (show Tryz.prog.wantsStandIn t = false by simpa using List.all_eq_true.1 hall t hm)
theorem card : Rows.ParseExprsCardSaid :=
 Claim7.holds_tied_plain_at .later [] _ _ _ _ said (fun _ h => by cases h) (by kernel_rfl) (fun _ h => by cases h) parseExprs_row_tie rfl ⟨rfl, rfl⟩ (by kernel_rfl) rfl plain (by kernel_rfl)
end Go.Proofs.YthajalgkjonaaaaGreatDoor.parseExprs
