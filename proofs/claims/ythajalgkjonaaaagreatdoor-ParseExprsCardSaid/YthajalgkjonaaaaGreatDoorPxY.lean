/- Parts of the proof that no input makes the law false: RawMadeS. -/
import Derived.Test.YthajalgkjonaaaaGreatDoorPxE
set_option linter.unusedVariables false
set_option linter.unusedSimpArgs false
namespace Lfc
def formedS (k : Int) (n : List UInt8) (l : Nat) : Bool := formed k n l && decide (n.length ≤ 60)
mutual
def Raw.fs : Raw → Bool
 | .node k n _ ts => formedS k n ts.length && Raw.fss ts
def Raw.fss : List Raw → Bool
 | [] => true
 | a :: r => Raw.fs a && Raw.fss r
end
theorem fs_both : ∀ m : Nat, (∀ t : Raw, t.size ≤ m → t.fs = true → t.form = true ∧ t.short 60) := by
 intro m
 induction m with
 | zero => intro t h _; have := t.size_pos; omega
 | succ m ih =>
  rintro ⟨k, n, p, ts⟩ h hf
  rw [Raw.fs, Bool.and_eq_true, formedS, Bool.and_eq_true] at hf
  obtain ⟨⟨h1, h2⟩, h3⟩ := hf
  have hl : ∀ l : List Raw, Raw.sizes l ≤ m → Raw.fss l = true → Raw.forms l = true ∧ Raw.shorts 60 l := by
   intro l
   induction l with
   | nil => intro _ _; exact ⟨rfl, trivial⟩
   | cons a r ih2 =>
    intro hs hf
    rw [Raw.fss, Bool.and_eq_true] at hf
    rw [Raw.sizes] at hs
    have ha := ih a (by omega) hf.1
    have hr := ih2 (by omega) hf.2
    exact ⟨by rw [Raw.forms, ha.1, hr.1]; rfl, ha.2, hr.2⟩
  simp only [Raw.size] at h
  have := hl ts (by omega) h3
  exact ⟨by rw [Raw.form, h1, this.1]; rfl, by rw [Raw.short]; exact ⟨by simpa using h2, this.2⟩⟩
theorem words_short (r : Nat) (h : r < 10) : (words.getD r []).length ≤ 60 := by
 match r, h with
 | 0, _ => decide
 | 1, _ => decide
 | 2, _ => decide
 | 3, _ => decide
 | 4, _ => decide
 | 5, _ => decide
 | 6, _ => decide
 | 7, _ => decide
 | 8, _ => decide
 | 9, _ => decide
end Lfc
namespace Go.Proofs.YthajalgkjonaaaaGreatDoor
open Go.RowKit
theorem fss_app (a b : List Lfc.Raw) : Lfc.Raw.fss (a ++ b) = (Lfc.Raw.fss a && Lfc.Raw.fss b) := by
 induction a with
 | nil => simp [Lfc.Raw.fss]
 | cons x r ih => simp only [List.cons_append, Lfc.Raw.fss, ih, Bool.and_assoc]
theorem binder_formedS {k : Int} {n : List UInt8} {l : Nat} (hk : k = 7 ∨ k = 8) (hn : (Lfc.isName n || decide (n = [95])) = true) (h6 : n.length ≤ 10) (hl : l = 1 ∨ l = 2) : Lfc.formedS k n l = true := by
 unfold Lfc.formedS
 rw [binder_formed hk hn hl, Bool.true_and, decide_eq_true_eq]
 omega
def RawUptoS (d : Nat) : Prop := ∀ (T : Nat) (w : World), TapeAt T w →
  Calls Tryz.prog 13 #[.pointer (some ⟨T, 0, none⟩), .int .i64 (d : Int)] w fun e w' => (∃ t v, e = .returned v ∧ TreeVP (fun b => w.heap.size ≤ b) w' t v ∧ t.fs = true ∧ t.size + 1 ≤ 2 ^ (d + 1) ∧ t.depth ≤ d + 1) ∧ TapeAt T w' ∧ Oth T w w'
set_option maxRecDepth 100000 in
set_option maxHeartbeats 4000000 in
theorem raw_stepS (d : Nat) (hd : d ≤ 20) (ih : 0 < d → RawUptoS (d - 1)) : RawUptoS d := by
 intro T w hT
 have IH := Lib.hid ih
 obtain ⟨wa, hwa⟩ : ∃ wa, w.alloc (.cells #[.int .i64 0, S [], .int .i64 0, .slice none 0 0] 46) = wa := ⟨_, rfl⟩
 have ba : Below w.heap.size w wa := by rw [← hwa]; exact (Below.refl _ _).alloc (Nat.le_refl _) _
 have ra : wa.heap[w.heap.size]? = some (.cells #[.int .i64 0, S [], .int .i64 0, .slice none 0 0] 46 (0, 0)) := by rw [← hwa]; exact heap_alloc_new _ _
 have Ta := Lib.hid (hT.below ba)
 have hTlt := hT.lt
 have hRT : w.heap.size ≠ T := by omega
 have RA := Lib.hid ra
 have BA := Lib.hid ba
 clear ba ra hT ih
 go_enter Tryz.func13, Tryz.ntmps13
 go_upto_region 1 with fail
 clear hwa
 go_wp2_with fail
 refine (tapeNext_any T 9 wa (by omega) (by omega) Ta.out).mono ?_
 rintro e w1 ⟨⟨r1, hr1, rfl⟩, T1', o1'⟩
 have T1 := Lib.hid T1'
 have O1 := Lib.hid o1'
 clear T1' o1'
 go_upto_if 12 with fail
 generalize hbb : decide (d = 0) = bb
 have HBB := Lib.hid hbb
 clear hbb
 go_cut [5] (fun s5 wx => ∃ kk : Nat, s5 = .int .i64 (kk : Int) ∧ 1 ≤ kk ∧ kk ≤ 9 ∧ (d = 0 → kk ≤ 4) ∧ Hid (TapeAt T wx) ∧ Hid (Oth T wa wx))
 case first =>
  cases bb
  case true =>
   obtain ⟨wb, hwb⟩ : ∃ wb, w1.alloc (.cells #[.int .i64 1, .int .i64 1, .int .i64 3, .int .i64 4, .int .i64 2] 3) = wb := ⟨_, rfl⟩
   have bb : Below w1.heap.size w1 wb := by rw [← hwb]; exact (Below.refl _ _).alloc (Nat.le_refl _) _
   have rb : wb.heap[w1.heap.size]? = some (.cells #[.int .i64 1, .int .i64 1, .int .i64 3, .int .i64 4, .int .i64 2] 3 (0, 0)) := by rw [← hwb]; exact heap_alloc_new _ _
   have hT1 := T1.out.lt
   have HN := Lib.hid (tapeNext_any T 5 wb (by omega) (by omega) (T1.out.below bb))
   have BB := Lib.hid bb
   have RB := Lib.hid rb
   clear bb rb
   go_wp2_with fail
   refine HN.out.mono ?_
   rintro e w2 ⟨⟨r2, hr2, rfl⟩, T2', o2'⟩
   have T2 := Lib.hid T2'
   have hc := fun j => (o2'.cell (p := ⟨w1.heap.size, j, none⟩) (lt_of_block RB.out) (by simp only; omega)).trans (Lib.cell_of_heap RB.out j)
   have O2 := Lib.hid ((O1.out.trans (Oth.of_below BB.out)).trans o2')
   clear T2' o2' hwb
   rcases (show r2 = 0 ∨ r2 = 1 ∨ r2 = 2 ∨ r2 = 3 ∨ r2 = 4 by omega) with rfl | rfl | rfl | rfl | rfl
   ·have hx := hc 0
    clear hc
    simp at hx
    go_wp2_with fail
    go_meet
    exact ⟨1, rfl, by omega, by omega, fun _ => by omega, T2, O2⟩
   ·have hx := hc 1
    clear hc
    simp at hx
    go_wp2_with fail
    go_meet
    exact ⟨1, rfl, by omega, by omega, fun _ => by omega, T2, O2⟩
   ·have hx := hc 2
    clear hc
    simp at hx
    go_wp2_with fail
    go_meet
    exact ⟨3, rfl, by omega, by omega, fun _ => by omega, T2, O2⟩
   ·have hx := hc 3
    clear hc
    simp at hx
    go_wp2_with fail
    go_meet
    exact ⟨4, rfl, by omega, by omega, fun _ => by omega, T2, O2⟩
   ·have hx := hc 4
    clear hc
    simp at hx
    go_wp2_with fail
    go_meet
    exact ⟨2, rfl, by omega, by omega, fun _ => by omega, T2, O2⟩
  case false =>
   go_wp2_with fail
   go_meet
   exact ⟨1 + r1, by simp, by omega, by omega, fun h => absurd h (of_decide_eq_false HBB.out), T1, O1⟩
 case rest =>
  obtain ⟨kk, rfl, hk1, hk9, hk4, T2, O2⟩ := hcut
  go_wp2_with fail
  refine (tapeNext_any T 100 wc (by omega) (by omega) T2.out).mono ?_
  rintro e w3 ⟨⟨r3, hr3, rfl⟩, T3', o3'⟩
  have T3 := Lib.hid T3'
  have O3 := Lib.hid (O2.out.trans o3')
  have hT3 := T3'.lt
  go_upto_block 0 with fail
  obtain ⟨w4, hw4⟩ : ∃ w4, w3.alloc (.cells #[.int .i64 (kk : Int), S [], .int .i64 (r3 : Int), .slice none 0 0] 46) = w4 := ⟨_, rfl⟩
  rw [hw4]
  have b4 : Below w3.heap.size w3 w4 := by rw [← hw4]; exact (Below.refl _ _).alloc (Nat.le_refl _) _
  have q4 : w4.heap[w3.heap.size]? = some (.cells #[.int .i64 (kk : Int), S [], .int .i64 (r3 : Int), .slice none 0 0] 46 (0, 0)) := by rw [← hw4]; exact heap_alloc_new _ _
  have HS4 : Hid (w4.heap.size = w3.heap.size + 1) := Lib.hid (by rw [← hw4]; simp)
  have T4 := Lib.hid (T3'.below b4)
  have O4 := Lib.hid (O3.out.trans (Oth.of_below b4))
  have Q4 := Lib.hid q4
  clear T3' o3' b4 q4
  clear hw4
  go_cut [] (fun wx => ∃ (k p : Int) (n : List UInt8) (ts : List Lfc.Raw) (A : Option Addr) (c : Nat), Hid (wx.heap[w3.heap.size]? = some (.cells #[.int .i64 k, S n, .int .i64 p, .slice A ts.length c] 46 (0, 0))) ∧ Hid (TreesAtP (fun b => w.heap.size < b) wx A ts ∧ n.length ≤ 1000000 ∧ ts.length ≤ c ∧ (Lfc.Raw.node k n p ts).fs = true ∧ Lfc.Raw.sizes ts + 2 ≤ 2 ^ (d + 1) ∧ Lfc.Raw.depths ts ≤ d) ∧ Hid (TapeAt T wx) ∧ Hid (Oth T wa wx))
  case first =>
   have hsz3 : w.heap.size < w3.heap.size := by have := O3.out.size; have := lt_of_block RA.out; omega
   have hs4 := eq2 HS4.out
   have hTr : T < w3.heap.size := hT3
   have hpow : 2 ≤ 2 ^ (d + 1) := by have := Nat.one_le_two_pow (n := d); rw [Nat.pow_succ]; omega
   have HP := Lib.hid hpow
   clear hpow
   by_cases hkA : kk = 1 ∨ kk = 2
   ·obtain ⟨wb, wo, wc2, hw1, hwb, hwg, hwk⟩ := T4.out.words
    have HWK := Lib.hid hwk
    have hl4 := T4.out.lt
    have g2 := hs4
    have hgl : 0 < w4.heap.size := by omega
    clear hwk
    rcases hkA with rfl | rfl
    ·go_wp2_with fail
     go_region_held3 (fun w' => w'.cell? ⟨0, 0, none⟩ = some (.slice (some ⟨wb, wo, none⟩) 13 wc2) ∧ ∀ k, k < 13 → w'.cell? ⟨wb, wo + k, none⟩ = some (S (Lfc.words.getD k [])))
      (first | exact ⟨hw1, HWK.out⟩ | exact words_oth o5 hgl (Nat.lt_trans hwb hl4) (Nat.ne_of_lt hwg) (Nat.ne_of_lt hwb) ⟨hw1, HWK.out⟩ | exact words_set (Nat.ne_of_gt (Nat.lt_trans hwg hTr)) (Nat.ne_of_gt (Nat.lt_trans hwb hTr)) (words_oth o5 hgl (Nat.lt_trans hwb hl4) (Nat.ne_of_lt hwg) (Nat.ne_of_lt hwb) ⟨hw1, HWK.out⟩))
      (first | (go_at_call 32; refine (tapeNext_any T 10 _ (by omega) (by omega) (T4.out.below (Below.refl _ _).drew)).mono ?_; rintro e w5 ⟨⟨r5, hr5, rfl⟩, T5, o5⟩; have hb6 : r5 < 13 := Nat.lt_trans hr5 (by decide); have hx5 := (o5.cell (p := ⟨wb, wo + r5, none⟩) (Nat.lt_trans hwb hl4) (Nat.ne_of_lt hwb)).trans (HWK.out r5 hb6); have q5 := o5.heap Q4.out (Nat.ne_of_gt hTr); have f5 := Lib.frozen_of_heap q5 1; have y5 := Lib.cell_of_heap q5 1; have hb5 : (r5 : Int) < 13 := Int.ofNat_lt.2 hb6))
     go_wp2_with fail
     have T5h := Lib.hid T5
     have hx6 := Lfc.words_name r5 hr5
     have hx7 := Lfc.words_len r5
     have hx8 := Lfc.words_short r5 hr5
     rw [List.getD_eq_getElem?_getD] at hx6 hx7 hx8
     go_meet
     refine ⟨1, (r3 : Int), Lfc.words[r5]?.getD [], [], none, 0, Lib.hid ?_, Lib.hid ⟨fun h => absurd rfl h, by omega, Nat.le_refl _, ?_, HP.out, Nat.zero_le _⟩, Lib.hid (T5h.out.oth hTr (Oth.set _ _)), Lib.hid ((O4.out.trans ((Oth.refl _ _).drew.trans o5)).of_new ((Below.refl _ _).setCell (p := ⟨w3.heap.size, 1, none⟩) O3.out.size _))⟩
     ·simp [World.setCell, Array.getElem?_modify, q5]
     ·simp [Lfc.Raw.fs, Lfc.Raw.fss, Lfc.formedS, Lfc.formed, hx6, hx8]
    ·go_wp2_with fail
     go_region_held3 (fun w' => w'.cell? ⟨0, 0, none⟩ = some (.slice (some ⟨wb, wo, none⟩) 13 wc2) ∧ ∀ k, k < 13 → w'.cell? ⟨wb, wo + k, none⟩ = some (S (Lfc.words.getD k [])))
      (first | exact ⟨hw1, HWK.out⟩ | exact words_oth o5 hgl (Nat.lt_trans hwb hl4) (Nat.ne_of_lt hwg) (Nat.ne_of_lt hwb) ⟨hw1, HWK.out⟩ | exact words_set (Nat.ne_of_gt (Nat.lt_trans hwg hTr)) (Nat.ne_of_gt (Nat.lt_trans hwb hTr)) (words_oth o5 hgl (Nat.lt_trans hwb hl4) (Nat.ne_of_lt hwg) (Nat.ne_of_lt hwb) ⟨hw1, HWK.out⟩))
      (first | (go_at_call 32; refine (tapeNext_any T 10 _ (by omega) (by omega) (T4.out.below (Below.refl _ _).drew)).mono ?_; rintro e w5 ⟨⟨r5, hr5, rfl⟩, T5, o5⟩; have hb6 : r5 < 13 := Nat.lt_trans hr5 (by decide); have hx5 := (o5.cell (p := ⟨wb, wo + r5, none⟩) (Nat.lt_trans hwb hl4) (Nat.ne_of_lt hwb)).trans (HWK.out r5 hb6); have q5 := o5.heap Q4.out (Nat.ne_of_gt hTr); have f5 := Lib.frozen_of_heap q5 1; have y5 := Lib.cell_of_heap q5 1; have hb5 : (r5 : Int) < 13 := Int.ofNat_lt.2 hb6))
     go_wp2_with fail
     have T5h := Lib.hid T5
     have hx6 := Lfc.words_name r5 hr5
     have hx7 := Lfc.words_len r5
     have hx8 := Lfc.words_short r5 hr5
     rw [List.getD_eq_getElem?_getD] at hx6 hx7 hx8
     go_meet
     refine ⟨2, (r3 : Int), Lfc.words[r5]?.getD [], [], none, 0, Lib.hid ?_, Lib.hid ⟨fun h => absurd rfl h, by omega, Nat.le_refl _, ?_, HP.out, Nat.zero_le _⟩, Lib.hid (T5h.out.oth hTr (Oth.set _ _)), Lib.hid ((O4.out.trans ((Oth.refl _ _).drew.trans o5)).of_new ((Below.refl _ _).setCell (p := ⟨w3.heap.size, 1, none⟩) O3.out.size _))⟩
     ·simp [World.setCell, Array.getElem?_modify, q5]
     ·simp [Lfc.Raw.fs, Lfc.Raw.fss, Lfc.formedS, Lfc.formed, hx6, hx8]
   ·by_cases hkB : kk = 3 ∨ kk = 4
    ·rcases hkB with rfl | rfl
     ·go_wp2_with fail
      go_meet
      exact ⟨3, (r3 : Int), [], [], none, 0, Q4, Lib.hid ⟨fun h => absurd rfl h, by simp, Nat.le_refl _, by simp [Lfc.Raw.fs, Lfc.Raw.fss, Lfc.formedS, Lfc.formed], HP.out, Nat.zero_le _⟩, T4, O4⟩
     ·go_wp2_with fail
      go_meet
      exact ⟨4, (r3 : Int), [], [], none, 0, Q4, Lib.hid ⟨fun h => absurd rfl h, by simp, Nat.le_refl _, by simp [Lfc.Raw.fs, Lfc.Raw.fss, Lfc.formedS, Lfc.formed], HP.out, Nat.zero_le _⟩, T4, O4⟩
    ·obtain ⟨m, hm⟩ : ∃ m, d = m + 1 := ⟨d - 1, by omega⟩
     have hdm : (d : Int) - 1 = (m : Int) := by omega
     have IHm : Hid (RawUptoS m) := Lib.hid (by have := IH.out (by omega); rw [hm] at this; simpa using this)
     have HM := Lib.hid hm
     have hm20 : m ≤ 20 := by omega
     clear hm
     by_cases hkC : kk = 5 ∨ kk = 6 ∨ kk = 9
     ·rcases hkC with rfl | rfl | rfl
      ·go_wp2_with fail
       refine (IHm.out T w4 T4.out).mono ?_
       rintro e w5 ⟨⟨t5, v5, rfl, hv5, hf5, hs5, hd5⟩, T5', o5'⟩
       obtain ⟨k5, n5, p5, ts5⟩ := t5
       obtain ⟨A5, c5, rfl, hp5⟩ := hv5.open_
       have T5 := Lib.hid T5'
       have O5 := Lib.hid o5'
       have HP5 := Lib.hid hp5
       have hs5' := o5'.size
       have hT5 := T5'.lt
       have H5 := Lib.hid (And.intro hf5 (And.intro hs5 hd5))
       clear T5' o5' hp5 hv5 hf5 hs5 hd5
       go_upto_region 13 with fail
       obtain ⟨w6, hw6⟩ : ∃ w6, w5.alloc (.cells #[.int .i64 k5, S n5, .int .i64 p5, .slice A5 ts5.length c5] 46) = w6 := ⟨_, rfl⟩
       rw [hw6]
       have b6 : Below w5.heap.size w5 w6 := by rw [← hw6]; exact (Below.refl _ _).alloc (Nat.le_refl _) _
       have q6 : w6.heap[w5.heap.size]? = some (.cells #[.int .i64 k5, S n5, .int .i64 p5, .slice A5 ts5.length c5] 46 (0, 0)) := by rw [← hw6]; exact heap_alloc_new _ _
       have hs6 := eq2 (show w6.heap.size = w5.heap.size + 1 by rw [← hw6]; simp)
       have T6 := Lib.hid (T5.out.below b6)
       have B6 := Lib.hid b6
       have x0 : w6.cell? ⟨w5.heap.size, 0, none⟩ = some (.int .i64 k5) := Lib.cell_of_heap q6 0
       have x1 : w6.cell? ⟨w5.heap.size, 1, none⟩ = some (S n5) := Lib.cell_of_heap q6 1
       have x2 : w6.cell? ⟨w5.heap.size, 2, none⟩ = some (.int .i64 p5) := Lib.cell_of_heap q6 2
       have x3 : w6.cell? ⟨w5.heap.size, 3, none⟩ = some (.slice A5 ts5.length c5) := Lib.cell_of_heap q6 3
       have h5T : w5.heap.size ≠ T := by omega
       have h56 : w5.heap.size < w6.heap.size := by omega
       have hr6 : w6.heap[w3.heap.size]? = some (.cells #[.int .i64 5, S [], .int .i64 (r3 : Int), .slice none 0 0] 46 (0, 0)) := (b6.block _ (by omega)).trans (O5.out.heap Q4.out (by omega))
       have HR6 := Lib.hid hr6
       have hrT : w3.heap.size ≠ T := by omega
       have Q6 := Lib.hid q6
       have h5r : w5.heap.size ≠ w3.heap.size := by omega
       clear hw6 b6 q6 hr6
       have hdw : IntKind.i64.wrap (m : Int) = (m : Int) := IntWalk.i64_in _ ⟨by omega, by omega⟩
       go_region_held3 (fun w' => w'.cell? ⟨w5.heap.size, 0, none⟩ = some (.int .i64 k5) ∧ w'.cell? ⟨w5.heap.size, 1, none⟩ = some (S n5) ∧ w'.cell? ⟨w5.heap.size, 2, none⟩ = some (.int .i64 p5) ∧ w'.cell? ⟨w5.heap.size, 3, none⟩ = some (.slice A5 ts5.length c5))
        (first | exact cells4 Q6.out | exact cells4 (o7.heap Q6.out h5T) | exact cells4 (heap_alloc_old _ _ _ _ (o7.heap Q6.out h5T)) | exact cells4 ((Below.heap_setCell _ _ _ _ h5r).trans (heap_alloc_old _ _ _ _ (o7.heap Q6.out h5T))))
        (first | (go_at_call 13; refine (IHm.out T _ (T6.out.below (Below.refl _ _).drew)).mono ?_; rintro e w7 ⟨⟨t7, v7, rfl, hv7, hf7, hs7', hd7⟩, T7, o7⟩; obtain ⟨k7, n7, p7, ts7⟩ := t7; obtain ⟨A7, c7, rfl, hp7⟩ := hv7.open_; have q7 := o7.heap HR6.out hrT; have f7 := Lib.frozen_of_heap q7 3; have y7 : w7.cell? ⟨w3.heap.size, 3, none⟩ = some (.slice none 0 0) := Lib.cell_of_heap q7 3; have y8 : ∀ o, (w7.alloc o).cell? ⟨w3.heap.size, 3, none⟩ = some (.slice none 0 0) := fun o => Lib.cell_of_heap (heap_alloc_old w7 o _ _ q7) 3; have f8 : ∀ o, (w7.alloc o).frozen? ⟨w3.heap.size, 3, none⟩ = false := fun o => Lib.frozen_of_heap (heap_alloc_old w7 o _ _ q7) 3))
       go_wp2_with fail
       have hs7 : w6.heap.size ≤ w7.heap.size := o7.size
       have h7 := Lib.hid (And.intro hf7 (And.intro hs7' hd7))
       have HP7 := Lib.hid hp7
       go_meet
       refine ⟨5, (r3 : Int), [], [.node k5 n5 p5 ts5, .node k7 n7 p7 ts7], _, 2, Lib.hid (set3 (heap_alloc_old _ _ _ _ q7)), Lib.hid ⟨pair_final (by omega) hsz3 (by omega) hs5' B6.out o7 HP5.out HP7.out, by simp, Nat.le_refl _, ?_, ?_, ?_⟩, Lib.hid ((T7.below ((Below.refl _ _).alloc (Nat.le_refl _) _)).oth hTr (Oth.set _ _)), Lib.hid ((((O4.out.trans O5.out).trans (Oth.of_below B6.out)).trans ((Oth.refl _ _).drew.trans o7)).of_new (((Below.refl _ _).alloc (by have := O4.out.size; omega) _).setCell (p := ⟨w3.heap.size, 3, none⟩) O3.out.size _))⟩
       ·rw [Lfc.Raw.fs, Lfc.Raw.fss, Lfc.Raw.fss, Lfc.Raw.fss, H5.out.1, h7.out.1]
        rfl
       ·have e1 := H5.out.2.1
        have e2 := h7.out.2.1
        have e3 : 2 ^ (d + 1) = 2 * 2 ^ (m + 1) := by rw [HM.out, Nat.pow_succ]; omega
        simp only [Lfc.Raw.sizes]
        omega
       ·have e1 := H5.out.2.2
        have e2 := h7.out.2.2
        have e3 := HM.out
        simp only [Lfc.Raw.depths]
        omega
      ·go_wp2_with fail
       refine (IHm.out T w4 T4.out).mono ?_
       rintro e w5 ⟨⟨t5, v5, rfl, hv5, hf5, hs5, hd5⟩, T5', o5'⟩
       obtain ⟨k5, n5, p5, ts5⟩ := t5
       obtain ⟨A5, c5, rfl, hp5⟩ := hv5.open_
       have T5 := Lib.hid T5'
       have O5 := Lib.hid o5'
       have HP5 := Lib.hid hp5
       have hs5' := o5'.size
       have hT5 := T5'.lt
       have H5 := Lib.hid (And.intro hf5 (And.intro hs5 hd5))
       clear T5' o5' hp5 hv5 hf5 hs5 hd5
       go_upto_region 13 with fail
       obtain ⟨w6, hw6⟩ : ∃ w6, w5.alloc (.cells #[.int .i64 k5, S n5, .int .i64 p5, .slice A5 ts5.length c5] 46) = w6 := ⟨_, rfl⟩
       rw [hw6]
       have b6 : Below w5.heap.size w5 w6 := by rw [← hw6]; exact (Below.refl _ _).alloc (Nat.le_refl _) _
       have q6 : w6.heap[w5.heap.size]? = some (.cells #[.int .i64 k5, S n5, .int .i64 p5, .slice A5 ts5.length c5] 46 (0, 0)) := by rw [← hw6]; exact heap_alloc_new _ _
       have hs6 := eq2 (show w6.heap.size = w5.heap.size + 1 by rw [← hw6]; simp)
       have T6 := Lib.hid (T5.out.below b6)
       have B6 := Lib.hid b6
       have x0 : w6.cell? ⟨w5.heap.size, 0, none⟩ = some (.int .i64 k5) := Lib.cell_of_heap q6 0
       have x1 : w6.cell? ⟨w5.heap.size, 1, none⟩ = some (S n5) := Lib.cell_of_heap q6 1
       have x2 : w6.cell? ⟨w5.heap.size, 2, none⟩ = some (.int .i64 p5) := Lib.cell_of_heap q6 2
       have x3 : w6.cell? ⟨w5.heap.size, 3, none⟩ = some (.slice A5 ts5.length c5) := Lib.cell_of_heap q6 3
       have h5T : w5.heap.size ≠ T := by omega
       have h56 : w5.heap.size < w6.heap.size := by omega
       have hr6 : w6.heap[w3.heap.size]? = some (.cells #[.int .i64 6, S [], .int .i64 (r3 : Int), .slice none 0 0] 46 (0, 0)) := (b6.block _ (by omega)).trans (O5.out.heap Q4.out (by omega))
       have HR6 := Lib.hid hr6
       have hrT : w3.heap.size ≠ T := by omega
       have Q6 := Lib.hid q6
       have h5r : w5.heap.size ≠ w3.heap.size := by omega
       clear hw6 b6 q6 hr6
       have hdw : IntKind.i64.wrap (m : Int) = (m : Int) := IntWalk.i64_in _ ⟨by omega, by omega⟩
       go_region_held3 (fun w' => w'.cell? ⟨w5.heap.size, 0, none⟩ = some (.int .i64 k5) ∧ w'.cell? ⟨w5.heap.size, 1, none⟩ = some (S n5) ∧ w'.cell? ⟨w5.heap.size, 2, none⟩ = some (.int .i64 p5) ∧ w'.cell? ⟨w5.heap.size, 3, none⟩ = some (.slice A5 ts5.length c5))
        (first | exact cells4 Q6.out | exact cells4 (o7.heap Q6.out h5T) | exact cells4 (heap_alloc_old _ _ _ _ (o7.heap Q6.out h5T)) | exact cells4 ((Below.heap_setCell _ _ _ _ h5r).trans (heap_alloc_old _ _ _ _ (o7.heap Q6.out h5T))))
        (first | (go_at_call 13; refine (IHm.out T _ (T6.out.below (Below.refl _ _).drew)).mono ?_; rintro e w7 ⟨⟨t7, v7, rfl, hv7, hf7, hs7', hd7⟩, T7, o7⟩; obtain ⟨k7, n7, p7, ts7⟩ := t7; obtain ⟨A7, c7, rfl, hp7⟩ := hv7.open_; have q7 := o7.heap HR6.out hrT; have f7 := Lib.frozen_of_heap q7 3; have y7 : w7.cell? ⟨w3.heap.size, 3, none⟩ = some (.slice none 0 0) := Lib.cell_of_heap q7 3; have y8 : ∀ o, (w7.alloc o).cell? ⟨w3.heap.size, 3, none⟩ = some (.slice none 0 0) := fun o => Lib.cell_of_heap (heap_alloc_old w7 o _ _ q7) 3; have f8 : ∀ o, (w7.alloc o).frozen? ⟨w3.heap.size, 3, none⟩ = false := fun o => Lib.frozen_of_heap (heap_alloc_old w7 o _ _ q7) 3))
       go_wp2_with fail
       have hs7 : w6.heap.size ≤ w7.heap.size := o7.size
       have h7 := Lib.hid (And.intro hf7 (And.intro hs7' hd7))
       have HP7 := Lib.hid hp7
       go_meet
       refine ⟨6, (r3 : Int), [], [.node k5 n5 p5 ts5, .node k7 n7 p7 ts7], _, 2, Lib.hid (set3 (heap_alloc_old _ _ _ _ q7)), Lib.hid ⟨pair_final (by omega) hsz3 (by omega) hs5' B6.out o7 HP5.out HP7.out, by simp, Nat.le_refl _, ?_, ?_, ?_⟩, Lib.hid ((T7.below ((Below.refl _ _).alloc (Nat.le_refl _) _)).oth hTr (Oth.set _ _)), Lib.hid ((((O4.out.trans O5.out).trans (Oth.of_below B6.out)).trans ((Oth.refl _ _).drew.trans o7)).of_new (((Below.refl _ _).alloc (by have := O4.out.size; omega) _).setCell (p := ⟨w3.heap.size, 3, none⟩) O3.out.size _))⟩
       ·rw [Lfc.Raw.fs, Lfc.Raw.fss, Lfc.Raw.fss, Lfc.Raw.fss, H5.out.1, h7.out.1]
        rfl
       ·have e1 := H5.out.2.1
        have e2 := h7.out.2.1
        have e3 : 2 ^ (d + 1) = 2 * 2 ^ (m + 1) := by rw [HM.out, Nat.pow_succ]; omega
        simp only [Lfc.Raw.sizes]
        omega
       ·have e1 := H5.out.2.2
        have e2 := h7.out.2.2
        have e3 := HM.out
        simp only [Lfc.Raw.depths]
        omega
      ·go_wp2_with fail
       refine (IHm.out T w4 T4.out).mono ?_
       rintro e w5 ⟨⟨t5, v5, rfl, hv5, hf5, hs5, hd5⟩, T5', o5'⟩
       obtain ⟨k5, n5, p5, ts5⟩ := t5
       obtain ⟨A5, c5, rfl, hp5⟩ := hv5.open_
       have T5 := Lib.hid T5'
       have O5 := Lib.hid o5'
       have HP5 := Lib.hid hp5
       have hs5' := o5'.size
       have hT5 := T5'.lt
       have H5 := Lib.hid (And.intro hf5 (And.intro hs5 hd5))
       clear T5' o5' hp5 hv5 hf5 hs5 hd5
       go_upto_region 13 with fail
       obtain ⟨w6, hw6⟩ : ∃ w6, w5.alloc (.cells #[.int .i64 k5, S n5, .int .i64 p5, .slice A5 ts5.length c5] 46) = w6 := ⟨_, rfl⟩
       rw [hw6]
       have b6 : Below w5.heap.size w5 w6 := by rw [← hw6]; exact (Below.refl _ _).alloc (Nat.le_refl _) _
       have q6 : w6.heap[w5.heap.size]? = some (.cells #[.int .i64 k5, S n5, .int .i64 p5, .slice A5 ts5.length c5] 46 (0, 0)) := by rw [← hw6]; exact heap_alloc_new _ _
       have hs6 := eq2 (show w6.heap.size = w5.heap.size + 1 by rw [← hw6]; simp)
       have T6 := Lib.hid (T5.out.below b6)
       have B6 := Lib.hid b6
       have x0 : w6.cell? ⟨w5.heap.size, 0, none⟩ = some (.int .i64 k5) := Lib.cell_of_heap q6 0
       have x1 : w6.cell? ⟨w5.heap.size, 1, none⟩ = some (S n5) := Lib.cell_of_heap q6 1
       have x2 : w6.cell? ⟨w5.heap.size, 2, none⟩ = some (.int .i64 p5) := Lib.cell_of_heap q6 2
       have x3 : w6.cell? ⟨w5.heap.size, 3, none⟩ = some (.slice A5 ts5.length c5) := Lib.cell_of_heap q6 3
       have h5T : w5.heap.size ≠ T := by omega
       have h56 : w5.heap.size < w6.heap.size := by omega
       have hr6 : w6.heap[w3.heap.size]? = some (.cells #[.int .i64 9, S [], .int .i64 (r3 : Int), .slice none 0 0] 46 (0, 0)) := (b6.block _ (by omega)).trans (O5.out.heap Q4.out (by omega))
       have HR6 := Lib.hid hr6
       have hrT : w3.heap.size ≠ T := by omega
       have Q6 := Lib.hid q6
       have h5r : w5.heap.size ≠ w3.heap.size := by omega
       clear hw6 b6 q6 hr6
       have hdw : IntKind.i64.wrap (m : Int) = (m : Int) := IntWalk.i64_in _ ⟨by omega, by omega⟩
       go_region_held3 (fun w' => w'.cell? ⟨w5.heap.size, 0, none⟩ = some (.int .i64 k5) ∧ w'.cell? ⟨w5.heap.size, 1, none⟩ = some (S n5) ∧ w'.cell? ⟨w5.heap.size, 2, none⟩ = some (.int .i64 p5) ∧ w'.cell? ⟨w5.heap.size, 3, none⟩ = some (.slice A5 ts5.length c5))
        (first | exact cells4 Q6.out | exact cells4 (o7.heap Q6.out h5T) | exact cells4 (heap_alloc_old _ _ _ _ (o7.heap Q6.out h5T)) | exact cells4 ((Below.heap_setCell _ _ _ _ h5r).trans (heap_alloc_old _ _ _ _ (o7.heap Q6.out h5T))))
        (first | (go_at_call 13; refine (IHm.out T _ (T6.out.below (Below.refl _ _).drew)).mono ?_; rintro e w7 ⟨⟨t7, v7, rfl, hv7, hf7, hs7', hd7⟩, T7, o7⟩; obtain ⟨k7, n7, p7, ts7⟩ := t7; obtain ⟨A7, c7, rfl, hp7⟩ := hv7.open_; have q7 := o7.heap HR6.out hrT; have f7 := Lib.frozen_of_heap q7 3; have y7 : w7.cell? ⟨w3.heap.size, 3, none⟩ = some (.slice none 0 0) := Lib.cell_of_heap q7 3; have y8 : ∀ o, (w7.alloc o).cell? ⟨w3.heap.size, 3, none⟩ = some (.slice none 0 0) := fun o => Lib.cell_of_heap (heap_alloc_old w7 o _ _ q7) 3; have f8 : ∀ o, (w7.alloc o).frozen? ⟨w3.heap.size, 3, none⟩ = false := fun o => Lib.frozen_of_heap (heap_alloc_old w7 o _ _ q7) 3))
       go_wp2_with fail
       have hs7 : w6.heap.size ≤ w7.heap.size := o7.size
       have h7 := Lib.hid (And.intro hf7 (And.intro hs7' hd7))
       have HP7 := Lib.hid hp7
       go_meet
       refine ⟨9, (r3 : Int), [], [.node k5 n5 p5 ts5, .node k7 n7 p7 ts7], _, 2, Lib.hid (set3 (heap_alloc_old _ _ _ _ q7)), Lib.hid ⟨pair_final (by omega) hsz3 (by omega) hs5' B6.out o7 HP5.out HP7.out, by simp, Nat.le_refl _, ?_, ?_, ?_⟩, Lib.hid ((T7.below ((Below.refl _ _).alloc (Nat.le_refl _) _)).oth hTr (Oth.set _ _)), Lib.hid ((((O4.out.trans O5.out).trans (Oth.of_below B6.out)).trans ((Oth.refl _ _).drew.trans o7)).of_new (((Below.refl _ _).alloc (by have := O4.out.size; omega) _).setCell (p := ⟨w3.heap.size, 3, none⟩) O3.out.size _))⟩
       ·rw [Lfc.Raw.fs, Lfc.Raw.fss, Lfc.Raw.fss, Lfc.Raw.fss, H5.out.1, h7.out.1]
        rfl
       ·have e1 := H5.out.2.1
        have e2 := h7.out.2.1
        have e3 : 2 ^ (d + 1) = 2 * 2 ^ (m + 1) := by rw [HM.out, Nat.pow_succ]; omega
        simp only [Lfc.Raw.sizes]
        omega
       ·have e1 := H5.out.2.2
        have e2 := h7.out.2.2
        have e3 := HM.out
        simp only [Lfc.Raw.depths]
        omega
     ·obtain ⟨i0, hi, hz0, hz1, hz2⟩ := raw_info
      rcases (show kk = 7 ∨ kk = 8 by omega) with rfl | rfl
      ·obtain ⟨w5, hw5⟩ : ∃ w5, w4.alloc (.cells #[S [97], S [78], S [120], S [95]] 9) = w5 := ⟨_, rfl⟩
       have b5 : Below w4.heap.size w4 w5 := by rw [← hw5]; exact (Below.refl _ _).alloc (Nat.le_refl _) _
       have q5 : w5.heap[w4.heap.size]? = some (.cells #[S [97], S [78], S [120], S [95]] 9 (0, 0)) := by rw [← hw5]; exact heap_alloc_new _ _
       have hs5 := eq2 (show w5.heap.size = w4.heap.size + 1 by rw [← hw5]; simp)
       have T5 := Lib.hid (T4.out.below b5)
       have B5 := Lib.hid b5
       have Q5 := Lib.hid q5
       clear b5 q5
       go_wp2_with fail
       refine (tapeNext_any T 4 w5 (by omega) (by omega) T5.out).mono ?_
       clear hw5
       rintro e w6 ⟨⟨r6, hr6, rfl⟩, T6', o6'⟩
       have hs6 := o6'.size
       obtain ⟨nm, hnm1, hnm2, hx6⟩ := names4 r6 hr6 (o6'.heap Q5.out (by omega))
       have hq6 := o6'.heap ((B5.out.block _ (by omega)).trans Q4.out) (show w3.heap.size ≠ T by omega)
       have y6 : w6.cell? ⟨w3.heap.size, 1, none⟩ = some (S []) := Lib.cell_of_heap hq6 1
       have f6 := Lib.frozen_of_heap hq6 1
       obtain ⟨w7, hw7⟩ : ∃ w7, w6.setCell ⟨w3.heap.size, 1, none⟩ (S nm) = w7 := ⟨_, rfl⟩
       have q7 : w7.heap[w3.heap.size]? = some (.cells #[.int .i64 7, S nm, .int .i64 (r3 : Int), .slice none 0 0] 46 (0, 0)) := by rw [← hw7]; exact set1 hq6
       have hs7 := eq2 (show w7.heap.size = w6.heap.size by rw [← hw7]; simp [World.setCell])
       have T7 : Hid (TapeAt T w7) := Lib.hid (by rw [← hw7]; exact T6'.oth hTr (Oth.set _ _))
       have O7 : Hid (Oth T wa w7) := Lib.hid (by rw [← hw7]; exact ((O4.out.trans (Oth.of_below B5.out)).trans o6').of_new ((Below.refl _ _).setCell (p := ⟨w3.heap.size, 1, none⟩) O3.out.size _))
       have Q7 := Lib.hid q7
       have HNM := Lib.hid (And.intro hnm1 hnm2)
       have hb6 : (r6 : Int) < 4 := by omega
       clear T6' o6' hq6 q7 hnm1 hnm2
       go_wp2_with fail
       clear hw7
       refine (tapeNext_any T 3 w7 (by omega) (by omega) T7.out).mono ?_
       rintro e w8 ⟨⟨r8, hr8, rfl⟩, T8', o8'⟩
       have T8 := Lib.hid T8'
       have O8 := Lib.hid (O7.out.trans o8')
       have Q8 := Lib.hid (o8'.heap Q7.out (show w3.heap.size ≠ T by omega))
       have hs8 := o8'.size
       clear T8' o8'
       go_upto_if 58 with fail
       have hsz3' : w.heap.size < w4.heap.size := by omega
       generalize decide (0 < r8) = bc
       go_cut [] (fun wx => ∃ (ts : List Lfc.Raw) (A : Option Addr) (c : Nat) (xs : List Value), Hid (wx.heap[w3.heap.size]? = some (.cells #[.int .i64 7, S nm, .int .i64 (r3 : Int), .slice A ts.length c] 46 (0, 0))) ∧ Hid (wx.ownsRow w4.heap.size 46 4 (.slice A ts.length c) ts.length xs) ∧ Hid (RowP (fun b => w4.heap.size ≤ b ∧ some b ≠ (Value.slice A ts.length c).ownBlock) wx ts xs) ∧ Hid (TapeAt T wx) ∧ Hid (Oth T wa wx) ∧ w4.heap.size ≤ wx.heap.size ∧ ts.length ≤ 1 ∧ Hid (Lfc.Raw.fss ts = true ∧ Lfc.Raw.sizes ts + 1 ≤ 2 ^ (m + 1) ∧ Lfc.Raw.depths ts ≤ m + 1))
       case first =>
        have hm1 := Nat.one_le_two_pow (n := m + 1)
        have HM1 := Lib.hid hm1
        clear hm1
        cases bc
        case false =>
         go_wp2_with fail
         go_meet
         exact ⟨[], none, 0, [], Q8, Lib.hid (own_nil _ _ _ _), Lib.hid rfl, T8, O8, by omega, by simp, Lib.hid ⟨rfl, by simp only [Lfc.Raw.sizes]; have := HM1.out; omega, Nat.zero_le _⟩⟩
        case true =>
         obtain ⟨ts, A, c, xs, HR, HOWN, HROW, TX, OX, hbx, hl1, HZ⟩ : ∃ (ts : List Lfc.Raw) (A : Option Addr) (c : Nat) (xs : List Value), Hid (w8.heap[w3.heap.size]? = some (.cells #[.int .i64 7, S nm, .int .i64 (r3 : Int), .slice A ts.length c] 46 (0, 0))) ∧ Hid (w8.ownsRow w4.heap.size 46 4 (.slice A ts.length c) ts.length xs) ∧ Hid (RowP (fun b => w4.heap.size ≤ b ∧ some b ≠ (Value.slice A ts.length c).ownBlock) w8 ts xs) ∧ Hid (TapeAt T w8) ∧ Hid (Oth T wa w8) ∧ w4.heap.size ≤ w8.heap.size ∧ ts.length ≤ 0 ∧ Hid (ts = []) := ⟨[], none, 0, [], Q8, Lib.hid (own_nil _ _ _ _), Lib.hid rfl, T8, O8, by omega, by simp, Lib.hid rfl⟩
         go_wp2_with fail
         have hrT : w3.heap.size ≠ T := by omega
         have hTow : (Value.slice A ts.length c).ownBlock = some T → False := fun e => by have := (HOWN.out.lt T e).1; omega
         have yx : w8.cell? ⟨w3.heap.size, 3, none⟩ = some (.slice A ts.length c) := Lib.cell_of_heap HR.out 3
         have hlm : ts.length + 1 ≤ maxLen := by unfold maxLen; omega
         have hl56 : (ts.length + 1) * 56 ≤ 140737488355328 := by omega
         have hr3w : w3.heap.size < w4.heap.size := by omega
         have hwa3 := O3.out.size
         have hdw : IntKind.i64.wrap (m : Int) = (m : Int) := IntWalk.i64_in _ ⟨by omega, by omega⟩
         go_region_law (first
          | (go_simp; go_at_call 13; refine (IHm.out T _ (TX.out.below (Below.refl _ _).drew)).mono ?_; rintro e w9 ⟨⟨t9, v9, rfl, hv9, hf9, hs9, hd9⟩, T9, o9⟩; obtain ⟨k9, n9, p9, ts9⟩ := t9; obtain ⟨A9, c9, rfl, hp9⟩ := hv9.open_; have q9 := o9.heap HR.out hrT; have y9 : w9.cell? ⟨w3.heap.size, 3, none⟩ = some (.slice A ts.length c) := Lib.cell_of_heap q9 3; have y9a : ∀ o, (w9.alloc o).cell? ⟨w3.heap.size, 3, none⟩ = some (.slice A ts.length c) := fun o => Lib.cell_of_heap (heap_alloc_old w9 o _ _ q9) 3; have hown9 := HOWN.out.drew.kept o9 (Or.inr hTow); have hs9' : w4.heap.size ≤ w9.heap.size := Nat.le_trans hbx o9.size)
          | (refine step_append_own_at _ (by rfl) _ _ 32 (by rfl) w4.heap.size 46 i0 (.agg #[.int .i64 0, S [], .int .i64 0, .slice none 0 0]) 4 56 Tryz.underlying32 hi hz0 hz1 hz2 rfl (by decide) _ _ _ (by rfl) (hown9.alloc _) ⟨w9.heap.size, 0, none⟩ 1 1 [.int .i64 k9, S n9, .int .i64 p9, .slice A9 ts9.length c9] (by rfl) (by rfl) (fun j u h => cells_new w9 _ rfl [.int .i64 k9, S n9, .int .i64 p9, .slice A9 ts9.length c9] _ j u h) oneCell4 hlm hl56 (alloc_le hs9') ?_; intro v' w10 hown10 hg10 hloc10; obtain ⟨A10, c10, rfl⟩ := own_form hown10; obtain ⟨hr10, hfin⟩ := binder_final hr3w hTr hbx hwa3 HR.out HOWN.out HROW.out OX.out o9 T9 hp9 hown10 hg10 (alloc_loc hloc10); have y10 := (Lib.cell_of_heap hr10 3 : w10.cell? ⟨w3.heap.size, 3, none⟩ = some (.slice A ts.length c)); have f10 := Lib.frozen_of_heap hr10 3))
         all_goals
          go_wp2_with fail
          go_meet
          refine ⟨ts ++ [.node k9 n9 p9 ts9], A10, c10, xs ++ [.int .i64 k9, S n9, .int .i64 p9, .slice A9 ts9.length c9], Lib.hid (by rw [List.length_append]; exact hfin.1), Lib.hid (by rw [List.length_append]; rw [List.length_append] at hfin; exact hfin.2.1), Lib.hid (by rw [List.length_append]; exact hfin.2.2.1), Lib.hid hfin.2.2.2.1, Lib.hid hfin.2.2.2.2.1, hfin.2.2.2.2.2, by rw [HZ.out]; simp, Lib.hid ?_⟩
          rw [HZ.out]
          simp only [List.nil_append, Lfc.Raw.fss, Lfc.Raw.sizes, Lfc.Raw.depths, hf9]
          exact ⟨rfl, by omega, by omega⟩
       case rest =>
        obtain ⟨ts, A, c, xs, HR, HOWN, HROW, TX, OX, hbx, hl1, HF⟩ := hcut
        rename_i wy
        go_wp2_with fail
        have hrT : w3.heap.size ≠ T := by omega
        have hTow : (Value.slice A ts.length c).ownBlock = some T → False := fun e => by have := (HOWN.out.lt T e).1; omega
        have yx : wc.cell? ⟨w3.heap.size, 3, none⟩ = some (.slice A ts.length c) := Lib.cell_of_heap HR.out 3
        have hlm : ts.length + 1 ≤ maxLen := by unfold maxLen; omega
        have hl56 : (ts.length + 1) * 56 ≤ 140737488355328 := by omega
        have hr3w : w3.heap.size < w4.heap.size := by omega
        have hwa3 := O3.out.size
        have hdw : IntKind.i64.wrap (m : Int) = (m : Int) := IntWalk.i64_in _ ⟨by omega, by omega⟩
        go_region_law (first
         | (go_simp; go_at_call 13; refine (IHm.out T _ (TX.out.below (Below.refl _ _).drew)).mono ?_; rintro e w9 ⟨⟨t9, v9, rfl, hv9, hf9, hs9, hd9⟩, T9, o9⟩; obtain ⟨k9, n9, p9, ts9⟩ := t9; obtain ⟨A9, c9, rfl, hp9⟩ := hv9.open_; have q9 := o9.heap HR.out hrT; have y9 : w9.cell? ⟨w3.heap.size, 3, none⟩ = some (.slice A ts.length c) := Lib.cell_of_heap q9 3; have y9a : ∀ o, (w9.alloc o).cell? ⟨w3.heap.size, 3, none⟩ = some (.slice A ts.length c) := fun o => Lib.cell_of_heap (heap_alloc_old w9 o _ _ q9) 3; have hown9 := HOWN.out.drew.kept o9 (Or.inr hTow); have hs9' : w4.heap.size ≤ w9.heap.size := Nat.le_trans hbx o9.size)
         | (refine step_append_own_at _ (by rfl) _ _ 32 (by rfl) w4.heap.size 46 i0 (.agg #[.int .i64 0, S [], .int .i64 0, .slice none 0 0]) 4 56 Tryz.underlying32 hi hz0 hz1 hz2 rfl (by decide) _ _ _ (by rfl) (hown9.alloc _) ⟨w9.heap.size, 0, none⟩ 1 1 [.int .i64 k9, S n9, .int .i64 p9, .slice A9 ts9.length c9] (by rfl) (by rfl) (fun j u h => cells_new w9 _ rfl [.int .i64 k9, S n9, .int .i64 p9, .slice A9 ts9.length c9] _ j u h) oneCell4 hlm hl56 (alloc_le hs9') ?_; intro v' w10 hown10 hg10 hloc10; obtain ⟨A10, c10, rfl⟩ := own_form hown10; obtain ⟨hr10, hfin⟩ := binder_final hr3w hTr hbx hwa3 HR.out HOWN.out HROW.out OX.out o9 T9 hp9 hown10 hg10 (alloc_loc hloc10); have y10 := (Lib.cell_of_heap hr10 3 : w10.cell? ⟨w3.heap.size, 3, none⟩ = some (.slice A ts.length c)); have f10 := Lib.frozen_of_heap hr10 3))
        all_goals
         go_wp2_with fail
         have hbt := binder_trees hsz3' (by rw [List.length_append] at hfin; rw [List.length_append]; exact hfin.2.1) (by rw [List.length_append]; exact hfin.2.2.1)
         go_meet
         refine ⟨7, (r3 : Int), nm, ts ++ [.node k9 n9 p9 ts9], A10, c10, Lib.hid (by rw [List.length_append]; exact hfin.1), Lib.hid ⟨hbt.1, by have := HNM.out.2; omega, hbt.2, ?_, ?_, ?_⟩, Lib.hid hfin.2.2.2.1, Lib.hid hfin.2.2.2.2.1⟩
         ·rw [Lfc.Raw.fs, fss_app, HF.out.1]
          simp only [Lfc.Raw.fss, hf9, List.length_append, List.length_singleton, Bool.and_true]
          exact binder_formedS (by decide) HNM.out.1 HNM.out.2 (by omega)
         ·have e1 := HF.out.2.1
          have e3 : 2 ^ (d + 1) = 2 * 2 ^ (m + 1) := by rw [HM.out, Nat.pow_succ]; omega
          rw [Lfc.Raw.sizes_app]
          simp only [Lfc.Raw.sizes]
          omega
         ·have e1 := HF.out.2.2
          have e3 := HM.out
          rw [Lfc.Raw.depths_app]
          simp only [Lfc.Raw.depths]
          omega
      ·obtain ⟨w5, hw5⟩ : ∃ w5, w4.alloc (.cells #[S [97], S [78], S [120], S [95]] 9) = w5 := ⟨_, rfl⟩
       have b5 : Below w4.heap.size w4 w5 := by rw [← hw5]; exact (Below.refl _ _).alloc (Nat.le_refl _) _
       have q5 : w5.heap[w4.heap.size]? = some (.cells #[S [97], S [78], S [120], S [95]] 9 (0, 0)) := by rw [← hw5]; exact heap_alloc_new _ _
       have hs5 := eq2 (show w5.heap.size = w4.heap.size + 1 by rw [← hw5]; simp)
       have T5 := Lib.hid (T4.out.below b5)
       have B5 := Lib.hid b5
       have Q5 := Lib.hid q5
       clear b5 q5
       go_wp2_with fail
       refine (tapeNext_any T 4 w5 (by omega) (by omega) T5.out).mono ?_
       clear hw5
       rintro e w6 ⟨⟨r6, hr6, rfl⟩, T6', o6'⟩
       have hs6 := o6'.size
       obtain ⟨nm, hnm1, hnm2, hx6⟩ := names4 r6 hr6 (o6'.heap Q5.out (by omega))
       have hq6 := o6'.heap ((B5.out.block _ (by omega)).trans Q4.out) (show w3.heap.size ≠ T by omega)
       have y6 : w6.cell? ⟨w3.heap.size, 1, none⟩ = some (S []) := Lib.cell_of_heap hq6 1
       have f6 := Lib.frozen_of_heap hq6 1
       obtain ⟨w7, hw7⟩ : ∃ w7, w6.setCell ⟨w3.heap.size, 1, none⟩ (S nm) = w7 := ⟨_, rfl⟩
       have q7 : w7.heap[w3.heap.size]? = some (.cells #[.int .i64 8, S nm, .int .i64 (r3 : Int), .slice none 0 0] 46 (0, 0)) := by rw [← hw7]; exact set1 hq6
       have hs7 := eq2 (show w7.heap.size = w6.heap.size by rw [← hw7]; simp [World.setCell])
       have T7 : Hid (TapeAt T w7) := Lib.hid (by rw [← hw7]; exact T6'.oth hTr (Oth.set _ _))
       have O7 : Hid (Oth T wa w7) := Lib.hid (by rw [← hw7]; exact ((O4.out.trans (Oth.of_below B5.out)).trans o6').of_new ((Below.refl _ _).setCell (p := ⟨w3.heap.size, 1, none⟩) O3.out.size _))
       have Q7 := Lib.hid q7
       have HNM := Lib.hid (And.intro hnm1 hnm2)
       have hb6 : (r6 : Int) < 4 := by omega
       clear T6' o6' hq6 q7 hnm1 hnm2
       go_wp2_with fail
       clear hw7
       refine (tapeNext_any T 3 w7 (by omega) (by omega) T7.out).mono ?_
       rintro e w8 ⟨⟨r8, hr8, rfl⟩, T8', o8'⟩
       have T8 := Lib.hid T8'
       have O8 := Lib.hid (O7.out.trans o8')
       have Q8 := Lib.hid (o8'.heap Q7.out (show w3.heap.size ≠ T by omega))
       have hs8 := o8'.size
       clear T8' o8'
       go_upto_if 58 with fail
       have hsz3' : w.heap.size < w4.heap.size := by omega
       generalize decide (0 < r8) = bc
       go_cut [] (fun wx => ∃ (ts : List Lfc.Raw) (A : Option Addr) (c : Nat) (xs : List Value), Hid (wx.heap[w3.heap.size]? = some (.cells #[.int .i64 8, S nm, .int .i64 (r3 : Int), .slice A ts.length c] 46 (0, 0))) ∧ Hid (wx.ownsRow w4.heap.size 46 4 (.slice A ts.length c) ts.length xs) ∧ Hid (RowP (fun b => w4.heap.size ≤ b ∧ some b ≠ (Value.slice A ts.length c).ownBlock) wx ts xs) ∧ Hid (TapeAt T wx) ∧ Hid (Oth T wa wx) ∧ w4.heap.size ≤ wx.heap.size ∧ ts.length ≤ 1 ∧ Hid (Lfc.Raw.fss ts = true ∧ Lfc.Raw.sizes ts + 1 ≤ 2 ^ (m + 1) ∧ Lfc.Raw.depths ts ≤ m + 1))
       case first =>
        have hm1 := Nat.one_le_two_pow (n := m + 1)
        have HM1 := Lib.hid hm1
        clear hm1
        cases bc
        case false =>
         go_wp2_with fail
         go_meet
         exact ⟨[], none, 0, [], Q8, Lib.hid (own_nil _ _ _ _), Lib.hid rfl, T8, O8, by omega, by simp, Lib.hid ⟨rfl, by simp only [Lfc.Raw.sizes]; have := HM1.out; omega, Nat.zero_le _⟩⟩
        case true =>
         obtain ⟨ts, A, c, xs, HR, HOWN, HROW, TX, OX, hbx, hl1, HZ⟩ : ∃ (ts : List Lfc.Raw) (A : Option Addr) (c : Nat) (xs : List Value), Hid (w8.heap[w3.heap.size]? = some (.cells #[.int .i64 8, S nm, .int .i64 (r3 : Int), .slice A ts.length c] 46 (0, 0))) ∧ Hid (w8.ownsRow w4.heap.size 46 4 (.slice A ts.length c) ts.length xs) ∧ Hid (RowP (fun b => w4.heap.size ≤ b ∧ some b ≠ (Value.slice A ts.length c).ownBlock) w8 ts xs) ∧ Hid (TapeAt T w8) ∧ Hid (Oth T wa w8) ∧ w4.heap.size ≤ w8.heap.size ∧ ts.length ≤ 0 ∧ Hid (ts = []) := ⟨[], none, 0, [], Q8, Lib.hid (own_nil _ _ _ _), Lib.hid rfl, T8, O8, by omega, by simp, Lib.hid rfl⟩
         go_wp2_with fail
         have hrT : w3.heap.size ≠ T := by omega
         have hTow : (Value.slice A ts.length c).ownBlock = some T → False := fun e => by have := (HOWN.out.lt T e).1; omega
         have yx : w8.cell? ⟨w3.heap.size, 3, none⟩ = some (.slice A ts.length c) := Lib.cell_of_heap HR.out 3
         have hlm : ts.length + 1 ≤ maxLen := by unfold maxLen; omega
         have hl56 : (ts.length + 1) * 56 ≤ 140737488355328 := by omega
         have hr3w : w3.heap.size < w4.heap.size := by omega
         have hwa3 := O3.out.size
         have hdw : IntKind.i64.wrap (m : Int) = (m : Int) := IntWalk.i64_in _ ⟨by omega, by omega⟩
         go_region_law (first
          | (go_simp; go_at_call 13; refine (IHm.out T _ (TX.out.below (Below.refl _ _).drew)).mono ?_; rintro e w9 ⟨⟨t9, v9, rfl, hv9, hf9, hs9, hd9⟩, T9, o9⟩; obtain ⟨k9, n9, p9, ts9⟩ := t9; obtain ⟨A9, c9, rfl, hp9⟩ := hv9.open_; have q9 := o9.heap HR.out hrT; have y9 : w9.cell? ⟨w3.heap.size, 3, none⟩ = some (.slice A ts.length c) := Lib.cell_of_heap q9 3; have y9a : ∀ o, (w9.alloc o).cell? ⟨w3.heap.size, 3, none⟩ = some (.slice A ts.length c) := fun o => Lib.cell_of_heap (heap_alloc_old w9 o _ _ q9) 3; have hown9 := HOWN.out.drew.kept o9 (Or.inr hTow); have hs9' : w4.heap.size ≤ w9.heap.size := Nat.le_trans hbx o9.size)
          | (refine step_append_own_at _ (by rfl) _ _ 32 (by rfl) w4.heap.size 46 i0 (.agg #[.int .i64 0, S [], .int .i64 0, .slice none 0 0]) 4 56 Tryz.underlying32 hi hz0 hz1 hz2 rfl (by decide) _ _ _ (by rfl) (hown9.alloc _) ⟨w9.heap.size, 0, none⟩ 1 1 [.int .i64 k9, S n9, .int .i64 p9, .slice A9 ts9.length c9] (by rfl) (by rfl) (fun j u h => cells_new w9 _ rfl [.int .i64 k9, S n9, .int .i64 p9, .slice A9 ts9.length c9] _ j u h) oneCell4 hlm hl56 (alloc_le hs9') ?_; intro v' w10 hown10 hg10 hloc10; obtain ⟨A10, c10, rfl⟩ := own_form hown10; obtain ⟨hr10, hfin⟩ := binder_final hr3w hTr hbx hwa3 HR.out HOWN.out HROW.out OX.out o9 T9 hp9 hown10 hg10 (alloc_loc hloc10); have y10 := (Lib.cell_of_heap hr10 3 : w10.cell? ⟨w3.heap.size, 3, none⟩ = some (.slice A ts.length c)); have f10 := Lib.frozen_of_heap hr10 3))
         all_goals
          go_wp2_with fail
          go_meet
          refine ⟨ts ++ [.node k9 n9 p9 ts9], A10, c10, xs ++ [.int .i64 k9, S n9, .int .i64 p9, .slice A9 ts9.length c9], Lib.hid (by rw [List.length_append]; exact hfin.1), Lib.hid (by rw [List.length_append]; rw [List.length_append] at hfin; exact hfin.2.1), Lib.hid (by rw [List.length_append]; exact hfin.2.2.1), Lib.hid hfin.2.2.2.1, Lib.hid hfin.2.2.2.2.1, hfin.2.2.2.2.2, by rw [HZ.out]; simp, Lib.hid ?_⟩
          rw [HZ.out]
          simp only [List.nil_append, Lfc.Raw.fss, Lfc.Raw.sizes, Lfc.Raw.depths, hf9]
          exact ⟨rfl, by omega, by omega⟩
       case rest =>
        obtain ⟨ts, A, c, xs, HR, HOWN, HROW, TX, OX, hbx, hl1, HF⟩ := hcut
        rename_i wy
        go_wp2_with fail
        have hrT : w3.heap.size ≠ T := by omega
        have hTow : (Value.slice A ts.length c).ownBlock = some T → False := fun e => by have := (HOWN.out.lt T e).1; omega
        have yx : wc.cell? ⟨w3.heap.size, 3, none⟩ = some (.slice A ts.length c) := Lib.cell_of_heap HR.out 3
        have hlm : ts.length + 1 ≤ maxLen := by unfold maxLen; omega
        have hl56 : (ts.length + 1) * 56 ≤ 140737488355328 := by omega
        have hr3w : w3.heap.size < w4.heap.size := by omega
        have hwa3 := O3.out.size
        have hdw : IntKind.i64.wrap (m : Int) = (m : Int) := IntWalk.i64_in _ ⟨by omega, by omega⟩
        go_region_law (first
         | (go_simp; go_at_call 13; refine (IHm.out T _ (TX.out.below (Below.refl _ _).drew)).mono ?_; rintro e w9 ⟨⟨t9, v9, rfl, hv9, hf9, hs9, hd9⟩, T9, o9⟩; obtain ⟨k9, n9, p9, ts9⟩ := t9; obtain ⟨A9, c9, rfl, hp9⟩ := hv9.open_; have q9 := o9.heap HR.out hrT; have y9 : w9.cell? ⟨w3.heap.size, 3, none⟩ = some (.slice A ts.length c) := Lib.cell_of_heap q9 3; have y9a : ∀ o, (w9.alloc o).cell? ⟨w3.heap.size, 3, none⟩ = some (.slice A ts.length c) := fun o => Lib.cell_of_heap (heap_alloc_old w9 o _ _ q9) 3; have hown9 := HOWN.out.drew.kept o9 (Or.inr hTow); have hs9' : w4.heap.size ≤ w9.heap.size := Nat.le_trans hbx o9.size)
         | (refine step_append_own_at _ (by rfl) _ _ 32 (by rfl) w4.heap.size 46 i0 (.agg #[.int .i64 0, S [], .int .i64 0, .slice none 0 0]) 4 56 Tryz.underlying32 hi hz0 hz1 hz2 rfl (by decide) _ _ _ (by rfl) (hown9.alloc _) ⟨w9.heap.size, 0, none⟩ 1 1 [.int .i64 k9, S n9, .int .i64 p9, .slice A9 ts9.length c9] (by rfl) (by rfl) (fun j u h => cells_new w9 _ rfl [.int .i64 k9, S n9, .int .i64 p9, .slice A9 ts9.length c9] _ j u h) oneCell4 hlm hl56 (alloc_le hs9') ?_; intro v' w10 hown10 hg10 hloc10; obtain ⟨A10, c10, rfl⟩ := own_form hown10; obtain ⟨hr10, hfin⟩ := binder_final hr3w hTr hbx hwa3 HR.out HOWN.out HROW.out OX.out o9 T9 hp9 hown10 hg10 (alloc_loc hloc10); have y10 := (Lib.cell_of_heap hr10 3 : w10.cell? ⟨w3.heap.size, 3, none⟩ = some (.slice A ts.length c)); have f10 := Lib.frozen_of_heap hr10 3))
        all_goals
         go_wp2_with fail
         have hbt := binder_trees hsz3' (by rw [List.length_append] at hfin; rw [List.length_append]; exact hfin.2.1) (by rw [List.length_append]; exact hfin.2.2.1)
         go_meet
         refine ⟨8, (r3 : Int), nm, ts ++ [.node k9 n9 p9 ts9], A10, c10, Lib.hid (by rw [List.length_append]; exact hfin.1), Lib.hid ⟨hbt.1, by have := HNM.out.2; omega, hbt.2, ?_, ?_, ?_⟩, Lib.hid hfin.2.2.2.1, Lib.hid hfin.2.2.2.2.1⟩
         ·rw [Lfc.Raw.fs, fss_app, HF.out.1]
          simp only [Lfc.Raw.fss, hf9, List.length_append, List.length_singleton, Bool.and_true]
          exact binder_formedS (by decide) HNM.out.1 HNM.out.2 (by omega)
         ·have e1 := HF.out.2.1
          have e3 : 2 ^ (d + 1) = 2 * 2 ^ (m + 1) := by rw [HM.out, Nat.pow_succ]; omega
          rw [Lfc.Raw.sizes_app]
          simp only [Lfc.Raw.sizes]
          omega
         ·have e1 := HF.out.2.2
          have e3 := HM.out
          rw [Lfc.Raw.depths_app]
          simp only [Lfc.Raw.depths]
          omega
  case rest =>
   obtain ⟨k, p, n, ts, A, c, HR, HX, T5, O5⟩ := hcut
   have x0 := Lib.cell_of_heap HR.out 0
   have x1 := Lib.cell_of_heap HR.out 1
   have x2 := Lib.cell_of_heap HR.out 2
   have x3 := Lib.cell_of_heap HR.out 3
   simp at x0 x1 x2 x3
   have RD := O5.out.heap RA.out hRT
   obtain ⟨s1, s2, s3, s4, h1, h2, h3, h4, ⟨y0, y1, y2, y3⟩, ⟨f0, f1, f2, f3⟩, q, oq⟩ := put4 RD (.int .i64 k) (S n) (.int .i64 p) (.slice A ts.length c)
   have z0 := Lib.cell_of_heap q 0
   have z1 := Lib.cell_of_heap q 1
   have z2 := Lib.cell_of_heap q 2
   have z3 := Lib.cell_of_heap q 3
   simp at z0 z1 z2 z3
   have HO := Lib.hid oq
   have HQ := Lib.hid q
   clear RD q oq
   go_wp2_with fail
   refine bodyPost_ret (results_raw rfl _ _ _ _ _ _ _ rfl HQ.out) rfl ?_
   have hRs : w.heap.size < wc.heap.size := lt_of_block (O5.out.heap RA.out hRT)
   refine ⟨⟨.node k n p ts, _, rfl, TreeVP.mk HX.out.2.1 HX.out.2.2.1 ?_, HX.out.2.2.2.1, by simp only [Lfc.Raw.size]; have := HX.out.2.2.2.2.1; omega, by simp only [Lfc.Raw.depth]; have := HX.out.2.2.2.2.2; omega⟩, T5.out.oth hTlt HO.out, ?_⟩
   ·exact HX.out.1.keep (fun b hb hlt => HO.out.block b hlt (fun e => by have := Option.some.inj e; omega)) HO.out.size (fun b _ hb => Nat.le_of_lt hb)
   ·exact ((Oth.of_below BA.out).trans O5.out).of_new ⟨HO.out.os, HO.out.tape, HO.out.output, HO.out.size, fun b hb => HO.out.block b (by omega) (fun e => by have := Option.some.inj e; omega)⟩
theorem raw_anyS : ∀ d, d ≤ 20 → RawUptoS d
 | 0, _ => raw_stepS 0 (by omega) (fun h => absurd h (by omega))
 | d + 1, h => raw_stepS (d + 1) h (fun _ => by simpa using raw_anyS d (by omega))
end Go.Proofs.YthajalgkjonaaaaGreatDoor
