/- Contracts of Explicit: the program's and the reference's. -/
import Derived.Test.YtadjpadieljjlaaOrPar
import Derived.Test.YtadjpadieljjlaaOrVld
set_option linter.unusedVariables false
set_option linter.unusedSimpArgs false
namespace Go.Proofs.Ytadjpadieljjlaa
open Go.RowKit Go.Maps
attribute [local go_sem ↓] Go.wp_at_zero Go.wp_at_succ
theorem cells6d {W : World} {g : Nat} {v0 v1 v2 v3 v4 v5 : Value} {t : TypeId} (h : W.heap[g]? = some (.cells #[v0, v1, v2, v3, v4, v5] t (0, 0))) : W.cell? ⟨g, 0, none⟩ = some v0 ∧ W.cell? ⟨g, 1, none⟩ = some v1 ∧ W.cell? ⟨g, 2, none⟩ = some v2 ∧ W.cell? ⟨g, 3, none⟩ = some v3 ∧ W.cell? ⟨g, 4, none⟩ = some v4 ∧ W.cell? ⟨g, 5, none⟩ = some v5 :=
  ⟨Lib.cell_of_heap h 0, Lib.cell_of_heap h 1, Lib.cell_of_heap h 2, Lib.cell_of_heap h 3, Lib.cell_of_heap h 4, Lib.cell_of_heap h 5⟩
/-- What Explicit answers. -/
def ExpAns (w : World) (o : Lfc.Ord) (m : Lfc.Ord) (im k : Int) (e : Ending) (w' : World) : Prop :=
  (∃ v', e = .returned (.tuple #[v', .int .i64 (o.expE im k)]) ∧ OrdVP (fun b => w.heap.size ≤ b) w' (if o.expE im k = 0 then m else .node 0 0 []) v') ∧ Below w.heap.size w w'
theorem expE_small {o : Lfc.Ord} {im k : Int} (h : 64 < o.size ∨ o.form = false) : o.expE im k = 92 := by rw [Lfc.Ord.expE, if_pos h]
theorem expE_range {o : Lfc.Ord} {im k : Int} (h : ¬ (64 < o.size ∨ o.form = false)) (h2 : im < 0 ∨ k < im ∨ o.rng 1 (k - im) = false) : o.expE im k = 5 := by rw [Lfc.Ord.expE, if_neg h, if_pos h2]
theorem expE_ok {o : Lfc.Ord} {im k : Int} (h : ¬ (64 < o.size ∨ o.form = false)) (h2 : ¬ (im < 0 ∨ k < im ∨ o.rng 1 (k - im) = false)) : o.expE im k = 0 := by rw [Lfc.Ord.expE, if_neg h, if_neg h2]
theorem exp_zero {q : Nat → Prop} {w : World} : OrdVP q w (.node 0 0 []) (.agg #[.int .i64 0, .int .i64 0, .slice none 0 0]) :=
  OrdVP.mk (ts := []) (Nat.zero_le _) (fun h => absurd rfl h)
theorem exp_err {w w3 w5 s3 : World} {R : Nat} {o m : Lfc.Ord} {im k E : Int} (he : o.expE im k = E) (hE : E ≠ 0) (b3 : Below w.heap.size w w3) (b5 : Below w3.heap.size w3 w5) (ho : Oth R w5 s3) (hR : w.heap.size ≤ R) (hs : w.heap.size ≤ w3.heap.size) : ExpAns w o m im k (.returned (.tuple #[.agg #[.int .i64 0, .int .i64 0, .slice none 0 0], .int .i64 E])) s3 := by
  refine ⟨⟨_, by rw [he], ?_⟩, Oth.below (b3.trans (b5.mono hs)) ho hR (Nat.le_trans hs b5.size)⟩
  rw [if_neg (by rw [he]; exact hE)]
  exact exp_zero

set_option maxRecDepth 100000 in
set_option maxHeartbeats 8000000 in
theorem oExplicit_any (o : Lfc.Ord) (vo : Value) (k : Nat) (im : Int) (nm : List UInt8) (kd p : Int) (n : List UInt8) (A : Option Addr) (l c : Nat) (w : World) (hsz : o.size ≤ 1000000) (hmod : o.mod 1000 = true) (hk : k ≤ 100) (hi0 : -10 ≤ im) (hi1 : im ≤ 10) (hv : OrdV w o vo) (ht : TreeV w (Lfc.piCh k) (.agg #[.int .i64 kd, S n, .int .i64 p, .slice A l c])) :
    Calls Try.prog 7 #[.agg #[S nm, .int .i64 kd, S n, .int .i64 p, .slice A l c, .int .i64 im], vo] w (ExpAns w o (o.mv (im - 1)) im k) := by
  obtain ⟨A0, c0, ko, ao, ts, hT, rfl⟩ : ∃ A c kd ar ts, o = .node kd ar ts ∧ vo = .agg #[.int .i64 kd, .int .i64 ar, .slice A (List.length ts) c] := by
    obtain ⟨kd, ar, ts⟩ := o
    obtain ⟨A, c, rfl, hc, hA⟩ := hv.open_
    exact ⟨A, c, kd, ar, ts, rfl, rfl⟩
  obtain ⟨lo, hlo⟩ : ∃ lo, ts.length = lo := ⟨_, rfl⟩
  rw [hlo] at hv ⊢
  obtain ⟨w1, hw1⟩ : ∃ w1, w.alloc (.cells #[S nm, .int .i64 kd, S n, .int .i64 p, .slice A l c, .int .i64 im] 36) = w1 := ⟨_, rfl⟩
  obtain ⟨w2, hw2⟩ : ∃ w2, w1.alloc (.cells #[.int .i64 ko, .int .i64 ao, .slice A0 lo c0] 28) = w2 := ⟨_, rfl⟩
  obtain ⟨w3, hw3⟩ : ∃ w3, w2.alloc (.cells #[.int .i64 0, .int .i64 0, .slice none 0 0] 28) = w3 := ⟨_, rfl⟩
  have b1 : Below w.heap.size w w1 := by rw [← hw1]; exact (Below.refl _ _).alloc (Nat.le_refl _) _
  have b2 : Below w1.heap.size w1 w2 := by rw [← hw2]; exact (Below.refl _ _).alloc (Nat.le_refl _) _
  have b3 : Below w2.heap.size w2 w3 := by rw [← hw3]; exact (Below.refl _ _).alloc (Nat.le_refl _) _
  have q1 : w1.heap[w.heap.size]? = some (.cells #[S nm, .int .i64 kd, S n, .int .i64 p, .slice A l c, .int .i64 im] 36 (0, 0)) := by rw [← hw1]; exact heap_alloc_new _ _
  have q2 : w2.heap[w1.heap.size]? = some (.cells #[.int .i64 ko, .int .i64 ao, .slice A0 lo c0] 28 (0, 0)) := by rw [← hw2]; exact heap_alloc_new _ _
  have q3 : w3.heap[w2.heap.size]? = some (.cells #[.int .i64 0, .int .i64 0, .slice none 0 0] 28 (0, 0)) := by rw [← hw3]; exact heap_alloc_new _ _
  have l1 := lt_of_block q1
  have l2 := lt_of_block q2
  have l3 := lt_of_block q3
  have Q1 := Lib.hid ((b3.block _ (by omega)).trans ((b2.block _ l1).trans q1))
  have Q2 := Lib.hid ((b3.block _ l2).trans q2)
  have Q3 := Lib.hid q3
  have hb03 : Below w.heap.size w w3 := (b1.trans (b2.mono (by omega))).trans (b3.mono (by omega))
  have B03 := Lib.hid hb03
  have HV := Lib.hid (hv.below hb03)
  have HT := Lib.hid (ht.below hb03)
  have hs3 : w.heap.size ≤ w3.heap.size := by omega
  have hw4 : IntKind.i64.wrap ((k : Int) - im) = (k : Int) - im := IntWalk.i64_in _ (by omega)
  have hw5 : IntKind.i64.wrap (im - 1) = im - 1 := IntWalk.i64_in _ (by omega)
  obtain ⟨y0, y1, y2⟩ := cells3o Q2.out
  have HO := Lib.hid hT

  have C1 := Lib.hid (oSmall_any o _ w3 hsz HV.out)
  have HSM : Hid ((64 < o.size ∨ o.form = false) ↔ (decide (o.size ≤ 64) && o.form) = false) := Lib.hid (by
    rw [Bool.and_eq_false_iff, decide_eq_false_iff_not]
    constructor
    · rintro (h | h)
      · exact .inl (by omega)
      · exact .inr h
    · rintro (h | h)
      · exact .inl (by omega)
      · exact .inr h)
  clear hT hlo hv ht q1 q2 q3 b1 b2 b3 hb03
  obtain ⟨f, hf⟩ : ∃ f, (decide (o.size ≤ 64) && o.form) = f := ⟨_, rfl⟩
  rw [hf] at C1 HSM
  clear hf
  cases f
  · have HE := Lib.hid (expE_small (im := im) (k := (k : Int)) (HSM.out.2 rfl))
    clear HSM
    go_enter Try.func7, Try.ntmps7
    go_wp2_with fail
    refine C1.out.mono ?_
    rintro e w4 ⟨rfl, hb4⟩
    clear y0 y1 y2
    obtain ⟨s1, s2, s3, g1, g2, g3, ⟨p0, p1, p2⟩, ⟨f0, f1, f2⟩, hq, hot⟩ := oput3 ((hb4.block _ l3).trans Q3.out) (.int .i64 0) (.int .i64 0) (.slice none 0 0)
    have HQ := Lib.hid hq
    have HZ := Lib.hid (exp_err (m := o.mv (im - 1)) HE.out (by decide) B03.out hb4 hot (by omega) hs3)
    clear hq hot
    go_wp2_with fail
    refine bodyPost_ret (results_ord2 rfl _ _ _ _ _ _ rfl HQ.out) rfl ?_
    exact HZ.out
  · have HS : Hid (¬ (64 < o.size ∨ o.form = false)) := Lib.hid (fun h => by have := HSM.out.1 h; cases this)
    clear HSM
    go_enter Try.func7, Try.ntmps7
    go_wp2_with fail
    refine C1.out.mono ?_
    rintro e w4 ⟨rfl, hb4⟩
    clear y0 y1 y2
    have hsW := hb4.size
    obtain ⟨x0, x1, x2, x3, x4, x5⟩ := cells6d ((hb4.block _ (by omega)).trans Q1.out)
    have CP := Lib.hid (oParams_any k (by omega) _ w4 (HT.out.below hb4))
    go_wp2_with fail
    refine CP.out.mono ?_
    rintro e wp ⟨rfl, hbp'⟩
    have hbp := hb4.trans (hbp'.mono hb4.size)
    clear x0 x1 x2 x3 x4 x5 CP hbp'
    have hsp := hbp.size
    obtain ⟨x0, x1, x2, x3, x4, x5⟩ := cells6d ((hbp.block _ (by omega)).trans Q1.out)
    obtain ⟨y0, y1, y2⟩ := cells3o ((hbp.block _ (by omega)).trans Q2.out)
    by_cases hi2 : im < 0
    · have HE := Lib.hid (expE_range (o := o) (im := im) (k := (k : Int)) HS.out (.inl hi2))
      have hd1 : decide (im < 0) = true := by rw [decide_eq_true_eq]; exact hi2
      obtain ⟨s1, s2, s3, g1, g2, g3, ⟨p0, p1, p2⟩, ⟨f0, f1, f2⟩, hq, hot⟩ := oput3 ((hbp.block _ l3).trans Q3.out) (.int .i64 0) (.int .i64 0) (.slice none 0 0)
      have HQ := Lib.hid hq
      have HZ := Lib.hid (exp_err (m := o.mv (im - 1)) HE.out (by decide) B03.out hbp hot (by omega) hs3)
      clear hq hot
      go_wp2_with fail
      refine bodyPost_ret (results_ord2 rfl _ _ _ _ _ _ rfl HQ.out) rfl ?_
      exact HZ.out
    · have hd1 : decide (im < 0) = false := by rw [decide_eq_false_iff_not]; exact hi2
      by_cases hi3 : (k : Int) < im
      · have HE := Lib.hid (expE_range (o := o) (im := im) (k := (k : Int)) HS.out (.inr (.inl hi3)))
        have hd2 : decide ((k : Int) < im) = true := by rw [decide_eq_true_eq]; exact hi3
        have hd3 : decide (im > (k : Int)) = true := by rw [decide_eq_true_eq]; exact hi3
        obtain ⟨s1, s2, s3, g1, g2, g3, ⟨p0, p1, p2⟩, ⟨f0, f1, f2⟩, hq, hot⟩ := oput3 ((hbp.block _ l3).trans Q3.out) (.int .i64 0) (.int .i64 0) (.slice none 0 0)
        have HQ := Lib.hid hq
        have HZ := Lib.hid (exp_err (m := o.mv (im - 1)) HE.out (by decide) B03.out hbp hot (by omega) hs3)
        clear hq hot
        go_wp2_with fail
        refine bodyPost_ret (results_ord2 rfl _ _ _ _ _ _ rfl HQ.out) rfl ?_
        exact HZ.out
      · have hd2 : decide ((k : Int) < im) = false := by rw [decide_eq_false_iff_not]; exact hi3
        have hd3 : decide (im > (k : Int)) = false := by rw [decide_eq_false_iff_not]; exact hi3
        have CR := Lib.hid (oArgs_upto 1 ((k : Int) - im) _ hsz o _ wp (Nat.le_refl _) (HV.out.below hbp))
        have HE0 : Hid (o.rng 1 ((k : Int) - im) = false → o.expE im k = 5) := Lib.hid (fun h => expE_range HS.out (.inr (.inr h)))
        have HE1 : Hid (o.rng 1 ((k : Int) - im) = true → o.expE im k = 0) := Lib.hid (fun h => expE_ok HS.out (by rintro (h1 | h1 | h1); exact hi2 h1; exact hi3 h1; rw [h] at h1; cases h1))
        obtain ⟨r, hr⟩ : ∃ r, o.rng 1 ((k : Int) - im) = r := ⟨_, rfl⟩
        rw [hr] at CR HE0 HE1
        clear hr
        go_wp2_with fail
        refine CR.out.mono ?_
        rintro e wq ⟨rfl, hbq'⟩
        have hbq := hbp.trans (hbq'.mono hbp.size)
        clear x0 x1 x2 x3 x4 x5 y0 y1 y2 CR hbq'
        have hsq := hbq.size
        cases r
        · have HE := Lib.hid (HE0.out rfl)
          obtain ⟨s1, s2, s3, g1, g2, g3, ⟨p0, p1, p2⟩, ⟨f0, f1, f2⟩, hq, hot⟩ := oput3 ((hbq.block _ l3).trans Q3.out) (.int .i64 0) (.int .i64 0) (.slice none 0 0)
          have HQ := Lib.hid hq
          have HZ := Lib.hid (exp_err (m := o.mv (im - 1)) HE.out (by decide) B03.out hbq hot (by omega) hs3)
          clear hq hot
          go_wp2_with fail
          refine bodyPost_ret (results_ord2 rfl _ _ _ _ _ _ rfl HQ.out) rfl ?_
          exact HZ.out
        · have HE := Lib.hid (HE1.out rfl)
          obtain ⟨x0, x1, x2, x3, x4, x5⟩ := cells6d ((hbq.block _ (by omega)).trans Q1.out)
          obtain ⟨y0, y1, y2⟩ := cells3o ((hbq.block _ (by omega)).trans Q2.out)
          have CM := Lib.hid (oMoved_upto (im - 1) (by omega) (by omega) _ hsz o _ wq (Nat.le_refl _) hmod (HV.out.below hbq))
          obtain ⟨km, am, tm, htm⟩ := ord_node (o.mv (im - 1))
          rw [htm] at CM
          have HTM := Lib.hid htm
          clear htm
          go_wp2_with fail
          refine CM.out.mono ?_
          rintro e wm ⟨⟨v', rfl, hvm⟩, hbm'⟩
          obtain ⟨Am, cm, rfl, hpm⟩ := hvm.open_
          have hbm := hbq.trans (hbm'.mono hbq.size)
          obtain ⟨s1, s2, s3, g1, g2, g3, ⟨p0, p1, p2⟩, ⟨f0, f1, f2⟩, hq, hot⟩ := oput3 ((hbm.block _ l3).trans Q3.out) (.int .i64 km) (.int .i64 am) (.slice Am tm.length cm)
          have HQ := Lib.hid hq
          have HZ : Hid (OrdVP (fun b => w.heap.size ≤ b) s3 (.node km am tm) (.agg #[.int .i64 km, .int .i64 am, .slice Am tm.length cm])) := Lib.hid (by
            refine hvm.keep (fun b hb hlt => hot.block b hlt (fun e => ?_)) hot.size (fun b _ hb => ?_)
            · have hb : wq.heap.size ≤ b := hb
              have := Option.some.inj e
              omega
            · have hb : wq.heap.size ≤ b := hb
              show w.heap.size ≤ b
              omega)
          have HBZ : Hid (Below w.heap.size w s3) := Lib.hid (Oth.below (B03.out.trans (hbm.mono hs3)) hot (by omega) (Nat.le_trans hs3 hbm.size))
          clear hq hot hpm hvm hbm hbm' CM
          go_wp2_with fail
          refine bodyPost_ret (results_ord2 rfl _ _ _ _ _ _ rfl HQ.out) rfl ?_
          refine ⟨⟨_, by rw [HE.out]; rfl, ?_⟩, HBZ.out⟩
          rw [if_pos HE.out, HTM.out]
          exact HZ.out

set_option maxRecDepth 100000 in
set_option maxHeartbeats 8000000 in
theorem rExplicit_any (o : Lfc.Ord) (vo : Value) (k : Nat) (im : Int) (nm : List UInt8) (kd p : Int) (n : List UInt8) (A : Option Addr) (l c : Nat) (w : World) (hsz : o.size ≤ 1000000) (hmod : o.mod 1000 = true) (hk : k ≤ 100) (hi0 : -10 ≤ im) (hi1 : im ≤ 10) (hv : OrdV w o vo) (ht : TreeV w (Lfc.piCh k) (.agg #[.int .i64 kd, S n, .int .i64 p, .slice A l c])) :
    Calls Try.prog 8 #[.agg #[S nm, .int .i64 kd, S n, .int .i64 p, .slice A l c, .int .i64 im], vo] w (ExpAns w o (o.mvr (im - 1)) im k) := by
  obtain ⟨A0, c0, ko, ao, ts, hT, rfl⟩ : ∃ A c kd ar ts, o = .node kd ar ts ∧ vo = .agg #[.int .i64 kd, .int .i64 ar, .slice A (List.length ts) c] := by
    obtain ⟨kd, ar, ts⟩ := o
    obtain ⟨A, c, rfl, hc, hA⟩ := hv.open_
    exact ⟨A, c, kd, ar, ts, rfl, rfl⟩
  obtain ⟨lo, hlo⟩ : ∃ lo, ts.length = lo := ⟨_, rfl⟩
  rw [hlo] at hv ⊢
  obtain ⟨w1, hw1⟩ : ∃ w1, w.alloc (.cells #[S nm, .int .i64 kd, S n, .int .i64 p, .slice A l c, .int .i64 im] 36) = w1 := ⟨_, rfl⟩
  obtain ⟨w2, hw2⟩ : ∃ w2, w1.alloc (.cells #[.int .i64 ko, .int .i64 ao, .slice A0 lo c0] 28) = w2 := ⟨_, rfl⟩
  obtain ⟨w3, hw3⟩ : ∃ w3, w2.alloc (.cells #[.int .i64 0, .int .i64 0, .slice none 0 0] 28) = w3 := ⟨_, rfl⟩
  have b1 : Below w.heap.size w w1 := by rw [← hw1]; exact (Below.refl _ _).alloc (Nat.le_refl _) _
  have b2 : Below w1.heap.size w1 w2 := by rw [← hw2]; exact (Below.refl _ _).alloc (Nat.le_refl _) _
  have b3 : Below w2.heap.size w2 w3 := by rw [← hw3]; exact (Below.refl _ _).alloc (Nat.le_refl _) _
  have q1 : w1.heap[w.heap.size]? = some (.cells #[S nm, .int .i64 kd, S n, .int .i64 p, .slice A l c, .int .i64 im] 36 (0, 0)) := by rw [← hw1]; exact heap_alloc_new _ _
  have q2 : w2.heap[w1.heap.size]? = some (.cells #[.int .i64 ko, .int .i64 ao, .slice A0 lo c0] 28 (0, 0)) := by rw [← hw2]; exact heap_alloc_new _ _
  have q3 : w3.heap[w2.heap.size]? = some (.cells #[.int .i64 0, .int .i64 0, .slice none 0 0] 28 (0, 0)) := by rw [← hw3]; exact heap_alloc_new _ _
  have l1 := lt_of_block q1
  have l2 := lt_of_block q2
  have l3 := lt_of_block q3
  have Q1 := Lib.hid ((b3.block _ (by omega)).trans ((b2.block _ l1).trans q1))
  have Q2 := Lib.hid ((b3.block _ l2).trans q2)
  have Q3 := Lib.hid q3
  have hb03 : Below w.heap.size w w3 := (b1.trans (b2.mono (by omega))).trans (b3.mono (by omega))
  have B03 := Lib.hid hb03
  have HV := Lib.hid (hv.below hb03)
  have HT := Lib.hid (ht.below hb03)
  have hs3 : w.heap.size ≤ w3.heap.size := by omega
  have hw4 : IntKind.i64.wrap ((k : Int) - im) = (k : Int) - im := IntWalk.i64_in _ (by omega)
  have hw5 : IntKind.i64.wrap (im - 1) = im - 1 := IntWalk.i64_in _ (by omega)
  obtain ⟨y0, y1, y2⟩ := cells3o Q2.out
  have HO := Lib.hid hT

  have C1 := Lib.hid (rCount_any _ hsz o _ w3 (Nat.le_refl _) HV.out)
  have C2 := Lib.hid (fun W (hW : Below w3.heap.size w3 W) => rShaped_any _ hsz o _ W (Nat.le_refl _) (HV.out.below hW))
  clear hT hlo hv ht q1 q2 q3 b1 b2 b3 hb03
  by_cases hbig : 64 < o.size
  · have hd1 : decide ((o.size : Int) > 64) = true := by rw [decide_eq_true_eq]; omega
    have hd2 : decide ((64 : Int) < (o.size : Int)) = true := by rw [decide_eq_true_eq]; omega
    have HE := Lib.hid (expE_small (im := im) (k := (k : Int)) (.inl hbig))
    go_enter Try.func8, Try.ntmps8
    go_wp2_with fail
    refine C1.out.mono ?_
    rintro e w4 ⟨rfl, hb4⟩
    clear y0 y1 y2
    obtain ⟨s1, s2, s3, g1, g2, g3, ⟨p0, p1, p2⟩, ⟨f0, f1, f2⟩, hq, hot⟩ := oput3 ((hb4.block _ l3).trans Q3.out) (.int .i64 0) (.int .i64 0) (.slice none 0 0)
    have HQ := Lib.hid hq
    have HZ := Lib.hid (exp_err (m := o.mvr (im - 1)) HE.out (by decide) B03.out hb4 hot (by omega) hs3)
    clear hq hot
    go_wp2_with fail
    refine bodyPost_ret (results_ord2 rfl _ _ _ _ _ _ rfl HQ.out) rfl ?_
    exact HZ.out
  · have hd1 : decide ((o.size : Int) > 64) = false := by rw [decide_eq_false_iff_not]; omega
    have hd2 : decide ((64 : Int) < (o.size : Int)) = false := by rw [decide_eq_false_iff_not]; omega
    have HE0 : Hid (o.form = false → o.expE im k = 92) := Lib.hid (fun h => expE_small (.inr h))
    have HS0 : Hid (o.form = true → ¬ (64 < o.size ∨ o.form = false)) := Lib.hid (fun h => by rintro (h1 | h1); exact hbig h1; rw [h] at h1; cases h1)
    obtain ⟨f, hf⟩ : ∃ f, o.form = f := ⟨_, rfl⟩
    rw [hf] at C2
    have HF := Lib.hid hf
    clear hf
    go_enter Try.func8, Try.ntmps8
    go_wp2_with fail
    refine C1.out.mono ?_
    rintro e w4 ⟨rfl, hb4⟩
    obtain ⟨y0, y1, y2⟩ := cells3o ((hb4.block _ (by omega)).trans Q2.out)
    go_wp2_with fail
    refine (C2.out _ hb4).mono ?_
    rintro e w5 ⟨rfl, hb5'⟩
    have hb5 := hb4.trans (hb5'.mono hb4.size)
    clear y0 y1 y2 hb5'
    cases f
    · have HE := Lib.hid (HE0.out HF.out)
      clear HE0 HS0 HF
      obtain ⟨s1, s2, s3, g1, g2, g3, ⟨p0, p1, p2⟩, ⟨f0, f1, f2⟩, hq, hot⟩ := oput3 ((hb5.block _ l3).trans Q3.out) (.int .i64 0) (.int .i64 0) (.slice none 0 0)
      have HQ := Lib.hid hq
      have HZ := Lib.hid (exp_err (m := o.mvr (im - 1)) HE.out (by decide) B03.out hb5 hot (by omega) hs3)
      clear hq hot
      go_wp2_with fail
      refine bodyPost_ret (results_ord2 rfl _ _ _ _ _ _ rfl HQ.out) rfl ?_
      exact HZ.out
    · have HS := Lib.hid (HS0.out HF.out)
      clear HE0 HS0 HF hd1 hd2
      have hsW := hb5.size
      obtain ⟨x0, x1, x2, x3, x4, x5⟩ := cells6d ((hb5.block _ (by omega)).trans Q1.out)
      have CP := Lib.hid (rParams_any k (by omega) _ w5 (HT.out.below hb5))
      go_wp2_with fail
      refine CP.out.mono ?_
      rintro e wp ⟨rfl, hbp'⟩
      have hbp := hb5.trans (hbp'.mono hb5.size)
      clear x0 x1 x2 x3 x4 x5 CP hbp'
      have hsp := hbp.size
      obtain ⟨x0, x1, x2, x3, x4, x5⟩ := cells6d ((hbp.block _ (by omega)).trans Q1.out)
      obtain ⟨y0, y1, y2⟩ := cells3o ((hbp.block _ (by omega)).trans Q2.out)
      by_cases hi2 : im < 0
      · have HE := Lib.hid (expE_range (o := o) (im := im) (k := (k : Int)) HS.out (.inl hi2))
        have hd1 : decide (im < 0) = true := by rw [decide_eq_true_eq]; exact hi2
        obtain ⟨s1, s2, s3, g1, g2, g3, ⟨p0, p1, p2⟩, ⟨f0, f1, f2⟩, hq, hot⟩ := oput3 ((hbp.block _ l3).trans Q3.out) (.int .i64 0) (.int .i64 0) (.slice none 0 0)
        have HQ := Lib.hid hq
        have HZ := Lib.hid (exp_err (m := o.mvr (im - 1)) HE.out (by decide) B03.out hbp hot (by omega) hs3)
        clear hq hot
        go_wp2_with fail
        refine bodyPost_ret (results_ord2 rfl _ _ _ _ _ _ rfl HQ.out) rfl ?_
        exact HZ.out
      · have hd1 : decide (im < 0) = false := by rw [decide_eq_false_iff_not]; exact hi2
        by_cases hi3 : (k : Int) < im
        · have HE := Lib.hid (expE_range (o := o) (im := im) (k := (k : Int)) HS.out (.inr (.inl hi3)))
          have hd2 : decide ((k : Int) < im) = true := by rw [decide_eq_true_eq]; exact hi3
          have hd3 : decide (im > (k : Int)) = true := by rw [decide_eq_true_eq]; exact hi3
          obtain ⟨s1, s2, s3, g1, g2, g3, ⟨p0, p1, p2⟩, ⟨f0, f1, f2⟩, hq, hot⟩ := oput3 ((hbp.block _ l3).trans Q3.out) (.int .i64 0) (.int .i64 0) (.slice none 0 0)
          have HQ := Lib.hid hq
          have HZ := Lib.hid (exp_err (m := o.mvr (im - 1)) HE.out (by decide) B03.out hbp hot (by omega) hs3)
          clear hq hot
          go_wp2_with fail
          refine bodyPost_ret (results_ord2 rfl _ _ _ _ _ _ rfl HQ.out) rfl ?_
          exact HZ.out
        · have hd2 : decide ((k : Int) < im) = false := by rw [decide_eq_false_iff_not]; exact hi3
          have hd3 : decide (im > (k : Int)) = false := by rw [decide_eq_false_iff_not]; exact hi3
          have CR := Lib.hid (rRanged_any 1 ((k : Int) - im) _ hsz o _ wp (Nat.le_refl _) (HV.out.below hbp))
          have HE0 : Hid (o.rng 1 ((k : Int) - im) = false → o.expE im k = 5) := Lib.hid (fun h => expE_range HS.out (.inr (.inr h)))
          have HE1 : Hid (o.rng 1 ((k : Int) - im) = true → o.expE im k = 0) := Lib.hid (fun h => expE_ok HS.out (by rintro (h1 | h1 | h1); exact hi2 h1; exact hi3 h1; rw [h] at h1; cases h1))
          obtain ⟨r, hr⟩ : ∃ r, o.rng 1 ((k : Int) - im) = r := ⟨_, rfl⟩
          rw [hr] at CR HE0 HE1
          clear hr
          go_wp2_with fail
          refine CR.out.mono ?_
          rintro e wq ⟨rfl, hbq'⟩
          have hbq := hbp.trans (hbq'.mono hbp.size)
          clear x0 x1 x2 x3 x4 x5 y0 y1 y2 CR hbq'
          have hsq := hbq.size
          cases r
          · have HE := Lib.hid (HE0.out rfl)
            obtain ⟨s1, s2, s3, g1, g2, g3, ⟨p0, p1, p2⟩, ⟨f0, f1, f2⟩, hq, hot⟩ := oput3 ((hbq.block _ l3).trans Q3.out) (.int .i64 0) (.int .i64 0) (.slice none 0 0)
            have HQ := Lib.hid hq
            have HZ := Lib.hid (exp_err (m := o.mvr (im - 1)) HE.out (by decide) B03.out hbq hot (by omega) hs3)
            clear hq hot
            go_wp2_with fail
            refine bodyPost_ret (results_ord2 rfl _ _ _ _ _ _ rfl HQ.out) rfl ?_
            exact HZ.out
          · have HE := Lib.hid (HE1.out rfl)
            obtain ⟨x0, x1, x2, x3, x4, x5⟩ := cells6d ((hbq.block _ (by omega)).trans Q1.out)
            obtain ⟨y0, y1, y2⟩ := cells3o ((hbq.block _ (by omega)).trans Q2.out)
            have CM := Lib.hid (rMoved_upto (im - 1) (by omega) (by omega) _ hsz o _ wq (Nat.le_refl _) hmod (HV.out.below hbq))
            obtain ⟨km, am, tm, htm⟩ := ord_node (o.mvr (im - 1))
            rw [htm] at CM
            have HTM := Lib.hid htm
            clear htm
            go_wp2_with fail
            refine CM.out.mono ?_
            rintro e wm ⟨⟨v', rfl, hvm⟩, hbm'⟩
            obtain ⟨Am, cm, rfl, hpm⟩ := hvm.open_
            have hbm := hbq.trans (hbm'.mono hbq.size)
            obtain ⟨s1, s2, s3, g1, g2, g3, ⟨p0, p1, p2⟩, ⟨f0, f1, f2⟩, hq, hot⟩ := oput3 ((hbm.block _ l3).trans Q3.out) (.int .i64 km) (.int .i64 am) (.slice Am tm.length cm)
            have HQ := Lib.hid hq
            have HZ : Hid (OrdVP (fun b => w.heap.size ≤ b) s3 (.node km am tm) (.agg #[.int .i64 km, .int .i64 am, .slice Am tm.length cm])) := Lib.hid (by
              refine hvm.keep (fun b hb hlt => hot.block b hlt (fun e => ?_)) hot.size (fun b _ hb => ?_)
              · have hb : wq.heap.size ≤ b := hb
                have := Option.some.inj e
                omega
              · have hb : wq.heap.size ≤ b := hb
                show w.heap.size ≤ b
                omega)
            have HBZ : Hid (Below w.heap.size w s3) := Lib.hid (Oth.below (B03.out.trans (hbm.mono hs3)) hot (by omega) (Nat.le_trans hs3 hbm.size))
            clear hq hot hpm hvm hbm hbm' CM
            go_wp2_with fail
            refine bodyPost_ret (results_ord2 rfl _ _ _ _ _ _ rfl HQ.out) rfl ?_
            refine ⟨⟨_, by rw [HE.out]; rfl, ?_⟩, HBZ.out⟩
            rw [if_pos HE.out, HTM.out]
            exact HZ.out

end Go.Proofs.Ytadjpadieljjlaa
