/- Parts of the proof: SmP, OrExp, OrAwkP, OrAwake, OrAwk2, SmWalk, RowOrderSmaller. -/
import Derived.Test.YtadjpadieljjlaaGreatSvC
import Derived.Test.YtadjpadieljjlaaGreatTmSame
import Derived.Test.YtadjpadieljjlaaGreatOrPar
import Derived.Test.YtadjpadieljjlaaGreatSvB
import Derived.Test.YtadjpadieljjlaaGreatSvE
import Derived.Test.YtadjpadieljjlaaGreatSmLight
import Derived.Test.YtadjpadieljjlaaGreatSmSame
import Derived.Deep.RegionHeld3
import Derived.Test.YtadjpadieljjlaaGreatFrameO
import Derived.WalkKit
/- The plain law of OrderSmaller: an object that stands in another one at a path that is not empty is smaller; at the empty path it is the same. -/
set_option linter.unusedVariables false
set_option linter.unusedSimpArgs false
namespace Lfc
mutual
theorem st_size (ks : List Int) (cr : Nat) : ∀ (s t : Raw) (d : Int) (tv tv' : List Int), Raw.st ks cr s t d tv = some tv' → s.size = t.size
  | .node k n p xs, .node k' n' p' ys, d, tv, tv', h => by
    rw [Raw.st] at h
    by_cases hc : k ≠ k' ∨ xs.length ≠ ys.length
    · rw [if_pos hc] at h; cases h
    · rw [if_neg hc] at h
      have hl : xs.length = ys.length := Classical.byContradiction fun e => hc (.inr e)
      cases hs : stStep ks cr k n n' p p' d tv with
      | none => rw [hs] at h; cases h
      | some tv1 =>
        rw [hs] at h
        have := sts_size ks cr xs ys _ tv1 tv' hl h
        rw [Raw.size, Raw.size, this]
theorem sts_size (ks : List Int) (cr : Nat) : ∀ (xs ys : List Raw) (d : Int) (tv tv' : List Int), xs.length = ys.length → Raw.sts ks cr xs ys d tv = some tv' → Raw.sizes xs = Raw.sizes ys
  | [], [], _, _, _, _, _ => rfl
  | [], _ :: _, _, _, _, hl, _ => by simp at hl
  | _ :: _, [], _, _, _, hl, _ => by simp at hl
  | a :: r, b :: q, d, tv, tv', hl, h => by
    rw [Raw.sts] at h
    cases hs : Raw.st ks cr a b d tv with
    | none => rw [hs] at h; cases h
    | some tv1 =>
      rw [hs] at h
      have h1 := st_size ks cr a b d tv tv1 hs
      have h2 := sts_size ks cr r q d tv1 tv' (by simpa using hl) h
      rw [Raw.sizes, Raw.sizes, h1, h2]
end
theorem step_same {ks : List Int} {k : Int} {n n' : List UInt8} {p p' d : Int} {xs ys : List Raw} {tv' : List Int} (h : stStep ks 0 k n n' p p' d [] = some tv') (ho : Raw.obj (.node k n p xs) = true) (ho' : Raw.obj (.node k n' p' ys) = true) : p = p' ∧ (n = n' ∨ k = 3) ∧ Raw.objs xs = true ∧ Raw.objs ys = true ∧ tv' = [] := by
  have hl : tv'.length = 0 := stStep_len h
  have hn : tv' = [] := List.length_eq_zero_iff.1 hl
  rw [Raw.obj] at ho ho'
  unfold stStep at h
  by_cases h3 : k = 3
  · subst h3
    simp [tbound] at ho ho'
    exact ⟨by omega, .inr rfl, ho.2, ho'.2, hn⟩
  · by_cases h4 : k = 4
    · subst h4
      simp at ho ho' h
      exact ⟨by omega, .inl h.1, ho.2, ho'.2, hn⟩
    · by_cases h5 : k = 5
      · subst h5
        simp at ho ho'
        simp at h
        have hpp : p = p' := by
          repeat' split at h
          all_goals first | assumption | omega | (cases h; done)
        exact ⟨hpp, .inl (ho.1.1.1.trans ho'.1.1.1.symm), ho.2, ho'.2, hn⟩
      · by_cases h6 : k = 6
        · subst h6
          simp at ho ho' h
          exact ⟨h.1, .inl (ho.1.1.1.trans ho'.1.1.1.symm), ho.2, ho'.2, hn⟩
        · simp [h3, h4, h5, h6] at ho
mutual
theorem st_same (ks : List Int) : ∀ (s t : Raw) (d : Int) (tv' : List Int), Raw.st ks 0 s t d [] = some tv' → s.obj = true → t.obj = true → Raw.tsm t s = true ∧ tv' = []
  | .node k n p xs, .node k' n' p' ys, d, tv', h, ho, ho' => by
    rw [Raw.st] at h
    by_cases hc : k ≠ k' ∨ xs.length ≠ ys.length
    · rw [if_pos hc] at h; cases h
    · rw [if_neg hc] at h
      have hl : xs.length = ys.length := Classical.byContradiction fun e => hc (.inr e)
      have hk : k = k' := Classical.byContradiction fun e => hc (.inl e)
      subst hk
      cases hs : stStep ks 0 k n n' p p' d [] with
      | none => rw [hs] at h; cases h
      | some tv1 =>
        rw [hs] at h
        obtain ⟨hp, hn, hx, hy, rfl⟩ := step_same hs ho ho'
        obtain ⟨h1, h2⟩ := sts_same ks xs ys _ tv' hl h hx hy
        refine ⟨?_, h2⟩
        rw [Raw.tsm, h1, hp]
        rcases hn with hn | hn <;> simp [hn]
theorem sts_same (ks : List Int) : ∀ (xs ys : List Raw) (d : Int) (tv' : List Int), xs.length = ys.length → Raw.sts ks 0 xs ys d [] = some tv' → Raw.objs xs = true → Raw.objs ys = true → Raw.tsms ys xs = true ∧ tv' = []
  | [], [], _, _, _, h, _, _ => by rw [Raw.sts] at h; cases h; exact ⟨rfl, rfl⟩; all_goals simp
  | [], _ :: _, _, _, hl, _, _, _ => by simp at hl
  | _ :: _, [], _, _, hl, _, _, _ => by simp at hl
  | a :: r, b :: q, d, tv', hl, h, hx, hy => by
    rw [Raw.sts] at h
    rw [Raw.objs, Bool.and_eq_true] at hx hy
    cases hs : Raw.st ks 0 a b d [] with
    | none => rw [hs] at h; cases h
    | some tv1 =>
      rw [hs] at h
      obtain ⟨h1, rfl⟩ := st_same ks a b d tv1 hs hx.1 hy.1
      obtain ⟨h2, h3⟩ := sts_same ks r q d tv' (by simpa using hl) h hx.2 hy.2
      exact ⟨by rw [Raw.tsms, h1, h2]; rfl, h3⟩
end
mutual
theorem pth_size (ks : List Int) (t : Raw) : ∀ (s : Raw) (cr : Nat) (q : List Int), Raw.pth ks t s cr = some q → (q = [] ∧ Raw.stands ks cr s t = true ∧ t.size = s.size) ∨ (q ≠ [] ∧ t.size < s.size)
  | .node k n p xs, cr, q, h => by
    rw [Raw.pth] at h
    by_cases hs : Raw.stands ks cr (.node k n p xs) t = true
    · rw [if_pos hs] at h
      cases h
      refine .inl ⟨rfl, hs, ?_⟩
      have hs' := hs
      rw [Raw.stands] at hs'
      obtain ⟨tv', htv⟩ := Option.isSome_iff_exists.1 hs'
      exact (st_size ks cr _ _ _ _ _ htv).symm
    · rw [if_neg hs] at h
      by_cases hp : Raw.pas ks cr (.node k n p xs) = false
      · rw [if_pos hp] at h; cases h
      · rw [if_neg hp] at h
        obtain ⟨h1, h2⟩ := pths_size ks t xs _ 0 q h
        exact .inr ⟨h1, by rw [Raw.size]; omega⟩
theorem pths_size (ks : List Int) (t : Raw) : ∀ (xs : List Raw) (cr : Nat) (i : Int) (q : List Int), Raw.pths ks t xs cr i = some q → q ≠ [] ∧ t.size ≤ Raw.sizes xs
  | [], _, _, _, h => by rw [Raw.pths] at h; cases h
  | a :: r, cr, i, q, h => by
    rw [Raw.pths] at h
    cases hs : Raw.pth ks t a cr with
    | none =>
      rw [hs] at h
      obtain ⟨h1, h2⟩ := pths_size ks t r cr (i + 1) q h
      exact ⟨h1, by rw [Raw.sizes]; omega⟩
    | some q1 =>
      rw [hs] at h
      cases h
      refine ⟨by simp, ?_⟩
      rw [Raw.sizes]
      rcases pth_size ks t a cr q1 hs with ⟨_, _, h2⟩ | ⟨_, h2⟩ <;> omega
end
/-- At a path that is not empty: smaller. -/
theorem path_less {ks : List Int} {x u : Raw} {q : List Int} (h : Raw.path ks x u = some q) (hq : q.length ≠ 0) : x.size < u.size := by
  rw [Raw.path] at h
  split at h
  · rcases pth_size ks x u 0 q h with ⟨h1, _⟩ | ⟨_, h2⟩
    · exact absurd (by rw [h1]; rfl) hq
    · exact h2
  · cases h
/-- At the empty path: the same. -/
theorem path_same {ks : List Int} {x u : Raw} (h : Raw.path ks x u = some []) : Raw.tsm x u = true := by
  rw [Raw.path] at h
  split at h
  · rename_i ho
    rw [Bool.and_eq_true, Raw.isO, Raw.isO, Bool.and_eq_true, Bool.and_eq_true] at ho
    rcases pth_size ks x u 0 [] h with ⟨_, h1, _⟩ | ⟨h1, _⟩
    · rw [Raw.stands] at h1
      obtain ⟨tv', htv⟩ := Option.isSome_iff_exists.1 h1
      exact (st_same ks u x 0 tv' htv ho.2.1 ho.1.1).1
    · exact absurd rfl h1
  · cases h
end Lfc
namespace Go.Proofs.YtadjpadieljjlaaGreat
/-- Less, without facts, of two arguments: just if there is a path that is not empty. -/
theorem prv_path {ks : List Int} {all : List Lfc.Raw} {x u : Lfc.Raw} (h : Lfc.chkE all = 0) : (Lfc.prv0 ks all x u).isSome = match Lfc.Raw.path ks x u with | none => false | some q => decide (q.length ≠ 0) := by
  rw [Lfc.prv0, if_pos h, Lfc.chain0, Lfc.Raw.up]
  cases Lfc.Raw.path ks x u with
  | none => rfl
  | some q =>
    by_cases hq : q.length = 0
    · have : q = [] := List.length_eq_zero_iff.1 hq
      subst this
      rfl
    · rw [Lfc.upOf_some hq]
      simp [hq]
end Go.Proofs.YtadjpadieljjlaaGreat

/- Contracts of Explicit: the program's and the reference's. -/
set_option linter.unusedVariables false
set_option linter.unusedSimpArgs false
namespace Go.Proofs.YtadjpadieljjlaaGreat
open Go.RowKit Go.Maps
attribute [local go_sem ↓] Go.wp_at_zero Go.wp_at_succ
theorem cells6d {W : World} {g : Nat} {v0 v1 v2 v3 v4 v5 : Value} {t : TypeId} (h : W.heap[g]? = some (.cells #[v0, v1, v2, v3, v4, v5] t (0, 0))) : W.cell? ⟨g, 0, none⟩ = some v0 ∧ W.cell? ⟨g, 1, none⟩ = some v1 ∧ W.cell? ⟨g, 2, none⟩ = some v2 ∧ W.cell? ⟨g, 3, none⟩ = some v3 ∧ W.cell? ⟨g, 4, none⟩ = some v4 ∧ W.cell? ⟨g, 5, none⟩ = some v5 :=
  ⟨Lib.cell_of_heap h 0, Lib.cell_of_heap h 1, Lib.cell_of_heap h 2, Lib.cell_of_heap h 3, Lib.cell_of_heap h 4, Lib.cell_of_heap h 5⟩
/-- What Explicit answers. -/
def ExpAns (w : World) (o : Lfc.Ord) (m : Lfc.Ord) (im k : Int) (e : Ending) (w' : World) : Prop :=
  (∃ v', e = .returned (.tuple #[v', .int .i64 (o.expE im k)]) ∧ OrdVP (fun b => w.heap.size ≤ b) w' (if o.expE im k = 0 then m else .node 0 0 []) v') ∧ Below w.heap.size w w'
theorem expE_small {o : Lfc.Ord} {im k : Int} (h : 64 < o.size ∨ o.form = false) : o.expE im k = 92 := by rw [Lfc.Ord.expE, if_pos h]
theorem expE_range {o : Lfc.Ord} {im k : Int} (h : ¬ (64 < o.size ∨ o.form = false)) (h2 : im < 0 ∨ k < im ∨ o.rng 1 (k - im) = false) : o.expE im k = 5 := by rw [Lfc.Ord.expE, if_neg h, if_pos h2]
theorem expE_ok {o : Lfc.Ord} {im k : Int} (h : ¬ (64 < o.size ∨ o.form = false)) (h2 : ¬ (im < 0 ∨ k < im ∨ o.rng 1 (k - im) = false)) : o.expE im k = 0 := by rw [Lfc.Ord.expE, if_neg h, if_neg h2]
theorem exp_zero {q : Nat → Prop} {w : World} : OrdVP q w (.node 0 0 []) (.agg #[.int .i64 0, .int .i64 0, .slice none 0 0]) :=
  OrdVP.mk (ts := []) (Nat.zero_le _) (fun h => absurd rfl h)
theorem exp_err {w w3 w5 s3 : World} {R : Nat} {o m : Lfc.Ord} {im k E : Int} (he : o.expE im k = E) (hE : E ≠ 0) (b3 : Below w.heap.size w w3) (b5 : Below w3.heap.size w3 w5) (ho : Oth R w5 s3) (hR : w.heap.size ≤ R) (hs : w.heap.size ≤ w3.heap.size) : ExpAns w o m im k (.returned (.tuple #[.agg #[.int .i64 0, .int .i64 0, .slice none 0 0], .int .i64 E])) s3 := by
  refine ⟨⟨_, by rw [he], ?_⟩, Oth.below (b3.trans (b5.mono hs)) ho hR (Nat.le_trans hs b5.size)⟩
  rw [if_neg (by rw [he]; exact hE)]
  exact exp_zero

set_option maxRecDepth 100000 in
set_option maxHeartbeats 8000000 in
theorem oExplicit_any (o : Lfc.Ord) (vo : Value) (k : Nat) (im : Int) (nm : List UInt8) (kd p : Int) (n : List UInt8) (A : Option Addr) (l c : Nat) (w : World) (hsz : o.size ≤ 1000000) (hmod : o.mod 1000 = true) (hk : k ≤ 100) (hi0 : -10 ≤ im) (hi1 : im ≤ 10) (hv : OrdV w o vo) (ht : TreeV w (Lfc.piCh k) (.agg #[.int .i64 kd, S n, .int .i64 p, .slice A l c])) :
    Calls Tryz.prog 31 #[.agg #[S nm, .int .i64 kd, S n, .int .i64 p, .slice A l c, .int .i64 im], vo] w (ExpAns w o (o.mv (im - 1)) im k) := by
  obtain ⟨A0, c0, ko, ao, ts, hT, rfl⟩ : ∃ A c kd ar ts, o = .node kd ar ts ∧ vo = .agg #[.int .i64 kd, .int .i64 ar, .slice A (List.length ts) c] := by
    obtain ⟨kd, ar, ts⟩ := o
    obtain ⟨A, c, rfl, hc, hA⟩ := hv.open_
    exact ⟨A, c, kd, ar, ts, rfl, rfl⟩
  obtain ⟨lo, hlo⟩ : ∃ lo, ts.length = lo := ⟨_, rfl⟩
  rw [hlo] at hv ⊢
  obtain ⟨w1, hw1⟩ : ∃ w1, w.alloc (.cells #[S nm, .int .i64 kd, S n, .int .i64 p, .slice A l c, .int .i64 im] 75) = w1 := ⟨_, rfl⟩
  obtain ⟨w2, hw2⟩ : ∃ w2, w1.alloc (.cells #[.int .i64 ko, .int .i64 ao, .slice A0 lo c0] 26) = w2 := ⟨_, rfl⟩
  obtain ⟨w3, hw3⟩ : ∃ w3, w2.alloc (.cells #[.int .i64 0, .int .i64 0, .slice none 0 0] 26) = w3 := ⟨_, rfl⟩
  have b1 : Below w.heap.size w w1 := by rw [← hw1]; exact (Below.refl _ _).alloc (Nat.le_refl _) _
  have b2 : Below w1.heap.size w1 w2 := by rw [← hw2]; exact (Below.refl _ _).alloc (Nat.le_refl _) _
  have b3 : Below w2.heap.size w2 w3 := by rw [← hw3]; exact (Below.refl _ _).alloc (Nat.le_refl _) _
  have q1 : w1.heap[w.heap.size]? = some (.cells #[S nm, .int .i64 kd, S n, .int .i64 p, .slice A l c, .int .i64 im] 75 (0, 0)) := by rw [← hw1]; exact heap_alloc_new _ _
  have q2 : w2.heap[w1.heap.size]? = some (.cells #[.int .i64 ko, .int .i64 ao, .slice A0 lo c0] 26 (0, 0)) := by rw [← hw2]; exact heap_alloc_new _ _
  have q3 : w3.heap[w2.heap.size]? = some (.cells #[.int .i64 0, .int .i64 0, .slice none 0 0] 26 (0, 0)) := by rw [← hw3]; exact heap_alloc_new _ _
  have l1 := lt_of_block q1
  have l2 := lt_of_block q2
  have l3 := lt_of_block q3
  have Q1 := Lib.hid ((b3.block _ (by omega)).trans ((b2.block _ l1).trans q1))
  have Q2 := Lib.hid ((b3.block _ l2).trans q2)
  have Q3 := Lib.hid q3
  have hb03 : Below w.heap.size w w3 := (b1.trans (b2.mono (by omega))).trans (b3.mono (by omega))
  have B03 := Lib.hid hb03
  have HV := Lib.hid (hv.below hb03)
  have HT := Lib.hid (ht.below hb03)
  have hs3 : w.heap.size ≤ w3.heap.size := by omega
  have hw4 : IntKind.i64.wrap ((k : Int) - im) = (k : Int) - im := IntWalk.i64_in _ (by omega)
  have hw5 : IntKind.i64.wrap (im - 1) = im - 1 := IntWalk.i64_in _ (by omega)
  obtain ⟨y0, y1, y2⟩ := cells3o Q2.out
  have HO := Lib.hid hT

  have C1 := Lib.hid (oSmall_any o _ w3 hsz HV.out)
  have HSM : Hid ((64 < o.size ∨ o.form = false) ↔ (decide (o.size ≤ 64) && o.form) = false) := Lib.hid (by
    rw [Bool.and_eq_false_iff, decide_eq_false_iff_not]
    constructor
    · rintro (h | h)
      · exact .inl (by omega)
      · exact .inr h
    · rintro (h | h)
      · exact .inl (by omega)
      · exact .inr h)
  clear hT hlo hv ht q1 q2 q3 b1 b2 b3 hb03
  obtain ⟨f, hf⟩ : ∃ f, (decide (o.size ≤ 64) && o.form) = f := ⟨_, rfl⟩
  rw [hf] at C1 HSM
  clear hf
  cases f
  · have HE := Lib.hid (expE_small (im := im) (k := (k : Int)) (HSM.out.2 rfl))
    clear HSM
    go_enter Tryz.func31, Tryz.ntmps31
    go_wp2_with fail
    refine C1.out.mono ?_
    rintro e w4 ⟨rfl, hb4⟩
    clear y0 y1 y2
    obtain ⟨s1, s2, s3, g1, g2, g3, ⟨p0, p1, p2⟩, ⟨f0, f1, f2⟩, hq, hot⟩ := oput3 ((hb4.block _ l3).trans Q3.out) (.int .i64 0) (.int .i64 0) (.slice none 0 0)
    have HQ := Lib.hid hq
    have HZ := Lib.hid (exp_err (m := o.mv (im - 1)) HE.out (by decide) B03.out hb4 hot (by omega) hs3)
    clear hq hot
    go_wp2_with fail
    refine bodyPost_ret (results_ord2 rfl _ _ _ _ _ _ rfl HQ.out) rfl ?_
    exact HZ.out
  · have HS : Hid (¬ (64 < o.size ∨ o.form = false)) := Lib.hid (fun h => by have := HSM.out.1 h; cases this)
    clear HSM
    go_enter Tryz.func31, Tryz.ntmps31
    go_wp2_with fail
    refine C1.out.mono ?_
    rintro e w4 ⟨rfl, hb4⟩
    clear y0 y1 y2
    have hsW := hb4.size
    obtain ⟨x0, x1, x2, x3, x4, x5⟩ := cells6d ((hb4.block _ (by omega)).trans Q1.out)
    have CP := Lib.hid (oParams_any k (by omega) _ w4 (HT.out.below hb4))
    go_wp2_with fail
    refine CP.out.mono ?_
    rintro e wp ⟨rfl, hbp'⟩
    have hbp := hb4.trans (hbp'.mono hb4.size)
    clear x0 x1 x2 x3 x4 x5 CP hbp'
    have hsp := hbp.size
    obtain ⟨x0, x1, x2, x3, x4, x5⟩ := cells6d ((hbp.block _ (by omega)).trans Q1.out)
    obtain ⟨y0, y1, y2⟩ := cells3o ((hbp.block _ (by omega)).trans Q2.out)
    by_cases hi2 : im < 0
    · have HE := Lib.hid (expE_range (o := o) (im := im) (k := (k : Int)) HS.out (.inl hi2))
      have hd1 : decide (im < 0) = true := by rw [decide_eq_true_eq]; exact hi2
      obtain ⟨s1, s2, s3, g1, g2, g3, ⟨p0, p1, p2⟩, ⟨f0, f1, f2⟩, hq, hot⟩ := oput3 ((hbp.block _ l3).trans Q3.out) (.int .i64 0) (.int .i64 0) (.slice none 0 0)
      have HQ := Lib.hid hq
      have HZ := Lib.hid (exp_err (m := o.mv (im - 1)) HE.out (by decide) B03.out hbp hot (by omega) hs3)
      clear hq hot
      go_wp2_with fail
      refine bodyPost_ret (results_ord2 rfl _ _ _ _ _ _ rfl HQ.out) rfl ?_
      exact HZ.out
    · have hd1 : decide (im < 0) = false := by rw [decide_eq_false_iff_not]; exact hi2
      by_cases hi3 : (k : Int) < im
      · have HE := Lib.hid (expE_range (o := o) (im := im) (k := (k : Int)) HS.out (.inr (.inl hi3)))
        have hd2 : decide ((k : Int) < im) = true := by rw [decide_eq_true_eq]; exact hi3
        have hd3 : decide (im > (k : Int)) = true := by rw [decide_eq_true_eq]; exact hi3
        obtain ⟨s1, s2, s3, g1, g2, g3, ⟨p0, p1, p2⟩, ⟨f0, f1, f2⟩, hq, hot⟩ := oput3 ((hbp.block _ l3).trans Q3.out) (.int .i64 0) (.int .i64 0) (.slice none 0 0)
        have HQ := Lib.hid hq
        have HZ := Lib.hid (exp_err (m := o.mv (im - 1)) HE.out (by decide) B03.out hbp hot (by omega) hs3)
        clear hq hot
        go_wp2_with fail
        refine bodyPost_ret (results_ord2 rfl _ _ _ _ _ _ rfl HQ.out) rfl ?_
        exact HZ.out
      · have hd2 : decide ((k : Int) < im) = false := by rw [decide_eq_false_iff_not]; exact hi3
        have hd3 : decide (im > (k : Int)) = false := by rw [decide_eq_false_iff_not]; exact hi3
        have CR := Lib.hid (oArgs_upto 1 ((k : Int) - im) _ hsz o _ wp (Nat.le_refl _) (HV.out.below hbp))
        have HE0 : Hid (o.rng 1 ((k : Int) - im) = false → o.expE im k = 5) := Lib.hid (fun h => expE_range HS.out (.inr (.inr h)))
        have HE1 : Hid (o.rng 1 ((k : Int) - im) = true → o.expE im k = 0) := Lib.hid (fun h => expE_ok HS.out (by rintro (h1 | h1 | h1); exact hi2 h1; exact hi3 h1; rw [h] at h1; cases h1))
        obtain ⟨r, hr⟩ : ∃ r, o.rng 1 ((k : Int) - im) = r := ⟨_, rfl⟩
        rw [hr] at CR HE0 HE1
        clear hr
        go_wp2_with fail
        refine CR.out.mono ?_
        rintro e wq ⟨rfl, hbq'⟩
        have hbq := hbp.trans (hbq'.mono hbp.size)
        clear x0 x1 x2 x3 x4 x5 y0 y1 y2 CR hbq'
        have hsq := hbq.size
        cases r
        · have HE := Lib.hid (HE0.out rfl)
          obtain ⟨s1, s2, s3, g1, g2, g3, ⟨p0, p1, p2⟩, ⟨f0, f1, f2⟩, hq, hot⟩ := oput3 ((hbq.block _ l3).trans Q3.out) (.int .i64 0) (.int .i64 0) (.slice none 0 0)
          have HQ := Lib.hid hq
          have HZ := Lib.hid (exp_err (m := o.mv (im - 1)) HE.out (by decide) B03.out hbq hot (by omega) hs3)
          clear hq hot
          go_wp2_with fail
          refine bodyPost_ret (results_ord2 rfl _ _ _ _ _ _ rfl HQ.out) rfl ?_
          exact HZ.out
        · have HE := Lib.hid (HE1.out rfl)
          obtain ⟨x0, x1, x2, x3, x4, x5⟩ := cells6d ((hbq.block _ (by omega)).trans Q1.out)
          obtain ⟨y0, y1, y2⟩ := cells3o ((hbq.block _ (by omega)).trans Q2.out)
          have CM := Lib.hid (oMoved_upto (im - 1) (by omega) (by omega) _ hsz o _ wq (Nat.le_refl _) hmod (HV.out.below hbq))
          obtain ⟨km, am, tm, htm⟩ := ord_node (o.mv (im - 1))
          rw [htm] at CM
          have HTM := Lib.hid htm
          clear htm
          go_wp2_with fail
          refine CM.out.mono ?_
          rintro e wm ⟨⟨v', rfl, hvm⟩, hbm'⟩
          obtain ⟨Am, cm, rfl, hpm⟩ := hvm.open_
          have hbm := hbq.trans (hbm'.mono hbq.size)
          obtain ⟨s1, s2, s3, g1, g2, g3, ⟨p0, p1, p2⟩, ⟨f0, f1, f2⟩, hq, hot⟩ := oput3 ((hbm.block _ l3).trans Q3.out) (.int .i64 km) (.int .i64 am) (.slice Am tm.length cm)
          have HQ := Lib.hid hq
          have HZ : Hid (OrdVP (fun b => w.heap.size ≤ b) s3 (.node km am tm) (.agg #[.int .i64 km, .int .i64 am, .slice Am tm.length cm])) := Lib.hid (by
            refine hvm.keep (fun b hb hlt => hot.block b hlt (fun e => ?_)) hot.size (fun b _ hb => ?_)
            · have hb : wq.heap.size ≤ b := hb
              have := Option.some.inj e
              omega
            · have hb : wq.heap.size ≤ b := hb
              show w.heap.size ≤ b
              omega)
          have HBZ : Hid (Below w.heap.size w s3) := Lib.hid (Oth.below (B03.out.trans (hbm.mono hs3)) hot (by omega) (Nat.le_trans hs3 hbm.size))
          clear hq hot hpm hvm hbm hbm' CM
          go_wp2_with fail
          refine bodyPost_ret (results_ord2 rfl _ _ _ _ _ _ rfl HQ.out) rfl ?_
          refine ⟨⟨_, by rw [HE.out]; rfl, ?_⟩, HBZ.out⟩
          rw [if_pos HE.out, HTM.out]
          exact HZ.out

end Go.Proofs.YtadjpadieljjlaaGreat

/- The plain facts of awake. -/
set_option linter.unusedVariables false
set_option linter.unusedSimpArgs false
namespace Lfc
def awX : Raw := .node 5 [] 0 []
def awS : Raw := .node 4 [115] 0 [awX]
theorem aw_path : Raw.path [1] awX awS = some [0] := by decide
theorem aw_up : Raw.up [1] awX awS = (2, [⟨1, awS, [0], 0⟩]) := by rw [Raw.up, aw_path]; rfl
theorem aw_no : Raw.path [1] awS awX = none := by decide
theorem aw_up2 : Raw.up [1] awS awX = (0, []) := by rw [Raw.up, aw_no]; rfl
theorem aw_chk : chkE ([awX] ++ [awS]) = 0 := by decide
theorem aw_chk2 : chkE ([awS] ++ [awX]) = 0 := by decide
theorem aw_fits : Raw.fits [1] awX awS [0] = true := by decide
theorem aw_fits2 : Raw.fits [1] awX awS [] = false := by decide
theorem aw_same : Raw.tsm awS awS = true := by decide
end Lfc

/- awake: the package's one small thing. -/
set_option linter.unusedVariables false
set_option linter.unusedSimpArgs false
namespace Go.Proofs.YtadjpadieljjlaaGreat
open Go.RowKit Go.Maps
theorem treesAt_new {w : World} {g : Nat} {k p : Int} {n : List UInt8} {ts : List Lfc.Raw} {A : Option Addr} {c : Nat} (h : w.heap[g]? = some (.cells #[.int .i64 k, S n, .int .i64 p, .slice A ts.length c] 51 (0, 0))) (ht : TreeV w (.node k n p ts) (.agg #[.int .i64 k, S n, .int .i64 p, .slice A ts.length c])) : TreesAt w (some ⟨g, 0, none⟩) [.node k n p ts] := fun _ => by
  obtain ⟨v0, v1, v2, v3, e, htc⟩ := ht
  cases e
  refine ⟨g, 0, rfl, lt_of_block h, ?_⟩
  rw [TreesO, TreesO]
  exact ⟨⟨_, _, _, _, Lib.cell_of_heap h 0, Lib.cell_of_heap h 1, Lib.cell_of_heap h 2, Lib.cell_of_heap h 3, htc⟩, trivial⟩
theorem awx_v (w : World) : TreeV w Lfc.awX (.agg #[.int .i64 5, S [], .int .i64 0, .slice none 0 0]) := TreeV.mk (ts := []) (by simp) (Nat.le_refl _) (fun h => absurd rfl h)
theorem aws_v {w : World} {g : Nat} (h : w.heap[g]? = some (.cells #[.int .i64 5, S [], .int .i64 0, .slice none 0 0] 51 (0, 0))) : TreeV w Lfc.awS (.agg #[.int .i64 4, S [115], .int .i64 0, .slice (some ⟨g, 0, none⟩) 1 1]) :=
  TreeV.mk (ts := [Lfc.awX]) (by simp) (Nat.le_refl _) (treesAt_new (ts := []) h (awx_v w))
theorem ints_one {w : World} {g : Nat} {x : Int} (h : w.heap[g]? = some (.cells #[.int .i64 x] 3 (0, 0))) : IntsO w (some ⟨g, 0, none⟩) [x] := fun _ => by
  refine ⟨g, 0, rfl, lt_of_block h, fun k hk => ?_⟩
  have hk1 : k < 1 := hk
  obtain rfl : k = 0 := by omega
  exact Lib.cell_of_heap h 0
/-- Holds at two terms. -/
theorem holds_two (t u : Lfc.Raw) (g h : Nat) (vt vu : Value) (A0 : Option Addr) (w : World) (hA0 : IntsO w A0 [1]) (ht : t.size ≤ 1000) (hu : u.size ≤ 1000) (hg : TreesAt w (some ⟨g, 0, none⟩) [t]) (hh : TreesAt w (some ⟨h, 0, none⟩) [u]) :
    Calls Tryz.prog 16 #[.slice none 0 0, .int .i64 1, .agg #[.int .i64 1, .int .i64 0, .slice none 0 0], .slice (some ⟨g, 0, none⟩) 1 1, .agg #[.int .i64 1, .int .i64 0, .slice none 0 0], .slice (some ⟨h, 0, none⟩) 1 1, .slice A0 1 1] w fun e w' => e = .returned (.tuple #[.bool (Lfc.prv0 [1] ([t] ++ [u]) t u).isSome, .int .i64 (Lfc.chkE ([t] ++ [u]))]) ∧ Below w.heap.size w w' :=
  oHolds1_any 0 0 [t] [u] (some ⟨g, 0, none⟩) (some ⟨h, 0, none⟩) A0 1 1 1 [1] w (by simp) hA0 (by simp) (by simp) (by simp) (by simp) (by intro x hx; simp at hx; rcases hx with rfl | rfl <;> omega) (fun h => by cases h) (fun h => by cases h) hg hh
theorem aw_prv : Lfc.prv0 [1] ([Lfc.awX] ++ [Lfc.awS]) Lfc.awX Lfc.awS = some [⟨1, Lfc.awS, [0], 0⟩] := by
  rw [Lfc.prv0, if_pos Lfc.aw_chk, Lfc.chain0, Lfc.aw_up]; rfl
theorem aw_prv2 : Lfc.prv0 [1] ([Lfc.awS] ++ [Lfc.awX]) Lfc.awS Lfc.awX = none := by
  rw [Lfc.prv0, if_pos Lfc.aw_chk2, Lfc.chain0, Lfc.aw_up2]; rfl
theorem aw_h1 (g h : Nat) (A0 : Option Addr) (w : World) (hA0 : IntsO w A0 [1]) (hg : TreesAt w (some ⟨g, 0, none⟩) [Lfc.awX]) (hh : TreesAt w (some ⟨h, 0, none⟩) [Lfc.awS]) :
    Calls Tryz.prog 16 #[.slice none 0 0, .int .i64 1, .agg #[.int .i64 1, .int .i64 0, .slice none 0 0], .slice (some ⟨g, 0, none⟩) 1 1, .agg #[.int .i64 1, .int .i64 0, .slice none 0 0], .slice (some ⟨h, 0, none⟩) 1 1, .slice A0 1 1] w fun e w' => e = .returned (.tuple #[.bool true, .int .i64 0]) ∧ Below w.heap.size w w' := by
  have := holds_two Lfc.awX Lfc.awS g h (.bool true) (.bool true) A0 w hA0 (by decide) (by decide) hg hh
  rwa [aw_prv, Lfc.aw_chk] at this
theorem aw_h2 (g h : Nat) (A0 : Option Addr) (w : World) (hA0 : IntsO w A0 [1]) (hg : TreesAt w (some ⟨g, 0, none⟩) [Lfc.awS]) (hh : TreesAt w (some ⟨h, 0, none⟩) [Lfc.awX]) :
    Calls Tryz.prog 16 #[.slice none 0 0, .int .i64 1, .agg #[.int .i64 1, .int .i64 0, .slice none 0 0], .slice (some ⟨g, 0, none⟩) 1 1, .agg #[.int .i64 1, .int .i64 0, .slice none 0 0], .slice (some ⟨h, 0, none⟩) 1 1, .slice A0 1 1] w fun e w' => e = .returned (.tuple #[.bool false, .int .i64 0]) ∧ Below w.heap.size w w' := by
  have := holds_two Lfc.awS Lfc.awX g h (.bool true) (.bool true) A0 w hA0 (by decide) (by decide) hg hh
  rwa [aw_prv2, Lfc.aw_chk2] at this
theorem aw_p (g h : Nat) (A0 : Option Addr) (w : World) (hA0 : IntsO w A0 [1]) (hg : TreesAt w (some ⟨g, 0, none⟩) [Lfc.awX]) (hh : TreesAt w (some ⟨h, 0, none⟩) [Lfc.awS]) :
    Calls Tryz.prog 11 #[.slice none 0 0, .int .i64 1, .agg #[.int .i64 1, .int .i64 0, .slice none 0 0], .slice (some ⟨g, 0, none⟩) 1 1, .agg #[.int .i64 1, .int .i64 0, .slice none 0 0], .slice (some ⟨h, 0, none⟩) 1 1, .slice A0 1 1] w fun e w' => (∃ A c B d, e = .returned (.tuple #[.agg #[.int .i64 0, .slice none 0 0, .slice A 1 c, .slice B 0 d], .bool true]) ∧ LinksP (fun b => w.heap.size ≤ b) w' A [⟨1, Lfc.awS, [0], 0⟩]) ∧ Below w.heap.size w w' := by
  have := oProve1_any 0 0 [Lfc.awX] [Lfc.awS] (some ⟨g, 0, none⟩) (some ⟨h, 0, none⟩) A0 1 1 1 [1] w (by simp) hA0 (by simp) (by simp) (by simp) (by simp) (by intro x hx; simp at hx; rcases hx with rfl | rfl <;> decide) (fun h => by cases h) (fun h => by cases h) hg hh
  refine this.mono ?_
  rintro e w' ⟨⟨h1, _⟩ | ⟨l, A, c, B, d, h1, he, hc, hl⟩, hb⟩
  · exact absurd (aw_prv.symm.trans h1) (by simp)
  · cases (Option.some.inj (aw_prv.symm.trans h1))
    exact ⟨⟨A, c, B, d, he, hl⟩, hb⟩
theorem aw_v (qq : Nat → Prop) (C Bk : Option Addr) (cC dk g h : Nat) (A0 : Option Addr) (w : World) (hA0 : IntsO w A0 [1]) (hg : TreesAt w (some ⟨g, 0, none⟩) [Lfc.awX]) (hh : TreesAt w (some ⟨h, 0, none⟩) [Lfc.awS]) (hl : LinksP qq w C [⟨1, Lfc.awS, [0], 0⟩]) :
    Calls Tryz.prog 14 #[.slice none 0 0, .int .i64 1, .agg #[.int .i64 1, .int .i64 0, .slice none 0 0], .slice (some ⟨g, 0, none⟩) 1 1, .agg #[.int .i64 1, .int .i64 0, .slice none 0 0], .slice (some ⟨h, 0, none⟩) 1 1, .slice A0 1 1, .agg #[.int .i64 0, .slice none 0 0, .slice C 1 cC, .slice Bk 0 dk]] w fun e w' => e = .returned (.bool true) ∧ Below w.heap.size w w' :=
  oVerify1_any [0] qq C Bk cC dk 0 0 [Lfc.awX] [Lfc.awS] (some ⟨g, 0, none⟩) (some ⟨h, 0, none⟩) A0 1 1 1 [1] w (by simp) hA0 (by simp) (by simp) (by simp) (by simp) (by intro x hx; simp at hx; rcases hx with rfl | rfl <;> decide) (fun h => by cases h) (fun h => by cases h) hg hh Lfc.aw_chk (by simp) (by simp) hl Lfc.aw_fits Lfc.aw_same (fun k n p ts e => by cases e; decide)
theorem aw_path (A0 : Option Addr) (w : World) (v : Value) (hA0 : IntsO w A0 [1]) (hv : TreeV w Lfc.awS v) :
    Calls Tryz.prog 20 #[.agg #[.int .i64 5, S [], .int .i64 0, .slice none 0 0], v, .slice A0 1 1] w fun e w' => (∃ A c, e = .returned (.tuple #[.slice A 1 c, .bool true])) ∧ Below w.heap.size w w' := by
  refine (oPath_any Lfc.awX Lfc.awS _ v [1] A0 1 w (by simp) (by decide) (by decide) hA0 (awx_v w) hv).mono ?_
  intro e w' h
  rw [Lfc.aw_path] at h
  obtain ⟨⟨A, c, he, _⟩, hb⟩ := h.yes
  exact ⟨⟨A, c, he⟩, hb⟩
theorem aw_f (q : List Int) (r : Bool) (A0 A1 : Option Addr) (c1 : Nat) (w : World) (v : Value) (hq : q.length ≤ 10) (hr : Lfc.Raw.fits [1] Lfc.awX Lfc.awS q = r) (hA0 : IntsO w A0 [1]) (hA1 : IntsO w A1 q) (hv : TreeV w Lfc.awS v) :
    Calls Tryz.prog 32 #[.agg #[.int .i64 5, S [], .int .i64 0, .slice none 0 0], v, .slice A1 q.length c1, .slice A0 1 1] w fun e w' => e = .returned (.bool r) ∧ Below w.heap.size w w' := by
  have := oFits_any Lfc.awX Lfc.awS _ v q A1 c1 [1] A0 1 w (by omega) (by simp) (by decide) (by decide) hA1 hA0 (awx_v w) hv
  rwa [hr] at this
theorem aw_val (n : Int) (r : Int) (w : World) (hn : -5 ≤ n ∧ n ≤ 5) (hr : (Lfc.Ord.node 1 0 []).vld n = r) :
    Calls Tryz.prog 33 #[.agg #[.int .i64 1, .int .i64 0, .slice none 0 0], .int .i64 n] w fun e w' => e = .returned (.int .i64 r) ∧ Below w.heap.size w w' := by
  have := oValid_any (.node 1 0 []) _ n w (by rw [Lfc.Ord.size, Lfc.Ord.sizes]; omega) (by omega) (by omega) (ord_arg w 0)
  rwa [hr] at this
theorem aw_shp (A : Option Addr) (c : Nat) (w : World) (hv : OrdV w (.node 1 0 []) (.agg #[.int .i64 1, .int .i64 0, .slice A 0 c])) :
    Calls Tryz.prog 34 #[.agg #[.int .i64 1, .int .i64 0, .slice none 0 0], .agg #[.int .i64 1, .int .i64 0, .slice A 0 c]] w fun e w' => e = .returned (.bool true) ∧ Below w.heap.size w w' := by
  have := oShape_upto 10 (by omega) (.node 1 0 []) (.node 1 0 []) _ _ w (by rw [Lfc.Ord.size, Lfc.Ord.sizes]; omega) (ord_arg w 0) hv
  rwa [Lfc.shp_arg] at this
end Go.Proofs.YtadjpadieljjlaaGreat

/- The contract of awake of the law. -/
set_option linter.unusedVariables false
set_option linter.unusedSimpArgs false
namespace Go.Proofs.YtadjpadieljjlaaGreat
open Go.RowKit Go.Maps
theorem aw_exp (g : Nat) (w : World) (h : w.heap[g]? = some (.cells #[.int .i64 4, S [113], .int .i64 0, .slice none 0 0, .int .i64 1, S [], .int .i64 0, .slice none 0 0] 51 (0, 0))) :
    Calls Tryz.prog 31 #[.agg #[S [112], .int .i64 2, S [], .int .i64 0, .slice (some ⟨g, 0, none⟩) 2 2, .int .i64 0], .agg #[.int .i64 1, .int .i64 1, .slice none 0 0]] w fun e w' => (∃ A c, e = .returned (.tuple #[.agg #[.int .i64 1, .int .i64 0, .slice A 0 c], .int .i64 0]) ∧ OrdV w' (.node 1 0 []) (.agg #[.int .i64 1, .int .i64 0, .slice A 0 c])) ∧ Below w.heap.size w w' := by
  have hq : TreeV w (Lfc.piCh 0) (.agg #[.int .i64 1, S [], .int .i64 0, .slice none 0 0]) := TreeV.mk (ts := []) (by simp) (Nat.le_refl _) (fun h => absurd rfl h)
  have hc : TreeV w (.node 4 [113] 0 []) (.agg #[.int .i64 4, S [113], .int .i64 0, .slice none 0 0]) := TreeV.mk (ts := []) (by simp) (Nat.le_refl _) (fun h => absurd rfl h)
  have ht : TreeV w (Lfc.piCh 1) (.agg #[.int .i64 2, S [], .int .i64 0, .slice (some ⟨g, 0, none⟩) 2 2]) := TreeV.mk (ts := [.node 4 [113] 0 [], Lfc.piCh 0]) (by simp) (Nat.le_refl _) (fun _ => by
    obtain ⟨a0, a1, a2, a3, ea, ha⟩ := hc
    obtain ⟨b0, b1, b2, b3, eb, hb⟩ := hq
    cases ea
    cases eb
    refine ⟨g, 0, rfl, lt_of_block h, ?_⟩
    rw [TreesO, TreesO, TreesO]
    exact ⟨⟨_, _, _, _, Lib.cell_of_heap h 0, Lib.cell_of_heap h 1, Lib.cell_of_heap h 2, Lib.cell_of_heap h 3, ha⟩, ⟨_, _, _, _, Lib.cell_of_heap h 4, Lib.cell_of_heap h 5, Lib.cell_of_heap h 6, Lib.cell_of_heap h 7, hb⟩, trivial⟩)
  have hE : (Lfc.Ord.node 1 1 []).expE 0 1 = 0 := by decide
  have hM : (Lfc.Ord.node 1 1 []).mv (0 - 1) = .node 1 0 [] := by rw [Lfc.Ord.mv]; rfl
  have := oExplicit_any (.node 1 1 []) _ 1 0 [112] 2 0 [] (some ⟨g, 0, none⟩) 2 2 w (by rw [Lfc.Ord.size, Lfc.Ord.sizes]; omega) (by decide) (by omega) (by omega) (by omega) (ord_arg w 1) ht
  refine this.mono ?_
  rintro e w' ⟨⟨v', rfl, hv⟩, hb⟩
  simp only [Int.natCast_one] at hv ⊢
  rw [if_pos hE, hM] at hv
  obtain ⟨A, c, rfl, hp⟩ := hv.open_
  refine ⟨⟨A, c, by rw [hE]; rfl, ?_⟩, hb⟩
  exact OrdVP.toV ⟨_, _, _, rfl, hp⟩

set_option maxRecDepth 100000 in
set_option maxHeartbeats 16000000 in
theorem oAwake_any (w : World) : Calls Tryz.prog 10 #[] w fun e w' => e = .returned (.bool true) ∧ Below w.heap.size w w' := by
  obtain ⟨w1, hw1⟩ : ∃ w1, w.alloc (.cells #[.int .i64 5, S [], .int .i64 0, .slice none 0 0] 51) = w1 := ⟨_, rfl⟩
  obtain ⟨w2, hw2⟩ : ∃ w2, w1.alloc (.cells #[.int .i64 5, S [], .int .i64 0, .slice none 0 0] 51) = w2 := ⟨_, rfl⟩
  obtain ⟨w3, hw3⟩ : ∃ w3, w2.alloc (.cells #[.int .i64 4, S [115], .int .i64 0, .slice (some ⟨w1.heap.size, 0, none⟩) 1 1] 51) = w3 := ⟨_, rfl⟩
  obtain ⟨w4, hw4⟩ : ∃ w4, w3.alloc (.cells #[.int .i64 1] 3) = w4 := ⟨_, rfl⟩
  obtain ⟨w5, hw5⟩ : ∃ w5, w4.alloc (.cells #[.int .i64 1, .int .i64 0, .slice none 0 0] 26) = w5 := ⟨_, rfl⟩
  have al : ∀ (W W' : World) (o : Obj), W.alloc o = W' → Below W.heap.size W W' ∧ W'.heap[W.heap.size]? = some o ∧ W'.heap.size = W.heap.size + 1 := fun W W' o h => by
    subst h
    exact ⟨(Below.refl _ _).alloc (Nat.le_refl _) _, heap_alloc_new _ _, by simp⟩
  have AL := Lib.hid al
  obtain ⟨b1, q1, n1⟩ := al _ _ _ hw1
  obtain ⟨b2, q2, n2⟩ := al _ _ _ hw2
  obtain ⟨b3, q3, n3⟩ := al _ _ _ hw3
  obtain ⟨b4, q4, n4⟩ := al _ _ _ hw4
  obtain ⟨b5, q5, n5⟩ := al _ _ _ hw5
  have b35 : Below w3.heap.size w3 w5 := b4.trans (b5.mono (by omega))
  have b25 : Below w2.heap.size w2 w5 := b3.trans (b35.mono (by omega))
  have b15 : Below w1.heap.size w1 w5 := b2.trans (b25.mono (by omega))
  have b05 : Below w.heap.size w w5 := b1.trans (b15.mono (by omega))
  have Q1 := Lib.hid ((b15.block _ (by omega)).trans q1)
  have Q2 := Lib.hid ((b25.block _ (by omega)).trans q2)
  have Q3 := Lib.hid ((b35.block _ (by omega)).trans q3)
  have Q4 := Lib.hid ((b5.block _ (by omega)).trans q4)
  have Q5 := Lib.hid q5
  have B05 := Lib.hid b05
  have l1 : w.heap.size < w5.heap.size := by omega
  have l2 : w1.heap.size < w5.heap.size := by omega
  have l3 : w2.heap.size < w5.heap.size := by omega
  have l4 : w3.heap.size < w5.heap.size := by omega
  have l5 : w4.heap.size < w5.heap.size := by omega
  have NB : Hid (Below w.heap.size w w5 ∧ w.heap.size ≤ w5.heap.size) := Lib.hid ⟨b05, by omega⟩
  have H1 := Lib.hid hw1
  have H3 := Lib.hid hw3
  have H5 := Lib.hid hw5
  have Y1 := cells4t q1
  have FO : Hid (∀ W, Below w5.heap.size w5 W → W.cell? ⟨w4.heap.size, 0, none⟩ = some (.int .i64 1) ∧ W.cell? ⟨w4.heap.size, 1, none⟩ = some (.int .i64 0) ∧ W.cell? ⟨w4.heap.size, 2, none⟩ = some (.slice none 0 0)) := Lib.hid (fun W h => cells3o ((h.block _ l5).trans Q5.out))
  have FX : Hid (∀ W, Below w5.heap.size w5 W → W.cell? ⟨w.heap.size, 0, none⟩ = some (.int .i64 5) ∧ W.cell? ⟨w.heap.size, 1, none⟩ = some (S []) ∧ W.cell? ⟨w.heap.size, 2, none⟩ = some (.int .i64 0) ∧ W.cell? ⟨w.heap.size, 3, none⟩ = some (.slice none 0 0)) := Lib.hid (fun W h => cells4t ((h.block _ l1).trans Q1.out))
  have FS : Hid (∀ W, Below w5.heap.size w5 W → W.cell? ⟨w2.heap.size, 0, none⟩ = some (.int .i64 4) ∧ W.cell? ⟨w2.heap.size, 1, none⟩ = some (S [115]) ∧ W.cell? ⟨w2.heap.size, 2, none⟩ = some (.int .i64 0) ∧ W.cell? ⟨w2.heap.size, 3, none⟩ = some (.slice (some ⟨w1.heap.size, 0, none⟩) 1 1)) := Lib.hid (fun W h => cells4t ((h.block _ l3).trans Q3.out))
  have VS : Hid (∀ W, Below w5.heap.size w5 W → TreeV W Lfc.awS (.agg #[.int .i64 4, S [115], .int .i64 0, .slice (some ⟨w1.heap.size, 0, none⟩) 1 1])) := Lib.hid (fun W h => aws_v ((h.block _ l2).trans Q2.out))
  have VK : Hid (∀ W, Below w5.heap.size w5 W → IntsO W (some ⟨w3.heap.size, 0, none⟩) [1]) := Lib.hid (fun W h => ints_one ((h.block _ l4).trans Q4.out))
  obtain ⟨y0, y1, y2, y3⟩ := Y1
  clear b1 b2 b3 b4 b5 b35 b25 b15 b05 q1 q2 q3 q4 q5 n1 n2 n3 n4 n5 al hw1 hw3 hw5
  have B0 : Hid (Below w5.heap.size w5 w5) := Lib.hid (Below.refl _ _)
  go_enter Tryz.func10, Tryz.ntmps10
  go_upto_region 2 with fail
  rw [H1.out]
  go_upto_region 3 with fail
  rw [H3.out]
  go_upto_region 5 with fail
  rw [H5.out]
  clear y0 y1 y2 y3 H1 H3 H5 hw2 hw4
  obtain ⟨wa0, hwa0⟩ : ∃ wa, w5.alloc (.cells #[.int .i64 5, S [], .int .i64 0, .slice none 0 0] 51) = wa := ⟨_, rfl⟩
  obtain ⟨wb0, hwb0⟩ : ∃ wb, wa0.alloc (.cells #[.int .i64 4, S [115], .int .i64 0, .slice (some ⟨w1.heap.size, 0, none⟩) 1 1] 51) = wb := ⟨_, rfl⟩
  obtain ⟨ba, qa, na⟩ := AL.out _ _ _ hwa0
  obtain ⟨bb, qb, nb⟩ := AL.out _ _ _ hwb0
  have bA := B0.out.trans (ba.mono B0.out.size)
  have bB := bA.trans (bb.mono bA.size)
  obtain ⟨o0, o1, o2⟩ := FO.out _ B0.out
  obtain ⟨x0, x1, x2, x3⟩ := FX.out _ B0.out
  obtain ⟨r0, r1, r2⟩ := FO.out _ bA
  obtain ⟨z0, z1, z2, z3⟩ := FS.out _ bA
  have CH := Lib.hid (aw_h1 w5.heap.size wa0.heap.size (some ⟨w3.heap.size, 0, none⟩) wb0 (VK.out _ bB) (treesAt_new (ts := []) ((bb.block _ (by omega)).trans qa) (awx_v wb0)) (treesAt_new (ts := [Lfc.awX]) qb (VS.out wb0 bB)))
  have BB := Lib.hid bB
  clear ba qa na bb qb nb bA bB
  go_wp2_with fail
  refine CH.out.mono ?_
  rintro e v0 ⟨rfl, bc⟩
  have B1 := Lib.hid (BB.out.trans (bc.mono BB.out.size))
  clear bc CH BB hwa0 hwb0 o0 o1 o2 x0 x1 x2 x3 r0 r1 r2 z0 z1 z2 z3
  obtain ⟨wa1, hwa1⟩ : ∃ wa, v0.alloc (.cells #[.int .i64 4, S [115], .int .i64 0, .slice (some ⟨w1.heap.size, 0, none⟩) 1 1] 51) = wa := ⟨_, rfl⟩
  obtain ⟨wb1, hwb1⟩ : ∃ wb, wa1.alloc (.cells #[.int .i64 5, S [], .int .i64 0, .slice none 0 0] 51) = wb := ⟨_, rfl⟩
  obtain ⟨ba, qa, na⟩ := AL.out _ _ _ hwa1
  obtain ⟨bb, qb, nb⟩ := AL.out _ _ _ hwb1
  have bA := B1.out.trans (ba.mono B1.out.size)
  have bB := bA.trans (bb.mono bA.size)
  obtain ⟨o0, o1, o2⟩ := FO.out _ B1.out
  obtain ⟨x0, x1, x2, x3⟩ := FS.out _ B1.out
  obtain ⟨r0, r1, r2⟩ := FO.out _ bA
  obtain ⟨z0, z1, z2, z3⟩ := FX.out _ bA
  have CH := Lib.hid (aw_h2 v0.heap.size wa1.heap.size (some ⟨w3.heap.size, 0, none⟩) wb1 (VK.out _ bB) (treesAt_new (ts := [Lfc.awX]) ((bb.block _ (by omega)).trans qa) (VS.out wb1 bB)) (treesAt_new (ts := []) qb (awx_v wb1)))
  have BB := Lib.hid bB
  clear ba qa na bb qb nb bA bB
  go_wp2_with fail
  refine CH.out.mono ?_
  rintro e v1 ⟨rfl, bc⟩
  have B2 := Lib.hid (BB.out.trans (bc.mono BB.out.size))
  clear bc CH BB hwa1 hwb1 o0 o1 o2 x0 x1 x2 x3 r0 r1 r2 z0 z1 z2 z3
  obtain ⟨x0, x1, x2, x3⟩ := FX.out _ B2.out
  obtain ⟨z0, z1, z2, z3⟩ := FS.out _ B2.out
  have CH := Lib.hid (aw_path (some ⟨w3.heap.size, 0, none⟩) v1 _ (VK.out _ B2.out) (VS.out _ B2.out))
  go_wp2_with fail
  refine CH.out.mono ?_
  rintro e v2 ⟨⟨Ap, cp, rfl⟩, bc⟩
  have B3 := Lib.hid (B2.out.trans (bc.mono B2.out.size))
  clear bc CH x0 x1 x2 x3 z0 z1 z2 z3
  obtain ⟨wa3, hwa3⟩ : ∃ wa, v2.alloc (.cells #[.int .i64 5, S [], .int .i64 0, .slice none 0 0] 51) = wa := ⟨_, rfl⟩
  obtain ⟨wb3, hwb3⟩ : ∃ wb, wa3.alloc (.cells #[.int .i64 4, S [115], .int .i64 0, .slice (some ⟨w1.heap.size, 0, none⟩) 1 1] 51) = wb := ⟨_, rfl⟩
  obtain ⟨ba, qa, na⟩ := AL.out _ _ _ hwa3
  obtain ⟨bb, qb, nb⟩ := AL.out _ _ _ hwb3
  have bA := B3.out.trans (ba.mono B3.out.size)
  have bB := bA.trans (bb.mono bA.size)
  obtain ⟨o0, o1, o2⟩ := FO.out _ B3.out
  obtain ⟨x0, x1, x2, x3⟩ := FX.out _ B3.out
  obtain ⟨r0, r1, r2⟩ := FO.out _ bA
  obtain ⟨z0, z1, z2, z3⟩ := FS.out _ bA
  have CH := Lib.hid (aw_p v2.heap.size wa3.heap.size (some ⟨w3.heap.size, 0, none⟩) wb3 (VK.out _ bB) (treesAt_new (ts := []) ((bb.block _ (by omega)).trans qa) (awx_v wb3)) (treesAt_new (ts := [Lfc.awX]) qb (VS.out wb3 bB)))
  have BB := Lib.hid bB
  clear ba qa na bb qb nb bA bB
  go_wp2_with fail
  refine CH.out.mono ?_
  rintro e v3 ⟨⟨Al, cl, Bl, dl, rfl, hl⟩, bc⟩
  have B4 := Lib.hid (BB.out.trans (bc.mono BB.out.size))
  clear bc CH BB hwa3 hwb3 o0 o1 o2 x0 x1 x2 x3 r0 r1 r2 z0 z1 z2 z3
  obtain ⟨w8, hw8⟩ : ∃ w8, v3.alloc (.cells #[.int .i64 0, .slice none 0 0, .slice Al 1 cl, .slice Bl 0 dl] 39) = w8 := ⟨_, rfl⟩
  obtain ⟨w9, hw9⟩ : ∃ w9, w8.alloc (.cells #[.int .i64 4, S [113], .int .i64 0, .slice none 0 0, .int .i64 1, S [], .int .i64 0, .slice none 0 0] 51) = w9 := ⟨_, rfl⟩
  obtain ⟨wd, hwd⟩ : ∃ wd, w9.alloc (.cells #[S [112], .int .i64 2, S [], .int .i64 0, .slice (some ⟨w8.heap.size, 0, none⟩) 2 2, .int .i64 0] 75) = wd := ⟨_, rfl⟩
  obtain ⟨b8, q8, n8⟩ := AL.out _ _ _ hw8
  obtain ⟨b9, q9, n9⟩ := AL.out _ _ _ hw9
  obtain ⟨bd, qd, nd⟩ := AL.out _ _ _ hwd
  have HL := Lib.hid hl
  have b3d : Below v3.heap.size v3 wd := (b8.trans (b9.mono b8.size)).trans (bd.mono (Nat.le_trans b8.size b9.size))
  have BD : Hid (Below w5.heap.size w5 wd) := Lib.hid (B4.out.trans (b3d.mono B4.out.size))
  have QP := Lib.hid (((b9.trans (bd.mono b9.size)).block _ (by omega)).trans q8)
  have QT := Lib.hid ((bd.block _ (by omega)).trans q9)
  have l8 : v3.heap.size < wd.heap.size := by omega
  have L3D := Lib.hid b3d
  have H8 := Lib.hid hw8
  have HD := Lib.hid hwd
  obtain ⟨x0, x1, x2, x3, x4, x5⟩ := cells6d qd
  have CE := Lib.hid (aw_exp w8.heap.size wd QT.out)
  clear hl hw8 hwd b8 q8 n8 b9 q9 n9 bd qd nd b3d
  go_upto_region 9 with fail
  rw [H8.out]
  go_upto_region 10 with fail
  rw [HD.out]
  clear hw9
  go_wp2_with fail
  refine CE.out.mono ?_
  rintro e v4 ⟨⟨Ae, ce, rfl, hoe⟩, bc⟩
  obtain ⟨wE, hwE⟩ : ∃ wE, v4.alloc (.cells #[.int .i64 1, .int .i64 0, .slice Ae 0 ce] 26) = wE := ⟨_, rfl⟩
  obtain ⟨bE, qE, nE⟩ := AL.out _ _ _ hwE
  have hb4 := BD.out.trans (bc.mono BD.out.size)
  have hb5 := hb4.trans (bE.mono hb4.size)
  have hbd := bc.trans (bE.mono bc.size)
  have HB5 := Lib.hid hb5
  have HOE := Lib.hid (hoe.below bE)
  have QE := Lib.hid qE
  have HLE := Lib.hid ((HL.out.below L3D.out).below hbd)
  have QPE := Lib.hid ((hbd.block _ l8).trans QP.out)
  have l9 : v4.heap.size < wE.heap.size := by omega
  have l10 : v3.heap.size < wE.heap.size := Nat.lt_of_lt_of_le l8 hbd.size
  have HE := Lib.hid hwE
  have UP : Hid (∀ W, Below wE.heap.size wE W → Below w.heap.size w W) := Lib.hid (fun W hb => by
    have h5 := HB5.out.trans (hb.mono HB5.out.size)
    exact NB.out.1.trans (h5.mono NB.out.2))
  have UQ : ∀ W, Below wE.heap.size wE W → Below w5.heap.size w5 W := fun W hb => HB5.out.trans (hb.mono HB5.out.size)
  have SC : Hid (∀ W, Below wE.heap.size wE W → (W.cell? ⟨w4.heap.size, 0, none⟩ = some (.int .i64 1) ∧ W.cell? ⟨w4.heap.size, 1, none⟩ = some (.int .i64 0) ∧ W.cell? ⟨w4.heap.size, 2, none⟩ = some (.slice none 0 0)) ∧ (W.cell? ⟨w.heap.size, 0, none⟩ = some (.int .i64 5) ∧ W.cell? ⟨w.heap.size, 1, none⟩ = some (S []) ∧ W.cell? ⟨w.heap.size, 2, none⟩ = some (.int .i64 0) ∧ W.cell? ⟨w.heap.size, 3, none⟩ = some (.slice none 0 0)) ∧ (W.cell? ⟨w2.heap.size, 0, none⟩ = some (.int .i64 4) ∧ W.cell? ⟨w2.heap.size, 1, none⟩ = some (S [115]) ∧ W.cell? ⟨w2.heap.size, 2, none⟩ = some (.int .i64 0) ∧ W.cell? ⟨w2.heap.size, 3, none⟩ = some (.slice (some ⟨w1.heap.size, 0, none⟩) 1 1)) ∧ (W.cell? ⟨v3.heap.size, 0, none⟩ = some (.int .i64 0) ∧ W.cell? ⟨v3.heap.size, 1, none⟩ = some (.slice none 0 0) ∧ W.cell? ⟨v3.heap.size, 2, none⟩ = some (.slice Al 1 cl) ∧ W.cell? ⟨v3.heap.size, 3, none⟩ = some (.slice Bl 0 dl)) ∧ (W.cell? ⟨v4.heap.size, 0, none⟩ = some (.int .i64 1) ∧ W.cell? ⟨v4.heap.size, 1, none⟩ = some (.int .i64 0) ∧ W.cell? ⟨v4.heap.size, 2, none⟩ = some (.slice Ae 0 ce))) := Lib.hid (fun W hb => ⟨FO.out W (UQ W hb), FX.out W (UQ W hb), FS.out W (UQ W hb), cells4t ((hb.block _ l10).trans QPE.out), cells3o ((hb.block _ l9).trans QE.out)⟩)
  have BV : Hid (∀ W, Below wE.heap.size wE W → LinksP (fun b => wb3.heap.size ≤ b) W Al [⟨1, Lfc.awS, [0], 0⟩]) := Lib.hid (fun W hb => HLE.out.below hb)
  have CF1 : Hid (∀ W, Below wE.heap.size wE W → ∀ {g : Nat}, IntsO W (some ⟨g, 0, none⟩) [0] → Calls Tryz.prog 32 #[.agg #[.int .i64 5, S [], .int .i64 0, .slice none 0 0], .agg #[.int .i64 4, S [115], .int .i64 0, .slice (some ⟨w1.heap.size, 0, none⟩) 1 1], .slice (some ⟨g, 0, none⟩) 1 1, .slice (some ⟨w3.heap.size, 0, none⟩) 1 1] W fun e w' => e = .returned (.bool true) ∧ Below W.heap.size W w') := Lib.hid (fun W hb g hi => aw_f [0] true (some ⟨w3.heap.size, 0, none⟩) (some ⟨g, 0, none⟩) 1 W _ (by simp) Lfc.aw_fits (VK.out _ (UQ _ hb)) hi (VS.out _ (UQ _ hb)))
  have CF2 : Hid (∀ W, Below wE.heap.size wE W → Calls Tryz.prog 32 #[.agg #[.int .i64 5, S [], .int .i64 0, .slice none 0 0], .agg #[.int .i64 4, S [115], .int .i64 0, .slice (some ⟨w1.heap.size, 0, none⟩) 1 1], .slice none 0 0, .slice (some ⟨w3.heap.size, 0, none⟩) 1 1] W fun e w' => e = .returned (.bool false) ∧ Below W.heap.size W w') := Lib.hid (fun W hb => aw_f [] false (some ⟨w3.heap.size, 0, none⟩) none 0 W _ (by simp) Lfc.aw_fits2 (VK.out _ (UQ _ hb)) (fun h => absurd rfl h) (VS.out _ (UQ _ hb)))
  have CV1 : Hid (∀ W, Below wE.heap.size wE W → Calls Tryz.prog 33 #[.agg #[.int .i64 1, .int .i64 0, .slice none 0 0], .int .i64 1] W fun e w' => e = .returned (.int .i64 0) ∧ Below W.heap.size W w') := Lib.hid (fun W hb => aw_val 1 0 W (by omega) (by decide))
  have CV0 : Hid (∀ W, Below wE.heap.size wE W → Calls Tryz.prog 33 #[.agg #[.int .i64 1, .int .i64 0, .slice none 0 0], .int .i64 0] W fun e w' => e = .returned (.int .i64 5) ∧ Below W.heap.size W w') := Lib.hid (fun W hb => aw_val 0 5 W (by omega) (by decide))
  have CS : Hid (∀ W, Below wE.heap.size wE W → Calls Tryz.prog 34 #[.agg #[.int .i64 1, .int .i64 0, .slice none 0 0], .agg #[.int .i64 1, .int .i64 0, .slice Ae 0 ce]] W fun e w' => e = .returned (.bool true) ∧ Below W.heap.size W w') := Lib.hid (fun W hb => aw_shp Ae ce W (HOE.out.below hb))
  obtain ⟨wa, hwa⟩ : ∃ wa, wE.alloc (.cells #[.int .i64 5, S [], .int .i64 0, .slice none 0 0] 51) = wa := ⟨_, rfl⟩
  obtain ⟨wb, hwb⟩ : ∃ wb, wa.alloc (.cells #[.int .i64 4, S [115], .int .i64 0, .slice (some ⟨w1.heap.size, 0, none⟩) 1 1] 51) = wb := ⟨_, rfl⟩
  obtain ⟨ba, qa, na⟩ := AL.out _ _ _ hwa
  obtain ⟨bb, qb, nb⟩ := AL.out _ _ _ hwb
  have bA : Below wE.heap.size wE wa := ba
  have bB := bA.trans (bb.mono bA.size)
  have CH := Lib.hid (aw_v _ Al Bl cl dl wE.heap.size wa.heap.size (some ⟨w3.heap.size, 0, none⟩) wb (VK.out _ (UQ _ bB)) (treesAt_new (ts := []) ((bb.block _ (by omega)).trans qa) (awx_v wb)) (treesAt_new (ts := [Lfc.awX]) qb (VS.out _ (UQ _ bB))) (BV.out _ bB))
  obtain ⟨⟨o0, o1, o2⟩, ⟨y0, y1, y2, y3⟩, _⟩ := SC.out _ (Below.refl _ _)
  obtain ⟨⟨r0, r1, r2⟩, _, ⟨z0, z1, z2, z3⟩, _⟩ := SC.out _ bA
  obtain ⟨_, _, _, ⟨p0, p1, p2, p3⟩, _⟩ := SC.out _ bB
  have BB := Lib.hid bB
  clear hwE bE qE nE hb4 hb5 hbd bc hoe x0 x1 x2 x3 x4 x5 CE UQ l1 l2 l3 l4 l5 l8 l9 l10 FO FX FS VS VK HL HLE QP QPE QT QE HOE L3D BD B0 B1 B2 B3 B4 NB B05 Q1 Q2 Q3 Q4 Q5 AL H8 HD HB5 ba qa na bb qb nb bA bB
  go_upto_region 11 with fail
  rw [HE.out]
  clear HE
  go_wp2_with fail
  refine CH.out.mono ?_
  rintro e u0 ⟨rfl, bc0⟩
  have e0 := BB.out.trans (bc0.mono BB.out.size)
  obtain ⟨uz, huz⟩ : ∃ uz, u0.alloc (.cells #[.int .i64 0] 3) = uz := ⟨_, rfl⟩
  have bz : Below u0.heap.size u0 uz := by rw [← huz]; exact (Below.refl _ _).alloc (Nat.le_refl _) _
  have ez := e0.trans (bz.mono e0.size)
  have CH1 := Lib.hid (CF1.out _ ez (g := u0.heap.size) (ints_one (by rw [← huz]; exact heap_alloc_new _ _)))
  have EZ := Lib.hid ez
  clear o0 o1 o2 y0 y1 y2 y3 r0 r1 r2 z0 z1 z2 z3 p0 p1 p2 p3 hwa hwb CH BB bc0
  obtain ⟨_, ⟨y0, y1, y2, y3⟩, ⟨z0, z1, z2, z3⟩, _⟩ := SC.out _ e0
  clear e0 bz ez
  go_wp2_with fail
  refine CH1.out.mono ?_
  rintro e u1 ⟨rfl, bc1⟩
  have e1 := Lib.hid (EZ.out.trans (bc1.mono EZ.out.size))
  clear y0 y1 y2 y3 z0 z1 z2 z3 bc1 EZ huz CH1
  obtain ⟨_, ⟨y0, y1, y2, y3⟩, ⟨z0, z1, z2, z3⟩, _⟩ := SC.out _ e1.out
  go_wp2_with fail
  refine (CF2.out _ e1.out).mono ?_
  rintro e u2 ⟨rfl, bc1⟩
  have e2 := Lib.hid (e1.out.trans (bc1.mono e1.out.size))
  clear y0 y1 y2 y3 z0 z1 z2 z3 bc1
  obtain ⟨⟨o0, o1, o2⟩, _, _, _, ⟨r0, r1, r2⟩⟩ := SC.out _ e2.out
  go_wp2_with fail
  refine (CV1.out _ e2.out).mono ?_
  rintro e u3 ⟨rfl, bc1⟩
  have e3 := Lib.hid (e2.out.trans (bc1.mono e2.out.size))
  clear o0 o1 o2 r0 r1 r2 bc1
  obtain ⟨⟨o0, o1, o2⟩, _, _, _, ⟨r0, r1, r2⟩⟩ := SC.out _ e3.out
  go_wp2_with fail
  refine (CV0.out _ e3.out).mono ?_
  rintro e u4 ⟨rfl, bc1⟩
  have e4 := Lib.hid (e3.out.trans (bc1.mono e3.out.size))
  clear o0 o1 o2 r0 r1 r2 bc1
  obtain ⟨⟨o0, o1, o2⟩, _, _, _, ⟨r0, r1, r2⟩⟩ := SC.out _ e4.out
  go_wp2_with fail
  refine (CS.out _ e4.out).mono ?_
  rintro e u5 ⟨rfl, bc1⟩
  have e5 := Lib.hid (e4.out.trans (bc1.mono e4.out.size))
  clear o0 o1 o2 r0 r1 r2 bc1
  go_wp2_with fail
  go_ret
  exact ⟨rfl, UP.out _ e5.out⟩
end Go.Proofs.YtadjpadieljjlaaGreat

/- The walk of the law OrderSmaller. -/
set_option linter.unusedVariables false
set_option linter.unusedSimpArgs false
namespace Go.Proofs.YtadjpadieljjlaaGreat
open Go.RowKit Go.Maps
theorem tape_new2 {w : World} {A : Option Addr} {c : Nat} {zs : List Int} (h : IntsAt w (.slice A zs.length c) zs) : TapeI w.heap.size (w.alloc (.cells #[.slice A zs.length c, .int .i64 0] 33)) := by
  obtain ⟨A', c', e, h1, h2⟩ := h
  cases e
  refine ⟨⟨A, zs.length, c, 0, heap_alloc_new _ _, Nat.zero_le _, h1, fun hp => ?_⟩⟩
  obtain ⟨b, o, hA, hlt, hc⟩ := h2 hp
  exact ⟨b, o, hA, hlt, fun k hk => ⟨_, (((Below.refl w.heap.size w).alloc (Nat.le_refl _) _).cell (p := ⟨b, o + k, none⟩) hlt).trans (hc k hk)⟩⟩
theorem treesAt_two {w : World} {g : Nat} {k p k' p' : Int} {n n' : List UInt8} {ts ts' : List Lfc.Raw} {A A' : Option Addr} {c c' : Nat} (h : w.heap[g]? = some (.cells #[.int .i64 k, S n, .int .i64 p, .slice A ts.length c, .int .i64 k', S n', .int .i64 p', .slice A' ts'.length c'] 51 (0, 0))) (ht : TreeV w (.node k n p ts) (.agg #[.int .i64 k, S n, .int .i64 p, .slice A ts.length c])) (hu : TreeV w (.node k' n' p' ts') (.agg #[.int .i64 k', S n', .int .i64 p', .slice A' ts'.length c'])) : TreesAt w (some ⟨g, 0, none⟩) [.node k n p ts, .node k' n' p' ts'] := fun _ => by
  obtain ⟨v0, v1, v2, v3, e, htc⟩ := ht
  cases e
  obtain ⟨v0, v1, v2, v3, e, huc⟩ := hu
  cases e
  refine ⟨g, 0, rfl, lt_of_block h, ?_⟩
  rw [TreesO, TreesO, TreesO]
  exact ⟨⟨_, _, _, _, Lib.cell_of_heap h 0, Lib.cell_of_heap h 1, Lib.cell_of_heap h 2, Lib.cell_of_heap h 3, htc⟩, ⟨_, _, _, _, Lib.cell_of_heap h 4, Lib.cell_of_heap h 5, Lib.cell_of_heap h 6, Lib.cell_of_heap h 7, huc⟩, trivial⟩
set_option maxRecDepth 100000 in
set_option maxHeartbeats 16000000 in
theorem orderSmaller_walk (v0 : Value) (zs : List Int) (w : World) (i0 : IntsAt w v0 zs) :
    Calls Tryz.prog 4 #[v0] w fun e w' => e = .returned (.bool true) ∧ Below w.heap.size w w' := by
  obtain ⟨AT, cT, rfl⟩ : ∃ A c, v0 = .slice A zs.length c := by obtain ⟨A, c, h, _⟩ := i0; exact ⟨A, c, h⟩
  obtain ⟨w1, hw1⟩ : ∃ w1, w.alloc (.cells #[.slice AT zs.length cT, .int .i64 0] 33) = w1 := ⟨_, rfl⟩
  have b1 : Below w.heap.size w w1 := by rw [← hw1]; exact (Below.refl _ _).alloc (Nat.le_refl _) _
  have t1 := tape_new2 i0
  rw [hw1] at t1
  have l1 : w.heap.size < w1.heap.size := t1.lt
  have B1 := Lib.hid b1
  have T1 := Lib.hid t1
  clear t1 b1 i0
  go_enter Tryz.func4, Tryz.ntmps4
  go_wp2_with fail
  refine (mKinds_any w.heap.size w1 T1.out).mono ?_
  rintro e w2 ⟨ks, A0, c0, rfl, hks, HK⟩
  have T2 := Lib.hid HK.tape
  have O2 := Lib.hid HK.oth
  have HI := Lib.hid HK.ints
  have hs2 := HK.oth.size
  clear HK hw1
  go_wp2_with fail
  refine (mPair_any w.heap.size ks A0 c0 w2 (by omega) T2.out).mono ?_
  rintro e w3 ⟨⟨x, u, vx, vu, rfl, hvx, hvu, hsx, hsu⟩, T3, o3⟩
  obtain ⟨kx, nx, px, xs, hx⟩ := Lfc.Raw.ex x
  obtain ⟨ku, nu, pu, us, hu⟩ := Lfc.Raw.ex u
  rw [hx] at hvx hsx
  rw [hu] at hvu hsu
  obtain ⟨Ax, cx, rfl, hPx⟩ := hvx.openT
  obtain ⟨Au, cu, rfl, hPu⟩ := hvu.openT
  have hs3 := o3.size
  obtain ⟨w4, hw4⟩ : ∃ w4, (w3.alloc (.cells #[.int .i64 kx, S nx, .int .i64 px, .slice Ax xs.length cx] 51)).alloc (.cells #[.int .i64 ku, S nu, .int .i64 pu, .slice Au us.length cu] 51) = w4 := ⟨_, rfl⟩
  have b34 : Below w3.heap.size w3 w4 := by rw [← hw4]; exact ((Below.refl _ _).alloc (Nat.le_refl _) _).alloc (by simp) _
  have qx : w4.heap[w3.heap.size]? = some (.cells #[.int .i64 kx, S nx, .int .i64 px, .slice Ax xs.length cx] 51 (0, 0)) := by rw [← hw4]; exact (Lib.alloc_old _ _ _ (by simp)).trans (heap_alloc_new _ _)
  have qu : w4.heap[w3.heap.size + 1]? = some (.cells #[.int .i64 ku, S nu, .int .i64 pu, .slice Au us.length cu] 51 (0, 0)) := by
    rw [← hw4]
    have := heap_alloc_new (w3.alloc (.cells #[.int .i64 kx, S nx, .int .i64 px, .slice Ax xs.length cx] 51)) (.cells #[.int .i64 ku, S nu, .int .i64 pu, .slice Au us.length cu] 51)
    simpa using this
  have lx := lt_of_block qx
  have lu := lt_of_block qu
  have B4 : Hid (Below w.heap.size w w4) := Lib.hid (Oth.below (Oth.below B1.out O2.out (Nat.le_refl _) (by omega)) o3 (Nat.le_refl _) (by omega) |>.trans (b34.mono (by omega)))
  have IK : Hid (IntsO w4 A0 ks) := Lib.hid ((HI.out.keep (q' := fun _ => True) (fun b hb hlt => o3.block b hlt (fun e => by have := Option.some.inj e; have hb : w1.heap.size ≤ b := hb; omega)) o3.size (fun _ _ _ => trivial)).toO.below b34)
  have SC : Hid (∀ W, Below w4.heap.size w4 W → (W.cell? ⟨w3.heap.size, 0, none⟩ = some (.int .i64 kx) ∧ W.cell? ⟨w3.heap.size, 1, none⟩ = some (S nx) ∧ W.cell? ⟨w3.heap.size, 2, none⟩ = some (.int .i64 px) ∧ W.cell? ⟨w3.heap.size, 3, none⟩ = some (.slice Ax xs.length cx)) ∧ (W.cell? ⟨w3.heap.size + 1, 0, none⟩ = some (.int .i64 ku) ∧ W.cell? ⟨w3.heap.size + 1, 1, none⟩ = some (S nu) ∧ W.cell? ⟨w3.heap.size + 1, 2, none⟩ = some (.int .i64 pu) ∧ W.cell? ⟨w3.heap.size + 1, 3, none⟩ = some (.slice Au us.length cu))) := Lib.hid (fun W hb => ⟨cells4t ((hb.block _ lx).trans qx), cells4t ((hb.block _ lu).trans qu)⟩)
  have VX : Hid (∀ W, Below w4.heap.size w4 W → TreeV W (Lfc.Raw.node kx nx px xs) (.agg #[.int .i64 kx, S nx, .int .i64 px, .slice Ax xs.length cx])) := Lib.hid (fun W hb => (hvx.toV.below b34).below hb)
  have VU : Hid (∀ W, Below w4.heap.size w4 W → TreeV W (Lfc.Raw.node ku nu pu us) (.agg #[.int .i64 ku, S nu, .int .i64 pu, .slice Au us.length cu])) := Lib.hid (fun W hb => (hvu.toV.below b34).below hb)
  have UP : Hid (∀ W, Below w4.heap.size w4 W → Below w.heap.size w W) := Lib.hid (fun W hb => B4.out.trans (hb.mono B4.out.size))
  have aw : ∀ W W', Below w4.heap.size w4 W → Below W.heap.size W W' → Below w4.heap.size w4 W' := fun W W' h h' => h.trans (h'.mono h.size)
  have H4 := Lib.hid hw4
  have SZ := Lib.hid (And.intro hsx hsu)
  have G0 : Below w4.heap.size w4 w4 := Below.refl _ _
  have CP : Hid (∀ W, Below w4.heap.size w4 W → Calls Tryz.prog 20 #[(.agg #[.int .i64 kx, S nx, .int .i64 px, .slice Ax xs.length cx]), (.agg #[.int .i64 ku, S nu, .int .i64 pu, .slice Au us.length cu]), .slice A0 ks.length c0] W (PathAns W (Lfc.Raw.path ks (Lfc.Raw.node kx nx px xs) (Lfc.Raw.node ku nu pu us)))) := Lib.hid (fun W hb => oPath_any _ _ _ _ ks A0 c0 W (by omega) (by have := SZ.out; omega) (by have := SZ.out; omega) (IK.out.below hb) (VX.out W hb) (VU.out W hb))
  have C5x : Hid (∀ W, Below w4.heap.size w4 W → Calls Tryz.prog 21 #[(.agg #[.int .i64 kx, S nx, .int .i64 px, .slice Ax xs.length cx])] W fun e w' => e = .returned (.int .i64 ((Lfc.Raw.node kx nx px xs).size : Int)) ∧ Below W.heap.size W w') := Lib.hid (fun W hb => sSize_any _ _ _ W (Nat.le_refl _) (by have := SZ.out; omega) (VX.out W hb))
  have C5u : Hid (∀ W, Below w4.heap.size w4 W → Calls Tryz.prog 21 #[(.agg #[.int .i64 ku, S nu, .int .i64 pu, .slice Au us.length cu])] W fun e w' => e = .returned (.int .i64 ((Lfc.Raw.node ku nu pu us).size : Int)) ∧ Below W.heap.size W w') := Lib.hid (fun W hb => sSize_any _ _ _ W (Nat.le_refl _) (by have := SZ.out; omega) (VU.out W hb))
  have CSM : Hid (∀ W, Below w4.heap.size w4 W → Calls Tryz.prog 22 #[(.agg #[.int .i64 kx, S nx, .int .i64 px, .slice Ax xs.length cx]), (.agg #[.int .i64 ku, S nu, .int .i64 pu, .slice Au us.length cu])] W fun e w' => e = .returned (.bool (Lfc.Raw.tsm (Lfc.Raw.node kx nx px xs) (Lfc.Raw.node ku nu pu us))) ∧ Below W.heap.size W w') := Lib.hid (fun W hb => sSame_upto 1000 (by omega) _ _ _ _ W (by have := SZ.out; omega) (VX.out W hb) (VU.out W hb))
  have PL := Lib.hid (fun q (h : Lfc.Raw.path ks (Lfc.Raw.node kx nx px xs) (Lfc.Raw.node ku nu pu us) = some q) (hq : q.length ≠ 0) => Lfc.path_less h hq)
  have PM := Lib.hid (fun (h : Lfc.Raw.path ks (Lfc.Raw.node kx nx px xs) (Lfc.Raw.node ku nu pu us) = some []) => Lfc.path_same h)
  have CHO : Hid (∀ (W : World) (g h : Nat), Below w4.heap.size w4 W → W.heap[g]? = some (.cells #[.int .i64 kx, S nx, .int .i64 px, .slice Ax xs.length cx] 51 (0, 0)) → W.heap[h]? = some (.cells #[.int .i64 ku, S nu, .int .i64 pu, .slice Au us.length cu] 51 (0, 0)) → Calls Tryz.prog 16 #[.slice none 0 0, .int .i64 1, .agg #[.int .i64 1, .int .i64 0, .slice none 0 0], .slice (some ⟨g, 0, none⟩) 1 1, .agg #[.int .i64 1, .int .i64 0, .slice none 0 0], .slice (some ⟨h, 0, none⟩) 1 1, .slice A0 ks.length c0] W fun e w' => (∃ (l : Bool) (E : Int), e = .returned (.tuple #[.bool l, .int .i64 E]) ∧ (E = 0 → l = match Lfc.Raw.path ks (Lfc.Raw.node kx nx px xs) (Lfc.Raw.node ku nu pu us) with | none => false | some q => decide (q.length ≠ 0))) ∧ Below W.heap.size W w') := Lib.hid (fun W g h hb hg hh =>
    (oHolds1_any 0 0 [(Lfc.Raw.node kx nx px xs)] [(Lfc.Raw.node ku nu pu us)] (some ⟨g, 0, none⟩) (some ⟨h, 0, none⟩) A0 1 1 c0 ks W (by omega) (IK.out.below hb) (by simp) (by simp) (by simp) (by simp) (by intro y hy; have := SZ.out; simp at hy; rcases hy with rfl | rfl <;> omega) (fun h => by cases h) (fun h => by cases h) (treesAt_new hg (VX.out W hb)) (treesAt_new hh (VU.out W hb))).mono (by rintro e w' ⟨rfl, hb'⟩; exact ⟨⟨_, _, rfl, fun hE => prv_path hE⟩, hb'⟩))
  clear hvx hvu hsx hsu hPx hPu T3 o3 b34 qx qu hw4 T1 T2 O2 HI B1 B4
  go_upto_region 4 with fail
  rw [H4.out]
  clear H4
  obtain ⟨w5, hw5⟩ : ∃ w5, w4.alloc (.cells #[.int .i64 kx, S nx, .int .i64 px, .slice Ax xs.length cx, .int .i64 ku, S nu, .int .i64 pu, .slice Au us.length cu] 51) = w5 := ⟨_, rfl⟩
  have b45 : Below w4.heap.size w4 w5 := by rw [← hw5]; exact (Below.refl _ _).alloc (Nat.le_refl _) _
  have q5 : w5.heap[w4.heap.size]? = some (.cells #[.int .i64 kx, S nx, .int .i64 px, .slice Ax xs.length cx, .int .i64 ku, S nu, .int .i64 pu, .slice Au us.length cu] 51 (0, 0)) := by rw [← hw5]; exact heap_alloc_new _ _
  have CL := Lib.hid (mLight_any 300 [(Lfc.Raw.node kx nx px xs), (Lfc.Raw.node ku nu pu us)] (some ⟨w4.heap.size, 0, none⟩) 2 w5 (by simp) (by intro y hy; have := SZ.out; simp at hy; rcases hy with rfl | rfl <;> omega) (treesAt_two q5 (VX.out _ b45) (VU.out _ b45)))
  have B5 := Lib.hid b45
  obtain ⟨⟨x0, x1, x2, x3⟩, ⟨u0, u1, u2, u3⟩⟩ := SC.out w4 G0
  clear b45 q5
  go_wp2_with fail
  refine CL.out.mono ?_
  rintro e w6 ⟨⟨b, rfl⟩, b6⟩
  have b46 := aw _ _ B5.out b6
  clear x0 x1 x2 x3 u0 u1 u2 u3 hw5 CL b6
  cases b
  case false =>
    go_wp2_with fail
    refine (oAwake_any _).mono ?_
    rintro e w7 ⟨rfl, b7⟩
    go_wp2_with fail
    go_ret
    exact ⟨rfl, UP.out _ (aw _ _ b46 b7)⟩
  case true =>
    obtain ⟨⟨x0, x1, x2, x3⟩, ⟨u0, u1, u2, u3⟩⟩ := SC.out w6 b46
    generalize Lfc.Raw.path ks (Lfc.Raw.node kx nx px xs) (Lfc.Raw.node ku nu pu us) = r at *
    cases r with
    | none =>
      have HL0 : Hid (1 = 1) := Lib.hid rfl
      have CP := Lib.hid (fun W hb => (CP.out W hb).mono (fun e w' h => h.no))
      go_wp2_with fail
      refine (CP.out _ b46).mono ?_
      rintro e w7 ⟨rfl, b7'⟩
      have b7 := aw _ _ b46 b7'
      clear x0 x1 x2 x3 u0 u1 u2 u3 b7' CP
      go_upto_region 7 with fail
      have b7d := b7.drew
      refine wp_region_held_drew (S := fun W => (W.cell? ⟨w3.heap.size, 0, none⟩ = some (.int .i64 kx) ∧ W.cell? ⟨w3.heap.size, 1, none⟩ = some (S nx) ∧ W.cell? ⟨w3.heap.size, 2, none⟩ = some (.int .i64 px) ∧ W.cell? ⟨w3.heap.size, 3, none⟩ = some (.slice Ax xs.length cx)) ∧ (W.cell? ⟨w3.heap.size + 1, 0, none⟩ = some (.int .i64 ku) ∧ W.cell? ⟨w3.heap.size + 1, 1, none⟩ = some (S nu) ∧ W.cell? ⟨w3.heap.size + 1, 2, none⟩ = some (.int .i64 pu) ∧ W.cell? ⟨w3.heap.size + 1, 3, none⟩ = some (.slice Au us.length cu))) (by kernel_rfl) ?_ (fun hHeld => ?_)
      · exact SC.out _ b7d
      refine wpAnyH_take (i := 0) (v := ?_) rfl (by kernel_rfl) (by kernel_rfl) (by kernel_rfl) (fun _ _ _ h => h) (Or.inl ⟨by rfl, ?_⟩) (by assumption) ?_
      rotate_left
      · (intro w hSw; (try dsimp only at hSw); go_simp; try with_reducible rfl)
      try simp only [Act.put, List.getElem_toArray, List.getElem_cons_zero, List.getElem_cons_succ, List.setIfInBounds_toArray, List.set_cons_zero, List.set_cons_succ]
      refine wpAnyH_take (i := 1) (v := ?_) rfl (by kernel_rfl) (by kernel_rfl) (by kernel_rfl) (fun _ _ _ h => h) (Or.inl ⟨by rfl, ?_⟩) (by assumption) ?_
      rotate_left
      · (intro w hSw; (try dsimp only at hSw); go_simp; try with_reducible rfl)
      try simp only [Act.put, List.getElem_toArray, List.getElem_cons_zero, List.getElem_cons_succ, List.setIfInBounds_toArray, List.set_cons_zero, List.set_cons_succ]
      refine wpAnyH_take (i := 2) (v := undef) rfl (by kernel_rfl) (by kernel_rfl) (by kernel_rfl) (fun _ _ _ h => h) (Or.inr ⟨by rfl, rfl⟩) (by assumption) ?_
      try simp only [Act.put, List.getElem_toArray, List.getElem_cons_zero, List.getElem_cons_succ, List.setIfInBounds_toArray, List.set_cons_zero, List.set_cons_succ]
      refine wpAnyH_take (i := 3) (v := undef) rfl (by kernel_rfl) (by kernel_rfl) (by kernel_rfl) (fun _ _ _ h => h) (Or.inr ⟨by rfl, rfl⟩) (by assumption) ?_
      try simp only [Act.put, List.getElem_toArray, List.getElem_cons_zero, List.getElem_cons_succ, List.setIfInBounds_toArray, List.set_cons_zero, List.set_cons_succ]
      refine wpAnyH_take (i := 4) (v := undef) rfl (by kernel_rfl) (by kernel_rfl) (by kernel_rfl) (fun _ _ _ h => h) (Or.inr ⟨by rfl, rfl⟩) (by assumption) ?_
      try simp only [Act.put, List.getElem_toArray, List.getElem_cons_zero, List.getElem_cons_succ, List.setIfInBounds_toArray, List.set_cons_zero, List.set_cons_succ]
      refine wpAnyH_take (i := 5) (v := ?_) rfl (by kernel_rfl) (by kernel_rfl) (by kernel_rfl) (fun _ _ _ h => h) (Or.inl ⟨by rfl, ?_⟩) (by assumption) ?_
      rotate_left
      · (intro w hSw; (try dsimp only at hSw); go_simp; try with_reducible rfl)
      try simp only [Act.put, List.getElem_toArray, List.getElem_cons_zero, List.getElem_cons_succ, List.setIfInBounds_toArray, List.set_cons_zero, List.set_cons_succ]
      refine wpAnyH_take (i := 6) (v := ?_) rfl (by kernel_rfl) (by kernel_rfl) (by kernel_rfl) (fun _ _ _ h => h) (Or.inl ⟨by rfl, ?_⟩) (by assumption) ?_
      rotate_left
      · (intro w hSw; (try dsimp only at hSw); go_simp; try with_reducible rfl)
      try simp only [Act.put, List.getElem_toArray, List.getElem_cons_zero, List.getElem_cons_succ, List.setIfInBounds_toArray, List.set_cons_zero, List.set_cons_succ]
      refine wpAnyH_take (i := 7) (v := undef) rfl (by kernel_rfl) (by kernel_rfl) (by kernel_rfl) (fun _ _ _ h => h) (Or.inr ⟨by rfl, rfl⟩) (by assumption) ?_
      try simp only [Act.put, List.getElem_toArray, List.getElem_cons_zero, List.getElem_cons_succ, List.setIfInBounds_toArray, List.set_cons_zero, List.set_cons_succ]
      refine wpAnyH_take (i := 8) (v := undef) rfl (by kernel_rfl) (by kernel_rfl) (by kernel_rfl) (fun _ _ _ h => h) (Or.inr ⟨by rfl, rfl⟩) (by assumption) ?_
      try simp only [Act.put, List.getElem_toArray, List.getElem_cons_zero, List.getElem_cons_succ, List.setIfInBounds_toArray, List.set_cons_zero, List.set_cons_succ]
      refine wpAnyH_take (i := 9) (v := undef) rfl (by kernel_rfl) (by kernel_rfl) (by kernel_rfl) (fun _ _ _ h => h) (Or.inr ⟨by rfl, rfl⟩) (by assumption) ?_
      try simp only [Act.put, List.getElem_toArray, List.getElem_cons_zero, List.getElem_cons_succ, List.setIfInBounds_toArray, List.set_cons_zero, List.set_cons_succ]
      refine wpAnyH_take (i := 10) (v := undef) rfl (by kernel_rfl) (by kernel_rfl) (by kernel_rfl) (fun _ _ _ h => h) (Or.inr ⟨by rfl, rfl⟩) (by assumption) ?_
      try simp only [Act.put, List.getElem_toArray, List.getElem_cons_zero, List.getElem_cons_succ, List.setIfInBounds_toArray, List.set_cons_zero, List.set_cons_succ]
      refine wpAnyH_take (i := 11) (v := undef) rfl (by kernel_rfl) (by kernel_rfl) (by kernel_rfl) (fun _ _ _ h => h) (Or.inr ⟨by rfl, rfl⟩) (by assumption) ?_
      try simp only [Act.put, List.getElem_toArray, List.getElem_cons_zero, List.getElem_cons_succ, List.setIfInBounds_toArray, List.set_cons_zero, List.set_cons_succ]
      refine wpAnyH_take (i := 12) (v := ?_) rfl (by kernel_rfl) (by kernel_rfl) (by kernel_rfl) (fun _ _ _ h => h) (Or.inl ⟨by rfl, ?_⟩) (by assumption) ?_
      rotate_left
      · (intro w hSw; (try dsimp only at hSw); go_simp; try with_reducible rfl)
      try simp only [Act.put, List.getElem_toArray, List.getElem_cons_zero, List.getElem_cons_succ, List.setIfInBounds_toArray, List.set_cons_zero, List.set_cons_succ]
      refine wpAnyH_take (i := 13) (v := ?_) rfl (by kernel_rfl) (by kernel_rfl) (by kernel_rfl) (fun _ _ _ h => h) (Or.inl ⟨by rfl, ?_⟩) (by assumption) ?_
      rotate_left
      · (intro w hSw; (try dsimp only at hSw); go_simp; try with_reducible rfl)
      try simp only [Act.put, List.getElem_toArray, List.getElem_cons_zero, List.getElem_cons_succ, List.setIfInBounds_toArray, List.set_cons_zero, List.set_cons_succ]
      refine wpAnyH_take (i := 14) (v := ?_) rfl (by kernel_rfl) (by kernel_rfl) (by kernel_rfl) (fun _ _ _ h => h) (Or.inl ⟨by rfl, ?_⟩) (by assumption) ?_
      rotate_left
      · (intro w hSw; (try dsimp only at hSw); go_simp; try with_reducible rfl)
      try simp only [Act.put, List.getElem_toArray, List.getElem_cons_zero, List.getElem_cons_succ, List.setIfInBounds_toArray, List.set_cons_zero, List.set_cons_succ]
      refine wpAnyH_take (i := 15) (v := ?_) rfl (by kernel_rfl) (by kernel_rfl) (by kernel_rfl) (fun _ _ _ h => h) (Or.inl ⟨by rfl, ?_⟩) (by assumption) ?_
      rotate_left
      · (intro w hSw; (try dsimp only at hSw); go_simp; try with_reducible rfl)
      try simp only [Act.put, List.getElem_toArray, List.getElem_cons_zero, List.getElem_cons_succ, List.setIfInBounds_toArray, List.set_cons_zero, List.set_cons_succ]
      refine wpAnyH_take (i := 16) (v := undef) rfl (by kernel_rfl) (by kernel_rfl) (by kernel_rfl) (fun _ _ _ h => h) (Or.inr ⟨by rfl, rfl⟩) (by assumption) ?_
      try simp only [Act.put, List.getElem_toArray, List.getElem_cons_zero, List.getElem_cons_succ, List.setIfInBounds_toArray, List.set_cons_zero, List.set_cons_succ]
      refine wpAnyH_take (i := 17) (v := undef) rfl (by kernel_rfl) (by kernel_rfl) (by kernel_rfl) (fun _ _ _ h => h) (Or.inr ⟨by rfl, rfl⟩) (by assumption) ?_
      try simp only [Act.put, List.getElem_toArray, List.getElem_cons_zero, List.getElem_cons_succ, List.setIfInBounds_toArray, List.set_cons_zero, List.set_cons_succ]
      refine wpAnyH_take (i := 18) (v := undef) rfl (by kernel_rfl) (by kernel_rfl) (by kernel_rfl) (fun _ _ _ h => h) (Or.inr ⟨by rfl, rfl⟩) (by assumption) ?_
      try simp only [Act.put, List.getElem_toArray, List.getElem_cons_zero, List.getElem_cons_succ, List.setIfInBounds_toArray, List.set_cons_zero, List.set_cons_succ]
      refine wpAnyH_take (i := 19) (v := ?_) rfl (by kernel_rfl) (by kernel_rfl) (by kernel_rfl) (fun _ _ _ h => h) (Or.inl ⟨by rfl, ?_⟩) (by assumption) ?_
      rotate_left
      · (intro w hSw; (try dsimp only at hSw); go_simp; try with_reducible rfl)
      try simp only [Act.put, List.getElem_toArray, List.getElem_cons_zero, List.getElem_cons_succ, List.setIfInBounds_toArray, List.set_cons_zero, List.set_cons_succ]
      refine wpAnyH_take (i := 20) (v := ?_) rfl (by kernel_rfl) (by kernel_rfl) (by kernel_rfl) (fun _ _ _ h => h) (Or.inl ⟨by rfl, ?_⟩) (by assumption) ?_
      rotate_left
      · (intro w hSw; (try dsimp only at hSw); go_simp; try with_reducible rfl)
      try simp only [Act.put, List.getElem_toArray, List.getElem_cons_zero, List.getElem_cons_succ, List.setIfInBounds_toArray, List.set_cons_zero, List.set_cons_succ]
      refine wpAnyH_take (i := 21) (v := undef) rfl (by kernel_rfl) (by kernel_rfl) (by kernel_rfl) (fun _ _ _ h => h) (Or.inr ⟨by rfl, rfl⟩) (by assumption) ?_
      try simp only [Act.put, List.getElem_toArray, List.getElem_cons_zero, List.getElem_cons_succ, List.setIfInBounds_toArray, List.set_cons_zero, List.set_cons_succ]
      refine wpAnyH_take (i := 22) (v := undef) rfl (by kernel_rfl) (by kernel_rfl) (by kernel_rfl) (fun _ _ _ h => h) (Or.inr ⟨by rfl, rfl⟩) (by assumption) ?_
      try simp only [Act.put, List.getElem_toArray, List.getElem_cons_zero, List.getElem_cons_succ, List.setIfInBounds_toArray, List.set_cons_zero, List.set_cons_succ]
      refine wpAnyH_take (i := 23) (v := undef) rfl (by kernel_rfl) (by kernel_rfl) (by kernel_rfl) (fun _ _ _ h => h) (Or.inr ⟨by rfl, rfl⟩) (by assumption) ?_
      try simp only [Act.put, List.getElem_toArray, List.getElem_cons_zero, List.getElem_cons_succ, List.setIfInBounds_toArray, List.set_cons_zero, List.set_cons_succ]
      refine wpAnyH_take (i := 24) (v := undef) rfl (by kernel_rfl) (by kernel_rfl) (by kernel_rfl) (fun _ _ _ h => h) (Or.inr ⟨by rfl, rfl⟩) (by assumption) ?_
      try simp only [Act.put, List.getElem_toArray, List.getElem_cons_zero, List.getElem_cons_succ, List.setIfInBounds_toArray, List.set_cons_zero, List.set_cons_succ]
      refine wpAnyH_take (i := 25) (v := ?_) rfl (by kernel_rfl) (by kernel_rfl) (by kernel_rfl) (fun _ _ _ h => h) (Or.inl ⟨by rfl, ?_⟩) (by assumption) ?_
      rotate_left
      · (intro w hSw; (try dsimp only at hSw); go_simp; try with_reducible rfl)
      try simp only [Act.put, List.getElem_toArray, List.getElem_cons_zero, List.getElem_cons_succ, List.setIfInBounds_toArray, List.set_cons_zero, List.set_cons_succ]
      refine wpAnyH_take (i := 26) (v := ?_) rfl (by kernel_rfl) (by kernel_rfl) (by kernel_rfl) (fun _ _ _ h => h) (Or.inl ⟨by rfl, ?_⟩) (by assumption) ?_
      rotate_left
      · (intro w hSw; (try dsimp only at hSw); go_simp; try with_reducible rfl)
      try simp only [Act.put, List.getElem_toArray, List.getElem_cons_zero, List.getElem_cons_succ, List.setIfInBounds_toArray, List.set_cons_zero, List.set_cons_succ]
      refine wpAnyH_done (by kernel_rfl) ?_ _
      obtain ⟨w9, hw9⟩ : ∃ w9, ((w7).alloc (.cells #[.int .i64 1, .int .i64 0, .slice none 0 0] 26)).drew = w9 := ⟨_, rfl⟩
      have b9 : Below (w7).heap.size (w7) w9 := by rw [← hw9]; exact ((Below.refl _ _).alloc (Nat.le_refl _) _).drew
      have q9 : w9.heap[(w7).heap.size]? = some (.cells #[.int .i64 1, .int .i64 0, .slice none 0 0] 26 (0, 0)) := by rw [← hw9]; exact heap_alloc_new (w7) _
      have B49 := Lib.hid (aw _ _ b7 b9)
      have Q9 := Lib.hid q9
      have H9 := Lib.hid hw9
      have l9 := lt_of_block q9
      clear b9 q9 hw9
      go_upto_region 10 with fail
      rw [H9.out]
      clear H9
      obtain ⟨w10, hw10⟩ : ∃ w10, w9.alloc (.cells #[.int .i64 kx, S nx, .int .i64 px, .slice Ax xs.length cx] 51) = w10 := ⟨_, rfl⟩
      obtain ⟨w11, hw11⟩ : ∃ w11, w10.alloc (.cells #[.int .i64 ku, S nu, .int .i64 pu, .slice Au us.length cu] 51) = w11 := ⟨_, rfl⟩
      have b10 : Below w9.heap.size w9 w10 := by rw [← hw10]; exact (Below.refl _ _).alloc (Nat.le_refl _) _
      have b11 : Below w10.heap.size w10 w11 := by rw [← hw11]; exact (Below.refl _ _).alloc (Nat.le_refl _) _
      have q10 : w10.heap[w9.heap.size]? = some (.cells #[.int .i64 kx, S nx, .int .i64 px, .slice Ax xs.length cx] 51 (0, 0)) := by rw [← hw10]; exact heap_alloc_new _ _
      have q11 : w11.heap[w10.heap.size]? = some (.cells #[.int .i64 ku, S nu, .int .i64 pu, .slice Au us.length cu] 51 (0, 0)) := by rw [← hw11]; exact heap_alloc_new _ _
      have B410 := aw _ _ B49.out b10
      have B411 := Lib.hid (aw _ _ B410 b11)
      have CHX := Lib.hid (CHO.out w11 w9.heap.size w10.heap.size B411.out ((b11.block _ (lt_of_block q10)).trans q10) q11)
      obtain ⟨o0, o1, o2⟩ := cells3o Q9.out
      obtain ⟨e0, e1, e2⟩ := cells3o ((b10.block _ l9).trans Q9.out)
      obtain ⟨⟨x0, x1, x2, x3⟩, _⟩ := SC.out w9 B49.out
      obtain ⟨_, ⟨u0, u1, u2, u3⟩⟩ := SC.out w10 B410
      clear b10 b11 q10 q11 B410
      go_wp2_with fail
      refine CHX.out.mono ?_
      rintro e w12 ⟨⟨l, E, rfl, hl⟩, b12⟩
      have B412 := Lib.hid (aw _ _ B411.out b12)
      clear b12 o0 o1 o2 e0 e1 e2 x0 x1 x2 x3 u0 u1 u2 u3 hw10 hw11
      by_cases hE : E = 0
      · subst hE
        have hl2 : l = false := by
          have h := hl rfl
          first | exact h | (rw [h]; rfl) | simpa [HL0.out] using h
        clear hl
        subst hl2
        go_wp2_with fail
        refine (oAwake_any _).mono ?_
        rintro e w15 ⟨rfl, b15⟩
        go_wp2_with fail
        go_ret
        exact ⟨rfl, UP.out _ (aw _ _ B412.out b15)⟩
      · have hE1 : (E != 0) = true := by simpa using hE
        have hE2 : (E == 0) = false := by simpa using hE
        clear hl hE
        go_wp2_with fail
        refine (oAwake_any _).mono ?_
        rintro e w15 ⟨rfl, b15⟩
        go_wp2_with fail
        go_ret
        exact ⟨rfl, UP.out _ (aw _ _ B412.out b15)⟩
    | some q =>
      by_cases h0 : q.length = 0
      · obtain rfl : q = [] := List.length_eq_zero_iff.1 h0
        have hsm := PM.out rfl
        rw [hsm] at CSM
        clear hsm h0 PM PL
        have HL0 : Hid (1 = 1) := Lib.hid rfl
        have CP := Lib.hid (fun W hb => (CP.out W hb).mono (fun e w' h => h.yes))
        go_wp2_with fail
        refine (CP.out _ b46).mono ?_
        rintro e w7 ⟨⟨Ap, cp, rfl, _⟩, b7'⟩
        have b7 := aw _ _ b46 b7'
        clear x0 x1 x2 x3 u0 u1 u2 u3 b7' CP
        go_upto_region 7 with fail
        have b7d := b7.drew
        refine wp_region_held_drew (S := fun W => (W.cell? ⟨w3.heap.size, 0, none⟩ = some (.int .i64 kx) ∧ W.cell? ⟨w3.heap.size, 1, none⟩ = some (S nx) ∧ W.cell? ⟨w3.heap.size, 2, none⟩ = some (.int .i64 px) ∧ W.cell? ⟨w3.heap.size, 3, none⟩ = some (.slice Ax xs.length cx)) ∧ (W.cell? ⟨w3.heap.size + 1, 0, none⟩ = some (.int .i64 ku) ∧ W.cell? ⟨w3.heap.size + 1, 1, none⟩ = some (S nu) ∧ W.cell? ⟨w3.heap.size + 1, 2, none⟩ = some (.int .i64 pu) ∧ W.cell? ⟨w3.heap.size + 1, 3, none⟩ = some (.slice Au us.length cu))) (by kernel_rfl) ?_ (fun hHeld => ?_)
        · exact SC.out _ b7d
        refine wpAnyH_take (i := 0) (v := ?_) rfl (by kernel_rfl) (by kernel_rfl) (by kernel_rfl) (fun _ _ _ h => h) (Or.inl ⟨by rfl, ?_⟩) (by assumption) ?_
        rotate_left
        · (intro w hSw; (try dsimp only at hSw); go_simp; try with_reducible rfl)
        try simp only [Act.put, List.getElem_toArray, List.getElem_cons_zero, List.getElem_cons_succ, List.setIfInBounds_toArray, List.set_cons_zero, List.set_cons_succ]
        refine wpAnyH_take (i := 1) (v := ?_) rfl (by kernel_rfl) (by kernel_rfl) (by kernel_rfl) (fun _ _ _ h => h) (Or.inl ⟨by rfl, ?_⟩) (by assumption) ?_
        rotate_left
        · (intro w hSw; (try dsimp only at hSw); go_simp; try with_reducible rfl)
        try simp only [Act.put, List.getElem_toArray, List.getElem_cons_zero, List.getElem_cons_succ, List.setIfInBounds_toArray, List.set_cons_zero, List.set_cons_succ]
        refine wpAnyH_take (i := 2) (v := ?_) rfl (by kernel_rfl) (by kernel_rfl) (by kernel_rfl) (fun _ _ _ h => h) (Or.inl ⟨by rfl, ?_⟩) (by assumption) ?_
        rotate_left
        · (intro w hSw; (try dsimp only at hSw); go_simp; try with_reducible rfl)
        try simp only [Act.put, List.getElem_toArray, List.getElem_cons_zero, List.getElem_cons_succ, List.setIfInBounds_toArray, List.set_cons_zero, List.set_cons_succ]
        refine wpAnyH_take (i := 3) (v := ?_) rfl (by kernel_rfl) (by kernel_rfl) (by kernel_rfl) (fun _ _ _ h => h) (Or.inl ⟨by rfl, ?_⟩) (by assumption) ?_
        rotate_left
        · (intro w hSw; (try dsimp only at hSw); go_simp; try with_reducible rfl)
        try simp only [Act.put, List.getElem_toArray, List.getElem_cons_zero, List.getElem_cons_succ, List.setIfInBounds_toArray, List.set_cons_zero, List.set_cons_succ]
        refine wpAnyH_take (i := 4) (v := ?_) rfl (by kernel_rfl) (by kernel_rfl) (by kernel_rfl) (fun _ _ _ h => h) (Or.inl ⟨by rfl, ?_⟩) (by assumption) ?_
        rotate_left
        · (intro w hSw; (try dsimp only at hSw); go_simp; try with_reducible rfl)
        try simp only [Act.put, List.getElem_toArray, List.getElem_cons_zero, List.getElem_cons_succ, List.setIfInBounds_toArray, List.set_cons_zero, List.set_cons_succ]
        refine wpAnyH_take (i := 5) (v := ?_) rfl (by kernel_rfl) (by kernel_rfl) (by kernel_rfl) (fun _ _ _ h => h) (Or.inl ⟨by rfl, ?_⟩) (by assumption) ?_
        rotate_left
        · (intro w hSw; (try dsimp only at hSw); go_simp; try with_reducible rfl)
        try simp only [Act.put, List.getElem_toArray, List.getElem_cons_zero, List.getElem_cons_succ, List.setIfInBounds_toArray, List.set_cons_zero, List.set_cons_succ]
        refine wpAnyH_take (i := 6) (v := ?_) rfl (by kernel_rfl) (by kernel_rfl) (by kernel_rfl) (fun _ _ _ h => h) (Or.inl ⟨by rfl, ?_⟩) (by assumption) ?_
        rotate_left
        · (intro w hSw; (try dsimp only at hSw); go_simp; try with_reducible rfl)
        try simp only [Act.put, List.getElem_toArray, List.getElem_cons_zero, List.getElem_cons_succ, List.setIfInBounds_toArray, List.set_cons_zero, List.set_cons_succ]
        refine wpAnyH_take (i := 7) (v := undef) rfl (by kernel_rfl) (by kernel_rfl) (by kernel_rfl) (fun _ _ _ h => h) (Or.inr ⟨by rfl, rfl⟩) (by assumption) ?_
        try simp only [Act.put, List.getElem_toArray, List.getElem_cons_zero, List.getElem_cons_succ, List.setIfInBounds_toArray, List.set_cons_zero, List.set_cons_succ]
        refine wpAnyH_take (i := 8) (v := undef) rfl (by kernel_rfl) (by kernel_rfl) (by kernel_rfl) (fun _ _ _ h => h) (Or.inr ⟨by rfl, rfl⟩) (by assumption) ?_
        try simp only [Act.put, List.getElem_toArray, List.getElem_cons_zero, List.getElem_cons_succ, List.setIfInBounds_toArray, List.set_cons_zero, List.set_cons_succ]
        refine wpAnyH_take (i := 9) (v := undef) rfl (by kernel_rfl) (by kernel_rfl) (by kernel_rfl) (fun _ _ _ h => h) (Or.inr ⟨by rfl, rfl⟩) (by assumption) ?_
        try simp only [Act.put, List.getElem_toArray, List.getElem_cons_zero, List.getElem_cons_succ, List.setIfInBounds_toArray, List.set_cons_zero, List.set_cons_succ]
        refine wpAnyH_take (i := 10) (v := undef) rfl (by kernel_rfl) (by kernel_rfl) (by kernel_rfl) (fun _ _ _ h => h) (Or.inr ⟨by rfl, rfl⟩) (by assumption) ?_
        try simp only [Act.put, List.getElem_toArray, List.getElem_cons_zero, List.getElem_cons_succ, List.setIfInBounds_toArray, List.set_cons_zero, List.set_cons_succ]
        refine wpAnyH_take (i := 11) (v := undef) rfl (by kernel_rfl) (by kernel_rfl) (by kernel_rfl) (fun _ _ _ h => h) (Or.inr ⟨by rfl, rfl⟩) (by assumption) ?_
        try simp only [Act.put, List.getElem_toArray, List.getElem_cons_zero, List.getElem_cons_succ, List.setIfInBounds_toArray, List.set_cons_zero, List.set_cons_succ]
        refine wpAnyH_take (i := 12) (v := ?_) rfl (by kernel_rfl) (by kernel_rfl) (by kernel_rfl) (fun _ _ _ h => h) (Or.inl ⟨by rfl, ?_⟩) (by assumption) ?_
        rotate_left
        · (intro w hSw; (try dsimp only at hSw); go_simp; try with_reducible rfl)
        try simp only [Act.put, List.getElem_toArray, List.getElem_cons_zero, List.getElem_cons_succ, List.setIfInBounds_toArray, List.set_cons_zero, List.set_cons_succ]
        refine wpAnyH_take (i := 13) (v := ?_) rfl (by kernel_rfl) (by kernel_rfl) (by kernel_rfl) (fun _ _ _ h => h) (Or.inl ⟨by rfl, ?_⟩) (by assumption) ?_
        rotate_left
        · (intro w hSw; (try dsimp only at hSw); go_simp; try with_reducible rfl)
        try simp only [Act.put, List.getElem_toArray, List.getElem_cons_zero, List.getElem_cons_succ, List.setIfInBounds_toArray, List.set_cons_zero, List.set_cons_succ]
        refine wpAnyH_take (i := 14) (v := ?_) rfl (by kernel_rfl) (by kernel_rfl) (by kernel_rfl) (fun _ _ _ h => h) (Or.inl ⟨by rfl, ?_⟩) (by assumption) ?_
        rotate_left
        · (intro w hSw; (try dsimp only at hSw); go_simp; try with_reducible rfl)
        try simp only [Act.put, List.getElem_toArray, List.getElem_cons_zero, List.getElem_cons_succ, List.setIfInBounds_toArray, List.set_cons_zero, List.set_cons_succ]
        refine wpAnyH_take (i := 15) (v := ?_) rfl (by kernel_rfl) (by kernel_rfl) (by kernel_rfl) (fun _ _ _ h => h) (Or.inl ⟨by rfl, ?_⟩) (by assumption) ?_
        rotate_left
        · (intro w hSw; (try dsimp only at hSw); go_simp; try with_reducible rfl)
        try simp only [Act.put, List.getElem_toArray, List.getElem_cons_zero, List.getElem_cons_succ, List.setIfInBounds_toArray, List.set_cons_zero, List.set_cons_succ]
        refine wpAnyH_take (i := 16) (v := ?_) rfl (by kernel_rfl) (by kernel_rfl) (by kernel_rfl) (fun _ _ _ h => h) (Or.inl ⟨by rfl, ?_⟩) (by assumption) ?_
        rotate_left
        · (intro w hSw; (try dsimp only at hSw); go_simp; try with_reducible rfl)
        try simp only [Act.put, List.getElem_toArray, List.getElem_cons_zero, List.getElem_cons_succ, List.setIfInBounds_toArray, List.set_cons_zero, List.set_cons_succ]
        refine wpAnyH_take (i := 17) (v := ?_) rfl (by kernel_rfl) (by kernel_rfl) (by kernel_rfl) (fun _ _ _ h => h) (Or.inl ⟨by rfl, ?_⟩) (by assumption) ?_
        rotate_left
        · (intro w hSw; (try dsimp only at hSw); go_simp; try with_reducible rfl)
        try simp only [Act.put, List.getElem_toArray, List.getElem_cons_zero, List.getElem_cons_succ, List.setIfInBounds_toArray, List.set_cons_zero, List.set_cons_succ]
        refine wpAnyH_take (i := 18) (v := ?_) rfl (by kernel_rfl) (by kernel_rfl) (by kernel_rfl) (fun _ _ _ h => h) (Or.inl ⟨by rfl, ?_⟩) (by assumption) ?_
        rotate_left
        · (intro w hSw; (try dsimp only at hSw); go_simp; try with_reducible rfl)
        try simp only [Act.put, List.getElem_toArray, List.getElem_cons_zero, List.getElem_cons_succ, List.setIfInBounds_toArray, List.set_cons_zero, List.set_cons_succ]
        refine wpAnyH_take (i := 19) (v := ?_) rfl (by kernel_rfl) (by kernel_rfl) (by kernel_rfl) (fun _ _ _ h => h) (Or.inl ⟨by rfl, ?_⟩) (by assumption) ?_
        rotate_left
        · (intro w hSw; (try dsimp only at hSw); go_simp; try with_reducible rfl)
        try simp only [Act.put, List.getElem_toArray, List.getElem_cons_zero, List.getElem_cons_succ, List.setIfInBounds_toArray, List.set_cons_zero, List.set_cons_succ]
        refine wpAnyH_take (i := 20) (v := ?_) rfl (by kernel_rfl) (by kernel_rfl) (by kernel_rfl) (fun _ _ _ h => h) (Or.inl ⟨by rfl, ?_⟩) (by assumption) ?_
        rotate_left
        · (intro w hSw; (try dsimp only at hSw); go_simp; try with_reducible rfl)
        try simp only [Act.put, List.getElem_toArray, List.getElem_cons_zero, List.getElem_cons_succ, List.setIfInBounds_toArray, List.set_cons_zero, List.set_cons_succ]
        refine wpAnyH_take (i := 21) (v := ?_) rfl (by kernel_rfl) (by kernel_rfl) (by kernel_rfl) (fun _ _ _ h => h) (Or.inl ⟨by rfl, ?_⟩) (by assumption) ?_
        rotate_left
        · (intro w hSw; (try dsimp only at hSw); go_simp; try with_reducible rfl)
        try simp only [Act.put, List.getElem_toArray, List.getElem_cons_zero, List.getElem_cons_succ, List.setIfInBounds_toArray, List.set_cons_zero, List.set_cons_succ]
        refine wpAnyH_take (i := 22) (v := ?_) rfl (by kernel_rfl) (by kernel_rfl) (by kernel_rfl) (fun _ _ _ h => h) (Or.inl ⟨by rfl, ?_⟩) (by assumption) ?_
        rotate_left
        · (intro w hSw; (try dsimp only at hSw); go_simp; try with_reducible rfl)
        try simp only [Act.put, List.getElem_toArray, List.getElem_cons_zero, List.getElem_cons_succ, List.setIfInBounds_toArray, List.set_cons_zero, List.set_cons_succ]
        refine wpAnyH_ready (rs := [23]) (by kernel_rfl) (by simp) ?_
        refine AllReadyH.cons rfl (fun K hK => ?_) ?_
        · rw [if_pos (by rfl)]
          go_simp
          go_at_call 22
          refine (CSM.out _ b7d).mono ?_
          rintro e w14 ⟨rfl, hbw14⟩
          have bw14 := aw _ _ b7d hbw14
          clear hbw14
          refine hK.out _ _ ?_ (fun hHeld => ?_)
          · (try dsimp only)
            exact SC.out _ bw14
          clear hK K
          try simp only [Act.put, List.getElem_toArray, List.getElem_cons_zero, List.getElem_cons_succ, List.setIfInBounds_toArray, List.set_cons_zero, List.set_cons_succ]
          refine wpAnyH_take (i := 24) (v := ?_) rfl (by kernel_rfl) (by kernel_rfl) (by kernel_rfl) (fun _ _ _ h => h) (Or.inl ⟨by rfl, ?_⟩) (by assumption) ?_
          rotate_left
          · (intro w hSw; (try dsimp only at hSw); go_simp; try with_reducible rfl)
          try simp only [Act.put, List.getElem_toArray, List.getElem_cons_zero, List.getElem_cons_succ, List.setIfInBounds_toArray, List.set_cons_zero, List.set_cons_succ]
          refine wpAnyH_take (i := 25) (v := ?_) rfl (by kernel_rfl) (by kernel_rfl) (by kernel_rfl) (fun _ _ _ h => h) (Or.inl ⟨by rfl, ?_⟩) (by assumption) ?_
          rotate_left
          · (intro w hSw; (try dsimp only at hSw); go_simp; try with_reducible rfl)
          try simp only [Act.put, List.getElem_toArray, List.getElem_cons_zero, List.getElem_cons_succ, List.setIfInBounds_toArray, List.set_cons_zero, List.set_cons_succ]
          refine wpAnyH_take (i := 26) (v := ?_) rfl (by kernel_rfl) (by kernel_rfl) (by kernel_rfl) (fun _ _ _ h => h) (Or.inl ⟨by rfl, ?_⟩) (by assumption) ?_
          rotate_left
          · (intro w hSw; (try dsimp only at hSw); go_simp; try with_reducible rfl)
          try simp only [Act.put, List.getElem_toArray, List.getElem_cons_zero, List.getElem_cons_succ, List.setIfInBounds_toArray, List.set_cons_zero, List.set_cons_succ]
          refine wpAnyH_done (by kernel_rfl) ?_ _
          obtain ⟨w9, hw9⟩ : ∃ w9, ((w14).alloc (.cells #[.int .i64 1, .int .i64 0, .slice none 0 0] 26)) = w9 := ⟨_, rfl⟩
          have b9 : Below (w14).heap.size (w14) w9 := by rw [← hw9]; exact ((Below.refl _ _).alloc (Nat.le_refl _) _)
          have q9 : w9.heap[(w14).heap.size]? = some (.cells #[.int .i64 1, .int .i64 0, .slice none 0 0] 26 (0, 0)) := by rw [← hw9]; exact heap_alloc_new (w14) _
          have B49 := Lib.hid (aw _ _ bw14 b9)
          have Q9 := Lib.hid q9
          have H9 := Lib.hid hw9
          have l9 := lt_of_block q9
          clear b9 q9 hw9
          go_upto_region 10 with fail
          rw [H9.out]
          clear H9
          obtain ⟨w10, hw10⟩ : ∃ w10, w9.alloc (.cells #[.int .i64 kx, S nx, .int .i64 px, .slice Ax xs.length cx] 51) = w10 := ⟨_, rfl⟩
          obtain ⟨w11, hw11⟩ : ∃ w11, w10.alloc (.cells #[.int .i64 ku, S nu, .int .i64 pu, .slice Au us.length cu] 51) = w11 := ⟨_, rfl⟩
          have b10 : Below w9.heap.size w9 w10 := by rw [← hw10]; exact (Below.refl _ _).alloc (Nat.le_refl _) _
          have b11 : Below w10.heap.size w10 w11 := by rw [← hw11]; exact (Below.refl _ _).alloc (Nat.le_refl _) _
          have q10 : w10.heap[w9.heap.size]? = some (.cells #[.int .i64 kx, S nx, .int .i64 px, .slice Ax xs.length cx] 51 (0, 0)) := by rw [← hw10]; exact heap_alloc_new _ _
          have q11 : w11.heap[w10.heap.size]? = some (.cells #[.int .i64 ku, S nu, .int .i64 pu, .slice Au us.length cu] 51 (0, 0)) := by rw [← hw11]; exact heap_alloc_new _ _
          have B410 := aw _ _ B49.out b10
          have B411 := Lib.hid (aw _ _ B410 b11)
          have CHX := Lib.hid (CHO.out w11 w9.heap.size w10.heap.size B411.out ((b11.block _ (lt_of_block q10)).trans q10) q11)
          obtain ⟨o0, o1, o2⟩ := cells3o Q9.out
          obtain ⟨e0, e1, e2⟩ := cells3o ((b10.block _ l9).trans Q9.out)
          obtain ⟨⟨x0, x1, x2, x3⟩, _⟩ := SC.out w9 B49.out
          obtain ⟨_, ⟨u0, u1, u2, u3⟩⟩ := SC.out w10 B410
          clear b10 b11 q10 q11 B410
          go_wp2_with fail
          refine CHX.out.mono ?_
          rintro e w12 ⟨⟨l, E, rfl, hl⟩, b12⟩
          have B412 := Lib.hid (aw _ _ B411.out b12)
          clear b12 o0 o1 o2 e0 e1 e2 x0 x1 x2 x3 u0 u1 u2 u3 hw10 hw11
          by_cases hE : E = 0
          · subst hE
            have hl2 : l = false := by
              have h := hl rfl
              first | exact h | (rw [h]; rfl) | simpa [HL0.out] using h
            clear hl
            subst hl2
            go_wp2_with fail
            refine (oAwake_any _).mono ?_
            rintro e w15 ⟨rfl, b15⟩
            go_wp2_with fail
            go_ret
            exact ⟨rfl, UP.out _ (aw _ _ B412.out b15)⟩
          · have hE1 : (E != 0) = true := by simpa using hE
            have hE2 : (E == 0) = false := by simpa using hE
            clear hl hE
            go_wp2_with fail
            refine (oAwake_any _).mono ?_
            rintro e w15 ⟨rfl, b15⟩
            go_wp2_with fail
            go_ret
            exact ⟨rfl, UP.out _ (aw _ _ B412.out b15)⟩
        exact AllReadyH.nil
      · have hlt := PL.out q rfl h0
        obtain ⟨sx, hsx⟩ : ∃ sx, (Lfc.Raw.node kx nx px xs).size = sx := ⟨_, rfl⟩
        obtain ⟨su, hsu⟩ : ∃ su, (Lfc.Raw.node ku nu pu us).size = su := ⟨_, rfl⟩
        rw [hsx, hsu] at hlt
        rw [hsx] at C5x
        rw [hsu] at C5u
        have hge : decide ((sx : Int) ≥ (su : Int)) = false := by rw [decide_eq_false_iff_not]; omega
        have hge2 : decide (su ≤ sx) = false := by rw [decide_eq_false_iff_not]; omega
        have hge3 : decide ((su : Int) ≤ (sx : Int)) = false := by rw [decide_eq_false_iff_not]; omega
        have hge4 : ¬ su ≤ sx := by omega
        have hq1 : decide ((q.length : Int) > 0) = true := by rw [decide_eq_true_eq]; omega
        have hq2 : ((q.length : Int) == 0) = false := by simp; simpa using h0
        have hq0 : 0 < q.length := by omega
        have hq3 : decide (0 < q.length) = true := by rw [decide_eq_true_eq]; omega
        have hq4 : (q.length == 0) = false := by simpa using h0
        have hq5 : (0 : Int) < (q.length : Int) := by omega
        have hq6 : q ≠ [] := by simpa using h0
        have HL0 : Hid (q ≠ []) := Lib.hid (by simpa using h0)
        clear hsx hsu PM PL
        have CP := Lib.hid (fun W hb => (CP.out W hb).mono (fun e w' h => h.yes))
        go_wp2_with fail
        refine (CP.out _ b46).mono ?_
        rintro e w7 ⟨⟨Ap, cp, rfl, _⟩, b7'⟩
        have b7 := aw _ _ b46 b7'
        clear x0 x1 x2 x3 u0 u1 u2 u3 b7' CP
        go_upto_region 7 with fail
        have b7d := b7.drew
        refine wp_region_held_drew (S := fun W => (W.cell? ⟨w3.heap.size, 0, none⟩ = some (.int .i64 kx) ∧ W.cell? ⟨w3.heap.size, 1, none⟩ = some (S nx) ∧ W.cell? ⟨w3.heap.size, 2, none⟩ = some (.int .i64 px) ∧ W.cell? ⟨w3.heap.size, 3, none⟩ = some (.slice Ax xs.length cx)) ∧ (W.cell? ⟨w3.heap.size + 1, 0, none⟩ = some (.int .i64 ku) ∧ W.cell? ⟨w3.heap.size + 1, 1, none⟩ = some (S nu) ∧ W.cell? ⟨w3.heap.size + 1, 2, none⟩ = some (.int .i64 pu) ∧ W.cell? ⟨w3.heap.size + 1, 3, none⟩ = some (.slice Au us.length cu))) (by kernel_rfl) ?_ (fun hHeld => ?_)
        · exact SC.out _ b7d
        refine wpAnyH_take (i := 0) (v := ?_) rfl (by kernel_rfl) (by kernel_rfl) (by kernel_rfl) (fun _ _ _ h => h) (Or.inl ⟨by rfl, ?_⟩) (by assumption) ?_
        rotate_left
        · (intro w hSw; (try dsimp only at hSw); go_simp; try with_reducible rfl)
        try simp only [Act.put, List.getElem_toArray, List.getElem_cons_zero, List.getElem_cons_succ, List.setIfInBounds_toArray, List.set_cons_zero, List.set_cons_succ]
        refine wpAnyH_take (i := 1) (v := ?_) rfl (by kernel_rfl) (by kernel_rfl) (by kernel_rfl) (fun _ _ _ h => h) (Or.inl ⟨by rfl, ?_⟩) (by assumption) ?_
        rotate_left
        · (intro w hSw; (try dsimp only at hSw); go_simp; try with_reducible rfl)
        try simp only [Act.put, List.getElem_toArray, List.getElem_cons_zero, List.getElem_cons_succ, List.setIfInBounds_toArray, List.set_cons_zero, List.set_cons_succ]
        refine wpAnyH_take (i := 2) (v := ?_) rfl (by kernel_rfl) (by kernel_rfl) (by kernel_rfl) (fun _ _ _ h => h) (Or.inl ⟨by rfl, ?_⟩) (by assumption) ?_
        rotate_left
        · (intro w hSw; (try dsimp only at hSw); go_simp; try with_reducible rfl)
        try simp only [Act.put, List.getElem_toArray, List.getElem_cons_zero, List.getElem_cons_succ, List.setIfInBounds_toArray, List.set_cons_zero, List.set_cons_succ]
        refine wpAnyH_take (i := 3) (v := ?_) rfl (by kernel_rfl) (by kernel_rfl) (by kernel_rfl) (fun _ _ _ h => h) (Or.inl ⟨by rfl, ?_⟩) (by assumption) ?_
        rotate_left
        · (intro w hSw; (try dsimp only at hSw); go_simp; try with_reducible rfl)
        try simp only [Act.put, List.getElem_toArray, List.getElem_cons_zero, List.getElem_cons_succ, List.setIfInBounds_toArray, List.set_cons_zero, List.set_cons_succ]
        refine wpAnyH_take (i := 4) (v := ?_) rfl (by kernel_rfl) (by kernel_rfl) (by kernel_rfl) (fun _ _ _ h => h) (Or.inl ⟨by rfl, ?_⟩) (by assumption) ?_
        rotate_left
        · (intro w hSw; (try dsimp only at hSw); go_simp; try with_reducible rfl)
        try simp only [Act.put, List.getElem_toArray, List.getElem_cons_zero, List.getElem_cons_succ, List.setIfInBounds_toArray, List.set_cons_zero, List.set_cons_succ]
        refine wpAnyH_take (i := 5) (v := ?_) rfl (by kernel_rfl) (by kernel_rfl) (by kernel_rfl) (fun _ _ _ h => h) (Or.inl ⟨by rfl, ?_⟩) (by assumption) ?_
        rotate_left
        · (intro w hSw; (try dsimp only at hSw); go_simp; try with_reducible rfl)
        try simp only [Act.put, List.getElem_toArray, List.getElem_cons_zero, List.getElem_cons_succ, List.setIfInBounds_toArray, List.set_cons_zero, List.set_cons_succ]
        refine wpAnyH_take (i := 6) (v := ?_) rfl (by kernel_rfl) (by kernel_rfl) (by kernel_rfl) (fun _ _ _ h => h) (Or.inl ⟨by rfl, ?_⟩) (by assumption) ?_
        rotate_left
        · (intro w hSw; (try dsimp only at hSw); go_simp; try with_reducible rfl)
        try simp only [Act.put, List.getElem_toArray, List.getElem_cons_zero, List.getElem_cons_succ, List.setIfInBounds_toArray, List.set_cons_zero, List.set_cons_succ]
        refine wpAnyH_take (i := 7) (v := ?_) rfl (by kernel_rfl) (by kernel_rfl) (by kernel_rfl) (fun _ _ _ h => h) (Or.inl ⟨by rfl, ?_⟩) (by assumption) ?_
        rotate_left
        · (intro w hSw; (try dsimp only at hSw); go_simp; try with_reducible rfl)
        try simp only [Act.put, List.getElem_toArray, List.getElem_cons_zero, List.getElem_cons_succ, List.setIfInBounds_toArray, List.set_cons_zero, List.set_cons_succ]
        refine wpAnyH_take (i := 9) (v := ?_) rfl (by kernel_rfl) (by kernel_rfl) (by kernel_rfl) (fun _ _ _ h => h) (Or.inl ⟨by rfl, ?_⟩) (by assumption) ?_
        rotate_left
        · (intro w hSw; (try dsimp only at hSw); go_simp; try with_reducible rfl)
        try simp only [Act.put, List.getElem_toArray, List.getElem_cons_zero, List.getElem_cons_succ, List.setIfInBounds_toArray, List.set_cons_zero, List.set_cons_succ]
        refine wpAnyH_ready (rs := [8]) (by kernel_rfl) (by simp) ?_
        refine AllReadyH.cons rfl (fun K hK => ?_) ?_
        · rw [if_pos (by rfl)]
          go_simp
          go_at_call 21
          refine (C5x.out _ b7d).mono ?_
          rintro e w8 ⟨rfl, hbw8⟩
          have bw8 := aw _ _ b7d hbw8
          clear hbw8
          refine hK.out _ _ ?_ (fun hHeld => ?_)
          · (try dsimp only)
            exact SC.out _ bw8
          clear hK K
          try simp only [Act.put, List.getElem_toArray, List.getElem_cons_zero, List.getElem_cons_succ, List.setIfInBounds_toArray, List.set_cons_zero, List.set_cons_succ]
          refine wpAnyH_ready (rs := [10]) (by kernel_rfl) (by simp) ?_
          refine AllReadyH.cons rfl (fun K hK => ?_) ?_
          · rw [if_pos (by rfl)]
            go_simp
            go_at_call 21
            refine (C5u.out _ bw8).mono ?_
            rintro e w13 ⟨rfl, hbw13⟩
            have bw13 := aw _ _ bw8 hbw13
            clear hbw13
            refine hK.out _ _ ?_ (fun hHeld => ?_)
            · (try dsimp only)
              exact SC.out _ bw13
            clear hK K
            try simp only [Act.put, List.getElem_toArray, List.getElem_cons_zero, List.getElem_cons_succ, List.setIfInBounds_toArray, List.set_cons_zero, List.set_cons_succ]
            refine wpAnyH_take (i := 11) (v := ?_) rfl (by kernel_rfl) (by kernel_rfl) (by kernel_rfl) (fun _ _ _ h => h) (Or.inl ⟨by rfl, ?_⟩) (by assumption) ?_
            rotate_left
            · (intro w hSw; (try dsimp only at hSw); go_simp; try with_reducible rfl)
            try simp only [Act.put, List.getElem_toArray, List.getElem_cons_zero, List.getElem_cons_succ, List.setIfInBounds_toArray, List.set_cons_zero, List.set_cons_succ]
            refine wpAnyH_take (i := 12) (v := ?_) rfl (by kernel_rfl) (by kernel_rfl) (by kernel_rfl) (fun _ _ _ h => h) (Or.inl ⟨by rfl, ?_⟩) (by assumption) ?_
            rotate_left
            · (intro w hSw; (try dsimp only at hSw); go_simp; try with_reducible rfl)
            try simp only [Act.put, List.getElem_toArray, List.getElem_cons_zero, List.getElem_cons_succ, List.setIfInBounds_toArray, List.set_cons_zero, List.set_cons_succ]
            refine wpAnyH_take (i := 13) (v := ?_) rfl (by kernel_rfl) (by kernel_rfl) (by kernel_rfl) (fun _ _ _ h => h) (Or.inl ⟨by rfl, ?_⟩) (by assumption) ?_
            rotate_left
            · (intro w hSw; (try dsimp only at hSw); go_simp; try with_reducible rfl)
            try simp only [Act.put, List.getElem_toArray, List.getElem_cons_zero, List.getElem_cons_succ, List.setIfInBounds_toArray, List.set_cons_zero, List.set_cons_succ]
            refine wpAnyH_take (i := 14) (v := ?_) rfl (by kernel_rfl) (by kernel_rfl) (by kernel_rfl) (fun _ _ _ h => h) (Or.inl ⟨by rfl, ?_⟩) (by assumption) ?_
            rotate_left
            · (intro w hSw; (try dsimp only at hSw); go_simp; try with_reducible rfl)
            try simp only [Act.put, List.getElem_toArray, List.getElem_cons_zero, List.getElem_cons_succ, List.setIfInBounds_toArray, List.set_cons_zero, List.set_cons_succ]
            refine wpAnyH_take (i := 15) (v := ?_) rfl (by kernel_rfl) (by kernel_rfl) (by kernel_rfl) (fun _ _ _ h => h) (Or.inl ⟨by rfl, ?_⟩) (by assumption) ?_
            rotate_left
            · (intro w hSw; (try dsimp only at hSw); go_simp; try with_reducible rfl)
            try simp only [Act.put, List.getElem_toArray, List.getElem_cons_zero, List.getElem_cons_succ, List.setIfInBounds_toArray, List.set_cons_zero, List.set_cons_succ]
            refine wpAnyH_take (i := 16) (v := ?_) rfl (by kernel_rfl) (by kernel_rfl) (by kernel_rfl) (fun _ _ _ h => h) (Or.inl ⟨by rfl, ?_⟩) (by assumption) ?_
            rotate_left
            · (intro w hSw; (try dsimp only at hSw); go_simp; try with_reducible rfl)
            try simp only [Act.put, List.getElem_toArray, List.getElem_cons_zero, List.getElem_cons_succ, List.setIfInBounds_toArray, List.set_cons_zero, List.set_cons_succ]
            refine wpAnyH_take (i := 17) (v := ?_) rfl (by kernel_rfl) (by kernel_rfl) (by kernel_rfl) (fun _ _ _ h => h) (Or.inl ⟨by rfl, ?_⟩) (by assumption) ?_
            rotate_left
            · (intro w hSw; (try dsimp only at hSw); go_simp; try with_reducible rfl)
            try simp only [Act.put, List.getElem_toArray, List.getElem_cons_zero, List.getElem_cons_succ, List.setIfInBounds_toArray, List.set_cons_zero, List.set_cons_succ]
            refine wpAnyH_take (i := 18) (v := ?_) rfl (by kernel_rfl) (by kernel_rfl) (by kernel_rfl) (fun _ _ _ h => h) (Or.inl ⟨by rfl, ?_⟩) (by assumption) ?_
            rotate_left
            · (intro w hSw; (try dsimp only at hSw); go_simp; try with_reducible rfl)
            try simp only [Act.put, List.getElem_toArray, List.getElem_cons_zero, List.getElem_cons_succ, List.setIfInBounds_toArray, List.set_cons_zero, List.set_cons_succ]
            refine wpAnyH_take (i := 19) (v := ?_) rfl (by kernel_rfl) (by kernel_rfl) (by kernel_rfl) (fun _ _ _ h => h) (Or.inl ⟨by rfl, ?_⟩) (by assumption) ?_
            rotate_left
            · (intro w hSw; (try dsimp only at hSw); go_simp; try with_reducible rfl)
            try simp only [Act.put, List.getElem_toArray, List.getElem_cons_zero, List.getElem_cons_succ, List.setIfInBounds_toArray, List.set_cons_zero, List.set_cons_succ]
            refine wpAnyH_take (i := 20) (v := ?_) rfl (by kernel_rfl) (by kernel_rfl) (by kernel_rfl) (fun _ _ _ h => h) (Or.inl ⟨by rfl, ?_⟩) (by assumption) ?_
            rotate_left
            · (intro w hSw; (try dsimp only at hSw); go_simp; try with_reducible rfl)
            try simp only [Act.put, List.getElem_toArray, List.getElem_cons_zero, List.getElem_cons_succ, List.setIfInBounds_toArray, List.set_cons_zero, List.set_cons_succ]
            refine wpAnyH_take (i := 21) (v := undef) rfl (by kernel_rfl) (by kernel_rfl) (by kernel_rfl) (fun _ _ _ h => h) (Or.inr ⟨by rfl, rfl⟩) (by assumption) ?_
            try simp only [Act.put, List.getElem_toArray, List.getElem_cons_zero, List.getElem_cons_succ, List.setIfInBounds_toArray, List.set_cons_zero, List.set_cons_succ]
            refine wpAnyH_take (i := 22) (v := undef) rfl (by kernel_rfl) (by kernel_rfl) (by kernel_rfl) (fun _ _ _ h => h) (Or.inr ⟨by rfl, rfl⟩) (by assumption) ?_
            try simp only [Act.put, List.getElem_toArray, List.getElem_cons_zero, List.getElem_cons_succ, List.setIfInBounds_toArray, List.set_cons_zero, List.set_cons_succ]
            refine wpAnyH_take (i := 23) (v := undef) rfl (by kernel_rfl) (by kernel_rfl) (by kernel_rfl) (fun _ _ _ h => h) (Or.inr ⟨by rfl, rfl⟩) (by assumption) ?_
            try simp only [Act.put, List.getElem_toArray, List.getElem_cons_zero, List.getElem_cons_succ, List.setIfInBounds_toArray, List.set_cons_zero, List.set_cons_succ]
            refine wpAnyH_take (i := 24) (v := undef) rfl (by kernel_rfl) (by kernel_rfl) (by kernel_rfl) (fun _ _ _ h => h) (Or.inr ⟨by rfl, rfl⟩) (by assumption) ?_
            try simp only [Act.put, List.getElem_toArray, List.getElem_cons_zero, List.getElem_cons_succ, List.setIfInBounds_toArray, List.set_cons_zero, List.set_cons_succ]
            refine wpAnyH_take (i := 25) (v := ?_) rfl (by kernel_rfl) (by kernel_rfl) (by kernel_rfl) (fun _ _ _ h => h) (Or.inl ⟨by rfl, ?_⟩) (by assumption) ?_
            rotate_left
            · (intro w hSw; (try dsimp only at hSw); go_simp; try with_reducible rfl)
            try simp only [Act.put, List.getElem_toArray, List.getElem_cons_zero, List.getElem_cons_succ, List.setIfInBounds_toArray, List.set_cons_zero, List.set_cons_succ]
            refine wpAnyH_take (i := 26) (v := ?_) rfl (by kernel_rfl) (by kernel_rfl) (by kernel_rfl) (fun _ _ _ h => h) (Or.inl ⟨by rfl, ?_⟩) (by assumption) ?_
            rotate_left
            · (intro w hSw; (try dsimp only at hSw); go_simp; try with_reducible rfl)
            try simp only [Act.put, List.getElem_toArray, List.getElem_cons_zero, List.getElem_cons_succ, List.setIfInBounds_toArray, List.set_cons_zero, List.set_cons_succ]
            refine wpAnyH_done (by kernel_rfl) ?_ _
            obtain ⟨w9, hw9⟩ : ∃ w9, ((w13).alloc (.cells #[.int .i64 1, .int .i64 0, .slice none 0 0] 26)) = w9 := ⟨_, rfl⟩
            have b9 : Below (w13).heap.size (w13) w9 := by rw [← hw9]; exact ((Below.refl _ _).alloc (Nat.le_refl _) _)
            have q9 : w9.heap[(w13).heap.size]? = some (.cells #[.int .i64 1, .int .i64 0, .slice none 0 0] 26 (0, 0)) := by rw [← hw9]; exact heap_alloc_new (w13) _
            have B49 := Lib.hid (aw _ _ bw13 b9)
            have Q9 := Lib.hid q9
            have H9 := Lib.hid hw9
            have l9 := lt_of_block q9
            clear b9 q9 hw9
            go_upto_region 10 with fail
            rw [H9.out]
            clear H9
            obtain ⟨w10, hw10⟩ : ∃ w10, w9.alloc (.cells #[.int .i64 kx, S nx, .int .i64 px, .slice Ax xs.length cx] 51) = w10 := ⟨_, rfl⟩
            obtain ⟨w11, hw11⟩ : ∃ w11, w10.alloc (.cells #[.int .i64 ku, S nu, .int .i64 pu, .slice Au us.length cu] 51) = w11 := ⟨_, rfl⟩
            have b10 : Below w9.heap.size w9 w10 := by rw [← hw10]; exact (Below.refl _ _).alloc (Nat.le_refl _) _
            have b11 : Below w10.heap.size w10 w11 := by rw [← hw11]; exact (Below.refl _ _).alloc (Nat.le_refl _) _
            have q10 : w10.heap[w9.heap.size]? = some (.cells #[.int .i64 kx, S nx, .int .i64 px, .slice Ax xs.length cx] 51 (0, 0)) := by rw [← hw10]; exact heap_alloc_new _ _
            have q11 : w11.heap[w10.heap.size]? = some (.cells #[.int .i64 ku, S nu, .int .i64 pu, .slice Au us.length cu] 51 (0, 0)) := by rw [← hw11]; exact heap_alloc_new _ _
            have B410 := aw _ _ B49.out b10
            have B411 := Lib.hid (aw _ _ B410 b11)
            have CHX := Lib.hid (CHO.out w11 w9.heap.size w10.heap.size B411.out ((b11.block _ (lt_of_block q10)).trans q10) q11)
            obtain ⟨o0, o1, o2⟩ := cells3o Q9.out
            obtain ⟨e0, e1, e2⟩ := cells3o ((b10.block _ l9).trans Q9.out)
            obtain ⟨⟨x0, x1, x2, x3⟩, _⟩ := SC.out w9 B49.out
            obtain ⟨_, ⟨u0, u1, u2, u3⟩⟩ := SC.out w10 B410
            clear b10 b11 q10 q11 B410
            go_wp2_with fail
            refine CHX.out.mono ?_
            rintro e w12 ⟨⟨l, E, rfl, hl⟩, b12⟩
            have B412 := Lib.hid (aw _ _ B411.out b12)
            clear b12 o0 o1 o2 e0 e1 e2 x0 x1 x2 x3 u0 u1 u2 u3 hw10 hw11
            by_cases hE : E = 0
            · subst hE
              have hl2 : l = true := by
                have h := hl rfl
                first | exact h | (rw [h]; rfl) | simpa [HL0.out] using h
              clear hl
              subst hl2
              go_wp2_with fail
              refine (oAwake_any _).mono ?_
              rintro e w15 ⟨rfl, b15⟩
              go_wp2_with fail
              go_ret
              exact ⟨rfl, UP.out _ (aw _ _ B412.out b15)⟩
            · have hE1 : (E != 0) = true := by simpa using hE
              have hE2 : (E == 0) = false := by simpa using hE
              clear hl hE
              go_wp2_with fail
              refine (oAwake_any _).mono ?_
              rintro e w15 ⟨rfl, b15⟩
              go_wp2_with fail
              go_ret
              exact ⟨rfl, UP.out _ (aw _ _ B412.out b15)⟩
          exact AllReadyH.nil
        exact AllReadyH.nil
end Go.Proofs.YtadjpadieljjlaaGreat

/- The law OrderSmaller is true of every input: its row. -/
set_option linter.unusedVariables false
namespace Go.Proofs.YtadjpadieljjlaaGreat.orderSmaller
open Go.ChangeShapes Go.WideShapes Go.ChangeAt Go.RowKit

theorem readable : ∀ t ∈ Tryz.f4.params.toList, Tryz.prog.readableRec t = true ∧ t < Tryz.prog.types.size := by
  have h : (Tryz.f4.params.toList.all fun t => Tryz.prog.readableRec t && decide (t < Tryz.prog.types.size)) = true := by kernel_rfl
  intro t ht
  have := List.all_eq_true.1 h t ht
  simp only [Bool.and_eq_true, decide_eq_true_eq] at this
  exact this

set_option maxRecDepth 100000 in
theorem lifted (os : Os) (started : os.Started) (H : Type) (enc : TypeId × Value → H) :
    ReturnsInHanded {} Tryz.checked os 4 .any (Rows.orderSmallerSpec.pre6 enc Tryz.prog Tryz.f4 Rows.orderSmallerRow.domain false) (Rows.orderSmallerSpec.post enc Tryz.prog Tryz.f4 false true false false) := by
  refine returnsInHanded_of_change (C := Tryz.checked) own started (by kernel_rfl) Tryz.func4
    (ChangeSpec.witness6 (enc := enc) (C := Tryz.checked) false ⟨#[], #[.slice none 0 0], []⟩ 8 (by kernel_rfl) (by kernel_rfl) (by kernel_rfl) (by kernel_rfl)) ?_
  intro W base args ds gs before hval0 hW hcnd _
  have hval : ∀ (j : Nat) t v, Tryz.f4.params[j]? = some t → args[j]? = some v → Value.okWide Tryz.prog W .any base t v := hval0
  have hW' := hW
  obtain ⟨p, q, hA0, hV, rfl, hfz, hnd⟩ := hW
  have hA : DataW.TrodAll enc Tryz.prog W 0 (fun _ => true) true Tryz.f4.params.toList args.toList ds p := hA0
  rw [Tryz.params4] at hA hval
  obtain ⟨v0, vs0, d0, ds0, p0, q0, hargs, rfl, rfl, h0, r0⟩ := trodAll_cons hA
  obtain ⟨rfl, rfl, rfl⟩ := trodAll_nil r0
  obtain rfl : args = #[v0] := by cases args; simp_all
  obtain ⟨rfl, rfl⟩ := trodVars_none hV
  obtain ⟨z0, i0⟩ := intsAt_of (hval 0 22 v0 rfl rfl) h0
  clear hA0 hval0
  refine (orderSmaller_walk v0 z0 W i0).mono fun e W' ⟨he, hb⟩ => ?_
  subst he
  exact ⟨_, rfl, law_post rfl ⟨rfl, rfl, rfl⟩ rfl readable hW' hb⟩

theorem said : Rows.OrderSmallerSaid :=
  OpenClaim.holds_of_wide 4 Tryz.f4 rfl rfl rfl rfl rfl rfl rfl ⟨rfl, rfl, rfl, rfl, rfl⟩ rfl rfl rfl rfl rfl (by kernel_rfl) Tryz.func4 (by kernel_rfl)
    (of_decide_eq_true (by kernel_rfl)) (by unfold Func.isWrapper; first | (rw [if_pos (by decide +kernel)]; kernel_rfl) | (rw [if_neg (by decide +kernel)]; exact ⟨rfl, rfl⟩))
    (fun os started H enc _ => lifted os started H enc)
#print axioms said
end Go.Proofs.YtadjpadieljjlaaGreat.orderSmaller
