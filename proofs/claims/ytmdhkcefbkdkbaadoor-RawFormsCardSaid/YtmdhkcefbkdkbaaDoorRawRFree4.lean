/- The contract of the reference's Free. -/
import Derived.Test.YtmdhkcefbkdkbaaDoorRawRFree3
set_option linter.unusedVariables false
set_option linter.unusedSimpArgs false
namespace Go.Proofs.YtmdhkcefbkdkbaaDoor
open Go.RowKit Go.Maps Go.WideMaps

theorem rfree_upto (w0 : World) (m : Nat) : RFreeUpto w0 m := by
  induction m with
  | zero => intro t v w out B B' vl Ab cb h; have := t.size_pos; omega
  | succ m ih =>
    intro t v w out B B' vl Ab cb hsz hform hv hb0 hown hB hR hl
    obtain ⟨k, n, p, ts⟩ := t
    simp only [Lfc.Raw.size] at hsz hl
    have hform' := hform
    rw [Lfc.Raw.form, Bool.and_eq_true] at hform
    obtain ⟨hfd, hfs⟩ := hform
    have hk := formed_cases hfd
    by_cases h1 : k = 1 ∨ k = 2
    · have : ts = [] := List.length_eq_zero_iff.1 (by omega)
      subst this
      have hn : Lfc.isName n = true := by
        unfold Lfc.formed at hfd
        rw [if_pos h1] at hfd
        simp only [Bool.and_eq_true] at hfd
        exact hfd.1
      exact rfree_leaf w0 k p n h1 hn v w out B B' vl Ab cb hv hb0 hown hB hR (by omega)
    by_cases h2 : k = 7 ∨ k = 8
    · match ts, (show ts.length = 1 ∨ ts.length = 2 by omega) with
      | [a], _ =>
        by_cases hn : n = [95]
        · exact rfree_b1h w0 m ih k p n h2 hn a (by omega) hfs v w out B B' vl Ab cb hv hb0 hown hB hR (by omega)
        · exact rfree_b1n w0 m ih k p n h2 hn a (by omega) hfs v w out B B' vl Ab cb hv hb0 hown hB hR (by omega)
      | [a, a'], _ =>
        by_cases hn : n = [95]
        · exact rfree_b2h w0 m ih k p n h2 hn a a' (by omega) hfs v w out B B' vl Ab cb hv hb0 hown hB hR (by omega)
        · exact rfree_b2n w0 m ih k p n h2 hn a a' (by omega) hfs v w out B B' vl Ab cb hv hb0 hown hB hR (by omega)
      | [], h0 => simp at h0
      | _ :: _ :: _ :: _, h0 => simp at h0
    exact rfree_args w0 m ih k p n (by omega) ts (by omega) hfs v w out B B' vl Ab cb hv hb0 hown hB hR (by omega)

set_option maxRecDepth 100000 in
set_option maxHeartbeats 2000000 in
theorem rFree_any (t : Lfc.Raw) (v : Value) (w : World) (hmax : t.size ≤ 1000000000) (hv : TreeV w t v) :
    Calls Tryd.prog 36 #[v] w fun e w' => (∃ A c, e = .returned (.slice A t.freeN.length c) ∧ NamesAt w' A t.freeN) ∧ Below w.heap.size w w' := by
  obtain ⟨A, c, kd, nm, ps, ts, hT, rfl, hc, hA⟩ : ∃ A c kd nm ps ts, t = .node kd nm ps ts ∧ v = .agg #[.int .i64 kd, S nm, .int .i64 ps, .slice A ts.length c] ∧ ts.length ≤ c ∧ TreesAt w A ts := by
    obtain ⟨kd, nm, ps, ts⟩ := t
    obtain ⟨A, c, rfl, hc, hA⟩ := hv.open_
    exact ⟨A, c, kd, nm, ps, ts, rfl, rfl, hc, hA⟩
  clear hT hA
  obtain ⟨w1, hw1⟩ : ∃ w1, w.alloc (.cells #[.int .i64 kd, S nm, .int .i64 ps, .slice A ts.length c] 42) = w1 := ⟨_, rfl⟩
  have b01 : Below w.heap.size w w1 := by rw [← hw1]; exact (Below.refl _ _).alloc (Nat.le_refl _) _
  have s1 := eq2 (show w1.heap.size = w.heap.size + 1 by rw [← hw1]; simp)
  have q1 : w1.heap[w.heap.size]? = some (.cells #[.int .i64 kd, S nm, .int .i64 ps, .slice A ts.length c] 42 (0, 0)) := by rw [← hw1]; exact heap_alloc_new _ _
  obtain ⟨y0, y1, y2, y3⟩ := cells4 q1
  have Q1 := Lib.hid q1
  have HV := Lib.hid (hv.below b01)
  have HWF := Lib.hid (rWf_any t _ w1 hmax HV.out)
  clear hv q1
  by_cases hz : t.wf = 0
  · have hf : t.freeN = Lfc.Raw.fr [] t [] := if_pos hz
    rw [hf]
    rw [hz] at HWF
    obtain ⟨hfm, hsz, _⟩ := Lfc.wf_zero hz
    clear hf hz
    go_enter Tryd.func36, Tryd.ntmps36
    go_upto_region 1 with fail
    clear hw1
    go_wp2_with fail
    refine HWF.out.mono ?_
    rintro e w2 ⟨rfl, hb2⟩
    have hs2 := hb2.size
    obtain ⟨z0, z1, z2, z3⟩ := cells4 ((hb2.block _ (by omega)).trans Q1.out)
    have HF := Lib.hid (show Calls Tryd.prog 65 #[.slice none 0 0, .agg #[.int .i64 kd, S nm, .int .i64 ps, .slice A ts.length c], .slice none 0 0] w2 _ from rfree_upto w2 t.size t _ w2 [] [] [] (.slice none 0 0) none 0 (Nat.le_refl _) hfm (HV.out.below hb2) (Below.refl _ _) (own_nil _ _ _ _) (fun h => absurd h (by simp)) (fun _ _ => Iff.rfl) (by simp; omega))
    clear y0 y1 y2 y3
    go_wp2_with fail
    refine HF.out.mono ?_
    rintro e w5 ⟨v5, rfl, hown5, hg5, hb5⟩
    obtain ⟨A5, c5, rfl⟩ := own_form hown5
    have HN := Lib.hid (own_namesR hown5)
    have HB5 := Lib.hid hb5
    clear hown5 hg5 hb5
    go_wp2_with fail
    go_ret
    exact ⟨⟨_, _, rfl, HN.out⟩, b01.trans ((hb2.mono (by omega)).trans (HB5.out.mono (by omega)))⟩
  · have hf : t.freeN = [] := if_neg hz
    rw [hf]
    have hg : (t.wf != 0) = true := by simpa using hz
    generalize t.wf = f at *
    clear hf hz
    go_enter Tryd.func36, Tryd.ntmps36
    go_upto_region 1 with fail
    clear hw1
    go_wp2_with fail
    refine HWF.out.mono ?_
    rintro e w2 ⟨rfl, hb2⟩
    go_wp2_with fail
    go_ret
    exact ⟨⟨_, _, rfl, fun h => absurd h (by simp)⟩, b01.trans (hb2.mono (by omega))⟩
end Go.Proofs.YtmdhkcefbkdkbaaDoor
