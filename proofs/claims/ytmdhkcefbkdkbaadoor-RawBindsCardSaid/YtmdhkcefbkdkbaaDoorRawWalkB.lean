/- The walk of the law RawTexts. -/
import Derived.Test.YtmdhkcefbkdkbaaDoorRawWalkA
import Derived.Test.YtmdhkcefbkdkbaaDoorRawTextP
set_option linter.unusedVariables false
set_option linter.unusedSimpArgs false
namespace Lfc
theorem wf_of {t : Raw} (h1 : t.form = true) (h2 : t.size ≤ 31) (h3 : t.depth ≤ 5) : t.wf = 0 := by
  unfold Raw.wf
  rw [h1, if_neg (by simp), if_neg (by omega)]
theorem form_of_wf {t : Raw} (h : t.wf = 0) : t.form = true := by
  unfold Raw.wf at h
  split at h
  · cases h
  · rename_i h1; simpa using h1
end Lfc
namespace Go.Proofs.YtmdhkcefbkdkbaaDoor
open Go.RowKit

theorem ints_nil (w : World) : IntsAt w (.slice none 0 0) [] := ⟨none, 0, rfl, by simp, fun h => absurd h (by simp)⟩
theorem names_nil (w : World) : NamesAt w none [] := fun h => absurd h (by simp)

set_option maxRecDepth 100000 in
set_option maxHeartbeats 4000000 in
theorem rawTexts_walk (v0 v1 : Value) (z0 z1 : List Int) (w : World) (i0 : IntsAt w v0 z0) (i1 : IntsAt w v1 z1) (hw : WordsAt w) :
    Calls Tryd.prog 12 #[v0, v1] w fun e w' => e = .returned (.bool true) ∧ Below w.heap.size w w' := by
  have C1 := Lib.hid (tree_any v0 (.slice none 0 0) z0 [] w i0 (ints_nil w) hw)
  have C2 := Lib.hid (fun w1 hb => tree_any v0 v1 z0 z1 w1 (i0.below hb) (i1.below hb) (hw.below hb))
  clear i0 i1 hw
  go_enter Tryd.func12, Tryd.ntmps12
  go_wp2_with fail
  refine C1.out.mono ?_
  rintro e w1 ⟨⟨t1, x1, rfl, hv1, hs1, hf1⟩, b1⟩
  have hf1 := hf1 (by simp)
  have hwf1 := Lfc.wf_of hf1.1 hf1.2.1 hf1.2.2
  go_wp2_with fail
  refine (C2.out w1 b1).mono ?_
  rintro e w2 ⟨⟨t2, x2, rfl, hv2, hs2, _⟩, b2⟩
  obtain ⟨k1, n1, p1, ts1, A1, c1, ht1, rfl⟩ := hv1.node
  obtain ⟨k2, n2, p2, ts2, A2, c2, ht2, rfl⟩ := hv2.node
  have hv1 := hv1.below b2
  rw [ht1] at hv1 hs1 hwf1 hf1
  rw [ht2] at hv2 hs2
  obtain ⟨w4, hw4, b4, F⟩ := two_vars hv1 hv2
  have hb14 : Below w.heap.size w w4 := b1.trans ((b2.mono b1.size).trans (b4.mono (Nat.le_trans b1.size b2.size)))
  generalize hT1 : Lfc.Raw.node k1 n1 p1 ts1 = T1 at *
  generalize hT2 : Lfc.Raw.node k2 n2 p2 ts2 = T2 at *
  have D1 := Lib.hid (fun W (hb : Below w4.heap.size w4 W) => wf_any T1 _ W (by omega) (F W hb).1)
  have D2 := Lib.hid (fun W (hb : Below w4.heap.size w4 W) => wf_any T2 _ W (by omega) (F W hb).2.1)
  have D3 := Lib.hid (fun W (hb : Below w4.heap.size w4 W) => (show Calls Tryd.prog 32 #[.agg #[.int .i64 k1, S n1, .int .i64 p1, .slice A1 ts1.length c1], .slice none 0 0] W (fun e w' => e = .returned (S (T1.fmt [])) ∧ Below W.heap.size W w') from format_any T1 _ [] none 0 W (by omega) (F W hb).1 (by simp) (names_nil W)))
  have D4 := Lib.hid (fun W (hb : Below w4.heap.size w4 W) => (show Calls Tryd.prog 32 #[.agg #[.int .i64 k2, S n2, .int .i64 p2, .slice A2 ts2.length c2], .slice none 0 0] W (fun e w' => e = .returned (S (T2.fmt [])) ∧ Below W.heap.size W w') from format_any T2 _ [] none 0 W (by omega) (F W hb).2.1 (by simp) (names_nil W)))
  have D5 := Lib.hid (fun W (hb : Below w4.heap.size w4 W) => rSame_any false T1 T2 _ _ W (by omega) (F W hb).1 (F W hb).2.1)
  rw [hwf1] at D1
  have x1 : T1.fmt [] = T1.text [] := if_pos hwf1
  have hform1 := hf1.1
  have FF := Lib.hid (fun W (hb : Below w4.heap.size w4 W) => (F W hb).2.2)
  have B4 := Lib.hid hb14
  have G0 : Below w4.heap.size w4 w4 := Below.refl _ _
  have G1 : Below w4.heap.size w4 w4.drew := (Below.refl _ _).drew
  clear hT1 hT2 F hv1 hv2 b1 b2 b4 C1 C2 hb14 ht1 ht2 hs1 hs2 hwf1 hf1
  go_upto_region 2 with fail
  clear hw4
  have aa : ∀ W W', Below w4.heap.size w4 W → Below W.heap.size W W' → Below w4.heap.size w4 W' := fun W W' h h' => h.trans (h'.mono h.size)
  obtain ⟨⟨a0, a1, a2, a3⟩, ⟨c0, c1', c2', c3⟩⟩ := FF.out w4 G0
  by_cases hz : T2.wf = 0
  · have x2 : T2.fmt [] = T2.text [] := if_pos hz
    have hform2 := Lfc.form_of_wf hz
    have hts := Lfc.text_same hform1 hform2
    rw [hz] at D2
    rw [x1] at D3
    rw [x2] at D4
    clear hz x1 x2
    go_wp2_with fail
    refine (D1.out _ G0).mono ?_
    rintro e w5 ⟨rfl, hb5'⟩
    have hb5 := aa _ _ G0 hb5'
    obtain ⟨⟨d0, d1, d2, d3⟩, ⟨e0, e1, e2, e3⟩⟩ := FF.out w5 hb5
    go_wp2_with fail
    refine (D2.out _ hb5).mono ?_
    rintro e w6 ⟨rfl, hb6'⟩
    have hb6 := aa _ _ hb5 hb6'
    have hb6d := hb6.drew
    go_upto_region 4 with fail
    clear a0 a1 a2 a3 c0 c1' c2' c3 d0 d1 d2 d3 e0 e1 e2 e3 hb5 hb5' hb6'
    cases hsame : Lfc.Raw.same false T1 T2
    · rw [hsame] at D5 hts
      have hne := of_decide_eq_false hts
      generalize T1.text [] = l1 at *
      generalize T2.text [] = l2 at *
      have hne1 : ¬ l1.toArray = l2.toArray := fun e => hne (by simpa using e)
      have hne2 : (l1 == l2) = false := by simpa using hne
      clear hts hsame hform1 hform2
      go_region_held3 (fun w' => (w'.cell? ⟨w2.heap.size, 0, none⟩ = some (.int .i64 k1) ∧ w'.cell? ⟨w2.heap.size, 1, none⟩ = some (S n1) ∧ w'.cell? ⟨w2.heap.size, 2, none⟩ = some (.int .i64 p1) ∧ w'.cell? ⟨w2.heap.size, 3, none⟩ = some (.slice A1 ts1.length c1)) ∧
          (w'.cell? ⟨w2.heap.size + 1, 0, none⟩ = some (.int .i64 k2) ∧ w'.cell? ⟨w2.heap.size + 1, 1, none⟩ = some (S n2) ∧ w'.cell? ⟨w2.heap.size + 1, 2, none⟩ = some (.int .i64 p2) ∧ w'.cell? ⟨w2.heap.size + 1, 3, none⟩ = some (.slice A2 ts2.length c2)))
        (first | exact FF.out _ hb6d | (refine FF.out _ ?_; assumption))
        (first
          | (go_at_call 39; (with_reducible refine (D5.out _ ?_).mono ?_); assumption; rintro e w9 ⟨rfl, hb9'⟩; have hb9 := aa _ _ (by assumption) hb9')
          | (go_at_call 32; (with_reducible refine (D3.out _ ?_).mono ?_); assumption; rintro e w8 ⟨rfl, hb8'⟩; have hb8 := aa _ _ (by assumption) hb8')
          | (go_at_call 32; (with_reducible refine (D4.out _ ?_).mono ?_); assumption; rintro e w7 ⟨rfl, hb7'⟩; have hb7 := aa _ _ (by assumption) hb7')
          | (go_at_call 37; refine (awake2_any _).mono ?_; rintro e w5 ⟨rfl, hb5'⟩; have hb5 := aa _ _ (by assumption) hb5'))
      all_goals
        go_wp2_with fail
        go_ret
        exact ⟨rfl, B4.out.trans (hb5.mono B4.out.size)⟩
    · rw [hsame] at D5 hts
      have heq := of_decide_eq_true hts
      rw [← heq] at D4
      clear hts hsame hform1 hform2 heq
      go_region_held3 (fun w' => (w'.cell? ⟨w2.heap.size, 0, none⟩ = some (.int .i64 k1) ∧ w'.cell? ⟨w2.heap.size, 1, none⟩ = some (S n1) ∧ w'.cell? ⟨w2.heap.size, 2, none⟩ = some (.int .i64 p1) ∧ w'.cell? ⟨w2.heap.size, 3, none⟩ = some (.slice A1 ts1.length c1)) ∧
          (w'.cell? ⟨w2.heap.size + 1, 0, none⟩ = some (.int .i64 k2) ∧ w'.cell? ⟨w2.heap.size + 1, 1, none⟩ = some (S n2) ∧ w'.cell? ⟨w2.heap.size + 1, 2, none⟩ = some (.int .i64 p2) ∧ w'.cell? ⟨w2.heap.size + 1, 3, none⟩ = some (.slice A2 ts2.length c2)))
        (first | exact FF.out _ hb6d | (refine FF.out _ ?_; assumption))
        (first
          | (go_at_call 39; (with_reducible refine (D5.out _ ?_).mono ?_); assumption; rintro e w9 ⟨rfl, hb9'⟩; have hb9 := aa _ _ (by assumption) hb9')
          | (go_at_call 32; (with_reducible refine (D3.out _ ?_).mono ?_); assumption; rintro e w8 ⟨rfl, hb8'⟩; have hb8 := aa _ _ (by assumption) hb8')
          | (go_at_call 32; (with_reducible refine (D4.out _ ?_).mono ?_); assumption; rintro e w7 ⟨rfl, hb7'⟩; have hb7 := aa _ _ (by assumption) hb7')
          | (go_at_call 37; refine (awake2_any _).mono ?_; rintro e w5 ⟨rfl, hb5'⟩; have hb5 := aa _ _ (by assumption) hb5'))
      all_goals
        go_wp2_with fail
        go_ret
        exact ⟨rfl, B4.out.trans (hb5.mono B4.out.size)⟩
  · have x2 : T2.fmt [] = [] := if_neg hz
    rw [x2] at D4
    have hzb : (T2.wf != 0) = true := by simpa using hz
    generalize T2.wf = f2 at *
    clear x1 x2
    go_wp2_with fail
    refine (D1.out _ G0).mono ?_
    rintro e w5 ⟨rfl, hb5'⟩
    have hb5 := aa _ _ G0 hb5'
    obtain ⟨⟨d0, d1, d2, d3⟩, ⟨e0, e1, e2, e3⟩⟩ := FF.out w5 hb5
    go_wp2_with fail
    refine (D2.out _ hb5).mono ?_
    rintro e w6 ⟨rfl, hb6'⟩
    have hb6 := aa _ _ hb5 hb6'
    obtain ⟨⟨i0, i1, i2, i3⟩, ⟨j0, j1, j2, j3⟩⟩ := FF.out w6 hb6
    go_wp2_with fail
    refine (D1.out _ hb6).mono ?_
    rintro e w7 ⟨rfl, hb7'⟩
    have hb7 := aa _ _ hb6 hb7'
    obtain ⟨⟨m0, m1, m2, m3⟩, ⟨l0, l1, l2, l3⟩⟩ := FF.out w7 hb7
    go_wp2_with fail
    refine (D4.out _ hb7).mono ?_
    rintro e w8 ⟨rfl, hb8'⟩
    have hb8 := aa _ _ hb7 hb8'
    go_wp2_with fail
    refine (awake2_any _).mono ?_
    rintro e w9 ⟨rfl, hb9'⟩
    have hb9 := aa _ _ hb8 hb9'
    go_wp2_with fail
    go_ret
    exact ⟨rfl, B4.out.trans (hb9.mono B4.out.size)⟩
end Go.Proofs.YtmdhkcefbkdkbaaDoor
