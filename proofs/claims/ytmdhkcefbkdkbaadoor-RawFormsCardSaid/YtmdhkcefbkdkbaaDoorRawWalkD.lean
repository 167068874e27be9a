/- The walk of the law RawForms. -/
import Derived.Test.YtmdhkcefbkdkbaaDoorRawWalkA
import Derived.Test.YtmdhkcefbkdkbaaDoorRawRFmt4
set_option linter.unusedVariables false
set_option linter.unusedSimpArgs false
namespace Go.Proofs.YtmdhkcefbkdkbaaDoor
open Go.RowKit Go.Maps Go.WideMaps

set_option maxRecDepth 100000 in
set_option maxHeartbeats 1000000 in
theorem sameN_any (l : List (List UInt8)) (A B : Option Addr) (c c' : Nat) (w : World) (hl : l.length ≤ 1000000000) (hA : NamesAt w A l) (hB : NamesAt w B l) :
    Calls Tryd.prog 34 #[.slice A l.length c, .slice B l.length c'] w fun e w' => e = .returned (.bool true) ∧ Below w.heap.size w w' := by
  have HA := Lib.hid hA
  have HB := Lib.hid hB
  clear hA hB
  have b0 : Below w.heap.size w w := Below.refl _ _
  go_enter Tryd.func34, Tryd.ntmps34
  go_wp2_with fail
  go_loopw [5] (fun i wr => ∃ k : Nat, k ≤ l.length ∧ i = .int .i64 k ∧ Below w.heap.size w wr) (fun i _ => l.length - (intOf i).toNat)
  case atStart => exact ⟨0, by omega, rfl, b0⟩
  case round =>
    obtain ⟨k, hk, rfl, hbw⟩ := hrel
    by_cases hlt : k < l.length
    · obtain ⟨b, o, rfl, hb, hcs⟩ := HA.out (by omega)
      obtain ⟨b', o', rfl, hb', hcs'⟩ := HB.out (by omega)
      have h1 := (hbw.cell (p := ⟨b, o + k, none⟩) hb).trans (hcs k hlt)
      have h2 := (hbw.cell (p := ⟨b', o' + k, none⟩) hb').trans (hcs' k hlt)
      generalize l[k] = x at *
      clear hcs hcs'
      have e1 : (0 : Int) ≤ (k : Int) := Int.natCast_nonneg _
      have e2 : (k : Int) < (l.length : Int) := by omega
      go_wp2_with fail
      refine wp_region_still_tail 8 (by kernel_rfl) (by kernel_rfl) ?_
      simp only [List.take_succ_cons, List.take_zero, List.drop_succ_cons, List.drop_zero]
      change wpStill Tryd.prog _ wr.drew _ _ _
      repeat still_step
      try refine wpStill_nil ?_
      change wpList _ _ _ _ _ wr.drew
      go_wp2_with fail
      go_roundw
      case rel => exact ⟨k + 1, by omega, by go_num, hbw.drew⟩
      case measure => simp [intOf]; omega
    · go_wp2_with fail
      go_ret
      exact ⟨rfl, hbw⟩

theorem freeN_len2 (t : Lfc.Raw) : t.freeN.length ≤ t.size := by
  unfold Lfc.Raw.freeN
  split
  · have := Lfc.fr_len t [] []
    simpa using this
  · simp
theorem names3 {w : World} {g : Nat} (h : w.heap[g]? = some (.cells #[S [43], S [97], S [110, 97, 116]] 9 (0, 0))) : NamesAt w (some ⟨g, 0, none⟩) [[43], [97], [110, 97, 116]] := fun _ =>
  ⟨g, 0, rfl, lt_of_block h, fun k hk => by
    match k, hk with
    | 0, _ => exact Lib.cell_of_heap h 0
    | 1, _ => exact Lib.cell_of_heap h 1
    | 2, _ => exact Lib.cell_of_heap h 2⟩
/-- What the law's last two lines need: the tree's variable, the row of quoted names. -/
structure FormsAt (w4 : World) (B : Nat) (t : Lfc.Raw) (k p : Int) (n : List UInt8) (A : Option Addr) (m c : Nat) (q : List (List UInt8)) (Aq : Option Addr) (W : World) : Prop where
  tree : TreeV W t (.agg #[.int .i64 k, S n, .int .i64 p, .slice A m c])
  cells : W.cell? ⟨B, 0, none⟩ = some (.int .i64 k) ∧ W.cell? ⟨B, 1, none⟩ = some (S n) ∧ W.cell? ⟨B, 2, none⟩ = some (.int .i64 p) ∧ W.cell? ⟨B, 3, none⟩ = some (.slice A m c)
  names : NamesAt W Aq q

theorem formsEnv0 {w1 : World} {t : Lfc.Raw} {k p : Int} {n : List UInt8} {A : Option Addr} {m c : Nat} (h1 : TreeV w1 t (.agg #[.int .i64 k, S n, .int .i64 p, .slice A m c])) :
    ∃ w4, w1.alloc (.cells #[.int .i64 k, S n, .int .i64 p, .slice A m c] 42) = w4 ∧ Below w1.heap.size w1 w4 ∧ ∀ W, Below w4.heap.size w4 W → FormsAt w4 w1.heap.size t k p n A m c [] none W := by
  refine ⟨_, rfl, (Below.refl _ _).alloc (Nat.le_refl _) _, fun W hb => ?_⟩
  have b3 : Below w1.heap.size w1 W := ((Below.refl _ _).alloc (Nat.le_refl _) _).trans (hb.mono (by simp))
  exact ⟨h1.below b3, cells4 ((hb.block w1.heap.size (by simp)).trans (heap_alloc_new _ _)), fun h => absurd h (by simp)⟩
theorem formsEnv1 {w1 : World} {t : Lfc.Raw} {k p : Int} {n : List UInt8} {A : Option Addr} {m c : Nat} (h1 : TreeV w1 t (.agg #[.int .i64 k, S n, .int .i64 p, .slice A m c])) :
    ∃ w4, (w1.alloc (.cells #[.int .i64 k, S n, .int .i64 p, .slice A m c] 42)).alloc (.cells #[S [43], S [97], S [110, 97, 116]] 9) = w4 ∧ Below w1.heap.size w1 w4 ∧ ∀ W, Below w4.heap.size w4 W → FormsAt w4 w1.heap.size t k p n A m c [[43], [97], [110, 97, 116]] (some ⟨w1.heap.size + 1, 0, none⟩) W := by
  refine ⟨_, rfl, ((Below.refl _ _).alloc (Nat.le_refl _) _).alloc (by simp) _, fun W hb => ?_⟩
  have b3 : Below w1.heap.size w1 W := (((Below.refl _ _).alloc (Nat.le_refl _) _).alloc (by simp) _).trans (hb.mono (by simp; omega))
  refine ⟨h1.below b3, cells4 ((hb.block w1.heap.size (by simp; omega)).trans (heap_alloc_old _ _ _ _ (heap_alloc_new _ _))), names3 ?_⟩
  have := heap_alloc_new (w1.alloc (.cells #[.int .i64 k, S n, .int .i64 p, .slice A m c] 42)) (.cells #[S [43], S [97], S [110, 97, 116]] 9)
  rw [show (w1.alloc (.cells #[.int .i64 k, S n, .int .i64 p, .slice A m c] 42)).heap.size = w1.heap.size + 1 by simp] at this
  exact (hb.block (w1.heap.size + 1) (by simp)).trans this

set_option maxRecDepth 100000 in
set_option maxHeartbeats 4000000 in
theorem rawForms_walk (v0 v1 : Value) (z0 z1 : List Int) (z2 : Int) (w : World) (i0 : IntsAt w v0 z0) (i1 : IntsAt w v1 z1) (hzz : (Lit.int .i64 z2).wf = true) (hw : WordsAt w) :
    Calls Tryd.prog 10 #[v0, v1, .int .i64 z2] w fun e w' => e = .returned (.bool true) ∧ Below w.heap.size w w' := by
  have C1 := Lib.hid (tree_any v0 v1 z0 z1 w i0 i1 hw)
  clear i0 i1 hw hzz
  go_enter Tryd.func10, Tryd.ntmps10
  go_wp2_with fail
  refine C1.out.mono ?_
  rintro e w1 ⟨⟨t1, x1, rfl, hv1, hs1, _⟩, b1⟩
  obtain ⟨k1, n1, p1, ts1, A1, c1, ht1, rfl⟩ := hv1.node
  have HV1 := Lib.hid hv1
  have B1 := Lib.hid b1
  clear hv1 b1 C1 ht1
  go_wp2_with fail
  refine (cut_any z2 2 _ (by omega) (by omega)).mono ?_
  rintro e w2 ⟨rfl, hw2⟩
  obtain rfl := hw2.symm
  have hr := cutI_lt z2 2 (by omega)
  generalize cutI z2 2 = r at *
  go_upto_if 15 with fail
  go_cut [8] (fun s8 wx => ∃ (Q : List (List UInt8)) (Aq : Option Addr) (cq : Nat), s8 = .slice Aq Q.length cq ∧ Q.length ≤ 3 ∧ Hid (Below w1.heap.size w1 wx ∧ ∀ W, Below wx.heap.size wx W → FormsAt wx w1.heap.size t1 k1 p1 n1 A1 ts1.length c1 Q Aq W))
  case first =>
    rcases (show r = 0 ∨ r = 1 by omega) with rfl | rfl
    · obtain ⟨w4, hw4, b4, F⟩ := formsEnv0 HV1.out
      have HF := Lib.hid (And.intro b4 F)
      clear b4 F
      go_wp2_with fail
      go_meet
      subst hw4
      exact ⟨[], none, 0, rfl, by simp, HF⟩
    · obtain ⟨w4, hw4, b4, F⟩ := formsEnv1 HV1.out
      have HF := Lib.hid (And.intro b4 F)
      clear b4 F
      go_wp2_with fail
      go_meet
      exact ⟨[[43], [97], [110, 97, 116]], _, 3, rfl, by simp, HF⟩
  case rest =>
    obtain ⟨Q, Aq, cq, rfl, hql, HE⟩ := hcut
    obtain ⟨w4, hwc⟩ : ∃ w4, wc = w4 := ⟨_, rfl⟩
    rw [hwc] at HE ⊢
    clear hwc wc
    obtain ⟨b4, F⟩ := HE.out
    go_upto_region 5 with fail
    have D7 := Lib.hid (fun W (hb : Below w4.heap.size w4 W) => format_any t1 _ Q Aq cq W (by omega) (F W hb).tree (by omega) (F W hb).names)
    have D8 := Lib.hid (fun W (hb : Below w4.heap.size w4 W) => rFormat_any t1 _ Q Aq cq W (by omega) (F W hb).tree (by omega) (F W hb).names)
    generalize t1.fmt Q = tx at *
    have D1 := Lib.hid (fun W (hb : Below w4.heap.size w4 W) => wf_any t1 _ W (by omega) (F W hb).tree)
    have D2 := Lib.hid (fun W (hb : Below w4.heap.size w4 W) => rWf_any t1 _ W (by omega) (F W hb).tree)
    have D3 := Lib.hid (fun W (hb : Below w4.heap.size w4 W) => size_any 1000 t1 _ W (by omega) (by omega) (F W hb).tree)
    have D4 := Lib.hid (fun W (hb : Below w4.heap.size w4 W) => rSize_any 1000 t1 _ W (by omega) (by omega) (F W hb).tree)
    have D5 := Lib.hid (fun W (hb : Below w4.heap.size w4 W) => depth_any 1000 t1 _ W (by omega) (by omega) (F W hb).tree)
    have D6 := Lib.hid (fun W (hb : Below w4.heap.size w4 W) => rDepth_any 1000 t1 _ W (by omega) (by omega) (F W hb).tree)
    have D9 := Lib.hid (fun W (hb : Below w4.heap.size w4 W) => free_any t1 _ W (by omega) (F W hb).tree)
    have D10 := Lib.hid (fun W (hb : Below w4.heap.size w4 W) => rFree_any t1 _ W (by omega) (F W hb).tree)
    have hLl : t1.freeN.length ≤ 1000000000 := by have := freeN_len2 t1; omega
    have FF := Lib.hid (fun W (hb : Below w4.heap.size w4 W) => (F W hb).cells)
    have B4 := Lib.hid (B1.out.trans (b4.mono B1.out.size))
    have G0 : Below w4.heap.size w4 w4.drew := (Below.refl _ _).drew
    have aa : ∀ W W', Below w4.heap.size w4 W → Below W.heap.size W W' → Below w4.heap.size w4 W' := fun W W' h h' => h.trans (h'.mono h.size)
    generalize t1.wf = f1 at *
    generalize t1.depth = d1 at *
    generalize t1.freeN = L at *
    generalize hsz : t1.size = s1 at *
    clear F b4 HE HV1 B1 hsz hs1
    go_cut [9] (fun s9 wx => s9 = .bool true ∧ Hid (Below w4.heap.size w4 wx))
    case first =>
      go_region_held3 (fun w' => w'.cell? ⟨w1.heap.size, 0, none⟩ = some (.int .i64 k1) ∧ w'.cell? ⟨w1.heap.size, 1, none⟩ = some (S n1) ∧ w'.cell? ⟨w1.heap.size, 2, none⟩ = some (.int .i64 p1) ∧ w'.cell? ⟨w1.heap.size, 3, none⟩ = some (.slice A1 ts1.length c1))
        (first | exact FF.out _ G0 | (refine FF.out _ ?_; assumption))
        (first
          | (go_at_call 26; (with_reducible refine (D1.out _ ?_).mono ?_); assumption; rintro e w11 ⟨rfl, hb11'⟩; have hb11 := aa _ _ (by assumption) hb11')
          | (go_at_call 27; (with_reducible refine (D2.out _ ?_).mono ?_); assumption; rintro e w12 ⟨rfl, hb12'⟩; have hb12 := aa _ _ (by assumption) hb12')
          | (go_at_call 28; (with_reducible refine (D3.out _ ?_).mono ?_); assumption; rintro e w13 ⟨rfl, hb13'⟩; have hb13 := aa _ _ (by assumption) hb13')
          | (go_at_call 29; (with_reducible refine (D4.out _ ?_).mono ?_); assumption; rintro e w14 ⟨rfl, hb14'⟩; have hb14 := aa _ _ (by assumption) hb14')
          | (go_at_call 30; (with_reducible refine (D5.out _ ?_).mono ?_); assumption; rintro e w15 ⟨rfl, hb15'⟩; have hb15 := aa _ _ (by assumption) hb15')
          | (go_at_call 31; (with_reducible refine (D6.out _ ?_).mono ?_); assumption; rintro e w16 ⟨rfl, hb16'⟩; have hb16 := aa _ _ (by assumption) hb16'))
      all_goals
        go_wp2_with fail
        go_meet
        exact ⟨rfl, Lib.hid (by assumption)⟩
    case rest =>
      obtain ⟨rfl, HW⟩ := hcut
      have G1 : Below w4.heap.size w4 wc.drew := HW.out.drew
      clear G0
      go_wp2_with fail
      go_region_held3 (fun w' => w'.cell? ⟨w1.heap.size, 0, none⟩ = some (.int .i64 k1) ∧ w'.cell? ⟨w1.heap.size, 1, none⟩ = some (S n1) ∧ w'.cell? ⟨w1.heap.size, 2, none⟩ = some (.int .i64 p1) ∧ w'.cell? ⟨w1.heap.size, 3, none⟩ = some (.slice A1 ts1.length c1))
        (first | exact FF.out _ G1 | (refine FF.out _ ?_; assumption))
        (first
          | (go_at_call 32; (with_reducible refine (D7.out _ ?_).mono ?_); assumption; rintro e w17 ⟨rfl, hb17'⟩; have hb17 := aa _ _ (by assumption) hb17')
          | (go_at_call 33; (with_reducible refine (D8.out _ ?_).mono ?_); assumption; rintro e w18 ⟨rfl, hb18'⟩; have hb18 := aa _ _ (by assumption) hb18')
          | (go_at_call 35; (with_reducible refine (D9.out _ ?_).mono ?_); assumption; rintro e w19 ⟨⟨A19, c19, rfl, hn19⟩, hb19'⟩; have hb19 := aa _ _ (by assumption) hb19'; have N19 := Lib.hid hn19; clear hn19)
          | (go_at_call 36; (with_reducible refine (D10.out _ ?_).mono ?_); assumption; rintro e w20 ⟨⟨A20, c20, rfl, hn20⟩, hb20'⟩; have hb20 := aa _ _ (by assumption) hb20'; have N20 := Lib.hid hn20; clear hn20)
          | (go_at_call 34; ((with_reducible refine (sameN_any L A19 A20 c19 c20 _ hLl (N19.out.below hb20') N20.out).mono ?_)); rintro e w21 ⟨rfl, hb21'⟩; have hb21 := aa _ _ (by assumption) hb21')
          | (go_at_call 34; ((with_reducible refine (sameN_any L A19 A20 c19 c20 _ hLl N19.out (N20.out.below hb19')).mono ?_)); rintro e w21 ⟨rfl, hb21'⟩; have hb21 := aa _ _ (by assumption) hb21')
          | (go_at_call 37; refine (awake2_any _).mono ?_; rintro e w22 ⟨rfl, hb22'⟩; have hb22 := aa _ _ (by assumption) hb22'))
      all_goals
        go_wp2_with fail
        go_ret
        exact ⟨rfl, B4.out.trans (hb22.mono B4.out.size)⟩
end Go.Proofs.YtmdhkcefbkdkbaaDoor
