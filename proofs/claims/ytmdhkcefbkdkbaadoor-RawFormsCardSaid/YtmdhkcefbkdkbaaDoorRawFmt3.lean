/- Contracts of Format's closure write, and of Format. -/
import Derived.Test.YtmdhkcefbkdkbaaDoorRawFmt2
set_option linter.unusedVariables false
set_option linter.unusedSimpArgs false
namespace Go.Proofs.YtmdhkcefbkdkbaaDoor
open Go.RowKit

/-- The quoted names in their variable. -/
def QuoteAt (w0 : World) (Bq : Nat) (q : List (List UInt8)) : Prop := Bq < w0.heap.size ∧ q.length ≤ 1000000000 ∧ ∃ A c, w0.cell? ⟨Bq, 0, none⟩ = some (.slice A q.length c) ∧ NamesAt w0 A q

theorem formed_cases {k : Int} {n : List UInt8} {m : Nat} (h : Lfc.formed k n m = true) :
    ((k = 1 ∨ k = 2 ∨ k = 3 ∨ k = 4) ∧ m = 0) ∨ ((k = 5 ∨ k = 6 ∨ k = 9) ∧ m = 2) ∨ ((k = 7 ∨ k = 8) ∧ (m = 1 ∨ m = 2)) := by
  unfold Lfc.formed at h
  split at h
  · simp at h; omega
  split at h
  · simp at h; omega
  split at h
  · simp at h; omega
  split at h
  · simp at h; omega
  · cases h

set_option maxRecDepth 100000 in
set_option maxHeartbeats 400000 in
theorem write_upto (w0 : World) (b Bq : Nat) (q : List (List UInt8)) (hq : QuoteAt w0 Bq q) (m : Nat) : WriteUpto w0 b Bq q m := by
  induction m with
  | zero => intro t v w acc h _ _ _ _; have := t.size_pos; omega
  | succ m ih =>
    intro t v w acc hsz hform hv henv hbld hbd
    obtain ⟨k, n, p, ts⟩ := t
    simp only [Lfc.Raw.size] at hsz
    rw [Lfc.Raw.form, Bool.and_eq_true] at hform
    obtain ⟨hfd, hfs⟩ := hform
    have hn := hv.name_le
    have hk := formed_cases hfd
    clear hfd
    simp only [Lfc.Raw.text] at *
    have e1 := enters_two
    have e2 := enters_binder
    have HT := Lib.hid (fun W A o mid en => two_any w0 b Bq q m ih k p n ts v W A o mid en (by omega) hfs)
    have HB := Lib.hid (fun W A o en => binder_any w0 b Bq q m ih k p n ts v W A o en (by omega) hfs)
    have HV := Lib.hid hv
    obtain ⟨A, c, rfl, hc, hA⟩ := hv.open_
    have H0 := Lib.hid (StF.start #[.int .i64 k, S n, .int .i64 p, .slice A ts.length c] hbld henv)
    have hW := cell_of_one H0.out.env.tw
    have hB := cell_of_one H0.out.env.bi
    clear ih hv henv hbld hA
    obtain ⟨hBq, hql, Aq, cq, hqc, hqn⟩ := hq
    have hq1 := (H0.out.env.bel.cell (p := ⟨Bq, 0, none⟩) hBq).trans hqc
    have HN := Lib.hid (contains_any q n Aq cq _ hql (hqn.below H0.out.env.bel))
    clear hqn hqc hBq hql
    rcases hk with ⟨rfl | rfl | rfl | rfl, hm⟩ | ⟨rfl | rfl | rfl, hm⟩ | ⟨rfl | rfl, hm⟩
    · have HX := Lib.hid (show Lfc.putText q 1 n (Lfc.Raw.texts q ts) = if n ∈ q then [40] ++ n ++ [41] else n from rfl)
      rw [HX.out] at hbd ⊢
      clear hm HX
      by_cases hmem : n ∈ q
      · rw [decide_eq_true hmem] at HN
        rw [if_pos hmem] at hbd ⊢
        have hcat1 : (⟨#[40]⟩ : ByteArray) ++ ⟨n.toArray⟩ = ⟨([40] ++ n).toArray⟩ := bcat [40] n
        have hcat2 : (⟨([40] ++ n).toArray⟩ : ByteArray) ++ ⟨#[41]⟩ = ⟨([40] ++ n ++ [41]).toArray⟩ := bcat ([40] ++ n) [41]
        clear hmem
        go_enter Tryd.func59, Tryd.ntmps59
        go_wp2_with fail
        refine HN.out.mono ?_
        rintro e w1 ⟨rfl, rfl⟩
        go_wp2_with fail
        refine (writeString_any b b acc ([40] ++ n ++ [41]) _ H0.out.bld hbd H0.out.le).mono ?_
        rintro e w1 ⟨rfl, h1, hb1, hk1⟩
        have H1 := Lib.hid (H0.out.next h1 hb1 hk1)
        clear h1 hb1 hk1
        go_wp2_with fail
        refine bodyPost_ret (results_none rfl _ _ _) rfl ?_
        exact ⟨rfl, H1.out.bld, H1.out.bel, H1.out.kept⟩
      · rw [decide_eq_false hmem] at HN
        rw [if_neg hmem] at hbd ⊢
        clear hmem
        go_enter Tryd.func59, Tryd.ntmps59
        go_wp2_with fail
        refine HN.out.mono ?_
        rintro e w1 ⟨rfl, rfl⟩
        go_wp2_with fail
        refine (writeString_any b b acc n _ H0.out.bld hbd H0.out.le).mono ?_
        rintro e w1 ⟨rfl, h1, hb1, hk1⟩
        have H1 := Lib.hid (H0.out.next h1 hb1 hk1)
        clear h1 hb1 hk1
        go_wp2_with fail
        go_end0
        exact ⟨rfl, H1.out.bld, H1.out.bel, H1.out.kept⟩
    · have HX := Lib.hid (show Lfc.putText q 2 n (Lfc.Raw.texts q ts) = [64] ++ n from rfl)
      rw [HX.out] at hbd ⊢
      clear hm HX
      have hcat1 : (⟨#[64]⟩ : ByteArray) ++ ⟨n.toArray⟩ = ⟨([64] ++ n).toArray⟩ := bcat [64] n
      go_enter Tryd.func59, Tryd.ntmps59
      go_wp2_with fail
      refine (writeString_any b b acc _ _ H0.out.bld (by simp only [List.length_append, List.length_cons, List.length_nil] at hbd ⊢; omega) H0.out.le).mono ?_
      rintro e w1 ⟨rfl, h1, hb1, hk1⟩
      have H1 := Lib.hid (H0.out.next h1 hb1 hk1)
      clear h1 hb1 hk1
      go_wp2_with fail
      go_end0
      exact ⟨rfl, H1.out.bld, H1.out.bel, H1.out.kept⟩
    · have HX := Lib.hid (show Lfc.putText q 3 n (Lfc.Raw.texts q ts) = [95] from rfl)
      rw [HX.out] at hbd ⊢
      clear hm HX
      go_enter Tryd.func59, Tryd.ntmps59
      go_wp2_with fail
      refine (writeString_any b b acc ([95]) _ H0.out.bld (by simp only [List.length_append, List.length_cons, List.length_nil] at hbd ⊢; omega) H0.out.le).mono ?_
      rintro e w1 ⟨rfl, h1, hb1, hk1⟩
      have H1 := Lib.hid (H0.out.next h1 hb1 hk1)
      clear h1 hb1 hk1
      go_wp2_with fail
      go_end0
      exact ⟨rfl, H1.out.bld, H1.out.bel, H1.out.kept⟩
    · have HX := Lib.hid (show Lfc.putText q 4 n (Lfc.Raw.texts q ts) = [116, 121, 112, 101] from rfl)
      rw [HX.out] at hbd ⊢
      clear hm HX
      go_enter Tryd.func59, Tryd.ntmps59
      go_wp2_with fail
      refine (writeString_any b b acc ([116, 121, 112, 101]) _ H0.out.bld (by simp only [List.length_append, List.length_cons, List.length_nil] at hbd ⊢; omega) H0.out.le).mono ?_
      rintro e w1 ⟨rfl, h1, hb1, hk1⟩
      have H1 := Lib.hid (H0.out.next h1 hb1 hk1)
      clear h1 hb1 hk1
      go_wp2_with fail
      go_end0
      exact ⟨rfl, H1.out.bld, H1.out.bel, H1.out.kept⟩
    · have HX := Lib.hid (show Lfc.putText q 5 n (Lfc.Raw.texts q ts) = Lfc.twoText [40] [32] [41] (Lfc.Raw.texts q ts) from rfl)
      rw [HX.out] at hbd ⊢
      have HM := Lib.hid hm
      clear hm HX
      go_enter Tryd.func59, Tryd.ntmps59
      go_wp2_with fail
      refine (HT.out _ acc [40] [32] [41] (.inr HM.out) HV.out H0.out.env H0.out.bld hbd).mono ?_
      rintro e w1 ⟨rfl, h1, hb1, hk1⟩
      have H1 := Lib.hid (H0.out.next h1 hb1 hk1)
      clear h1 hb1 hk1
      go_wp2_with fail
      go_end0
      exact ⟨rfl, H1.out.bld, H1.out.bel, H1.out.kept⟩
    · have HX := Lib.hid (show Lfc.putText q 6 n (Lfc.Raw.texts q ts) = Lfc.twoText [40] [32, 45, 62, 32] [41] (Lfc.Raw.texts q ts) from rfl)
      rw [HX.out] at hbd ⊢
      have HM := Lib.hid hm
      clear hm HX
      go_enter Tryd.func59, Tryd.ntmps59
      go_wp2_with fail
      refine (HT.out _ acc [40] [32, 45, 62, 32] [41] (.inr HM.out) HV.out H0.out.env H0.out.bld hbd).mono ?_
      rintro e w1 ⟨rfl, h1, hb1, hk1⟩
      have H1 := Lib.hid (H0.out.next h1 hb1 hk1)
      clear h1 hb1 hk1
      go_wp2_with fail
      go_end0
      exact ⟨rfl, H1.out.bld, H1.out.bel, H1.out.kept⟩
    · have HX := Lib.hid (show Lfc.putText q 9 n (Lfc.Raw.texts q ts) = Lfc.twoText [40] [32, 58, 32] [41] (Lfc.Raw.texts q ts) from rfl)
      rw [HX.out] at hbd ⊢
      have HM := Lib.hid hm
      clear hm HX
      go_enter Tryd.func59, Tryd.ntmps59
      go_wp2_with fail
      refine (HT.out _ acc [40] [32, 58, 32] [41] (.inr HM.out) HV.out H0.out.env H0.out.bld hbd).mono ?_
      rintro e w1 ⟨rfl, h1, hb1, hk1⟩
      have H1 := Lib.hid (H0.out.next h1 hb1 hk1)
      clear h1 hb1 hk1
      go_wp2_with fail
      go_end0
      exact ⟨rfl, H1.out.bld, H1.out.bel, H1.out.kept⟩
    · have HX := Lib.hid (show Lfc.putText q 7 n (Lfc.Raw.texts q ts) = Lfc.bindText n [123] [125] (Lfc.Raw.texts q ts) from rfl)
      rw [HX.out] at hbd ⊢
      have HM := Lib.hid hm
      clear hm HX
      go_enter Tryd.func59, Tryd.ntmps59
      go_wp2_with fail
      refine (HB.out _ acc [123] [125] HM.out HV.out H0.out.env H0.out.bld hbd).mono ?_
      rintro e w1 ⟨rfl, h1, hb1, hk1⟩
      have H1 := Lib.hid (H0.out.next h1 hb1 hk1)
      clear h1 hb1 hk1
      go_wp2_with fail
      go_end0
      exact ⟨rfl, H1.out.bld, H1.out.bel, H1.out.kept⟩
    · have HX := Lib.hid (show Lfc.putText q 8 n (Lfc.Raw.texts q ts) = Lfc.bindText n [91] [93] (Lfc.Raw.texts q ts) from rfl)
      rw [HX.out] at hbd ⊢
      have HM := Lib.hid hm
      clear hm HX
      go_enter Tryd.func59, Tryd.ntmps59
      go_wp2_with fail
      refine (HB.out _ acc [91] [93] HM.out HV.out H0.out.env H0.out.bld hbd).mono ?_
      rintro e w1 ⟨rfl, h1, hb1, hk1⟩
      have H1 := Lib.hid (H0.out.next h1 hb1 hk1)
      clear h1 hb1 hk1
      go_wp2_with fail
      go_end0
      exact ⟨rfl, H1.out.bld, H1.out.bel, H1.out.kept⟩
end Go.Proofs.YtmdhkcefbkdkbaaDoor
