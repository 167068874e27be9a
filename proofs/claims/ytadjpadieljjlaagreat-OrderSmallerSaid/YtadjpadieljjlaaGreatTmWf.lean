/- Contracts of small, WellFormed, IsObject of terms. -/
import Derived.Test.YtadjpadieljjlaaGreatTmSize
set_option linter.unusedVariables false
set_option linter.unusedSimpArgs false
namespace Go.Proofs.YtadjpadieljjlaaGreat
open Go.RowKit

set_option maxRecDepth 100000 in
set_option maxHeartbeats 2000000 in
theorem tSmall_any (t : Lfc.Raw) (v : Value) (w : World) (hsz : t.size ≤ 1000000000) (hv : TreeV w t v) :
    Calls Tryz.prog 71 #[v] w fun e w' => e = .returned (.bool t.small) ∧ Below w.heap.size w w' := by
  have hd := Lfc.Raw.depth_le_size _ t (Nat.le_refl _)
  have HT := Lib.hid (show t.small = (decide (t.size ≤ 4096) && decide (t.depth ≤ 128)) from rfl)
  obtain ⟨A, c, kd, nm, ps, ts, hT, rfl, hc, hA⟩ : ∃ A c kd nm ps ts, t = .node kd nm ps ts ∧ v = .agg #[.int .i64 kd, S nm, .int .i64 ps, .slice A ts.length c] ∧ ts.length ≤ c ∧ TreesAt w A ts := by
    obtain ⟨kd, nm, ps, ts⟩ := t
    obtain ⟨A, c, rfl, hc, hA⟩ := hv.open_
    exact ⟨A, c, kd, nm, ps, ts, rfl, rfl, hc, hA⟩
  clear hT hA
  obtain ⟨w1, hw1⟩ : ∃ w1, w.alloc (.cells #[.int .i64 kd, S nm, .int .i64 ps, .slice A ts.length c] 51) = w1 := ⟨_, rfl⟩
  have b01 : Below w.heap.size w w1 := by rw [← hw1]; exact (Below.refl _ _).alloc (Nat.le_refl _) _
  have s0 : w.heap.size + 1 ≤ w1.heap.size := by rw [← hw1]; simp
  have hy0 : w1.cell? ⟨w.heap.size, 0, none⟩ = some (.int .i64 kd) := by rw [← hw1]; simp
  have hy1 : w1.cell? ⟨w.heap.size, 1, none⟩ = some (S nm) := by rw [← hw1]; simp
  have hy2 : w1.cell? ⟨w.heap.size, 2, none⟩ = some (.int .i64 ps) := by rw [← hw1]; simp
  have hy3 : w1.cell? ⟨w.heap.size, 3, none⟩ = some (.slice A ts.length c) := by rw [← hw1]; simp
  have HV := Lib.hid (hv.below b01)
  have HI := Lib.hid (tSize_any t _ w1 hsz HV.out)
  rw [HT.out]
  go_enter Tryz.func71, Tryz.ntmps71
  go_wp2_with fail
  refine HI.out.mono ?_
  rintro e w2 ⟨rfl, hb2⟩
  have hz0 := (hb2.cell (p := ⟨w.heap.size, 0, none⟩) (by simp only; omega)).trans hy0
  have hz1 := (hb2.cell (p := ⟨w.heap.size, 1, none⟩) (by simp only; omega)).trans hy1
  have hz2 := (hb2.cell (p := ⟨w.heap.size, 2, none⟩) (by simp only; omega)).trans hy2
  have hz3 := (hb2.cell (p := ⟨w.heap.size, 3, none⟩) (by simp only; omega)).trans hy3
  have HV2 := Lib.hid (HV.out.below hb2)
  have hs2 := hb2.size
  clear hy0 hy1 hy2 hy3 hw1
  by_cases hbig : t.size ≤ 4096
  · have g1 : decide ((t.size : Int) ≤ 4096) = true := by simp; omega
    go_wp2_with fail
    refine (tDepth_any _ t _ _ (Nat.le_refl _) hsz HV2.out).mono ?_
    rintro e w3 ⟨rfl, hb3⟩
    by_cases hdp : t.depth ≤ 128
    · have g2 : decide ((t.depth : Int) ≤ 128) = true := by simp; omega
      go_wp2_with fail
      go_ret
      exact ⟨ret_bool (by rw [decide_eq_true hbig, decide_eq_true hdp]; rfl), b01.trans ((hb2.trans (hb3.mono hs2)).mono (by omega))⟩
    · have g2 : decide ((t.depth : Int) ≤ 128) = false := by simp; omega
      go_wp2_with fail
      go_ret
      exact ⟨ret_bool (by rw [decide_eq_true hbig, decide_eq_false hdp]; rfl), b01.trans ((hb2.trans (hb3.mono hs2)).mono (by omega))⟩
  · have g1 : decide ((t.size : Int) ≤ 4096) = false := by simp; omega
    go_wp2_with fail
    go_ret
    exact ⟨ret_bool (by rw [decide_eq_false hbig]; rfl), b01.trans (hb2.mono (by omega))⟩

set_option maxRecDepth 100000 in
set_option maxHeartbeats 2000000 in
theorem tWf_any (t : Lfc.Raw) (v : Value) (w : World) (hsz : t.size ≤ 1000000000) (hv : TreeV w t v) :
    Calls Tryz.prog 60 #[v] w fun e w' => e = .returned (.int .i64 t.twf) ∧ Below w.heap.size w w' := by
  have HT := Lib.hid (show t.twf = (if !t.obj && !t.typ && !t.knd then 1 else if !t.small then 2 else 0) from rfl)
  obtain ⟨A, c, kd, nm, ps, ts, hT, rfl, hc, hA⟩ : ∃ A c kd nm ps ts, t = .node kd nm ps ts ∧ v = .agg #[.int .i64 kd, S nm, .int .i64 ps, .slice A ts.length c] ∧ ts.length ≤ c ∧ TreesAt w A ts := by
    obtain ⟨kd, nm, ps, ts⟩ := t
    obtain ⟨A, c, rfl, hc, hA⟩ := hv.open_
    exact ⟨A, c, kd, nm, ps, ts, rfl, rfl, hc, hA⟩
  clear hT hA
  obtain ⟨w1, hw1⟩ : ∃ w1, w.alloc (.cells #[.int .i64 kd, S nm, .int .i64 ps, .slice A ts.length c] 51) = w1 := ⟨_, rfl⟩
  have b01 : Below w.heap.size w w1 := by rw [← hw1]; exact (Below.refl _ _).alloc (Nat.le_refl _) _
  have s0 : w.heap.size + 1 ≤ w1.heap.size := by rw [← hw1]; simp
  have hy0 : w1.cell? ⟨w.heap.size, 0, none⟩ = some (.int .i64 kd) := by rw [← hw1]; simp
  have hy1 : w1.cell? ⟨w.heap.size, 1, none⟩ = some (S nm) := by rw [← hw1]; simp
  have hy2 : w1.cell? ⟨w.heap.size, 2, none⟩ = some (.int .i64 ps) := by rw [← hw1]; simp
  have hy3 : w1.cell? ⟨w.heap.size, 3, none⟩ = some (.slice A ts.length c) := by rw [← hw1]; simp
  have HV := Lib.hid (fun W (hW : Below w1.heap.size w1 W) => hv.below (b01.trans (hW.mono b01.size)))
  have CO := Lib.hid (fun W hW => tObj_upto _ hsz t _ W (Nat.le_refl _) (HV.out W hW))
  have CT := Lib.hid (fun W hW => tTyp_upto _ hsz t _ W (Nat.le_refl _) (HV.out W hW))
  have CK := Lib.hid (fun W hW => tKnd_upto _ hsz t _ W (Nat.le_refl _) (HV.out W hW))
  have CS := Lib.hid (fun W hW => tSmall_any t _ W hsz (HV.out W hW))
  have HY : Hid (∀ W, Below w1.heap.size w1 W → W.cell? ⟨w.heap.size, 0, none⟩ = some (.int .i64 kd) ∧ W.cell? ⟨w.heap.size, 1, none⟩ = some (S nm) ∧ W.cell? ⟨w.heap.size, 2, none⟩ = some (.int .i64 ps) ∧ W.cell? ⟨w.heap.size, 3, none⟩ = some (.slice A ts.length c)) := Lib.hid fun W hW =>
    ⟨(hW.cell (p := ⟨w.heap.size, 0, none⟩) (by simp only; omega)).trans hy0, (hW.cell (p := ⟨w.heap.size, 1, none⟩) (by simp only; omega)).trans hy1, (hW.cell (p := ⟨w.heap.size, 2, none⟩) (by simp only; omega)).trans hy2, (hW.cell (p := ⟨w.heap.size, 3, none⟩) (by simp only; omega)).trans hy3⟩
  rw [HT.out]
  clear HT hv
  generalize t.obj = qo at *
  generalize t.typ = qt at *
  generalize t.knd = qk at *
  generalize t.small = qs at *
  have b1 : Below w1.heap.size w1 w1 := Below.refl _ _
  cases qo
  · cases qt
    · cases qk
      · go_enter Tryz.func60, Tryz.ntmps60
        go_wp2_with fail
        refine (CO.out _ b1).mono ?_
        rintro e w2 ⟨rfl, b2⟩
        obtain ⟨z0, z1, z2, z3⟩ := HY.out _ b2
        go_wp2_with fail
        refine (CT.out _ b2).mono ?_
        rintro e w3 ⟨rfl, b3'⟩
        have b3 := b2.trans (b3'.mono b2.size)
        obtain ⟨z0, z1, z2, z3⟩ := HY.out _ b3
        go_wp2_with fail
        refine (CK.out _ b3).mono ?_
        rintro e w4 ⟨rfl, b4'⟩
        have b4 := b3.trans (b4'.mono b3.size)
        go_wp2_with fail
        go_ret
        exact ⟨rfl, b01.trans (b4.mono (by omega))⟩
      · go_enter Tryz.func60, Tryz.ntmps60
        go_wp2_with fail
        refine (CO.out _ b1).mono ?_
        rintro e w2 ⟨rfl, b2⟩
        obtain ⟨z0, z1, z2, z3⟩ := HY.out _ b2
        go_wp2_with fail
        refine (CT.out _ b2).mono ?_
        rintro e w3 ⟨rfl, b3'⟩
        have b3 := b2.trans (b3'.mono b2.size)
        obtain ⟨z0, z1, z2, z3⟩ := HY.out _ b3
        go_wp2_with fail
        refine (CK.out _ b3).mono ?_
        rintro e w4 ⟨rfl, b4'⟩
        have b4 := b3.trans (b4'.mono b3.size)
        obtain ⟨z0, z1, z2, z3⟩ := HY.out _ b4
        go_wp2_with fail
        refine (CS.out _ b4).mono ?_
        rintro e w5 ⟨rfl, b5'⟩
        have b5 := b4.trans (b5'.mono b4.size)
        cases qs
        all_goals
          go_wp2_with fail
          go_ret
          exact ⟨rfl, b01.trans (b5.mono (by omega))⟩
    · go_enter Tryz.func60, Tryz.ntmps60
      go_wp2_with fail
      refine (CO.out _ b1).mono ?_
      rintro e w2 ⟨rfl, b2⟩
      obtain ⟨z0, z1, z2, z3⟩ := HY.out _ b2
      go_wp2_with fail
      refine (CT.out _ b2).mono ?_
      rintro e w4 ⟨rfl, b4'⟩
      have b4 := b2.trans (b4'.mono b2.size)
      obtain ⟨z0, z1, z2, z3⟩ := HY.out _ b4
      go_wp2_with fail
      refine (CS.out _ b4).mono ?_
      rintro e w5 ⟨rfl, b5'⟩
      have b5 := b4.trans (b5'.mono b4.size)
      cases qs
      all_goals
        go_wp2_with fail
        go_ret
        exact ⟨rfl, b01.trans (b5.mono (by omega))⟩
  · go_enter Tryz.func60, Tryz.ntmps60
    go_wp2_with fail
    refine (CO.out _ b1).mono ?_
    rintro e w4 ⟨rfl, b4⟩
    obtain ⟨z0, z1, z2, z3⟩ := HY.out _ b4
    go_wp2_with fail
    refine (CS.out _ b4).mono ?_
    rintro e w5 ⟨rfl, b5'⟩
    have b5 := b4.trans (b5'.mono b4.size)
    cases qs
    all_goals
      go_wp2_with fail
      go_ret
      exact ⟨by cases qt <;> cases qk <;> rfl, b01.trans (b5.mono (by omega))⟩
end Go.Proofs.YtadjpadieljjlaaGreat
