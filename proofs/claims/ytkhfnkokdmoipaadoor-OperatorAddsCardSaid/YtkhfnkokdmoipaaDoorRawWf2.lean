/- Contracts of WellFormed: the program's and the reference's. -/
import Derived.Test.YtkhfnkokdmoipaaDoorRawRForm
import Derived.Laws.EntriesVeiled
set_option linter.unusedVariables false
set_option linter.unusedSimpArgs false
namespace Go.Proofs.YtkhfnkokdmoipaaDoor
open Go.RowKit

set_option maxRecDepth 100000 in
set_option maxHeartbeats 2000000 in
theorem wf_any (t : Lfc.Raw) (v : Value) (w : World) (hmax : t.size ≤ 1000000000) (hv : TreeV w t v) :
    Calls Tryd.prog 30 #[v] w fun e w' => e = .returned (.int .i64 t.wf) ∧ Below w.heap.size w w' := by
  have he := enters_whole
  have hd := Lfc.Raw.depth_le_size _ t (Nat.le_refl _)
  have HWF := Lib.hid (show t.wf = if !t.form then 1 else if 4096 < t.size ∨ 128 < t.depth then 2 else 0 from rfl)
  generalize t.wf = wf at *
  obtain ⟨A, c, kd, nm, ps, ts, hT, rfl, hc, hA⟩ : ∃ A c kd nm ps ts, t = .node kd nm ps ts ∧ v = .agg #[.int .i64 kd, S nm, .int .i64 ps, .slice A ts.length c] ∧ ts.length ≤ c ∧ TreesAt w A ts := by
    obtain ⟨kd, nm, ps, ts⟩ := t
    obtain ⟨A, c, rfl, hc, hA⟩ := hv.open_
    exact ⟨A, c, kd, nm, ps, ts, rfl, rfl, hc, hA⟩
  clear hT hA
  obtain ⟨w0, hw0⟩ : ∃ w0, w.alloc (.cells #[.int .i64 kd, S nm, .int .i64 ps, .slice A ts.length c] 39) = w0 := ⟨_, rfl⟩
  have b0 : Below w.heap.size w w0 := by rw [← hw0]; exact (Below.refl _ _).alloc (Nat.le_refl _) _
  have s0 : w.heap.size + 1 = w0.heap.size := by rw [← hw0]; simp
  have hx0 : w0.cell? ⟨w.heap.size, 0, none⟩ = some (.int .i64 kd) := by rw [← hw0]; simp
  have hx1 : w0.cell? ⟨w.heap.size, 1, none⟩ = some (S nm) := by rw [← hw0]; simp
  have hx2 : w0.cell? ⟨w.heap.size, 2, none⟩ = some (.int .i64 ps) := by rw [← hw0]; simp
  have hx3 : w0.cell? ⟨w.heap.size, 3, none⟩ = some (.slice A ts.length c) := by rw [← hw0]; simp
  obtain ⟨w1, hw1⟩ : ∃ w1, w0.alloc (.cells #[.func (.func 44) #[] #[.pointer (some ⟨w0.heap.size, 0, none⟩)]] 72) = w1 := ⟨_, rfl⟩
  have b1 : Below w0.heap.size w0 w1 := by rw [← hw1]; exact (Below.refl _ _).alloc (Nat.le_refl _) _
  have s1 : w0.heap.size + 1 = w1.heap.size := by rw [← hw1]; simp
  have hcell : w1.cell? ⟨w0.heap.size, 0, none⟩ = some (.func (.func 44) #[] #[.pointer (some ⟨w0.heap.size, 0, none⟩)]) := by rw [← hw1]; simp
  have hsz : w1.heap.size = w.heap.size + 2 := by omega
  have hy0 := (b1.cell (p := ⟨w.heap.size, 0, none⟩) (by simp only; omega)).trans hx0
  have hy1 := (b1.cell (p := ⟨w.heap.size, 1, none⟩) (by simp only; omega)).trans hx1
  have hy2 := (b1.cell (p := ⟨w.heap.size, 2, none⟩) (by simp only; omega)).trans hx2
  have hy3 := (b1.cell (p := ⟨w.heap.size, 3, none⟩) (by simp only; omega)).trans hx3
  have b01 : Below w.heap.size w w1 := b0.trans (b1.mono (by omega))
  clear hx0 hx1 hx2 hx3
  have HV := Lib.hid (hv.below b01)
  have HI := Lib.hid (whole_upto _ hmax t _ w1 w0.heap.size (Nat.le_refl _) HV.out ⟨by omega, hcell⟩)
  go_enter Tryd.func30, Tryd.ntmps30
  go_upto_region 3 with fail
  clear hw1 hw0
  generalize hq : t.form = q at *
  have HQ := Lib.hid hq
  clear hq
  cases q
  · go_wp2_with fail
    refine HI.out.mono ?_
    rintro e w2 ⟨rfl, hb2⟩
    go_wp2_with fail
    go_ret
    exact ⟨ret_int (by rw [HWF.out]; rfl), b01.trans (hb2.mono (by omega))⟩
  · go_wp2_with fail
    refine HI.out.mono ?_
    rintro e w2 ⟨rfl, hb2⟩
    have hz0 := (hb2.cell (p := ⟨w.heap.size, 0, none⟩) (by simp only; omega)).trans hy0
    have hz1 := (hb2.cell (p := ⟨w.heap.size, 1, none⟩) (by simp only; omega)).trans hy1
    have hz2 := (hb2.cell (p := ⟨w.heap.size, 2, none⟩) (by simp only; omega)).trans hy2
    have hz3 := (hb2.cell (p := ⟨w.heap.size, 3, none⟩) (by simp only; omega)).trans hy3
    have HV2 := Lib.hid (HV.out.below hb2)
    have hs2 := hb2.size
    clear hy0 hy1 hy2 hy3 hcell
    by_cases hbig : 4096 < t.size
    · have g1 : decide ((t.size : Int) > 4096) = true := by simp; omega
      go_wp2_with fail
      refine (size_any _ t _ _ (Nat.le_refl _) hmax HV2.out).mono ?_
      rintro e w3 ⟨rfl, hb3⟩
      go_wp2_with fail
      go_ret
      exact ⟨ret_int (by rw [HWF.out, if_neg (by simp), if_pos (.inl hbig)]), b01.trans ((hb2.mono (by omega)).trans (hb3.mono (by omega)))⟩
    · have g1 : decide ((t.size : Int) > 4096) = false := by simp; omega
      go_wp2_with fail
      refine (size_any _ t _ _ (Nat.le_refl _) hmax HV2.out).mono ?_
      rintro e w3 ⟨rfl, hb3⟩
      have hz0 := (hb3.cell (p := ⟨w.heap.size, 0, none⟩) (by simp only; omega)).trans hz0
      have hz1 := (hb3.cell (p := ⟨w.heap.size, 1, none⟩) (by simp only; omega)).trans hz1
      have hz2 := (hb3.cell (p := ⟨w.heap.size, 2, none⟩) (by simp only; omega)).trans hz2
      have hz3 := (hb3.cell (p := ⟨w.heap.size, 3, none⟩) (by simp only; omega)).trans hz3
      have HV3 := Lib.hid (HV2.out.below hb3)
      have hs3 := hb3.size
      by_cases hdp : 128 < t.depth
      · have g2 : decide ((t.depth : Int) > 128) = true := by simp; omega
        go_wp2_with fail
        refine (depth_any _ t _ _ (Nat.le_refl _) hmax HV3.out).mono ?_
        rintro e w4 ⟨rfl, hb4⟩
        go_wp2_with fail
        go_ret
        exact ⟨ret_int (by rw [HWF.out, if_neg (by simp), if_pos (.inr hdp)]), b01.trans ((hb2.mono (by omega)).trans ((hb3.mono (by omega)).trans (hb4.mono (by omega))))⟩
      · have g2 : decide ((t.depth : Int) > 128) = false := by simp; omega
        go_wp2_with fail
        refine (depth_any _ t _ _ (Nat.le_refl _) hmax HV3.out).mono ?_
        rintro e w4 ⟨rfl, hb4⟩
        go_wp2_with fail
        go_ret
        exact ⟨ret_int (by rw [HWF.out, if_neg (by simp), if_neg (by omega)]), b01.trans ((hb2.mono (by omega)).trans ((hb3.mono (by omega)).trans (hb4.mono (by omega))))⟩

set_option maxRecDepth 100000 in
set_option maxHeartbeats 2000000 in
theorem rWf_any (t : Lfc.Raw) (v : Value) (w : World) (hmax : t.size ≤ 1000000000) (hv : TreeV w t v) :
    Calls Tryd.prog 35 #[v] w fun e w' => e = .returned (.int .i64 t.wf) ∧ Below w.heap.size w w' := by
  have hd := Lfc.Raw.depth_le_size _ t (Nat.le_refl _)
  have HWF := Lib.hid (show t.wf = if !t.form then 1 else if 4096 < t.size ∨ 128 < t.depth then 2 else 0 from rfl)
  generalize t.wf = wf at *
  obtain ⟨A, c, kd, nm, ps, ts, hT, rfl, hc, hA⟩ : ∃ A c kd nm ps ts, t = .node kd nm ps ts ∧ v = .agg #[.int .i64 kd, S nm, .int .i64 ps, .slice A ts.length c] ∧ ts.length ≤ c ∧ TreesAt w A ts := by
    obtain ⟨kd, nm, ps, ts⟩ := t
    obtain ⟨A, c, rfl, hc, hA⟩ := hv.open_
    exact ⟨A, c, kd, nm, ps, ts, rfl, rfl, hc, hA⟩
  clear hT hA
  obtain ⟨w1, hw1⟩ : ∃ w1, w.alloc (.cells #[.int .i64 kd, S nm, .int .i64 ps, .slice A ts.length c] 39) = w1 := ⟨_, rfl⟩
  have b01 : Below w.heap.size w w1 := by rw [← hw1]; exact (Below.refl _ _).alloc (Nat.le_refl _) _
  have s0 : w.heap.size + 1 = w1.heap.size := by rw [← hw1]; simp
  have hy0 : w1.cell? ⟨w.heap.size, 0, none⟩ = some (.int .i64 kd) := by rw [← hw1]; simp
  have hy1 : w1.cell? ⟨w.heap.size, 1, none⟩ = some (S nm) := by rw [← hw1]; simp
  have hy2 : w1.cell? ⟨w.heap.size, 2, none⟩ = some (.int .i64 ps) := by rw [← hw1]; simp
  have hy3 : w1.cell? ⟨w.heap.size, 3, none⟩ = some (.slice A ts.length c) := by rw [← hw1]; simp
  have HV := Lib.hid (hv.below b01)
  have HI := Lib.hid (rForm_any _ hmax t _ w1 (Nat.le_refl _) HV.out)
  go_enter Tryd.func35, Tryd.ntmps35
  go_upto_region 1 with fail
  clear hw1
  generalize hq : t.form = q at *
  have HQ := Lib.hid hq
  clear hq
  cases q
  · go_wp2_with fail
    refine HI.out.mono ?_
    rintro e w2 ⟨rfl, hb2⟩
    go_wp2_with fail
    go_ret
    exact ⟨ret_int (by rw [HWF.out]; rfl), b01.trans (hb2.mono (by omega))⟩
  · go_wp2_with fail
    refine HI.out.mono ?_
    rintro e w2 ⟨rfl, hb2⟩
    have hz0 := (hb2.cell (p := ⟨w.heap.size, 0, none⟩) (by simp only; omega)).trans hy0
    have hz1 := (hb2.cell (p := ⟨w.heap.size, 1, none⟩) (by simp only; omega)).trans hy1
    have hz2 := (hb2.cell (p := ⟨w.heap.size, 2, none⟩) (by simp only; omega)).trans hy2
    have hz3 := (hb2.cell (p := ⟨w.heap.size, 3, none⟩) (by simp only; omega)).trans hy3
    have HV2 := Lib.hid (HV.out.below hb2)
    have hs2 := hb2.size
    clear hy0 hy1 hy2 hy3
    by_cases hbig : 4096 < t.size
    · have g1 : decide ((t.size : Int) > 4096) = true := by simp; omega
      go_wp2_with fail
      refine (rSize_any _ t _ _ (Nat.le_refl _) hmax HV2.out).mono ?_
      rintro e w3 ⟨rfl, hb3⟩
      go_wp2_with fail
      go_ret
      exact ⟨ret_int (by rw [HWF.out, if_neg (by simp), if_pos (.inl hbig)]), b01.trans ((hb2.mono (by omega)).trans (hb3.mono (by omega)))⟩
    · have g1 : decide ((t.size : Int) > 4096) = false := by simp; omega
      go_wp2_with fail
      refine (rSize_any _ t _ _ (Nat.le_refl _) hmax HV2.out).mono ?_
      rintro e w3 ⟨rfl, hb3⟩
      have hz0 := (hb3.cell (p := ⟨w.heap.size, 0, none⟩) (by simp only; omega)).trans hz0
      have hz1 := (hb3.cell (p := ⟨w.heap.size, 1, none⟩) (by simp only; omega)).trans hz1
      have hz2 := (hb3.cell (p := ⟨w.heap.size, 2, none⟩) (by simp only; omega)).trans hz2
      have hz3 := (hb3.cell (p := ⟨w.heap.size, 3, none⟩) (by simp only; omega)).trans hz3
      have HV3 := Lib.hid (HV2.out.below hb3)
      have hs3 := hb3.size
      by_cases hdp : 128 < t.depth
      · have g2 : decide ((t.depth : Int) > 128) = true := by simp; omega
        go_wp2_with fail
        refine (rDepth_any _ t _ _ (Nat.le_refl _) hmax HV3.out).mono ?_
        rintro e w4 ⟨rfl, hb4⟩
        go_wp2_with fail
        go_ret
        exact ⟨ret_int (by rw [HWF.out, if_neg (by simp), if_pos (.inr hdp)]), b01.trans ((hb2.mono (by omega)).trans ((hb3.mono (by omega)).trans (hb4.mono (by omega))))⟩
      · have g2 : decide ((t.depth : Int) > 128) = false := by simp; omega
        go_wp2_with fail
        refine (rDepth_any _ t _ _ (Nat.le_refl _) hmax HV3.out).mono ?_
        rintro e w4 ⟨rfl, hb4⟩
        go_wp2_with fail
        go_ret
        exact ⟨ret_int (by rw [HWF.out, if_neg (by simp), if_neg (by omega)]), b01.trans ((hb2.mono (by omega)).trans ((hb3.mono (by omega)).trans (hb4.mono (by omega))))⟩
end Go.Proofs.YtkhfnkokdmoipaaDoor
