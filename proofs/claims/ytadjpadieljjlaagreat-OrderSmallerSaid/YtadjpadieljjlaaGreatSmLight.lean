/- The contract of Light: it answers something. -/
import Derived.Test.YtadjpadieljjlaaGreatSmSize
set_option linter.unusedVariables false
set_option linter.unusedSimpArgs false
namespace Go.Proofs.YtadjpadieljjlaaGreat
open Go.RowKit
set_option maxRecDepth 100000 in
set_option maxHeartbeats 4000000 in
theorem mLight_any (most : Int) (ts : List Lfc.Raw) (A : Option Addr) (c : Nat) (w : World) (hn : ts.length ≤ 100) (hs : ∀ t ∈ ts, t.size ≤ 100000) (h : TreesAt w A ts) :
    Calls Tryz.prog 19 #[.int .i64 most, .slice A ts.length c] w fun e w' => (∃ b, e = .returned (.bool b)) ∧ Below w.heap.size w w' := by
  have HA := Lib.hid h
  have HS := Lib.hid hs
  clear h hs
  go_enter Tryz.func19, Tryz.ntmps19
  go_wp2_with fail
  go_loopw [5, 6] (fun n i wr => ∃ k z : Nat, k ≤ ts.length ∧ i = .int .i64 k ∧ n = .int .i64 (z : Int) ∧ z ≤ k * 100000 ∧ Below w.heap.size w wr) (fun _ i _ => ts.length - (intOf i).toNat)
  case atStart => exact ⟨0, 0, by omega, rfl, rfl, by omega, Below.refl _ _⟩
  case round =>
    obtain ⟨k, z, hk, rfl, rfl, hz, hbw⟩ := hrel
    by_cases hlt : k < ts.length
    · obtain ⟨b, o, k1, n1, p1, us, B, c1, rfl, hb, ht, d0, d1, d2, d3, hcu, hB, hT⟩ := (HA.out.below hbw).at_ hlt
      have hst := HS.out ts[k] (List.getElem_mem _)
      have HT := Lib.hid hT
      obtain ⟨y, hy⟩ : ∃ y, ts[k].size = y := ⟨_, rfl⟩
      obtain ⟨x, hx⟩ : ∃ x, ts[k].depth = x := ⟨_, rfl⟩
      have HY := Lib.hid hy
      have HX := Lib.hid hx
      rw [hy] at hst
      have HBW := Lib.hid hbw
      clear hB ht hT hy hx
      have hxy : x ≤ y := by have := Lfc.Raw.depth_le_size _ ts[k] (Nat.le_refl _); rw [HX.out, HY.out] at this; exact this
      go_wp2_with fail
      refine (sDepth_any _ ts[k] _ _ (Nat.le_refl _) (by rw [HY.out]; omega) HT.out).mono ?_
      rintro e w1 ⟨rfl, hb1⟩
      rw [HX.out]
      by_cases hx : 40 < x
      · have hx1 : decide ((x : Int) > 40) = true := by rw [decide_eq_true_eq]; omega
        clear hx
        go_wp2_with fail
        go_ret
        exact ⟨⟨false, rfl⟩, hbw.trans (hb1.mono hbw.size)⟩
      · have hx1 : decide ((x : Int) > 40) = false := by rw [decide_eq_false_iff_not]; omega
        have e0 := (hb1.cell (p := ⟨b, o + k * 4, none⟩) hb).trans d0
        have e1 := (hb1.cell (p := ⟨b, o + k * 4 + 1, none⟩) hb).trans d1
        have e2 := (hb1.cell (p := ⟨b, o + k * 4 + 2, none⟩) hb).trans d2
        have e3 := (hb1.cell (p := ⟨b, o + k * 4 + 3, none⟩) hb).trans d3
        have HB2 := Lib.hid (hbw.trans (hb1.mono hbw.size))
        have hT1 := Lib.hid (HT.out.below hb1)
        clear hx d0 d1 d2 d3 hbw hb1
        go_wp2_with fail
        refine (sSize_any _ ts[k] _ _ (Nat.le_refl _) (by rw [HY.out]; omega) hT1.out).mono ?_
        rintro e w2 ⟨rfl, hb2⟩
        rw [HY.out]
        have hzy : IntKind.i64.wrap ((z : Int) + (y : Int)) = ((z + y : Nat) : Int) := by rw [IntWalk.i64_in _ (by omega)]; omega
        clear e0 e1 e2 e3
        go_wp2_with fail
        go_roundw
        case rel => exact ⟨k + 1, z + y, by omega, by go_num, rfl, by omega, HB2.out.trans (hb2.mono HB2.out.size)⟩
        case measure => simp [intOf]; omega
    · go_wp2_with fail
      go_ret
      exact ⟨⟨_, rfl⟩, hbw⟩
end Go.Proofs.YtadjpadieljjlaaGreat
