/- The walk of the law DisplayFresh. -/
import Derived.Test.YtlcikiiijelpjaaDoorText
import Derived.Test.YtlcikiiijelpjaaDoorDispR
import Derived.Test.YtlcikiiijelpjaaDoorDkAwake
import Derived.Test.YtlcikiiijelpjaaDoorRows
import Derived.Maps.AppendAt
set_option linter.unusedVariables false
set_option linter.unusedSimpArgs false
namespace Go.Proofs.YtlcikiiijelpjaaDoor
open Go.RowKit Go.Maps Go.WideMaps

def eight (h : List UInt8) : List (List UInt8) := [[120], [120, 49], [120, 50], [120, 52], [78], [78, 49], h, h ++ [49]]
theorem eight_cell (h : List UInt8) (w : World) (k : Nat) (hk : k < 8) : (w.alloc (.cells #[.string ⟨#[120]⟩, .string ⟨#[120, 49]⟩, .string ⟨#[120, 50]⟩, .string ⟨#[120, 52]⟩, .string ⟨#[78]⟩, .string ⟨#[78, 49]⟩, S h, S (h ++ [49])] 9)).cell? ⟨w.heap.size, k, none⟩ = some (S ((eight h).getD k [])) := by
  have q := heap_alloc_new w (.cells #[.string ⟨#[120]⟩, .string ⟨#[120, 49]⟩, .string ⟨#[120, 50]⟩, .string ⟨#[120, 52]⟩, .string ⟨#[78]⟩, .string ⟨#[78, 49]⟩, S h, S (h ++ [49])] 9)
  match k, hk with
  | 0, _ => exact Lib.cell_of_heap q 0
  | 1, _ => exact Lib.cell_of_heap q 1
  | 2, _ => exact Lib.cell_of_heap q 2
  | 3, _ => exact Lib.cell_of_heap q 3
  | 4, _ => exact Lib.cell_of_heap q 4
  | 5, _ => exact Lib.cell_of_heap q 5
  | 6, _ => exact Lib.cell_of_heap q 6
  | 7, _ => exact Lib.cell_of_heap q 7
def fiveH (h : List UInt8) : List (List UInt8) := [h, [78], [95], [], [97, 97, 97, 97, 97, 97, 97, 97, 97, 97, 97, 97, 97, 97, 97, 97, 97, 97, 97, 97, 97, 97, 97, 97, 97, 97, 97, 97, 97, 97, 97, 97, 97, 97, 97, 97, 97, 97, 97, 97, 97, 97, 97, 97, 97, 97, 97, 97, 97, 97, 97]]
theorem fiveH_cell (h : List UInt8) (w : World) (k : Nat) (hk : k < 5) : (w.alloc (.cells #[S h, .string ⟨#[78]⟩, .string ⟨#[95]⟩, .string ⟨#[]⟩, .string ⟨#[97, 97, 97, 97, 97, 97, 97, 97, 97, 97, 97, 97, 97, 97, 97, 97, 97, 97, 97, 97, 97, 97, 97, 97, 97, 97, 97, 97, 97, 97, 97, 97, 97, 97, 97, 97, 97, 97, 97, 97, 97, 97, 97, 97, 97, 97, 97, 97, 97, 97, 97]⟩] 9)).cell? ⟨w.heap.size, k, none⟩ = some (S ((fiveH h).getD k [])) := by
  have q := heap_alloc_new w (.cells #[S h, .string ⟨#[78]⟩, .string ⟨#[95]⟩, .string ⟨#[]⟩, .string ⟨#[97, 97, 97, 97, 97, 97, 97, 97, 97, 97, 97, 97, 97, 97, 97, 97, 97, 97, 97, 97, 97, 97, 97, 97, 97, 97, 97, 97, 97, 97, 97, 97, 97, 97, 97, 97, 97, 97, 97, 97, 97, 97, 97, 97, 97, 97, 97, 97, 97, 97, 97]⟩] 9)
  match k, hk with
  | 0, _ => exact Lib.cell_of_heap q 0
  | 1, _ => exact Lib.cell_of_heap q 1
  | 2, _ => exact Lib.cell_of_heap q 2
  | 3, _ => exact Lib.cell_of_heap q 3
  | 4, _ => exact Lib.cell_of_heap q 4
theorem fiveH_len (h : List UInt8) (hh : h.length ≤ 200) (k : Nat) (hk : k < 5) : ((fiveH h).getD k []).length ≤ 200 := by
  match k, hk with
  | 0, _ => exact hh
  | 1, _ => exact (by decide : ([78] : List UInt8).length ≤ 200)
  | 2, _ => exact (by decide : ([95] : List UInt8).length ≤ 200)
  | 3, _ => exact (by decide : ([] : List UInt8).length ≤ 200)
  | 4, _ => exact (by decide : ([97, 97, 97, 97, 97, 97, 97, 97, 97, 97, 97, 97, 97, 97, 97, 97, 97, 97, 97, 97, 97, 97, 97, 97, 97, 97, 97, 97, 97, 97, 97, 97, 97, 97, 97, 97, 97, 97, 97, 97, 97, 97, 97, 97, 97, 97, 97, 97, 97, 97, 97] : List UInt8).length ≤ 200)
set_option maxRecDepth 100000 in
set_option maxHeartbeats 1000000 in
theorem displayFresh_walk0 (h : List UInt8) (v1 : Value) (z : List Int) (w : World) (i1 : IntsAt w v1 z)
    (AW : ∀ W, Calls Tryd.prog 4 #[] W fun e w' => e = .returned (.bool true) ∧ Below W.heap.size W w') :
    Calls Tryd.prog 3 #[S h, v1] w fun e w' => e = .returned (.bool true) ∧ Below w.heap.size w w' := by
  have HAW := Lib.hid AW
  clear AW
  by_cases h200 : 200 < h.length
  · have h5 : (h.length : Int) > 200 := by omega
    have h6 : (200 : Int) < (h.length : Int) := by omega
    obtain ⟨A1, c1, rfl, _⟩ := i1
    clear h200
    go_enter Tryd.func3, Tryd.ntmps3
    go_wp2_with fail
    refine (HAW.out _).mono ?_
    rintro e w9 ⟨rfl, b9⟩
    go_wp2_with fail
    go_ret
    exact ⟨rfl, b9⟩
  · have h5 : ¬ (h.length : Int) > 200 := by omega
    have h6 : ¬ (200 : Int) < (h.length : Int) := by omega
    obtain ⟨it, hi, hz0, hz1, hz2⟩ := str_info
    have I1 := Lib.hid i1
    obtain ⟨A1, c1, rfl, hz, _⟩ := i1
    go_enter Tryd.func3, Tryd.ntmps3
    go_wp2_with fail
    go_loopw [5, 6] (fun sv i wr => ∃ (k : Nat) (u : List (List UInt8)) (A : Option Addr) (c : Nat), i = .int .i64 k ∧ k ≤ 30 ∧ u.length ≤ k ∧ sv = .slice A u.length c ∧ Hid (wr.ownsRow w.heap.size 9 1 (.slice A u.length c) u.length (strCells u) ∧ Below w.heap.size w wr)) (fun _ i _ => 30 - (intOf i).toNat)
    case atStart => exact ⟨0, [], none, 0, rfl, by omega, by simp, rfl, Lib.hid ⟨own_nil _ _ _ _, Below.refl _ _⟩⟩
    case round =>
      obtain ⟨k, u, A, c, rfl, hk, huk, rfl, HO⟩ := hrel
      by_cases hlt : k < z.length
      · by_cases h30 : k < 30
        · obtain ⟨A', c', hv, _, hcs⟩ := I1.out.below HO.out.2
          obtain ⟨b, o, hA, hb, hc⟩ := hcs (by omega)
          injection hv with e1 _ e3
          subst e1 e3
          subst hA
          have hc0 := hc k hlt
          have K8 := Lib.hid (fun W => cut_any (z.getD k 0) 8 W (by omega) (by omega))
          have hq8 := cutI_lt (z.getD k 0) 8 (by omega)
          generalize cutI (z.getD k 0) 8 = q at *
          generalize z.getD k 0 = zk at *
          clear hc hcs
          have h30i : (k : Int) < 30 := by omega
          have hi0 : (0 : Int) ≤ (k : Int) := Int.natCast_nonneg _
          have hi1 : (k : Int) < (z.length : Int) := by omega
          have hj0 : (0 : Int) ≤ (q : Int) := Int.natCast_nonneg _
          have hj1 : (q : Int) < 8 := by omega
          have hcat : ¬ 9223372036854775807 < h.length + 1 := by omega
          have happ : (⟨h.toArray⟩ : ByteArray) ++ ⟨#[49]⟩ = ⟨(h ++ [49]).toArray⟩ := by apply ByteArray.ext; simp [ByteArray.data_append]
          have ce := eight_cell h wr q hq8
          generalize (eight h).getD q [] = nm at *
          obtain ⟨wt, hwt⟩ : ∃ wt, wr.alloc (.cells #[.string ⟨#[120]⟩, .string ⟨#[120, 49]⟩, .string ⟨#[120, 50]⟩, .string ⟨#[120, 52]⟩, .string ⟨#[78]⟩, .string ⟨#[78, 49]⟩, S h, S (h ++ [49])] 9) = wt := ⟨_, rfl⟩
          have HBT : Hid (Below wr.heap.size wr wt) := Lib.hid (by rw [← hwt]; exact (Below.refl _ _).alloc (Nat.le_refl _) _)
          have HOT : Hid (wt.ownsRow w.heap.size 9 1 (.slice A u.length c) u.length (strCells u)) := Lib.hid (by rw [← hwt]; exact HO.out.1.alloc _)
          rw [hwt] at ce
          have hct := (HBT.out.cell (p := ⟨b, o + k, none⟩) hb).trans hc0
          have hst := HBT.out.size
          have hsr := HO.out.2.size
          have hlm : u.length + 1 ≤ maxLen := by unfold maxLen; omega
          have hl16 : (u.length + 1) * 16 ≤ 140737488355328 := by omega
          go_wp2_with fail
          refine (K8.out _).mono ?_
          rintro e wq ⟨rfl, hwq⟩
          obtain rfl := hwq.symm
          clear hwq
          go_wp2_with (at_builtin; refine wpList_append_own_at _ rfl _ _ 24 rfl w.heap.size 9 it (S []) 1 16 Tryd.underlying24 hi hz0 hz1 hz2 rfl (by decide) _ _ _ rfl (HOT.out.alloc _) ⟨wt.heap.size, 0, none⟩ 1 1 [S nm] rfl rfl (fun j v hj => cells_new wt _ rfl [S nm] 9 j v hj) (by intro v hv; simp at hv; subst hv; rfl) hlm hl16 (by simp; omega) ?_)
          intro v9 w9 hown9 hg9 _ _
          obtain ⟨A9, c9, rfl⟩ := own_form hown9
          have HN : Hid (w9.ownsRow w.heap.size 9 1 (.slice A9 (u ++ [nm]).length c9) (u ++ [nm]).length (strCells (u ++ [nm])) ∧ Below w.heap.size w w9) := Lib.hid ⟨by
            have e1 : strCells (u ++ [nm]) = strCells u ++ [S nm] := by simp [strCells]
            rw [e1, List.length_append]; exact hown9, ((HO.out.2.trans (HBT.out.mono hsr)).alloc (by omega) _).grown hg9 (by simp; omega) (own_block_ge HOT.out)⟩
          clear hown9 hg9
          go_wp2_with fail
          go_roundw
          case rel => exact ⟨k + 1, u ++ [nm], A9, c9, by go_num, by omega, by simp; omega, by simp, HN⟩
          case measure => simp [intOf]; omega
        · have h30i : ¬ (k : Int) < 30 := by omega
          have hi1 : (k : Int) < (z.length : Int) := by omega
          have HNA := Lib.hid (own_strs HO.out.1)
          have HBW := Lib.hid HO.out.2
          obtain ⟨wf, hwf⟩ : ∃ wf, wr.alloc (.cells #[S h, .string ⟨#[78]⟩, .string ⟨#[95]⟩, .string ⟨#[]⟩, .string ⟨#[97, 97, 97, 97, 97, 97, 97, 97, 97, 97, 97, 97, 97, 97, 97, 97, 97, 97, 97, 97, 97, 97, 97, 97, 97, 97, 97, 97, 97, 97, 97, 97, 97, 97, 97, 97, 97, 97, 97, 97, 97, 97, 97, 97, 97, 97, 97, 97, 97, 97, 97]⟩] 9) = wf := ⟨_, rfl⟩
          have HBF : Hid (Below wr.heap.size wr wf) := Lib.hid (by rw [← hwf]; exact (Below.refl _ _).alloc (Nat.le_refl _) _)
          have HFC : Hid (∀ j, j < 5 → wf.cell? ⟨wr.heap.size, j, none⟩ = some (S ((fiveH h).getD j []))) := Lib.hid (by rw [← hwf]; exact fiveH_cell h wr)
          have HFL := Lib.hid (fiveH_len h (by omega))
          have hlf : wr.heap.size < wf.heap.size := by rw [← hwf]; simp
          have hsr := HBW.out.size
          have HP : Hid (∀ W, Below wf.heap.size wf W → ∀ j, j < 5 → W.cell? ⟨wr.heap.size, j, none⟩ = some (S ((fiveH h).getD j []))) := Lib.hid (fun W hW j hj => (hW.cell (p := ⟨wr.heap.size, j, none⟩) hlf).trans (HFC.out j hj))
          go_wp2_with fail
          clear hwf
          go_loopw [8, 40] (fun hv i wx => ∃ j : Nat, i = .int .i64 j ∧ j ≤ 5 ∧ Hid (Below wf.heap.size wf wx)) (fun _ i _ => 5 - (intOf i).toNat)
          case atStart => exact ⟨0, rfl, by omega, Lib.hid (Below.refl _ _)⟩
          case round =>
            obtain ⟨j, rfl, hj, HX⟩ := hrel
            by_cases hj5 : j < 5
            · have hx0 := HP.out _ HX.out j hj5
              have hxl := HFL.out j hj5
              generalize (fiveH h).getD j [] = x at *
              have NX : ∀ W, Below _ _ W → NamesAt W A u := fun W hW => HNA.out.below (HBF.out.trans (hW.mono HBF.out.size))
              have D1 := Lib.hid (fun W hW => dFresh_any x u A c W (by omega) (by omega) (NX W hW))
              have D2 := Lib.hid (fun W hW => rFresh_any x u A c W (by omega) (by omega) (NX W hW))
              have D3 := Lib.hid (fun y W hW => rIn_any u y A c W (by omega) (NX W hW))
              clear NX
              have hj0 : (0 : Int) ≤ (j : Int) := Int.natCast_nonneg _
              have hj1 : (j : Int) < 5 := by omega
              go_wp2_with fail
              refine (D1.out _ HX.out).mono ?_
              rintro e wq ⟨⟨s1, rfl, F1⟩, hwq⟩
              obtain rfl := hwq
              have G1 := Lib.hid F1
              clear F1
              go_wp2_with fail
              refine (D2.out _ HX.out).mono ?_
              rintro e w3 ⟨⟨s2, rfl, F2⟩, b3⟩
              obtain rfl := F2.unique G1.out
              have HX3 := Lib.hid (HX.out.trans (b3.mono HX.out.size))
              clear F2 b3
              go_wp2_with fail
              refine (D1.out _ HX3.out).mono ?_
              rintro e wq ⟨⟨s3, rfl, F3⟩, hwq⟩
              obtain rfl := hwq
              obtain rfl := F3.unique G1.out
              clear F3
              go_wp2_with fail
              refine (D3.out _ _ HX3.out).mono ?_
              rintro e wq ⟨rfl, hwq⟩
              obtain rfl := hwq
              rw [show decide (s3 ∈ u) = false from by obtain ⟨_, _, hn, _⟩ := G1.out; simpa using hn]
              go_wp2_with fail
              go_roundw
              case rel => exact ⟨j + 1, by go_num, by omega, HX3⟩
              case measure => simp [intOf]; omega
            · obtain rfl : j = 5 := by omega
              go_wp2_with fail
              refine (HAW.out _).mono ?_
              rintro e w9 ⟨rfl, b9⟩
              go_wp2_with fail
              go_ret
              have hA := HX.out.trans (b9.mono HX.out.size)
              have hB := HBF.out.trans (hA.mono HBF.out.size)
              exact ⟨rfl, HBW.out.trans (hB.mono hsr)⟩
      · have hi1 : ¬ (k : Int) < (z.length : Int) := by omega
        have HNA := Lib.hid (own_strs HO.out.1)
        have HBW := Lib.hid HO.out.2
        obtain ⟨wf, hwf⟩ : ∃ wf, wr.alloc (.cells #[S h, .string ⟨#[78]⟩, .string ⟨#[95]⟩, .string ⟨#[]⟩, .string ⟨#[97, 97, 97, 97, 97, 97, 97, 97, 97, 97, 97, 97, 97, 97, 97, 97, 97, 97, 97, 97, 97, 97, 97, 97, 97, 97, 97, 97, 97, 97, 97, 97, 97, 97, 97, 97, 97, 97, 97, 97, 97, 97, 97, 97, 97, 97, 97, 97, 97, 97, 97]⟩] 9) = wf := ⟨_, rfl⟩
        have HBF : Hid (Below wr.heap.size wr wf) := Lib.hid (by rw [← hwf]; exact (Below.refl _ _).alloc (Nat.le_refl _) _)
        have HFC : Hid (∀ j, j < 5 → wf.cell? ⟨wr.heap.size, j, none⟩ = some (S ((fiveH h).getD j []))) := Lib.hid (by rw [← hwf]; exact fiveH_cell h wr)
        have HFL := Lib.hid (fiveH_len h (by omega))
        have hlf : wr.heap.size < wf.heap.size := by rw [← hwf]; simp
        have hsr := HBW.out.size
        have HP : Hid (∀ W, Below wf.heap.size wf W → ∀ j, j < 5 → W.cell? ⟨wr.heap.size, j, none⟩ = some (S ((fiveH h).getD j []))) := Lib.hid (fun W hW j hj => (hW.cell (p := ⟨wr.heap.size, j, none⟩) hlf).trans (HFC.out j hj))
        go_wp2_with fail
        clear hwf
        go_loopw [8, 40] (fun hv i wx => ∃ j : Nat, i = .int .i64 j ∧ j ≤ 5 ∧ Hid (Below wf.heap.size wf wx)) (fun _ i _ => 5 - (intOf i).toNat)
        case atStart => exact ⟨0, rfl, by omega, Lib.hid (Below.refl _ _)⟩
        case round =>
          obtain ⟨j, rfl, hj, HX⟩ := hrel
          by_cases hj5 : j < 5
          · have hx0 := HP.out _ HX.out j hj5
            have hxl := HFL.out j hj5
            generalize (fiveH h).getD j [] = x at *
            have NX : ∀ W, Below _ _ W → NamesAt W A u := fun W hW => HNA.out.below (HBF.out.trans (hW.mono HBF.out.size))
            have D1 := Lib.hid (fun W hW => dFresh_any x u A c W (by omega) (by omega) (NX W hW))
            have D2 := Lib.hid (fun W hW => rFresh_any x u A c W (by omega) (by omega) (NX W hW))
            have D3 := Lib.hid (fun y W hW => rIn_any u y A c W (by omega) (NX W hW))
            clear NX
            have hj0 : (0 : Int) ≤ (j : Int) := Int.natCast_nonneg _
            have hj1 : (j : Int) < 5 := by omega
            go_wp2_with fail
            refine (D1.out _ HX.out).mono ?_
            rintro e wq ⟨⟨s1, rfl, F1⟩, hwq⟩
            obtain rfl := hwq
            have G1 := Lib.hid F1
            clear F1
            go_wp2_with fail
            refine (D2.out _ HX.out).mono ?_
            rintro e w3 ⟨⟨s2, rfl, F2⟩, b3⟩
            obtain rfl := F2.unique G1.out
            have HX3 := Lib.hid (HX.out.trans (b3.mono HX.out.size))
            clear F2 b3
            go_wp2_with fail
            refine (D1.out _ HX3.out).mono ?_
            rintro e wq ⟨⟨s3, rfl, F3⟩, hwq⟩
            obtain rfl := hwq
            obtain rfl := F3.unique G1.out
            clear F3
            go_wp2_with fail
            refine (D3.out _ _ HX3.out).mono ?_
            rintro e wq ⟨rfl, hwq⟩
            obtain rfl := hwq
            rw [show decide (s3 ∈ u) = false from by obtain ⟨_, _, hn, _⟩ := G1.out; simpa using hn]
            go_wp2_with fail
            go_roundw
            case rel => exact ⟨j + 1, by go_num, by omega, HX3⟩
            case measure => simp [intOf]; omega
          · obtain rfl : j = 5 := by omega
            go_wp2_with fail
            refine (HAW.out _).mono ?_
            rintro e w9 ⟨rfl, b9⟩
            go_wp2_with fail
            go_ret
            have hA := HX.out.trans (b9.mono HX.out.size)
            have hB := HBF.out.trans (hA.mono HBF.out.size)
            exact ⟨rfl, HBW.out.trans (hB.mono hsr)⟩

theorem laid_none {W : World} (hL : laidMetH Tryd.prog Rows.displayFreshRow.laid W) : True := trivial
theorem displayFresh_walk (v1 : Value) (h : List UInt8) (z : List Int) (w : World) (i1 : IntsAt w v1 z) (_ : True) :
    Calls Tryd.prog 3 #[S h, v1] w fun e w' => e = .returned (.bool true) ∧ Below w.heap.size w w' :=
  displayFresh_walk0 h v1 z w i1 dAwake_any
end Go.Proofs.YtlcikiiijelpjaaDoor
