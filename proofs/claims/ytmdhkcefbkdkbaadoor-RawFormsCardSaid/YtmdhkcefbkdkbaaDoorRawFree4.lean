/- The contract of Free's closure walk: the other kinds. -/
import Derived.Test.YtmdhkcefbkdkbaaDoorRawFree3
set_option linter.unusedVariables false
set_option linter.unusedSimpArgs false
namespace Go.Proofs.YtmdhkcefbkdkbaaDoor
open Go.RowKit Go.Maps Go.WideMaps

set_option maxRecDepth 100000 in
set_option maxHeartbeats 2000000 in
theorem walk_args (w0 : World) (b m : Nat) (ih : WalkUpto w0 b m) (k p : Int) (n : List UInt8) (hk : k = 3 ∨ k = 4 ∨ k = 5 ∨ k = 6 ∨ k = 9) (ts : List Lfc.Raw) (hm : Lfc.Raw.sizes ts ≤ m) (hf : Lfc.Raw.forms ts = true) (v : Value) (w : World) (out bound : List (List UInt8)) (hv : TreeV w0 (.node k n p ts) v) (h : FrI w0 b out out bound w) (hl : out.length + bound.length + Lfc.Raw.sizes ts ≤ 1000000000) :
    Calls Tryd.prog 64 #[v, .pointer (some ⟨b + 1, 0, none⟩), .pointer (some ⟨b + 4, 0, none⟩), .pointer (some ⟨b + 5, 0, none⟩)] w fun e w' => e = .returned (.tuple #[]) ∧ FrI w0 b (Lfc.Raw.fr bound (.node k n p ts) out) (Lfc.Raw.fr bound (.node k n p ts) out) bound w' ∧ Below b w w' ∧ KeptR w w' := by
  have he := enters_walk
  have hlen := Lfc.Raw.sizes_len ts
  obtain ⟨A, c, rfl, hc, hA⟩ := hv.open_
  have HA := Lib.hid hA
  have IH := Lib.hid ih
  have HF := Lib.hid ((forms_spec ts).1 hf)
  have h0 := FrS.start #[.int .i64 k, S n, .int .i64 p, .slice A ts.length c] h
  obtain ⟨wa, hwa⟩ : ∃ wa, w.alloc (.cells #[.int .i64 k, S n, .int .i64 p, .slice A ts.length c] 42) = wa := ⟨_, rfl⟩
  rw [hwa] at h0
  have H0 := Lib.hid h0
  have hR0 := Lib.cell_of_heap H0.out.box 0
  have hR3 := Lib.cell_of_heap H0.out.box 3
  simp at hR0 hR3
  have HW := Lib.hid hwa
  obtain ⟨bx, hbx⟩ : ∃ bx, #[.int .i64 k, S n, .int .i64 p, .slice A ts.length c] = bx := ⟨_, rfl⟩
  rw [hbx] at H0
  clear hbx
  clear hv hA h ih h0 hf
  have HE : Hid (Lfc.Raw.fr bound (.node k n p ts) out = Lfc.Raw.frs bound ts out) := Lib.hid (by
    rw [Lfc.Raw.fr, if_neg (by omega), if_neg (by omega), if_neg (by omega)])
  rw [HE.out]
  clear HE
  rcases hk with rfl | rfl | rfl | rfl | rfl
  all_goals
    go_enter Tryd.func64, Tryd.ntmps64
    go_wp2_with fail
    go_loopw [12] (fun i wr => ∃ j : Nat, j ≤ ts.length ∧ i = .int .i64 j ∧ Hid (FrS w0 b w w.heap.size bx (Lfc.Raw.frs bound (ts.take j) out) bound wr)) (fun i _ => ts.length - (intOf i).toNat)
    case atStart => exact ⟨0, Nat.zero_le _, rfl, by simpa [Lfc.Raw.frs] using H0⟩
    case round =>
      obtain ⟨j, hj, rfl, HR⟩ := hrel
      by_cases hlt : j < ts.length
      · obtain ⟨b1, o, k1, n1, p1, us, B, c1, rfl, hb, ht, c0', c1', c2', c3', hcu, hB, hT⟩ := HA.out.at_ hlt
        have hbel := HR.out.inv.bel
        have c0' := (hbel.cell (p := ⟨b1, _, none⟩) hb).trans c0'
        have c1' := (hbel.cell (p := ⟨b1, _, none⟩) hb).trans c1'
        have c2' := (hbel.cell (p := ⟨b1, _, none⟩) hb).trans c2'
        have c3' := (hbel.cell (p := ⟨b1, _, none⟩) hb).trans c3'
        have hst := Lfc.frs_take bound ts j hlt out
        have hfl := Lfc.frs_len (ts.take j) bound out
        have hsz := sizes_take ts j hlt
        have hle2 := sizes_take_le ts (j + 1)
        have hmem := Lfc.Raw.sizes_mem ts ts[j] (List.getElem_mem _)
        have HS := Lib.hid hst
        have HT := Lib.hid hT
        have Ha := Lib.hid (HR.out.alloc (.cells #[.int .i64 k1, S n1, .int .i64 p1, .slice B us.length c1] 42))
        have HIH := Lib.hid (IH.out ts[j] _ _ _ bound (by omega) (HF.out j hlt) HT.out Ha.out.inv (by omega))
        have hw := cell_of_one (KeptR.alloc wr (.cells #[.int .i64 k1, S n1, .int .i64 p1, .slice B us.length c1] 42) _ _ _ HR.out.inv.wv (by decide) (by decide))
        rw [← HS.out] at HIH
        clear hst hB ht hT hbel
        go_wp2_with fail
        refine HIH.out.mono ?_
        rintro e w2 ⟨rfl, hi2, hb2, hk2⟩
        have H2 := Lib.hid (Ha.out.next hi2 hb2 hk2)
        clear hi2 hb2 hk2
        go_wp2_with fail
        go_roundw
        case rel => exact ⟨j + 1, by omega, by go_num, H2⟩
        case measure => simp [intOf]; omega
      · have hjl : j = ts.length := by omega
        go_wp2_with fail
        go_end0
        have := HR.out
        rw [hjl, List.take_length] at this
        exact ⟨rfl, this.inv, this.bel, this.kept⟩
end Go.Proofs.YtmdhkcefbkdkbaaDoor
