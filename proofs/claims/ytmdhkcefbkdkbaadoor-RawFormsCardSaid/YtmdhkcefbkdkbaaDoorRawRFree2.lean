/- The contract of the reference's free: the other kinds; Free. -/
import Derived.Test.YtmdhkcefbkdkbaaDoorRawRFree
set_option linter.unusedVariables false
set_option linter.unusedSimpArgs false
namespace Go.Proofs.YtmdhkcefbkdkbaaDoor
open Go.RowKit Go.Maps Go.WideMaps

/-- A frame of free. -/
structure RS (w0 : World) (w : World) (vl : Value) (R : Nat) (box : Array Value) (B' : List (List UInt8)) (Ab : Option Addr) (out : List (List UInt8)) (wr : World) (vr : Value) : Prop where
  own : wr.ownsRow w0.heap.size 9 1 vr out.length (nameCells out)
  gb : GB w vl wr vr
  bel : Below w0.heap.size w0 wr
  box : wr.heap[R]? = some (.cells box 42 (0, 0))
  boxn : vr.ownBlock ≠ some R
  names : NamesB wr vr Ab B'
theorem RS.next {w0 w wr w2 : World} {vl vr v2 : Value} {R : Nat} {box : Array Value} {B' : List (List UInt8)} {Ab : Option Addr} {out out' : List (List UInt8)} (h : RS w0 w vl R box B' Ab out wr vr) (hown : w2.ownsRow w0.heap.size 9 1 v2 out'.length (nameCells out')) (hg : GB wr vr w2 v2) (hb : Below w0.heap.size w0 w2) : RS w0 w vl R box B' Ab out' w2 v2 := by
  refine ⟨hown, h.gb.trans hg, hb, hg.heap h.box h.boxn, fun e => ?_, h.names.gb hg⟩
  have := lt_of_block h.box
  rcases hg.2 with h2 | ⟨g, h2, h3⟩
  · exact h.boxn (h2.symm.trans e)
  · have := Option.some.inj (h2.symm.trans e); omega

set_option maxRecDepth 100000 in
set_option maxHeartbeats 4000000 in
theorem rfree_args (w0 : World) (m : Nat) (ih : RFreeUpto w0 m) (k p : Int) (n : List UInt8) (hk : k = 3 ∨ k = 4 ∨ k = 5 ∨ k = 6 ∨ k = 9) (ts : List Lfc.Raw) (hm : Lfc.Raw.sizes ts ≤ m) (hf : Lfc.Raw.forms ts = true) (v : Value) (w : World) (out B B' : List (List UInt8)) (vl : Value) (Ab : Option Addr) (cb : Nat) (hv : TreeV w0 (.node k n p ts) v) (hb0 : Below w0.heap.size w0 w) (hown : w.ownsRow w0.heap.size 9 1 vl out.length (nameCells out)) (hB : NamesB w vl Ab B') (hR : RelB B' B) (hl : out.length + B'.length + Lfc.Raw.sizes ts ≤ 1000000000) :
    Calls Tryd.prog 65 #[vl, v, .slice Ab B'.length cb] w fun e w' => ∃ vl', e = .returned vl' ∧ w'.ownsRow w0.heap.size 9 1 vl' (Lfc.Raw.fr B (.node k n p ts) out).length (nameCells (Lfc.Raw.fr B (.node k n p ts) out)) ∧ GB w vl w' vl' ∧ Below w0.heap.size w0 w' := by
  have hlen := Lfc.Raw.sizes_len ts
  obtain ⟨A, c, rfl, hc, hA⟩ := hv.open_
  have HA := Lib.hid hA
  have IH := Lib.hid ih
  have HF := Lib.hid ((forms_spec ts).1 hf)
  have HRel := Lib.hid hR
  obtain ⟨wa, hwa⟩ : ∃ wa, w.alloc (.cells #[.int .i64 k, S n, .int .i64 p, .slice A ts.length c] 42) = wa := ⟨_, rfl⟩
  have ba : Below w.heap.size w wa := by rw [← hwa]; exact (Below.refl _ _).alloc (Nat.le_refl _) _
  have qa : wa.heap[w.heap.size]? = some (.cells #[.int .i64 k, S n, .int .i64 p, .slice A ts.length c] 42 (0, 0)) := by rw [← hwa]; exact heap_alloc_new _ _
  have h0 : RS w0 w vl w.heap.size #[.int .i64 k, S n, .int .i64 p, .slice A ts.length c] B' Ab out wa vl := ⟨own_below hown ba, GB.new ba, hb0.trans (ba.mono hb0.size), qa, fun e => by have := (hown.lt _ e).2; omega, hB.gb (GB.new ba)⟩
  obtain ⟨x0, x1, x2, x3⟩ := cells4 qa
  have HE : Hid (Lfc.Raw.fr B (.node k n p ts) out = Lfc.Raw.frs B ts out) := Lib.hid (by
    rw [Lfc.Raw.fr, if_neg (by omega), if_neg (by omega), if_neg (by omega)])
  rw [HE.out]
  have H0 := Lib.hid h0
  obtain ⟨bx, hbx⟩ : ∃ bx, #[.int .i64 k, S n, .int .i64 p, .slice A ts.length c] = bx := ⟨_, rfl⟩
  have HBX : Hid (∀ j : Nat, bx[j]? = (#[Value.int .i64 k, S n, .int .i64 p, .slice A ts.length c])[j]?) := Lib.hid (by rw [← hbx]; intro j; rfl)
  rw [hbx] at H0
  obtain ⟨Al, cl, rfl⟩ := own_form hown
  clear HE h0 qa ba hbx hv hA ih hf hR hB hown hb0
  rcases hk with rfl | rfl | rfl | rfl | rfl
  all_goals
    go_enter Tryd.func65, Tryd.ntmps65
    go_upto_region 1 with fail
    clear hwa
    go_wp2_with fail
    clear x0 x1 x2 x3
    go_loopw [0, 8] (fun vr i wr => ∃ j : Nat, j ≤ ts.length ∧ i = .int .i64 j ∧ Hid (RS w0 w (.slice Al out.length cl) w.heap.size bx B' Ab (Lfc.Raw.frs B (ts.take j) out) wr vr)) (fun _ i _ => ts.length - (intOf i).toNat)
    case atStart => exact ⟨0, Nat.zero_le _, rfl, by simpa [Lfc.Raw.frs] using H0⟩
    case round =>
      obtain ⟨j, hj, rfl, HR⟩ := hrel
      have x3 : wr.cell? ⟨w.heap.size, 3, none⟩ = some (.slice A ts.length c) := (Lib.cell_of_heap HR.out.box 3).trans (HBX.out 3)
      by_cases hlt : j < ts.length
      · obtain ⟨b1, o, k1, n1, p1, us, Bt, c1, rfl, hb, ht, c0', c1', c2', c3', hcu, hBt, hT⟩ := HA.out.at_ hlt
        have hbel := HR.out.bel
        have c0' := (hbel.cell (p := ⟨b1, _, none⟩) hb).trans c0'
        have c1' := (hbel.cell (p := ⟨b1, _, none⟩) hb).trans c1'
        have c2' := (hbel.cell (p := ⟨b1, _, none⟩) hb).trans c2'
        have c3' := (hbel.cell (p := ⟨b1, _, none⟩) hb).trans c3'
        have hfl := Lfc.frs_len (ts.take j) B out
        have hsz := sizes_take ts j hlt
        have hle2 := sizes_take_le ts (j + 1)
        have hmem := Lfc.Raw.sizes_mem ts ts[j] (List.getElem_mem _)
        have HS := Lib.hid (Lfc.frs_take B ts j hlt out)
        have HIH := Lib.hid (IH.out ts[j] _ wr (Lfc.Raw.frs B (ts.take j) out) B B' _ Ab cb (by omega) (HF.out j hlt) hT hbel HR.out.own HR.out.names HRel.out (by omega))
        rw [← HS.out] at HIH
        clear hBt ht hT hbel
        go_wp2_with fail
        refine HIH.out.mono ?_
        rintro e w2 ⟨v2, rfl, hown2, hg2, hb2⟩
        have H2 := Lib.hid (HR.out.next hown2 hg2 hb2)
        clear hown2 hg2 hb2
        go_wp2_with fail
        go_roundw
        case rel => exact ⟨j + 1, by omega, by go_num, H2⟩
        case measure => simp [intOf]; omega
      · have hjl : j = ts.length := by omega
        have hfin := HR.out
        rw [hjl, List.take_length] at hfin
        have HFIN := Lib.hid hfin
        clear hfin
        go_wp2_with fail
        go_ret
        exact ⟨_, rfl, HFIN.out.own, HFIN.out.gb, HFIN.out.bel⟩
end Go.Proofs.YtmdhkcefbkdkbaaDoor
