/- The contract of the walk of Path. -/
import Derived.Test.YtadjpadieljjlaaGreatOrPathP
set_option linter.unusedVariables false
set_option linter.unusedSimpArgs false
namespace Go.Proofs.YtadjpadieljjlaaGreat
open Go.RowKit Go.Maps
/-- What the walk of Path answers. -/
def PtAns (w0 : World) (ks : List Int) (A0 : Option Addr) (c0 : Nat) (kt pt : Int) (nt : List UInt8) (At : Option Addr) (lt ct B1 B2 B3 B4 base : Nat) (W : World) (path : List Int) (A : Option Addr) (r : Option (List Int)) (e : Ending) (w' : World) : Prop :=
  ∃ A' c', PtK B3 W A w' A' ∧ ((r = none ∧ e = .returned (.bool false) ∧ PtS w0 ks A0 c0 kt pt nt At lt ct B1 B2 B3 B4 base w' path A' c') ∨ (∃ q, r = some q ∧ e = .returned (.bool true) ∧ PtS w0 ks A0 c0 kt pt nt At lt ct B1 B2 B3 B4 base w' (path ++ q) A' c'))

set_option maxRecDepth 100000 in
set_option maxHeartbeats 8000000 in
theorem ptWalk_upto (w0 : World) (ks : List Int) (A0 : Option Addr) (c0 : Nat) (kt pt : Int) (nt : List UInt8) (At : Option Addr) (zs : List Lfc.Raw) (lt ct B1 B2 B3 B4 base : Nat) (t : Lfc.Raw) (hlt : lt = zs.length) (htd : t = .node kt nt pt zs) (hks : ks.length ≤ 1000000) (hA0 : IntsO w0 A0 ks) (hto : t.obj = true) (htv : TreeV w0 t (.agg #[.int .i64 kt, S nt, .int .i64 pt, .slice At lt ct])) (m : Nat) (hm : m ≤ 1000000) :
    ∀ (s : Lfc.Raw) (vs : Value) (cr : Nat) (W : World) (path : List Int) (A : Option Addr) (c : Nat), s.size ≤ m → cr + s.size ≤ 1000000 → path.length + s.size ≤ 2000000 → s.obj = true → TreeV w0 s vs → PtS w0 ks A0 c0 kt pt nt At lt ct B1 B2 B3 B4 base W path A c →
    Calls Tryz.prog 44 #[vs, .int .i64 (cr : Int), .pointer (some ⟨B1, 0, none⟩), .pointer (some ⟨B2, 0, none⟩), .pointer (some ⟨B3, 0, none⟩), .pointer (some ⟨B4, 0, none⟩)] W
      (PtAns w0 ks A0 c0 kt pt nt At lt ct B1 B2 B3 B4 base W path A (Lfc.Raw.pth ks t s cr)) := by
  induction m with
  | zero => intro s vs cr W path A c h; have := s.size_pos; omega
  | succ m ih =>
    intro s vs cr W path A c hsz hcs hps hso hv hS
    have he := enters_path
    have HV := Lib.hid hv
    have HSO := Lib.hid hso
    obtain ⟨kd, nm, ps, xs⟩ := s
    obtain ⟨As, cs, rfl, hc, hA⟩ := hv.open_
    simp only [Lfc.Raw.size] at hsz hcs hps
    have hlen := Lfc.Raw.sizes_len xs
    obtain ⟨i0, hi, hz0, hz1, hz2⟩ := info_parts intInfo
    obtain ⟨w1, hw1⟩ : ∃ w1, W.alloc (.cells #[.int .i64 kd, S nm, .int .i64 ps, .slice As xs.length cs] 51) = w1 := ⟨_, rfl⟩
    have bW1 : Below W.heap.size W w1 := by rw [← hw1]; exact (Below.refl _ _).alloc (Nat.le_refl _) _
    have q1 : w1.heap[W.heap.size]? = some (.cells #[.int .i64 kd, S nm, .int .i64 ps, .slice As xs.length cs] 51 (0, 0)) := by rw [← hw1]; exact heap_alloc_new _ _
    have l1 := lt_of_block q1
    have hn := hS.n
    have hH3 : W.heap.size ≠ B3 := by omega
    have hHA : some W.heap.size ≠ A.map (·.block) := fun e => by have := (hS.blk e.symm).2; omega
    have S1 := Lib.hid (hS.wide bW1)
    have Q1 := Lib.hid q1
    have IH := Lib.hid (ih (by omega))
    have HA := Lib.hid hA
    have HTV0 := Lib.hid htv
    obtain ⟨y0, y1, y2, y3⟩ := cells4t q1
    obtain ⟨t0, t1, t2, t3⟩ := cells4t S1.out.b1
    have c2 := Lib.cell_of_heap S1.out.b2 0
    simp at c2
    have CS := Lib.hid (oStands_any (.node kd nm ps xs) t _ _ cr ks A0 c0 w1 (by omega) hks (by rw [Lfc.Raw.size]; omega) HSO.out hto (hA0.below S1.out.below) (HV.out.below S1.out.below) (htv.below S1.out.below))
    have CP := Lib.hid (fun w2 (h2 : Below w1.heap.size w1 w2) => oPasses_any ks A0 c0 cr (.node kd nm ps xs) _ w2 (by omega) hks (hA0.below (S1.out.wide h2).below) (HV.out.below (S1.out.wide h2).below) HSO.out)
    obtain ⟨st, hst⟩ : ∃ st, Lfc.Raw.stands ks cr (.node kd nm ps xs) t = st := ⟨_, rfl⟩
    obtain ⟨pa, hpa⟩ : ∃ pa, Lfc.Raw.pas ks cr (.node kd nm ps xs) = pa := ⟨_, rfl⟩
    rw [hst] at CS
    rw [hpa] at CP
    have HS0 := Lib.hid hst
    have HP0 := Lib.hid hpa
    clear ih hv hA htv hst hpa q1 hso htd
    clear hlt
    cases st
    · cases pa
      · have HRES := Lib.hid (show Lfc.Raw.pth ks t (.node kd nm ps xs) cr = none by rw [Lfc.Raw.pth, if_neg (by rw [HS0.out]; decide), if_pos HP0.out])
        go_enter Tryz.func44, Tryz.ntmps44
        go_wp2_with fail
        refine CS.out.mono ?_
        rintro e w2 ⟨rfl, b2⟩
        obtain ⟨y0, y1, y2, y3⟩ := cells4t ((b2.block _ l1).trans Q1.out)
        have c2 := Lib.cell_of_heap (S1.out.wide b2).b2 0
        simp at c2
        go_wp2_with fail
        refine (CP.out _ b2).mono ?_
        rintro e w3 ⟨rfl, b3⟩
        have b13 := b2.trans (b3.mono b2.size)
        have HN : Hid (PtAns w0 ks A0 c0 kt pt nt At lt ct B1 B2 B3 B4 base W path A (Lfc.Raw.pth ks t (.node kd nm ps xs) cr) (.returned (.bool false)) w3) := Lib.hid ⟨A, c, (PtK.wide A bW1).trans (PtK.wide A b13), .inl ⟨HRES.out, rfl, S1.out.wide b13⟩⟩
        go_wp2_with fail
        go_ret
        exact HN.out
      · go_enter Tryz.func44, Tryz.ntmps44
        go_wp2_with fail
        refine CS.out.mono ?_
        rintro e w2 ⟨rfl, b2⟩
        clear y0 y1 y2 y3 c2 t0 t1 t2 t3
        obtain ⟨y0, y1, y2, y3⟩ := cells4t ((b2.block _ l1).trans Q1.out)
        have c2 := Lib.cell_of_heap (S1.out.wide b2).b2 0
        simp at c2
        go_wp2_with fail
        refine (CP.out _ b2).mono ?_
        rintro e w3 ⟨rfl, b3⟩
        have b13 := b2.trans (b3.mono b2.size)
        have SB := S1.out.wide b13
        clear y0 y1 y2 y3 c2 b2 b3 CS CP hw1
        obtain ⟨y0, y1, y2, y3⟩ := cells4t ((b13.block _ l1).trans Q1.out)
        by_cases hk3 : kd = 3
        · have hkb : (kd == 3) = true := by simp [hk3]
          have hwc : IntKind.i64.wrap ((cr : Int) + 1) = ((cr + 1 : Nat) : Int) := by rw [IntWalk.i64_in _ (by omega)]; omega
          have HRES := Lib.hid (show Lfc.Raw.pth ks t (.node kd nm ps xs) cr = Lfc.Raw.pths ks t xs (cr + 1) 0 by rw [Lfc.Raw.pth, if_neg (by rw [HS0.out]; decide), if_neg (by rw [HP0.out]; decide), if_pos hk3])
          clear HS0 HP0 hk3
          go_wp2_with fail
          go_loopw [25] (fun i wr => ∃ (j : Nat) (A' : Option Addr) (c' : Nat), j ≤ xs.length ∧ i = .int .i64 (j : Int) ∧ Hid (Lfc.Raw.pths ks t xs (cr + 1) 0 = Lfc.Raw.pths ks t (xs.drop j) (cr + 1) (j : Int)) ∧ Hid (PtS w0 ks A0 c0 kt pt nt At lt ct B1 B2 B3 B4 base wr path A' c') ∧ Hid (PtK B3 w1 A wr A')) (fun i _ => xs.length - (intOf i).toNat)
          case atStart => exact ⟨0, A, c, by omega, rfl, Lib.hid rfl, Lib.hid SB, Lib.hid (PtK.wide A b13)⟩
          case round =>
            obtain ⟨j, Ar, cr', hj, rfl, HQ, HS, HK⟩ := hrel
            have hsr := HK.out.size
            have hqr := (HK.out.kept W.heap.size l1 hH3 hHA).trans Q1.out
            obtain ⟨y0, y1, y2, y3⟩ := cells4t hqr
            by_cases hlt : j < xs.length
            · obtain ⟨b, o, k1, n1, p1, us, B, cc1, rfl, hb, ht, d0, d1, d2, d3, hcu, hB, hT⟩ := HA.out.at_ hlt
              have hbw := HS.out.below
              have f0 := (hbw.cell (p := ⟨b, o + j * 4, none⟩) hb).trans d0
              have f1 := (hbw.cell (p := ⟨b, o + j * 4 + 1, none⟩) hb).trans d1
              have f2 := (hbw.cell (p := ⟨b, o + j * 4 + 2, none⟩) hb).trans d2
              have f3 := (hbw.cell (p := ⟨b, o + j * 4 + 3, none⟩) hb).trans d3
              have hi0 : (0 : Int) ≤ (j : Int) := Int.natCast_nonneg _
              have hi1 : (j : Int) < (xs.length : Int) := by omega
              have hmem := Lfc.Raw.sizes_mem xs xs[j] (List.getElem_mem _)
              obtain ⟨wa, hwa⟩ : ∃ wa, wr.alloc (.cells #[.int .i64 k1, S n1, .int .i64 p1, .slice B us.length cc1] 51) = wa := ⟨_, rfl⟩
              have ba : Below wr.heap.size wr wa := by rw [← hwa]; exact (Below.refl _ _).alloc (Nat.le_refl _) _
              have qa : wa.heap[wr.heap.size]? = some (.cells #[.int .i64 k1, S n1, .int .i64 p1, .slice B us.length cc1] 51 (0, 0)) := by rw [← hwa]; exact heap_alloc_new _ _
              have la := lt_of_block qa
              have SA := Lib.hid (HS.out.wide ba)
              have HB0 : Hid (∀ g, Ar.map (·.block) = some g → g < wr.heap.size) := Lib.hid (fun g e => (HS.out.blk e).2)
              have KA := Lib.hid (HK.out.trans (PtK.wide Ar ba))
              have QA := Lib.hid qa
              have HQ2 := Lib.hid (HQ.out.trans (Lfc.pths_drop hlt))
              have HWA := Lib.hid hwa
              have HTV := Lib.hid hT
              have z3 := Lib.cell_of_heap SA.out.b3 0
              simp at z3
              have hnb := SA.out.n
              have hlm : path.length + 1 ≤ maxLen := by unfold maxLen; omega
              have hl8 : (path.length + 1) * 8 ≤ 140737488355328 := by omega
              clear hwa ba qa HQ HS hT hB ht d0 d1 d2 d3 hbw
              go_upto_region 8 with fail
              rw [HWA.out]
              clear HWA f0 f1 f2 f3
              go_wp2_with (at_builtin; refine wpList_append_own_at _ rfl _ _ 22 rfl base 3 i0 (.int .i64 0) 1 8 Tryz.underlying22 hi hz0 hz1 hz2 rfl (by decide) _ _ _ rfl (SA.out.own.alloc _) ⟨wa.heap.size, 0, none⟩ 1 1 [.int .i64 (j : Int)] rfl rfl (fun jj v hj => ocells_new wa _ rfl [.int .i64 (j : Int)] 3 jj v hj) (by intro v hv; simp at hv; subst hv; rfl) hlm hl8 (by simp; omega) ?_)
              intro v9 w9 hown9 hg9 _ hloc9
              obtain ⟨A9, c9, rfl⟩ := oform hown9
              have hg : wa.grownBy w9 (Ar.map (·.block)) := by
                have h := hg9
                rw [ownBlock_slice] at h
                exact ⟨h.os, h.tape, h.output, by have := h.size; simp at this; omega, fun b hb hne => (h.block b (by simp; omega) hne).trans (Lib.alloc_old _ _ _ hb)⟩
              have hs9 := hg.size
              have hB3a : some B3 ≠ Ar.map (·.block) := fun e => by have := (SA.out.blk e.symm).1; omega
              have hb39 := (hg.block B3 (by omega) hB3a).trans SA.out.b3
              have z9 := Lib.cell_of_heap hb39 0
              have f9 := Lib.frozen_of_heap hb39 0
              simp at z9
              have hS9 := SA.out.push (x := (j : Int)) hown9 hg
              have K9 : PtK B3 wa Ar (w9.setCell ⟨B3, 0, none⟩ (.slice A9 (path.length + 1) c9)) A9 := by
                refine PtK.trans (w1 := w9) (A1 := A9) ⟨?_, fun b hb _ h => hg.block b hb h, hs9⟩ (PtK.set A9 _)
                rcases hloc9 with e | e
                · rw [ownBlock_slice, ownBlock_slice] at e; exact .inl e
                · rw [ownBlock_slice] at e; exact .inr ⟨_, e, by simp⟩
              obtain ⟨w11, hw11⟩ : ∃ w11, w9.setCell ⟨B3, 0, none⟩ (.slice A9 (path.length + 1) c9) = w11 := ⟨_, rfl⟩
              rw [hw11] at hS9 K9
              have S11 := Lib.hid hS9
              have K11 := Lib.hid (KA.out.trans K9)
              have hwra : some wr.heap.size ≠ Ar.map (·.block) := fun e => by have := (SA.out.blk e.symm).1; have := HB0.out _ e.symm; omega
              have q11 := (K9.kept wr.heap.size la (by omega) hwra).trans QA.out
              obtain ⟨x0, x1, x2, x3⟩ := cells4t q11
              have h11 := (K11.out.kept W.heap.size l1 hH3 hHA).trans Q1.out
              clear y0 y1 y2 y3
              obtain ⟨y0, y1, y2, y3⟩ := cells4t h11
              have c4 := Lib.cell_of_heap S11.out.b4 0
              simp at c4
              have CALL := Lib.hid (IH.out xs[j] _ (cr + 1) w11 (path ++ [(j : Int)]) A9 c9 (by omega) (by omega) (by simp; omega) (Lfc.Raw.obj_args HSO.out j hlt) HTV.out S11.out)
              obtain ⟨r, hr⟩ : ∃ r, Lfc.Raw.pth ks t xs[j] (cr + 1) = r := ⟨_, rfl⟩
              rw [hr] at CALL HQ2
              clear hr hown9 hg9 hg hb39 hS9 K9 q11 h11 hloc9 hB3a hwra
              go_wp2_with fail
              refine CALL.out.mono ?_
              rintro e w12 ⟨A12, c12, K12, (⟨hn, rfl, S12⟩ | ⟨qq, hq, rfl, S12⟩)⟩
              · have e12 : (path ++ [(j : Int)]).length = path.length + 1 := by simp
                have hb12 := S12.b3
                have hown12 := S12.own
                rw [e12] at hb12 hown12
                obtain ⟨g12, cap12, hv12⟩ := ownsRow_succ hown12
                injection hv12 with ha12 _ hc12
                subst ha12 hc12
                have hcap : path.length + 1 ≤ c12 := by
                  rcases hown12.2 with ⟨h0, _⟩ | ⟨g', cap', cur', hv', _, _, hnc, _⟩
                  · cases h0
                  · injection hv' with _ _ e3; omega
                have z12 := Lib.cell_of_heap hb12 0
                have f12 := Lib.frozen_of_heap hb12 0
                simp at z12
                have HS12 := Lib.hid S12.pop
                have HK12 := Lib.hid ((K11.out.trans K12).trans (PtK.set (some ⟨g12, 0, none⟩) (.slice (some ⟨g12, 0, none⟩) path.length c12)))
                have HQ3 := Lib.hid (show Lfc.Raw.pths ks t xs (cr + 1) 0 = Lfc.Raw.pths ks t (xs.drop (j + 1)) (cr + 1) ((j + 1 : Nat) : Int) by rw [HQ2.out, hn])
                have hpw : IntKind.i64.wrap ((path.length : Int) + 1 - 1) = (path.length : Int) := by rw [IntWalk.i64_in _ (by omega)]; omega
                clear hn K12 S12 hb12 hown12 e12
                go_wp2_with fail
                go_roundw
                case rel => exact ⟨j + 1, some ⟨g12, 0, none⟩, c12, by omega, by go_num, HQ3, HS12, HK12⟩
                case measure => simp [intOf]; omega
              · have HN : Hid (PtAns w0 ks A0 c0 kt pt nt At lt ct B1 B2 B3 B4 base W path A (Lfc.Raw.pth ks t (.node kd nm ps xs) cr) (.returned (.bool true)) w12) := Lib.hid ⟨A12, c12, (PtK.wide A bW1).trans (K11.out.trans K12), .inr ⟨(j : Int) :: qq, by rw [HRES.out, HQ2.out, hq], rfl, by rw [List.append_cons]; exact S12⟩⟩
                clear hq K12 S12
                go_wp2_with fail
                go_ret
                exact HN.out
            · obtain rfl : j = xs.length := by omega
              have HN : Hid (PtAns w0 ks A0 c0 kt pt nt At lt ct B1 B2 B3 B4 base W path A (Lfc.Raw.pth ks t (.node kd nm ps xs) cr) (.returned (.bool false)) wr) := Lib.hid ⟨Ar, cr', (PtK.wide A bW1).trans HK.out, .inl ⟨by rw [HRES.out, HQ.out, List.drop_length, Lfc.Raw.pths], rfl, HS.out⟩⟩
              clear HQ HS HK
              go_wp2_with fail
              go_ret
              exact HN.out
        · have hkb : (kd == 3) = false := by simp [hk3]
          have HRES := Lib.hid (show Lfc.Raw.pth ks t (.node kd nm ps xs) cr = Lfc.Raw.pths ks t xs cr 0 by rw [Lfc.Raw.pth, if_neg (by rw [HS0.out]; decide), if_neg (by rw [HP0.out]; decide), if_neg hk3])
          clear HS0 HP0 hk3
          go_wp2_with fail
          go_loopw [25] (fun i wr => ∃ (j : Nat) (A' : Option Addr) (c' : Nat), j ≤ xs.length ∧ i = .int .i64 (j : Int) ∧ Hid (Lfc.Raw.pths ks t xs cr 0 = Lfc.Raw.pths ks t (xs.drop j) cr (j : Int)) ∧ Hid (PtS w0 ks A0 c0 kt pt nt At lt ct B1 B2 B3 B4 base wr path A' c') ∧ Hid (PtK B3 w1 A wr A')) (fun i _ => xs.length - (intOf i).toNat)
          case atStart => exact ⟨0, A, c, by omega, rfl, Lib.hid rfl, Lib.hid SB, Lib.hid (PtK.wide A b13)⟩
          case round =>
            obtain ⟨j, Ar, cr', hj, rfl, HQ, HS, HK⟩ := hrel
            have hsr := HK.out.size
            have hqr := (HK.out.kept W.heap.size l1 hH3 hHA).trans Q1.out
            obtain ⟨y0, y1, y2, y3⟩ := cells4t hqr
            by_cases hlt : j < xs.length
            · obtain ⟨b, o, k1, n1, p1, us, B, cc1, rfl, hb, ht, d0, d1, d2, d3, hcu, hB, hT⟩ := HA.out.at_ hlt
              have hbw := HS.out.below
              have f0 := (hbw.cell (p := ⟨b, o + j * 4, none⟩) hb).trans d0
              have f1 := (hbw.cell (p := ⟨b, o + j * 4 + 1, none⟩) hb).trans d1
              have f2 := (hbw.cell (p := ⟨b, o + j * 4 + 2, none⟩) hb).trans d2
              have f3 := (hbw.cell (p := ⟨b, o + j * 4 + 3, none⟩) hb).trans d3
              have hi0 : (0 : Int) ≤ (j : Int) := Int.natCast_nonneg _
              have hi1 : (j : Int) < (xs.length : Int) := by omega
              have hmem := Lfc.Raw.sizes_mem xs xs[j] (List.getElem_mem _)
              obtain ⟨wa, hwa⟩ : ∃ wa, wr.alloc (.cells #[.int .i64 k1, S n1, .int .i64 p1, .slice B us.length cc1] 51) = wa := ⟨_, rfl⟩
              have ba : Below wr.heap.size wr wa := by rw [← hwa]; exact (Below.refl _ _).alloc (Nat.le_refl _) _
              have qa : wa.heap[wr.heap.size]? = some (.cells #[.int .i64 k1, S n1, .int .i64 p1, .slice B us.length cc1] 51 (0, 0)) := by rw [← hwa]; exact heap_alloc_new _ _
              have la := lt_of_block qa
              have SA := Lib.hid (HS.out.wide ba)
              have HB0 : Hid (∀ g, Ar.map (·.block) = some g → g < wr.heap.size) := Lib.hid (fun g e => (HS.out.blk e).2)
              have KA := Lib.hid (HK.out.trans (PtK.wide Ar ba))
              have QA := Lib.hid qa
              have HQ2 := Lib.hid (HQ.out.trans (Lfc.pths_drop hlt))
              have HWA := Lib.hid hwa
              have HTV := Lib.hid hT
              have z3 := Lib.cell_of_heap SA.out.b3 0
              simp at z3
              have hnb := SA.out.n
              have hlm : path.length + 1 ≤ maxLen := by unfold maxLen; omega
              have hl8 : (path.length + 1) * 8 ≤ 140737488355328 := by omega
              clear hwa ba qa HQ HS hT hB ht d0 d1 d2 d3 hbw
              go_upto_region 8 with fail
              rw [HWA.out]
              clear HWA f0 f1 f2 f3
              go_wp2_with (at_builtin; refine wpList_append_own_at _ rfl _ _ 22 rfl base 3 i0 (.int .i64 0) 1 8 Tryz.underlying22 hi hz0 hz1 hz2 rfl (by decide) _ _ _ rfl (SA.out.own.alloc _) ⟨wa.heap.size, 0, none⟩ 1 1 [.int .i64 (j : Int)] rfl rfl (fun jj v hj => ocells_new wa _ rfl [.int .i64 (j : Int)] 3 jj v hj) (by intro v hv; simp at hv; subst hv; rfl) hlm hl8 (by simp; omega) ?_)
              intro v9 w9 hown9 hg9 _ hloc9
              obtain ⟨A9, c9, rfl⟩ := oform hown9
              have hg : wa.grownBy w9 (Ar.map (·.block)) := by
                have h := hg9
                rw [ownBlock_slice] at h
                exact ⟨h.os, h.tape, h.output, by have := h.size; simp at this; omega, fun b hb hne => (h.block b (by simp; omega) hne).trans (Lib.alloc_old _ _ _ hb)⟩
              have hs9 := hg.size
              have hB3a : some B3 ≠ Ar.map (·.block) := fun e => by have := (SA.out.blk e.symm).1; omega
              have hb39 := (hg.block B3 (by omega) hB3a).trans SA.out.b3
              have z9 := Lib.cell_of_heap hb39 0
              have f9 := Lib.frozen_of_heap hb39 0
              simp at z9
              have hS9 := SA.out.push (x := (j : Int)) hown9 hg
              have K9 : PtK B3 wa Ar (w9.setCell ⟨B3, 0, none⟩ (.slice A9 (path.length + 1) c9)) A9 := by
                refine PtK.trans (w1 := w9) (A1 := A9) ⟨?_, fun b hb _ h => hg.block b hb h, hs9⟩ (PtK.set A9 _)
                rcases hloc9 with e | e
                · rw [ownBlock_slice, ownBlock_slice] at e; exact .inl e
                · rw [ownBlock_slice] at e; exact .inr ⟨_, e, by simp⟩
              obtain ⟨w11, hw11⟩ : ∃ w11, w9.setCell ⟨B3, 0, none⟩ (.slice A9 (path.length + 1) c9) = w11 := ⟨_, rfl⟩
              rw [hw11] at hS9 K9
              have S11 := Lib.hid hS9
              have K11 := Lib.hid (KA.out.trans K9)
              have hwra : some wr.heap.size ≠ Ar.map (·.block) := fun e => by have := (SA.out.blk e.symm).1; have := HB0.out _ e.symm; omega
              have q11 := (K9.kept wr.heap.size la (by omega) hwra).trans QA.out
              obtain ⟨x0, x1, x2, x3⟩ := cells4t q11
              have h11 := (K11.out.kept W.heap.size l1 hH3 hHA).trans Q1.out
              clear y0 y1 y2 y3
              obtain ⟨y0, y1, y2, y3⟩ := cells4t h11
              have c4 := Lib.cell_of_heap S11.out.b4 0
              simp at c4
              have CALL := Lib.hid (IH.out xs[j] _ cr w11 (path ++ [(j : Int)]) A9 c9 (by omega) (by omega) (by simp; omega) (Lfc.Raw.obj_args HSO.out j hlt) HTV.out S11.out)
              obtain ⟨r, hr⟩ : ∃ r, Lfc.Raw.pth ks t xs[j] cr = r := ⟨_, rfl⟩
              rw [hr] at CALL HQ2
              clear hr hown9 hg9 hg hb39 hS9 K9 q11 h11 hloc9 hB3a hwra
              go_wp2_with fail
              refine CALL.out.mono ?_
              rintro e w12 ⟨A12, c12, K12, (⟨hn, rfl, S12⟩ | ⟨qq, hq, rfl, S12⟩)⟩
              · have e12 : (path ++ [(j : Int)]).length = path.length + 1 := by simp
                have hb12 := S12.b3
                have hown12 := S12.own
                rw [e12] at hb12 hown12
                obtain ⟨g12, cap12, hv12⟩ := ownsRow_succ hown12
                injection hv12 with ha12 _ hc12
                subst ha12 hc12
                have hcap : path.length + 1 ≤ c12 := by
                  rcases hown12.2 with ⟨h0, _⟩ | ⟨g', cap', cur', hv', _, _, hnc, _⟩
                  · cases h0
                  · injection hv' with _ _ e3; omega
                have z12 := Lib.cell_of_heap hb12 0
                have f12 := Lib.frozen_of_heap hb12 0
                simp at z12
                have HS12 := Lib.hid S12.pop
                have HK12 := Lib.hid ((K11.out.trans K12).trans (PtK.set (some ⟨g12, 0, none⟩) (.slice (some ⟨g12, 0, none⟩) path.length c12)))
                have HQ3 := Lib.hid (show Lfc.Raw.pths ks t xs cr 0 = Lfc.Raw.pths ks t (xs.drop (j + 1)) cr ((j + 1 : Nat) : Int) by rw [HQ2.out, hn])
                have hpw : IntKind.i64.wrap ((path.length : Int) + 1 - 1) = (path.length : Int) := by rw [IntWalk.i64_in _ (by omega)]; omega
                clear hn K12 S12 hb12 hown12 e12
                go_wp2_with fail
                go_roundw
                case rel => exact ⟨j + 1, some ⟨g12, 0, none⟩, c12, by omega, by go_num, HQ3, HS12, HK12⟩
                case measure => simp [intOf]; omega
              · have HN : Hid (PtAns w0 ks A0 c0 kt pt nt At lt ct B1 B2 B3 B4 base W path A (Lfc.Raw.pth ks t (.node kd nm ps xs) cr) (.returned (.bool true)) w12) := Lib.hid ⟨A12, c12, (PtK.wide A bW1).trans (K11.out.trans K12), .inr ⟨(j : Int) :: qq, by rw [HRES.out, HQ2.out, hq], rfl, by rw [List.append_cons]; exact S12⟩⟩
                clear hq K12 S12
                go_wp2_with fail
                go_ret
                exact HN.out
            · obtain rfl : j = xs.length := by omega
              have HN : Hid (PtAns w0 ks A0 c0 kt pt nt At lt ct B1 B2 B3 B4 base W path A (Lfc.Raw.pth ks t (.node kd nm ps xs) cr) (.returned (.bool false)) wr) := Lib.hid ⟨Ar, cr', (PtK.wide A bW1).trans HK.out, .inl ⟨by rw [HRES.out, HQ.out, List.drop_length, Lfc.Raw.pths], rfl, HS.out⟩⟩
              clear HQ HS HK
              go_wp2_with fail
              go_ret
              exact HN.out
    · have HRES := Lib.hid (show Lfc.Raw.pth ks t (.node kd nm ps xs) cr = some [] by rw [Lfc.Raw.pth, if_pos HS0.out])
      go_enter Tryz.func44, Tryz.ntmps44
      go_wp2_with fail
      refine CS.out.mono ?_
      rintro e w2 ⟨rfl, b2⟩
      have HN : Hid (PtAns w0 ks A0 c0 kt pt nt At lt ct B1 B2 B3 B4 base W path A (Lfc.Raw.pth ks t (.node kd nm ps xs) cr) (.returned (.bool true)) w2) := Lib.hid ⟨A, c, (PtK.wide A bW1).trans (PtK.wide A b2), .inr ⟨[], HRES.out, rfl, by rw [List.append_nil]; exact S1.out.wide b2⟩⟩
      go_wp2_with fail
      go_ret
      exact HN.out
end Go.Proofs.YtadjpadieljjlaaGreat
