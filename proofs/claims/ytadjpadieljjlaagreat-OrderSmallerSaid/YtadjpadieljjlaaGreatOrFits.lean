/- The contracts of IsObject and of Fits. -/
import Derived.Test.YtadjpadieljjlaaGreatOrStand2
set_option linter.unusedVariables false
set_option linter.unusedSimpArgs false
namespace Lfc
def Raw.isO (t : Raw) : Bool := t.obj && t.small
/-- Does t stand at a path below s. -/
def Raw.fit (ks : List Int) (t : Raw) : List Int → Raw → Nat → Bool
  | [], s, cr => Raw.stands ks cr s t
  | i :: r, .node k n p xs, cr => if Raw.pas ks cr (.node k n p xs) = false ∨ i < 0 ∨ (xs.length : Int) ≤ i then false else match xs[i.toNat]? with
    | none => false
    | some y => Raw.fit ks t r y (if k = 3 then cr + 1 else cr)
def Raw.fits (ks : List Int) (t u : Raw) (path : List Int) : Bool := t.isO && u.isO && Raw.fit ks t path u 0
theorem Raw.fit_no {ks : List Int} {t : Raw} {i : Int} {r : List Int} {k p : Int} {n : List UInt8} {xs : List Raw} {cr : Nat} (h : Raw.pas ks cr (.node k n p xs) = false ∨ i < 0 ∨ (xs.length : Int) ≤ i) : Raw.fit ks t (i :: r) (.node k n p xs) cr = false := by
  rw [Raw.fit, if_pos h]
theorem Raw.fit_go {ks : List Int} {t : Raw} {i : Nat} {r : List Int} {k p : Int} {n : List UInt8} {xs : List Raw} {cr : Nat} (h : Raw.pas ks cr (.node k n p xs) = true) (hi : i < xs.length) : Raw.fit ks t ((i : Int) :: r) (.node k n p xs) cr = Raw.fit ks t r xs[i] (if k = 3 then cr + 1 else cr) := by
  rw [Raw.fit, if_neg (by rintro (h1 | h1 | h1); rw [h] at h1; cases h1; omega; omega), Int.toNat_natCast, List.getElem?_eq_getElem hi]
theorem Raw.obj_args {k p : Int} {n : List UInt8} {xs : List Raw} (h : (Raw.node k n p xs).obj = true) (i : Nat) (hi : i < xs.length) : xs[i].obj = true := by
  rw [Raw.obj] at h
  have : Raw.objs xs = true := by
    repeat' split at h
    all_goals first | (cases h; done) | (simp at h; exact h.2) | (simp at h; exact h.2.2)
  exact (objs_spec xs).1 this i hi
end Lfc
namespace Go.Proofs.YtadjpadieljjlaaGreat
open Go.RowKit

set_option maxRecDepth 100000 in
set_option maxHeartbeats 2000000 in
theorem tIsO_any (t : Lfc.Raw) (v : Value) (w : World) (hsz : t.size ≤ 1000000) (hv : TreeV w t v) :
    Calls Tryz.prog 43 #[v] w fun e w' => e = .returned (.bool t.isO) ∧ Below w.heap.size w w' := by
  have HT := Lib.hid (show t.isO = (t.obj && t.small) from rfl)
  have HV := Lib.hid hv
  obtain ⟨A, c, kd, nm, ps, ts, hT, rfl⟩ : ∃ A c kd nm ps ts, t = .node kd nm ps ts ∧ v = .agg #[.int .i64 kd, S nm, .int .i64 ps, .slice A (List.length ts) c] := by
    obtain ⟨kd, nm, ps, ts⟩ := t
    obtain ⟨A, c, rfl, hc, hA⟩ := hv.open_
    exact ⟨A, c, kd, nm, ps, ts, rfl, rfl⟩
  clear hT hv
  obtain ⟨w1, hw1⟩ : ∃ w1, w.alloc (.cells #[.int .i64 kd, S nm, .int .i64 ps, .slice A ts.length c] 51) = w1 := ⟨_, rfl⟩
  have b01 : Below w.heap.size w w1 := by rw [← hw1]; exact (Below.refl _ _).alloc (Nat.le_refl _) _
  have q1 : w1.heap[w.heap.size]? = some (.cells #[.int .i64 kd, S nm, .int .i64 ps, .slice A ts.length c] 51 (0, 0)) := by rw [← hw1]; exact heap_alloc_new _ _
  have s01 := b01.size
  obtain ⟨y0, y1, y2, y3⟩ := cells4t q1
  have Q1 := Lib.hid q1
  have CO := Lib.hid (tObj_upto _ (by omega) t _ w1 (Nat.le_refl _) (HV.out.below b01))
  have CS := Lib.hid (fun W (hW : Below w1.heap.size w1 W) => tSmall_any t _ W (by omega) (HV.out.below (b01.trans (hW.mono b01.size))))
  rw [HT.out]
  clear HT q1
  generalize t.obj = qo at *
  generalize t.small = qs at *
  cases qo
  · go_enter Tryz.func43, Tryz.ntmps43
    go_wp2_with fail
    refine CO.out.mono ?_
    rintro e w2 ⟨rfl, b2⟩
    go_wp2_with fail
    go_ret
    exact ⟨rfl, b01.trans (b2.mono s01)⟩
  · go_enter Tryz.func43, Tryz.ntmps43
    go_wp2_with fail
    refine CO.out.mono ?_
    rintro e w2 ⟨rfl, b2⟩
    obtain ⟨y0, y1, y2, y3⟩ := cells4t ((b2.block _ (lt_of_block Q1.out)).trans Q1.out)
    go_wp2_with fail
    refine (CS.out _ b2).mono ?_
    rintro e w3 ⟨rfl, b3⟩
    cases qs
    all_goals
      go_wp2_with fail
      go_ret
      exact ⟨rfl, b01.trans ((b2.trans (b3.mono b2.size)).mono s01)⟩

/-- The state of the loop of Fits. -/
structure FitI (w w0 : World) (Bt Bu : Nat) (ks : List Int) (t : Lfc.Raw) (path : List Int) (tot : Bool) (top j cr : Nat) (kd ps : Int) (nm : List UInt8) (xs : List Lfc.Raw) (A : Option Addr) (c : Nat) (wr : World) : Prop where
  fit : tot = Lfc.Raw.fit ks t (path.drop j) (.node kd nm ps xs) cr
  box : wr.heap[Bu]? = some (.cells #[.int .i64 kd, S nm, .int .i64 ps, .slice A xs.length c] 51 (0, 0))
  v : TreeV w (.node kd nm ps xs) (.agg #[.int .i64 kd, S nm, .int .i64 ps, .slice A xs.length c])
  obj : (Lfc.Raw.node kd nm ps xs).obj = true
  size : (Lfc.Raw.node kd nm ps xs).size ≤ top
  oth : Oth Bu w0 wr

set_option maxRecDepth 100000 in
set_option maxHeartbeats 8000000 in
theorem oFits_any (t u : Lfc.Raw) (vt vu : Value) (path : List Int) (A1 : Option Addr) (c1 : Nat) (ks : List Int) (A0 : Option Addr) (c0 : Nat) (w : World) (hpl : path.length ≤ 1000000) (hks : ks.length ≤ 1000000) (ht : t.size ≤ 1000000) (hu : u.size ≤ 1000000) (hA1 : IntsO w A1 path) (hA0 : IntsO w A0 ks) (hv : TreeV w t vt) (hv' : TreeV w u vu) :
    Calls Tryz.prog 32 #[vt, vu, .slice A1 path.length c1, .slice A0 ks.length c0] w fun e w' => e = .returned (.bool (Lfc.Raw.fits ks t u path)) ∧ Below w.heap.size w w' := by
  have HV := Lib.hid hv
  have HV' := Lib.hid hv'
  have HF : Hid (Lfc.Raw.fits ks t u path = (t.isO && u.isO && Lfc.Raw.fit ks t path u 0)) := Lib.hid rfl
  obtain ⟨A, c, kd, nm, ps, xs, hT, rfl⟩ : ∃ A c kd nm ps xs, t = .node kd nm ps xs ∧ vt = .agg #[.int .i64 kd, S nm, .int .i64 ps, .slice A (List.length xs) c] := by
    obtain ⟨kd, nm, ps, ts⟩ := t
    obtain ⟨A, c, rfl, hc, hA⟩ := hv.open_
    exact ⟨A, c, kd, nm, ps, ts, rfl, rfl⟩
  obtain ⟨A', c', kd', nm', ps', ys, hU, rfl⟩ : ∃ A c kd nm ps xs, u = .node kd nm ps xs ∧ vu = .agg #[.int .i64 kd, S nm, .int .i64 ps, .slice A (List.length xs) c] := by
    obtain ⟨kd, nm, ps, ts⟩ := u
    obtain ⟨A, c, rfl, hc, hA⟩ := hv'.open_
    exact ⟨A, c, kd, nm, ps, ts, rfl, rfl⟩
  obtain ⟨w1, hw1⟩ : ∃ w1, w.alloc (.cells #[.int .i64 kd, S nm, .int .i64 ps, .slice A xs.length c] 51) = w1 := ⟨_, rfl⟩
  obtain ⟨w2, hw2⟩ : ∃ w2, w1.alloc (.cells #[.int .i64 kd', S nm', .int .i64 ps', .slice A' ys.length c'] 51) = w2 := ⟨_, rfl⟩
  have b1 : Below w.heap.size w w1 := by rw [← hw1]; exact (Below.refl _ _).alloc (Nat.le_refl _) _
  have b2 : Below w1.heap.size w1 w2 := by rw [← hw2]; exact (Below.refl _ _).alloc (Nat.le_refl _) _
  have q1 : w1.heap[w.heap.size]? = some (.cells #[.int .i64 kd, S nm, .int .i64 ps, .slice A xs.length c] 51 (0, 0)) := by rw [← hw1]; exact heap_alloc_new _ _
  have q2 : w2.heap[w1.heap.size]? = some (.cells #[.int .i64 kd', S nm', .int .i64 ps', .slice A' ys.length c'] 51 (0, 0)) := by rw [← hw2]; exact heap_alloc_new _ _
  have l1 := lt_of_block q1
  have l2 := lt_of_block q2
  have b02 : Below w.heap.size w w2 := b1.trans (b2.mono (by omega))
  have Q1 := Lib.hid ((b2.block _ l1).trans q1)
  have Q2 := Lib.hid q2
  have B02 := Lib.hid b02
  have HA1 := Lib.hid hA1
  have HA0 := Lib.hid hA0
  have HT := Lib.hid hT
  have HU := Lib.hid hU
  have s02 : w.heap.size ≤ w2.heap.size := by omega
  obtain ⟨y0, y1, y2, y3⟩ := cells4t Q1.out
  have CT := Lib.hid (tIsO_any t _ w2 ht (HV.out.below b02))
  have CU := Lib.hid (fun W (hW : Below w2.heap.size w2 W) => tIsO_any u _ W hu (HV'.out.below (b02.trans (hW.mono s02))))
  have HOT : Hid (t.isO = true → t.obj = true) := Lib.hid (fun h => by rw [Lfc.Raw.isO, Bool.and_eq_true] at h; exact h.1)
  have HOU : Hid (u.isO = true → u.obj = true) := Lib.hid (fun h => by rw [Lfc.Raw.isO, Bool.and_eq_true] at h; exact h.1)
  rw [HF.out]
  clear HF hT hU hv hv' hA0 hA1 b1 b2 q1 q2 b02
  obtain ⟨qt, hqt⟩ : ∃ qt, t.isO = qt := ⟨_, rfl⟩
  obtain ⟨qu, hqu⟩ : ∃ qu, u.isO = qu := ⟨_, rfl⟩
  rw [hqt] at CT HOT ⊢
  rw [hqu] at CU HOU ⊢
  clear hqt hqu
  cases qt
  · have HE : Hid ((false && qu && Lfc.Raw.fit ks t path u 0) = false) := Lib.hid rfl
    rw [HE.out]
    go_enter Tryz.func32, Tryz.ntmps32
    go_wp2_with fail
    refine CT.out.mono ?_
    rintro e w3 ⟨rfl, b3⟩
    go_wp2_with fail
    go_ret
    exact ⟨rfl, B02.out.trans (b3.mono s02)⟩
  · have HOT2 := Lib.hid (HOT.out rfl)
    clear HOT
    cases qu
    · have HE : Hid ((true && false && Lfc.Raw.fit ks t path u 0) = false) := Lib.hid rfl
      rw [HE.out]
      go_enter Tryz.func32, Tryz.ntmps32
      go_wp2_with fail
      refine CT.out.mono ?_
      rintro e w3 ⟨rfl, b3⟩
      clear y0 y1 y2 y3
      obtain ⟨z0, z1, z2, z3⟩ := cells4t ((b3.block _ l2).trans Q2.out)
      go_wp2_with fail
      refine (CU.out _ b3).mono ?_
      rintro e w4 ⟨rfl, b4'⟩
      have b4 := b3.trans (b4'.mono b3.size)
      clear b4' z0 z1 z2 z3
      have s4 := b4.size
      have B4 := Lib.hid b4
      go_wp2_with fail
      go_ret
      exact ⟨rfl, B02.out.trans (b4.mono s02)⟩
    · have HE : Hid ((true && true && Lfc.Raw.fit ks t path u 0) = Lfc.Raw.fit ks t path u 0) := Lib.hid rfl
      have HOU2 := Lib.hid (HOU.out rfl)
      clear HOU
      rw [HE.out]
      obtain ⟨tot, htot⟩ : ∃ tot, Lfc.Raw.fit ks t path u 0 = tot := ⟨_, rfl⟩
      rw [htot]
      have HTOT := Lib.hid htot
      clear htot
      go_enter Tryz.func32, Tryz.ntmps32
      go_wp2_with fail
      refine CT.out.mono ?_
      rintro e w3 ⟨rfl, b3⟩
      clear y0 y1 y2 y3
      obtain ⟨z0, z1, z2, z3⟩ := cells4t ((b3.block _ l2).trans Q2.out)
      go_wp2_with fail
      refine (CU.out _ b3).mono ?_
      rintro e w4 ⟨rfl, b4'⟩
      have b4 := b3.trans (b4'.mono b3.size)
      clear b4' z0 z1 z2 z3
      have s4 := b4.size
      have B4 := Lib.hid b4
      have I0 : Hid (FitI w w4 w.heap.size w1.heap.size ks t path tot u.size 0 0 kd' ps' nm' ys A' c' w4) := Lib.hid ⟨by rw [List.drop_zero, ← HU.out]; exact HTOT.out.symm, (b4.block _ l2).trans Q2.out, by rw [← HU.out]; exact HV'.out, by rw [← HU.out]; exact HOU2.out, by rw [← HU.out]; exact Nat.le_refl _, Oth.refl _ _⟩
      have Q4 := Lib.hid ((b4.block _ (by omega)).trans Q1.out)
      have HW4 := Lib.hid (B02.out.trans (b4.mono s02))
      clear b4 b3
      go_wp2_with fail
      go_loopw [9, 22] (fun x i wr => ∃ (j cr : Nat) (kq pq : Int) (nq : List UInt8) (zs : List Lfc.Raw) (Aq : Option Addr) (cq : Nat), j ≤ path.length ∧ cr ≤ j ∧ x = .int .i64 (cr : Int) ∧ i = .int .i64 (j : Int) ∧ Hid (FitI w w4 w.heap.size w1.heap.size ks t path tot u.size j cr kq pq nq zs Aq cq wr)) (fun x i _ => path.length - (intOf i).toNat)
      case atStart => exact ⟨0, 0, kd', ps', nm', ys, A', c', by omega, by omega, rfl, rfl, I0⟩
      case round =>
        clear I0
        obtain ⟨j, cr, kq, pq, nq, zs, Aq, cq, hj, hcr, rfl, rfl, HI⟩ := hrel
        have hsw := HI.out.oth.size
        have hbw : Below w.heap.size w wr := Oth.below HW4.out HI.out.oth (by omega) (by omega)
        have HBW := Lib.hid hbw
        obtain ⟨z0, z1, z2, z3⟩ := cells4t HI.out.box
        by_cases hlt : j < path.length
        · obtain ⟨b, o, rfl, hb, hx⟩ := HA1.out (by intro h0; rw [h0] at hlt; simp at hlt)
          have hx1 := (hbw.cell (p := ⟨b, o + j, none⟩) hb).trans (hx j hlt)
          have hi0 : (0 : Int) ≤ (j : Int) := Int.natCast_nonneg _
          have hi1 : (j : Int) < (path.length : Int) := by omega
          have hgd : path.getD j 0 = path[j] := by rw [List.getD_eq_getElem?_getD, List.getElem?_eq_getElem hlt]; rfl
          have HDR := Lib.hid (HI.out.fit.trans (by rw [List.drop_eq_getElem_cons hlt] : _ = Lfc.Raw.fit ks t (path[j] :: path.drop (j + 1)) (.node kq nq pq zs) cr))
          rw [hgd] at hx1
          obtain ⟨z, hz⟩ : ∃ z, path[j] = z := ⟨_, rfl⟩
          rw [hz] at hx1 HDR
          have CP := Lib.hid (oPasses_any ks A0 c0 cr _ _ wr (by omega) hks (HA0.out.below hbw) (HI.out.v.below hbw) HI.out.obj)
          obtain ⟨pb, hpb⟩ : ∃ pb, Lfc.Raw.pas ks cr (.node kq nq pq zs) = pb := ⟨_, rfl⟩
          rw [hpb] at CP
          have HPB := Lib.hid hpb
          clear hx hgd hz hpb hbw
          go_wp2_with fail
          refine CP.out.mono ?_
          rintro e w5 ⟨rfl, b5⟩
          clear z0 z1 z2 z3
          have B5 := Lib.hid b5
          have hq5 := (b5.block _ (lt_of_block HI.out.box)).trans HI.out.box
          have O5 := Lib.hid (HI.out.oth.trans (Oth.of_below b5))
          have hs5 := b5.size
          have hbw5 := HBW.out.trans (b5.mono HBW.out.size)
          obtain ⟨z0, z1, z2, z3⟩ := cells4t hq5
          cases pb
          · have HN : Hid (tot = false) := Lib.hid (HDR.out.trans (Lfc.Raw.fit_no (.inl HPB.out)))
            clear HDR hq5 b5
            go_wp2_with fail
            go_ret
            exact ⟨by rw [HN.out]; rfl, hbw5⟩
          · by_cases hz0 : z < 0
            · have HN : Hid (tot = false) := Lib.hid (HDR.out.trans (Lfc.Raw.fit_no (.inr (.inl hz0))))
              have hd1 : decide (z < 0) = true := by rw [decide_eq_true_eq]; exact hz0
              clear HDR hq5 b5
              go_wp2_with fail
              go_ret
              exact ⟨by rw [HN.out]; rfl, hbw5⟩
            · have hd1 : decide (z < 0) = false := by rw [decide_eq_false_iff_not]; exact hz0
              by_cases hzl : (zs.length : Int) ≤ z
              · have HN : Hid (tot = false) := Lib.hid (HDR.out.trans (Lfc.Raw.fit_no (.inr (.inr hzl))))
                have hd2 : decide ((zs.length : Int) ≤ z) = true := by rw [decide_eq_true_eq]; exact hzl
                have hd3 : decide (z ≥ (zs.length : Int)) = true := by rw [decide_eq_true_eq]; exact hzl
                clear HDR hq5 b5
                go_wp2_with fail
                go_ret
                exact ⟨by rw [HN.out]; rfl, hbw5⟩
              · obtain ⟨q, rfl⟩ : ∃ q : Nat, z = q := ⟨z.toNat, by omega⟩
                have hql : q < zs.length := by omega
                have hd2 : decide ((zs.length : Int) ≤ (q : Int)) = false := by rw [decide_eq_false_iff_not]; exact hzl
                have hd3 : decide ((q : Int) ≥ (zs.length : Int)) = false := by rw [decide_eq_false_iff_not]; exact hzl
                have hq0 : (0 : Int) ≤ (q : Int) := Int.natCast_nonneg _
                have hq1 : (q : Int) < (zs.length : Int) := by omega
                obtain ⟨b', o', k2, n2, p2, us, B', cc2, rfl, hb', ht', e0, e1, e2, e3, hcu', hB', hT'⟩ := HI.out.v.parts.1.at_ hql
                have f0 := (hbw5.cell (p := ⟨b', o' + q * 4, none⟩) hb').trans e0
                have f1 := (hbw5.cell (p := ⟨b', o' + q * 4 + 1, none⟩) hb').trans e1
                have f2 := (hbw5.cell (p := ⟨b', o' + q * 4 + 2, none⟩) hb').trans e2
                have f3 := (hbw5.cell (p := ⟨b', o' + q * 4 + 3, none⟩) hb').trans e3
                obtain ⟨s1, s2, s3, s4, g1, g2, g3, g4, ⟨r0, r1, r2, r3⟩, ⟨t0, t1, t2, t3⟩, hq6, ho6⟩ := tput4 hq5 (.int .i64 k2) (S n2) (.int .i64 p2) (.slice B' us.length cc2)
                have hmem := Lfc.Raw.sizes_mem zs zs[q] (List.getElem_mem _)
                have hobj := Lfc.Raw.obj_args HI.out.obj q hql
                have hszq := HI.out.size
                rw [Lfc.Raw.size] at hszq
                have HN : ∀ cr2, cr2 = (if kq = 3 then cr + 1 else cr) → Hid (FitI w w4 w.heap.size w1.heap.size ks t path tot u.size (j + 1) cr2 k2 p2 n2 us B' cc2 s4) := fun cr2 h2 => Lib.hid (by
                  refine ⟨?_, hq6, by rw [← ht']; exact hT', by rw [← ht']; exact hobj, by rw [← ht']; omega, O5.out.trans ho6⟩
                  rw [HDR.out, Lfc.Raw.fit_go HPB.out hql, ht', h2])
                have HN2 := Lib.hid HN
                clear HN hq6 ho6 hobj hszq hmem hB' hT' ht' e0 e1 e2 e3 HDR hq5 b5 hz0 hzl
                by_cases hk3 : kq = 3
                · have hkb : (kq == 3) = true := by simp [hk3]
                  have hwc : IntKind.i64.wrap ((cr : Int) + 1) = ((cr + 1 : Nat) : Int) := by rw [IntWalk.i64_in _ (by omega)]; omega
                  have HN3 := HN2.out (cr + 1) (by rw [if_pos hk3])
                  clear HN2 hk3
                  go_wp2_with fail
                  go_roundw
                  case rel => exact ⟨j + 1, cr + 1, k2, p2, n2, us, B', cc2, by omega, by omega, rfl, by go_num, HN3⟩
                  case measure => simp [intOf]; omega
                · have hkb : (kq == 3) = false := by simp [hk3]
                  have HN3 := HN2.out cr (by rw [if_neg hk3])
                  clear HN2 hk3
                  go_wp2_with fail
                  go_roundw
                  case rel => exact ⟨j + 1, cr, k2, p2, n2, us, B', cc2, by omega, by omega, rfl, by go_num, HN3⟩
                  case measure => simp [intOf]; omega
        · obtain rfl : j = path.length := by omega
          obtain ⟨y0, y1, y2, y3⟩ := cells4t (HI.out.oth.heap Q4.out (show w.heap.size ≠ w1.heap.size by omega))
          have HE2 : Hid (tot = Lfc.Raw.stands ks cr (.node kq nq pq zs) t) := Lib.hid (by rw [HI.out.fit, List.drop_length, Lfc.Raw.fit])
          have CS := Lib.hid (oStands_any (.node kq nq pq zs) t _ _ cr ks A0 c0 wr (by omega) hks (by have := HI.out.size; omega) HI.out.obj HOT2.out (HA0.out.below hbw) (HI.out.v.below hbw) (HV.out.below hbw))
          rw [← HE2.out] at CS
          clear HI
          go_wp2_with fail
          refine CS.out.mono ?_
          rintro e w5 ⟨rfl, b5⟩
          go_wp2_with fail
          go_ret
          exact ⟨rfl, HBW.out.trans (b5.mono HBW.out.size)⟩
end Go.Proofs.YtadjpadieljjlaaGreat
