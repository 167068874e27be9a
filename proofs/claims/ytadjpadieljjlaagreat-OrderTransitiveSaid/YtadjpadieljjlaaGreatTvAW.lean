/- Parts of the proof that no input makes the law false: SmPair2, OrMade, SmOrd. -/
import Derived.Deep.RegionLaw
import Derived.Deep.RegionLawGrows
import Derived.Test.YtadjpadieljjlaaGreatTvAB
import Derived.Test.YtadjpadieljjlaaGreatTvAD
import Derived.Test.YtadjpadieljjlaaGreatTvAV
set_option linter.unusedVariables false
set_option linter.unusedSimpArgs false
namespace Go.Proofs.YtadjpadieljjlaaGreat
open Go.RowKit Go.Maps
attribute [local go_sem ↓] Go.wp_at_zero Go.wp_at_succ
set_option maxRecDepth 100000 in
set_option maxHeartbeats 16000000 in
theorem mPair_any (T : Nat) (ks : List Int) (A0 : Option Addr) (c0 : Nat) (w : World) (hks : ks.length ≤ 40) (hT : TapeI T w) :
  Calls Tryz.prog 18 #[.pointer (some ⟨T, 0, none⟩), .slice A0 ks.length c0] w (PairAns w T 40) := by
 have hTl := hT.lt
 obtain ⟨vars, hvars⟩ : ∃ vars, ks.length = vars := ⟨_, rfl⟩
 rw [hvars] at hks ⊢
 clear hvars
 obtain ⟨w2, hw2⟩ : ∃ w2, (w.alloc (.cells #[.int .i64 0, S [], .int .i64 0, .slice none 0 0] 51)).alloc (.cells #[.int .i64 0, S [], .int .i64 0, .slice none 0 0] 51) = w2 := ⟨_, rfl⟩
 have b12 : Below w.heap.size w w2 := by rw [← hw2]; exact ((Below.refl _ _).alloc (Nat.le_refl _) _).alloc (by simp) _
 have q1 : w2.heap[w.heap.size]? = some (.cells #[.int .i64 0, S [], .int .i64 0, .slice none 0 0] 51 (0, 0)) := by rw [← hw2]; exact (Lib.alloc_old _ _ _ (by simp)).trans (heap_alloc_new _ _)
 have q2 : w2.heap[w.heap.size + 1]? = some (.cells #[.int .i64 0, S [], .int .i64 0, .slice none 0 0] 51 (0, 0)) := by
  rw [← hw2]
  have := heap_alloc_new (w.alloc (.cells #[.int .i64 0, S [], .int .i64 0, .slice none 0 0] 51)) (.cells #[.int .i64 0, S [], .int .i64 0, .slice none 0 0] 51)
  simpa using this
 have hs2 := lt_of_block q2
 have Q1 := Lib.hid q1
 have Q2 := Lib.hid q2
 have T2 := Lib.hid (hT.below b12)
 have O2 : Hid (Oth T w w2) := Lib.hid (Oth.of_below b12)
 clear hT b12 q1 q2
 go_enter Tryz.func18, Tryz.ntmps18
 go_upto_region 1 with fail
 clear hw2
 go_wp2_with fail
 refine (mObj_any 4 (by omega) T vars w2 (by omega) T2.out).mono ?_
 rintro e w3 ⟨⟨u, vu, rfl, hvu, hsu, hpu⟩, T3', o3'⟩
 obtain ⟨ku, nu, pu, us, hue⟩ := Lfc.Raw.ex u
 rw [hue] at hvu hsu hpu
 obtain ⟨Au, cu, rfl, hPu⟩ := hvu.openT
 have hs3 := o3'.size
 obtain ⟨w4, hw4⟩ : ∃ w4, w3.alloc (.cells #[.int .i64 ku, S nu, .int .i64 pu, .slice Au us.length cu] 51) = w4 := ⟨_, rfl⟩
 have b4 : Below w3.heap.size w3 w4 := by rw [← hw4]; exact (Below.refl _ _).alloc (Nat.le_refl _) _
 have q4 : w4.heap[w3.heap.size]? = some (.cells #[.int .i64 ku, S nu, .int .i64 pu, .slice Au us.length cu] 51 (0, 0)) := by rw [← hw4]; exact heap_alloc_new _ _
 have l4 := lt_of_block q4
 have o24 : Oth T w2 w4 := o3'.of_new (b4.mono hs3)
 have T4 := Lib.hid (T3'.below b4)
 have O4 := Lib.hid (O2.out.trans o24)
 have Q14 := Lib.hid (o24.heap Q1.out (by omega))
 have Q24 := Lib.hid (o24.heap Q2.out (by omega))
 have Q4 := Lib.hid q4
 have HVU : Hid (TreeVP (fun b => w.heap.size ≤ b ∧ b ≠ w.heap.size ∧ b ≠ w.heap.size + 1) w4 (.node ku nu pu us) (.agg #[.int .i64 ku, S nu, .int .i64 pu, .slice Au us.length cu])) := Lib.hid (hvu.keep (fun b _ hlt => b4.block b hlt) b4.size (fun b _ hb => by have hb : w2.heap.size ≤ b := hb; exact ⟨by omega, by omega, by omega⟩))
 have hsu2 : (Lfc.Raw.node ku nu pu us).size ≤ 31 := by omega
 have HPU := Lib.hid (Lfc.posB_mono (b' := 1048576) (by omega) _ hpu)
 have H4 := Lib.hid hw4
 clear hvu hPu hsu hpu T3' o3' b4 q4 o24 hw4 T2 O2 Q1 Q2 hue
 go_upto_region 2 with fail
 rw [H4.out]
 clear H4
 go_wp2_with fail
 refine (tapeI_next T 4 w4 (by omega) (by omega) T4.out).mono ?_
 rintro e w5 ⟨⟨r, hr, rfl⟩, T5', o5'⟩
 have hs5 := o5'.size
 have T5 := Lib.hid T5'
 have O5 := Lib.hid (O4.out.trans o5')
 have Q15 := Lib.hid (o5'.heap Q14.out (by omega))
 have Q25 := Lib.hid (o5'.heap Q24.out (by omega))
 have QU5 := Lib.hid (o5'.heap Q4.out (by omega))
 have HV5 := Lib.hid (HVU.out.keep (fun b hb hlt => o5'.block b hlt (fun e => by have := Option.some.inj e; have := hb.1; omega)) o5'.size (fun b _ hb => hb))
 clear T5' o5' T4 O4 Q14 Q24 Q4 HVU
 by_cases hr0 : r = 0
 ·subst hr0
  go_upto_region 3 with fail
  have RET : Hid (∀ w6, Oth T w5.drew w6 → TapeI T w6 → ∀ (kx px : Int) (nx : List UInt8) (xs : List Lfc.Raw) (Ax : Option Addr) (cx : Nat), TreeVP (fun b => w5.drew.heap.size ≤ b) w6 (.node kx nx px xs) (.agg #[.int .i64 kx, S nx, .int .i64 px, .slice Ax (List.length xs) cx]) → (Lfc.Raw.node kx nx px xs).size + 1 ≤ 2 ^ (2 + 1) →
   (w6.cell? ⟨w3.heap.size, 0, none⟩ = some (.int .i64 ku) ∧ w6.cell? ⟨w3.heap.size, 1, none⟩ = some (S nu) ∧ w6.cell? ⟨w3.heap.size, 2, none⟩ = some (.int .i64 pu) ∧ w6.cell? ⟨w3.heap.size, 3, none⟩ = some (.slice Au us.length cu)) ∧
   ∃ s1 s2 s3 s4, w6.setCell ⟨w.heap.size, 0, none⟩ (.int .i64 kx) = s1 ∧ s1.setCell ⟨w.heap.size, 1, none⟩ (S nx) = s2 ∧ s2.setCell ⟨w.heap.size, 2, none⟩ (.int .i64 px) = s3 ∧ s3.setCell ⟨w.heap.size, 3, none⟩ (.slice Ax (List.length xs) cx) = s4 ∧
   (w6.cell? ⟨w.heap.size, 0, none⟩ = some (.int .i64 0) ∧ s1.cell? ⟨w.heap.size, 1, none⟩ = some (S []) ∧ s2.cell? ⟨w.heap.size, 2, none⟩ = some (.int .i64 0) ∧ s3.cell? ⟨w.heap.size, 3, none⟩ = some (.slice none 0 0)) ∧
   (w6.frozen? ⟨w.heap.size, 0, none⟩ = false ∧ s1.frozen? ⟨w.heap.size, 1, none⟩ = false ∧ s2.frozen? ⟨w.heap.size, 2, none⟩ = false ∧ s3.frozen? ⟨w.heap.size, 3, none⟩ = false) ∧
   (s4.cell? ⟨w3.heap.size, 0, none⟩ = some (.int .i64 ku) ∧ s4.cell? ⟨w3.heap.size, 1, none⟩ = some (S nu) ∧ s4.cell? ⟨w3.heap.size, 2, none⟩ = some (.int .i64 pu) ∧ s4.cell? ⟨w3.heap.size, 3, none⟩ = some (.slice Au us.length cu)) ∧
   ∃ s5 s6 s7 s8, s4.setCell ⟨w.heap.size + 1, 0, none⟩ (.int .i64 ku) = s5 ∧ s5.setCell ⟨w.heap.size + 1, 1, none⟩ (S nu) = s6 ∧ s6.setCell ⟨w.heap.size + 1, 2, none⟩ (.int .i64 pu) = s7 ∧ s7.setCell ⟨w.heap.size + 1, 3, none⟩ (.slice Au us.length cu) = s8 ∧
   (s4.cell? ⟨w.heap.size + 1, 0, none⟩ = some (.int .i64 0) ∧ s5.cell? ⟨w.heap.size + 1, 1, none⟩ = some (S []) ∧ s6.cell? ⟨w.heap.size + 1, 2, none⟩ = some (.int .i64 0) ∧ s7.cell? ⟨w.heap.size + 1, 3, none⟩ = some (.slice none 0 0)) ∧
   (s4.frozen? ⟨w.heap.size + 1, 0, none⟩ = false ∧ s5.frozen? ⟨w.heap.size + 1, 1, none⟩ = false ∧ s6.frozen? ⟨w.heap.size + 1, 2, none⟩ = false ∧ s7.frozen? ⟨w.heap.size + 1, 3, none⟩ = false) ∧
   Hid (s8.heap[w.heap.size]? = some (.cells #[.int .i64 kx, S nx, .int .i64 px, .slice Ax (List.length xs) cx] 51 (0, 0))) ∧ Hid (s8.heap[w.heap.size + 1]? = some (.cells #[.int .i64 ku, S nu, .int .i64 pu, .slice Au us.length cu] 51 (0, 0))) ∧
   Hid (PairAns w T 40 (.returned (.tuple #[.agg #[.int .i64 kx, S nx, .int .i64 px, .slice Ax (List.length xs) cx], .agg #[.int .i64 ku, S nu, .int .i64 pu, .slice Au us.length cu]])) s8)) := Lib.hid (fun w6 o6 t6 kx px nx xs Ax cx hvx hsx => by
    have o6' : Oth T w5 w6 := ⟨o6.os, o6.tape, o6.output, o6.size, o6.block⟩
    have hz := cells4t (o6'.heap QU5.out (by omega))
    have hs6 := o6'.size
    obtain ⟨s1, s2, s3, s4, g1, g2, g3, g4, hy, hf, hk4, hrest⟩ := pair_ret (n := 40) hTl (O5.out.trans o6') t6 (o6'.heap Q15.out (by omega)) (o6'.heap Q25.out (by omega)) (hvx.keep (fun _ _ _ => rfl) (Nat.le_refl _) (fun b _ hb => by have hb : w5.heap.size ≤ b := hb; exact ⟨by omega, by omega, by omega⟩)) (HV5.out.keep (fun b hb hlt => o6'.block b hlt (fun e => by have := Option.some.inj e; have := hb.1; omega)) o6'.size (fun b _ hb => hb)) (by omega) (by omega) HPU.out
    have hkk : ∀ j, s4.cell? ⟨w3.heap.size, j, none⟩ = w6.cell? ⟨w3.heap.size, j, none⟩ := fun j => hk4 _ j (by omega) (by omega)
    exact ⟨hz, s1, s2, s3, s4, g1, g2, g3, g4, hy, hf, ⟨(hkk 0).trans hz.1, (hkk 1).trans hz.2.1, (hkk 2).trans hz.2.2.1, (hkk 3).trans hz.2.2.2⟩, hrest⟩)
  obtain ⟨v0, v1, v2, v3⟩ := cells4t QU5.out
  go_region_law (go_simp; go_at_call 28; refine (mObj_any 2 (by omega) T vars _ (by omega) (T5.out.below (Below.refl _ _).drew)).mono ?_; rintro e w6 ⟨⟨x, vx, rfl, hvx, hsx, hpx⟩, T6, o6⟩; obtain ⟨kx, nx, px, xs, hxe⟩ := Lfc.Raw.ex x; rw [hxe] at hvx hsx; obtain ⟨Ax, cx, rfl, hPx⟩ := hvx.openT; obtain ⟨⟨z0, z1, z2, z3⟩, s1, s2, s3, s4, g1, g2, g3, g4, ⟨y0, y1, y2, y3⟩, ⟨f0, f1, f2, f3⟩, ⟨z4, z5, z6, z7⟩, s5, s6, s7, s8, g5, g6, g7, g8, ⟨y4, y5, y6, y7⟩, ⟨f4, f5, f6, f7⟩, HQa, HQb, HZ⟩ := RET.out w6 o6 T6 kx px nx xs Ax cx hvx hsx)
  all_goals
   clear hvx hPx T6 o6
   go_wp2_with fail
   refine bodyPost_ret (results_terms2 rfl _ _ _ _ _ _ _ _ _ _ _ _ rfl rfl HQa.out HQb.out) rfl ?_
   exact HZ.out
 ·have hr1 : ((r : Int) == 0) = false := by simp; omega
  clear hr0
  obtain ⟨v0, v1, v2, v3⟩ := cells4t QU5.out
  go_wp2_with fail
  refine (mPart_any (fun b => w.heap.size ≤ b ∧ b ≠ w.heap.size ∧ b ≠ w.heap.size + 1) T vars 31 _ _ w5 (by omega) (by omega) hsu2 HPU.out T5.out (fun b hb => by have := hb.1; omega) (fun b hb => ⟨by have := T5.out.lt; omega, by omega, by omega⟩) HV5.out).mono ?_
  rintro e w6 ⟨⟨kx, nx, px, xs, Ax, cx, rfl, hvx, hsx, _⟩, T6', o6'⟩
  have hs6 := o6'.size
  obtain ⟨w7, hw7⟩ : ∃ w7, w6.alloc (.cells #[.int .i64 kx, S nx, .int .i64 px, .slice Ax xs.length cx] 51) = w7 := ⟨_, rfl⟩
  have b7 : Below w6.heap.size w6 w7 := by rw [← hw7]; exact (Below.refl _ _).alloc (Nat.le_refl _) _
  have q7 : w7.heap[w6.heap.size]? = some (.cells #[.int .i64 kx, S nx, .int .i64 px, .slice Ax xs.length cx] 51 (0, 0)) := by rw [← hw7]; exact heap_alloc_new _ _
  have o57 : Oth T w5 w7 := o6'.of_new (b7.mono hs6)
  have PS7 : Hid (PairS w T w3.heap.size w6.heap.size 31 ku pu nu us Au cu w7) := Lib.hid {
   x := ⟨kx, nx, px, xs, Ax, cx, q7, hvx.keep (fun b _ hlt => b7.block b hlt) b7.size (fun b hlt hb => ⟨hb.1, hb.2.1, hb.2.2, by omega⟩), by omega⟩
   u := o57.heap QU5.out (by omega)
   uv := HV5.out.keep (fun b hb hlt => o57.block b hlt (fun e => by have := Option.some.inj e; have := hb.1; omega)) o57.size (fun b hlt hb => ⟨hb.1, hb.2.1, hb.2.2, by omega⟩)
   tape := T6'.below b7
   oth := O5.out.trans o57
   r4 := o57.heap Q15.out (by omega)
   r5 := o57.heap Q25.out (by omega) }
  have H7 := Lib.hid hw7
  have hBx : w3.heap.size < w6.heap.size := by omega
  clear hvx hsx T6' o6' b7 q7 o57 hw7 v0 v1 v2 v3 T5 O5 Q15 Q25 QU5 HV5
  go_upto_region 5 with fail
  rw [H7.out]
  clear H7
  go_wp2_with fail
  refine (tapeI_next T 6 w7 (by omega) (by omega) PS7.out.tape).mono ?_
  rintro e w8 ⟨⟨r2, hr2, rfl⟩, T8', o8'⟩
  have PS8 : Hid (PairS w T w3.heap.size w6.heap.size 31 ku pu nu us Au cu w8) := Lib.hid (by
   obtain ⟨k, nm, p, ts, A, c, hq, hv, hz⟩ := PS7.out.x
   exact ⟨⟨k, nm, p, ts, A, c, o8'.heap hq (by omega), hv.keep (fun b hb hlt => o8'.block b hlt (fun e => by have := Option.some.inj e; have := hb.1; omega)) o8'.size (fun b _ hb => hb), hz⟩, o8'.heap PS7.out.u (by omega), PS7.out.uv.keep (fun b hb hlt => o8'.block b hlt (fun e => by have := Option.some.inj e; have := hb.1; omega)) o8'.size (fun b _ hb => hb), T8', PS7.out.oth.trans o8', o8'.heap PS7.out.r4 (by omega), o8'.heap PS7.out.r5 (by omega)⟩)
  clear T8' o8' PS7
  go_upto_if 27 with fail
  go_cut [] (fun wx => Hid (PairS w T w3.heap.size w6.heap.size 40 ku pu nu us Au cu wx))
  case first =>
   by_cases hr20 : r2 = 0
   ·subst hr20
    obtain ⟨k, nm, p, ts, A, c, hq, hv, hz⟩ := PS8.out.x
    obtain ⟨x0, x1, x2, x3⟩ := cells4t hq
    have HQ8 := Lib.hid hq
    have HV8 := Lib.hid hv
    have T8 := Lib.hid PS8.out.tape
    have hB8 := lt_of_block hq
    have hz39 : (Lfc.Raw.node k nm p ts).size ≤ 31 := hz
    have hBT : w6.heap.size ≠ T := by omega
    have FAC : Hid (∀ w9 w10, Oth T w8.drew w9 → Oth T w9 w10 → (w9.heap[w6.heap.size]? = some (.cells #[.int .i64 k, S nm, .int .i64 p, .slice A ts.length c] 51 (0, 0)) ∧ w10.heap[w6.heap.size]? = some (.cells #[.int .i64 k, S nm, .int .i64 p, .slice A ts.length c] 51 (0, 0))) ∧ Oth T w8 w10 ∧ TreeVP (fun b => w.heap.size ≤ b ∧ b ≠ w.heap.size ∧ b ≠ w.heap.size + 1 ∧ b ≠ w6.heap.size) w10 (.node k nm p ts) (.agg #[.int .i64 k, S nm, .int .i64 p, .slice A ts.length c])) := Lib.hid (fun w9 w10 o9 o10 => by
     have o9' : Oth T w8 w9 := ⟨o9.os, o9.tape, o9.output, o9.size, o9.block⟩
     have q9 := o9'.heap HQ8.out hBT
     exact ⟨⟨q9, o10.heap q9 hBT⟩, o9'.trans o10, HV8.out.keep (fun b hb hlt => (o9'.trans o10).block b hlt (fun e => by have := Option.some.inj e; have := hb.1; omega)) (o9'.trans o10).size (fun b _ hb => hb)⟩)
    clear hq hv hz
    go_upto_region 6 with fail
    go_region_law (first
     | (go_simp; go_at_call 12; refine (tapeI_next T 99 _ (by omega) (by omega) (T8.out.below (Below.refl _ _).drew)).mono ?_; rintro e w9 ⟨⟨a, ha, rfl⟩, T9, o9⟩; have q9 := (FAC.out w9 w9 o9 (Oth.refl _ _)).1.1; obtain ⟨e0, e1, e2, e3⟩ := cells4t q9)
     | (go_simp; go_at_call 12; refine (tapeI_next T 99 w9 (by omega) (by omega) T9).mono ?_; rintro e w10 ⟨⟨b, hb, rfl⟩, T10, o10⟩; obtain ⟨⟨_, q10⟩, o810, hv10⟩ := FAC.out w9 w10 o9 o10; obtain ⟨d0, d1, d2, d3⟩ := cells4t q10)
     | (go_simp; go_at_call 39; refine (s_spoil_any 40 (by omega) _ _ w10 _ _ _ (by omega) hv10).mono ?_; rintro e w11 ⟨⟨t', v', rfl, hv', hz'⟩, b11⟩; obtain ⟨k', n', p', ts', ht'⟩ := Lfc.Raw.ex t'; rw [ht'] at hv' hz'; obtain ⟨A', c', rfl, hP'⟩ := hv'.openT; obtain ⟨s1, s2, s3, s4, g1, g2, g3, g4, ⟨y0, y1, y2, y3⟩, ⟨f0, f1, f2, f3⟩, hq4, hot⟩ := tput4 ((b11.block _ (lt_of_block q10)).trans q10) (.int .i64 k') (S n') (.int .i64 p') (.slice A' ts'.length c')))
    all_goals
     have HN := Lib.hid (PS8.out.put (n' := 40) hTl (by omega) hBx hB8 o810 T10 b11 hot hq4 hv' (by omega))
     clear T9 o9 q9 T10 o10 q10 o810 hv10 b11 hot hq4 hv' hP' hz'
     go_wp2_with fail
     go_meet
     exact HN
   ·have hr21 : ((r2 : Int) == 0) = false := by simp; omega
    clear hr20
    go_wp2_with fail
    go_meet
    exact Lib.hid (PS8.out.mono (by omega))
  case rest =>
   have PS := hcut
   clear PS8 hcut
   obtain ⟨k, nm, p, ts, A, c, hq, hv, hz⟩ := PS.out.x
   obtain ⟨x0, x1, x2, x3⟩ := cells4t hq
   obtain ⟨z0, z1, z2, z3⟩ := cells4t PS.out.u
   have hb1 := lt_of_block hq
   have hb2 := lt_of_block PS.out.u
   obtain ⟨s1, s2, s3, s4, g1, g2, g3, g4, ⟨y0, y1, y2, y3⟩, ⟨f0, f1, f2, f3⟩, hk4, s5, s6, s7, s8, g5, g6, g7, g8, ⟨y4, y5, y6, y7⟩, ⟨f4, f5, f6, f7⟩, HQa, HQb, HZ⟩ := pair_ret (n := 40) hTl PS.out.oth PS.out.tape PS.out.r4 PS.out.r5 (hv.keep (fun _ _ _ => rfl) (Nat.le_refl _) (fun b _ hb => ⟨hb.1, hb.2.1, hb.2.2.1⟩)) (PS.out.uv.keep (fun _ _ _ => rfl) (Nat.le_refl _) (fun b _ hb => ⟨hb.1, hb.2.1, hb.2.2.1⟩)) hz (by omega) HPU.out
   have hkx : ∀ j, s4.cell? ⟨w6.heap.size, j, none⟩ = wc.cell? ⟨w6.heap.size, j, none⟩ := fun j => hk4 _ j hb1 (by omega)
   have hku : ∀ j, s4.cell? ⟨w3.heap.size, j, none⟩ = wc.cell? ⟨w3.heap.size, j, none⟩ := fun j => hk4 _ j hb2 (by omega)
   have a0 := (hkx 0).trans x0
   have a1 := (hkx 1).trans x1
   have a2 := (hkx 2).trans x2
   have a3 := (hkx 3).trans x3
   have c0' := (hku 0).trans z0
   have c1' := (hku 1).trans z1
   have c2' := (hku 2).trans z2
   have c3' := (hku 3).trans z3
   have HZD := Lib.hid HZ.out.drew
   clear hkx hku hk4 hq hv hz PS
   go_upto_region 7 with fail
   go_region_law (fail)
   all_goals
    go_wp2_with fail
    refine bodyPost_ret (results_terms2 rfl _ _ _ _ _ _ _ _ _ _ _ _ rfl rfl HQa.out HQb.out) rfl ?_
    first | exact HZD.out | exact HZ.out
end Go.Proofs.YtadjpadieljjlaaGreat
namespace Go.Proofs.YtadjpadieljjlaaGreat
open Go.RowKit Go.Maps
attribute [local go_sem ↓] Go.wp_at_zero Go.wp_at_succ
theorem TapeI.same {T : Nat} {w w' : World} (h : TapeI T w) (hk : ∀ b, b ≤ T → w'.heap[b]? = w.heap[b]?) : TapeI T w' := by
 obtain ⟨A, n, c, i, ht, hi, hn, hc⟩ := h.t
 refine ⟨⟨A, n, c, i, (hk T (Nat.le_refl _)).trans ht, hi, hn, fun hp => ?_⟩⟩
 obtain ⟨b, o, hA, hbT, hx⟩ := hc hp
 refine ⟨b, o, hA, hbT, fun k hk2 => ?_⟩
 obtain ⟨x, hx⟩ := hx k hk2
 exact ⟨x, (World.cell?_of_block (hk b (by omega))).trans hx⟩
structure MkI (wa : World) (T R base P : Nat) (k : Int) (os : List Lfc.Ord) (A : Option Addr) (c : Nat) (xs : List Value) (wr : World) : Prop where
 r : wr.heap[R]? = some (.cells #[.int .i64 k, .int .i64 0, .slice A os.length c] 26 (0, 0))
 own : wr.ownsRow base 26 3 (.slice A os.length c) os.length xs
 row : ORow (fun b => base ≤ b ∧ some b ≠ (Value.slice A os.length c).ownBlock) wr os xs
 oth : Oth T wa wr
 tape : TapeI T wr
 size : base ≤ wr.heap.size
 few : Lfc.Ord.sizes os + os.length ≤ os.length * P
 mods : Lfc.Ord.mods 1000 os = true
def MadeO (w : World) (T P : Nat) (e : Ending) (w' : World) : Prop :=
 (∃ o v, e = .returned v ∧ OrdVP (fun b => w.heap.size ≤ b) w' o v ∧ o.size + 1 ≤ P ∧ o.mod 1000 = true) ∧ TapeI T w' ∧ Oth T w w'
end Go.Proofs.YtadjpadieljjlaaGreat
namespace Go.Proofs.YtadjpadieljjlaaGreat
open Go.RowKit Go.Maps
attribute [local go_sem ↓] Go.wp_at_zero Go.wp_at_succ
def okTab : List Int := [2, 3]
theorem okTab_cell (w : World) (r : Nat) (hr : r < 2) : (w.alloc (.cells #[.int .i64 2, .int .i64 3] 3)).cell? ⟨w.heap.size, r, none⟩ = some (.int .i64 (okTab.getD r 0)) := by
 have q := heap_alloc_new w (.cells #[.int .i64 2, .int .i64 3] 3)
 match r, hr with
 | 0, _ => exact Lib.cell_of_heap q 0
 | 1, _ => exact Lib.cell_of_heap q 1
set_option maxRecDepth 100000 in
set_option maxHeartbeats 8000000 in
theorem mOrderOf_any : ∀ (d : Nat), d ≤ 3 → ∀ (T n : Nat) (w : World), 0 < n → n ≤ 100 → TapeI T w →
  Calls Tryz.prog 30 #[.pointer (some ⟨T, 0, none⟩), .int .i64 (d : Int), .int .i64 (n : Int)] w (MadeO w T (2 * 3 ^ d)) := by
 intro d
 induction d using Nat.strongRecOn with
 | ind d ih0 =>
 intro hd3 T n w hn0 hn1 hT
 have IH := Lib.hid ih0
 clear ih0
 have hTl := hT.lt
 obtain ⟨i0, hi, hz0, hz1, hz2⟩ := ord_info
 obtain ⟨wa, hwa⟩ : ∃ wa, w.alloc (.cells #[.int .i64 0, .int .i64 0, .slice none 0 0] 26) = wa := ⟨_, rfl⟩
 have ba : Below w.heap.size w wa := by rw [← hwa]; exact (Below.refl _ _).alloc (Nat.le_refl _) _
 have qa : wa.heap[w.heap.size]? = some (.cells #[.int .i64 0, .int .i64 0, .slice none 0 0] 26 (0, 0)) := by rw [← hwa]; exact heap_alloc_new _ _
 have la := lt_of_block qa
 have QA := Lib.hid qa
 have OA : Hid (Oth T w wa) := Lib.hid (Oth.of_below ba)
 have TA := Lib.hid (hT.below ba)
 have hp1 : 1 ≤ 3 ^ d := Nat.one_le_pow _ _ (by omega)
 have leaf : ∀ (r2 : Nat) (w2 : World), r2 < n → TapeI T w2 → Oth T wa w2 → ∃ s1 s2 s3, w2.setCell ⟨w.heap.size, 0, none⟩ (.int .i64 1) = s1 ∧ s1.setCell ⟨w.heap.size, 1, none⟩ (.int .i64 (r2 : Int)) = s2 ∧ s2.setCell ⟨w.heap.size, 2, none⟩ (.slice none 0 0) = s3 ∧
   (w2.cell? ⟨w.heap.size, 0, none⟩ = some (.int .i64 0) ∧ s1.cell? ⟨w.heap.size, 1, none⟩ = some (.int .i64 0) ∧ s2.cell? ⟨w.heap.size, 2, none⟩ = some (.slice none 0 0)) ∧
   (w2.frozen? ⟨w.heap.size, 0, none⟩ = false ∧ s1.frozen? ⟨w.heap.size, 1, none⟩ = false ∧ s2.frozen? ⟨w.heap.size, 2, none⟩ = false) ∧
   s3.heap[w.heap.size]? = some (.cells #[.int .i64 1, .int .i64 (r2 : Int), .slice none 0 0] 26 (0, 0)) ∧ Hid (MadeO w T (2 * 3 ^ d) (.returned (.agg #[.int .i64 1, .int .i64 (r2 : Int), .slice none 0 0])) s3) := by
  intro r2 w2 hr2 t2 o2
  have hq2 := o2.heap QA.out (show w.heap.size ≠ T by omega)
  obtain ⟨s1, s2, s3, g1, g2, g3, hy, hf, hq, hot⟩ := oput3 hq2 (.int .i64 1) (.int .i64 (r2 : Int)) (.slice none 0 0)
  refine ⟨s1, s2, s3, g1, g2, g3, hy, hf, hq, Lib.hid ⟨⟨.node 1 (r2 : Int) [], _, rfl, OrdVP.mk (ts := []) (Nat.zero_le _) (fun h => absurd rfl h), ?_, ?_⟩, t2.oth (by omega) hot, ?_⟩⟩
  ·simp only [Lfc.Ord.size, Lfc.Ord.sizes]
   omega
  ·simp only [Lfc.Ord.mod, Lfc.Ord.mods, Bool.and_true, Bool.and_eq_true, decide_eq_true_eq]
   omega
  ·refine Oth.of_new (OA.out.trans o2) ⟨hot.os, hot.tape, hot.output, hot.size, fun b hb => hot.block b (by have := o2.size; omega) (fun e => by have := Option.some.inj e; omega)⟩
 have LEAF := Lib.hid leaf
 clear leaf hT ba qa hp1
 go_enter Tryz.func30, Tryz.ntmps30
 go_upto_region 1 with fail
 clear hwa
 by_cases hd0 : d = 0
 ·subst hd0
  go_wp2_with fail
  refine (tapeI_next T n wa hn0 hn1 TA.out).mono ?_
  rintro e w2 ⟨⟨r2, hr2, rfl⟩, T2, o2⟩
  obtain ⟨s1, s2, s3, g1, g2, g3, ⟨p0, p1, p2⟩, ⟨f0, f1, f2⟩, hq, HZ⟩ := LEAF.out r2 w2 hr2 T2 o2
  have HQ := Lib.hid hq
  clear hq T2 o2
  go_wp2_with fail
  refine bodyPost_ret (results_ord rfl _ _ _ _ _ _ rfl HQ.out) rfl ?_
  exact HZ.out
 ·have hd1 : ((d : Int) == 0) = false := by simpa using hd0
  go_wp2_with fail
  refine (tapeI_next T 2 wa (by omega) (by omega) TA.out).mono ?_
  rintro e w1 ⟨⟨r1, hr1, rfl⟩, T1', o1'⟩
  have hs1 := o1'.size
  by_cases hr0 : r1 = 0
  ·subst hr0
   have T1 := Lib.hid T1'
   have O1 := Lib.hid o1'
   clear T1' o1'
   go_wp2_with fail
   refine (tapeI_next T n w1 hn0 hn1 T1.out).mono ?_
   rintro e w2 ⟨⟨r2, hr2, rfl⟩, T2, o2⟩
   obtain ⟨s1, s2, s3, g1, g2, g3, ⟨p0, p1, p2⟩, ⟨f0, f1, f2⟩, hq, HZ⟩ := LEAF.out r2 w2 hr2 T2 (O1.out.trans o2)
   have HQ := Lib.hid hq
   clear hq T2 o2
   go_wp2_with fail
   refine bodyPost_ret (results_ord rfl _ _ _ _ _ _ rfl HQ.out) rfl ?_
   exact HZ.out
  ·have hr11 : ((r1 : Int) == 0) = false := by simp; omega
   clear hr0
   have hdw : IntKind.i64.wrap ((d : Int) - 1) = ((d - 1 : Nat) : Int) := by rw [IntWalk.i64_in _ (by omega)]; omega
   have IHD := Lib.hid (IH.out (d - 1) (by omega) (by omega))
   have hpw : 2 * 3 ^ d = 3 * (2 * 3 ^ (d - 1)) := by
    obtain ⟨d', rfl⟩ : ∃ d', d = d' + 1 := ⟨d - 1, by omega⟩
    rw [Nat.add_sub_cancel, Nat.pow_succ]; omega
   have hpp : 2 ≤ 2 * 3 ^ (d - 1) := by have := Nat.one_le_pow (d - 1) 3 (by omega); omega
   obtain ⟨PP, hPP⟩ : ∃ PP, 2 * 3 ^ (d - 1) = PP := ⟨_, rfl⟩
   rw [hPP] at hpw hpp IHD
   have HPW := Lib.hid (And.intro hpw hpp)
   obtain ⟨wt, hwt⟩ : ∃ wt, w1.alloc (.cells #[.int .i64 2, .int .i64 3] 3) = wt := ⟨_, rfl⟩
   have bt : Below w1.heap.size w1 wt := by rw [← hwt]; exact (Below.refl _ _).alloc (Nat.le_refl _) _
   have TAB : Hid (∀ r, r < 2 → wt.cell? ⟨w1.heap.size, r, none⟩ = some (.int .i64 (okTab.getD r 0))) := Lib.hid (fun r hr => by rw [← hwt]; exact okTab_cell w1 r hr)
   have hst : w1.heap.size < wt.heap.size := by rw [← hwt]; simp
   have TT := Lib.hid (T1'.below bt)
   have OT := Lib.hid (o1'.trans (Oth.of_below bt))
   clear bt T1' o1' hpw hpp hPP IH
   go_wp2_with fail
   refine (tapeI_next T 2 wt (by omega) (by omega) TT.out).mono ?_
   rintro e w0 ⟨⟨r5, hr5, rfl⟩, T0', o0'⟩
   have hs0 := o0'.size
   have yt := (o0'.cell (p := ⟨w1.heap.size, r5, none⟩) (by simp only; omega) (by simp only; omega)).trans (TAB.out r5 hr5)
   have hi0 : (0 : Int) ≤ (r5 : Int) := by omega
   have hi1 : (r5 : Int) < 2 := by omega
   generalize okTab.getD r5 0 = kk at *
   obtain ⟨w2, hw2⟩ : ∃ w2, w0.alloc (.cells #[.int .i64 kk, .int .i64 0, .slice none 0 0] 26) = w2 := ⟨_, rfl⟩
   have b2 : Below w0.heap.size w0 w2 := by rw [← hw2]; exact (Below.refl _ _).alloc (Nat.le_refl _) _
   have q2 : w2.heap[w0.heap.size]? = some (.cells #[.int .i64 kk, .int .i64 0, .slice none 0 0] 26 (0, 0)) := by rw [← hw2]; exact heap_alloc_new _ _
   have l2 := lt_of_block q2
   have T2 := Lib.hid (T0'.below b2)
   have O2 := Lib.hid ((OT.out.trans o0').trans (Oth.of_below b2))
   have Q2 := Lib.hid q2
   have HW2 := Lib.hid hw2
   clear hw2 b2 q2 T0' o0' TT OT hwt TAB
   go_upto_region 4 with fail
   rw [HW2.out]
   clear HW2 yt
   go_wp2_with fail
   refine (tapeI_next T 3 w2 (by omega) (by omega) T2.out).mono ?_
   rintro e w3 ⟨⟨r3, hr3, rfl⟩, T3', o3'⟩
   have hs3 := o3'.size
   have hw3 : IntKind.i64.wrap (1 + (r3 : Int)) = ((r3 + 1 : Nat) : Int) := by rw [IntWalk.i64_in _ (by omega)]; omega
   have I0 : Hid (MkI wa T w0.heap.size (w0.heap.size + 1) PP kk [] none 0 [] w3) := Lib.hid ⟨o3'.heap Q2.out (by omega), ⟨by simp, .inl ⟨rfl, rfl⟩⟩, by rw [ORow], O2.out.trans o3', T3', by omega, by simp [Lfc.Ord.sizes], by simp [Lfc.Ord.mods]⟩
   clear T3' o3'
   obtain ⟨N, hN⟩ : ∃ N, r3 + 1 = N := ⟨_, rfl⟩
   rw [hN] at hw3
   have hN3 : N ≤ 3 := by omega
   go_upto_block 0 with fail
   go_wp2_with fail
   go_loopw [8] (fun i wr => ∃ (j : Nat) (os : List Lfc.Ord) (A : Option Addr) (c : Nat) (xs : List Value), j + os.length = N ∧ i = .int .i64 (j : Int) ∧ Hid (MkI wa T w0.heap.size (w0.heap.size + 1) PP kk os A c xs wr)) (fun i _ => (intOf i).toNat)
   case atStart => exact ⟨N, [], none, 0, [], by simp, rfl, I0⟩
   case round =>
    clear I0
    obtain ⟨j, os, A, c, xs, hjn, rfl, HI⟩ := hrel
    have hsb := HI.out.size
    have hol : Hid (os.length = os.length) := Lib.hid rfl
    by_cases hj : j = 0
    ·subst hj
     have hpt := ord_parts (lo := w.heap.size) (by omega) HI.out.own HI.out.row
     have HR := Lib.hid HI.out.r
     have hl : os.length = 1 ∨ os.length = 2 ∨ os.length = 3 := by omega
     have hqw := HI.out.oth.heap QA.out (show w.heap.size ≠ T by omega)
     obtain ⟨u0, u1, u2⟩ := cells3o HI.out.r
     obtain ⟨s1, s2, s3, g1, g2, g3, ⟨p0, p1, p2⟩, ⟨f0, f1, f2⟩, hq, hot⟩ := oput3 hqw (.int .i64 kk) (.int .i64 0) (.slice A os.length c)
     have HQ := Lib.hid hq
     have HZ : Hid (MadeO w T (2 * 3 ^ d) (.returned (.agg #[.int .i64 kk, .int .i64 0, .slice A os.length c])) s3) := Lib.hid (by
      refine ⟨⟨.node kk 0 os, _, rfl, OrdVP.mk hpt.2 ?_, ?_, ?_⟩, HI.out.tape.oth (by omega) hot, ?_⟩
      ·have hpt2 := ord_parts (lo := w0.heap.size) (by omega) HI.out.own HI.out.row
       refine hpt2.1.keep (fun b hb hlt => ?_) hot.size (fun b _ hb => by have hb : w0.heap.size ≤ b := hb; show w.heap.size ≤ b; omega)
       have hb : w0.heap.size ≤ b := hb
       exact hot.block b hlt (fun e => by have := Option.some.inj e; omega)
      ·have h1 := HI.out.few
       have h2 := HPW.out.1
       have h3 := HPW.out.2
       simp only [Lfc.Ord.size]
       rcases hl with hl | hl | hl
       ·rw [hl] at h1; omega
       ·rw [hl] at h1; omega
       ·rw [hl] at h1; omega
      ·simp only [Lfc.Ord.mod, HI.out.mods, Bool.and_true, Bool.and_eq_true, decide_eq_true_eq]
       omega
      ·refine Oth.of_new (OA.out.trans HI.out.oth) ⟨hot.os, hot.tape, hot.output, hot.size, fun b hb => hot.block b (by omega) (fun e => by have := Option.some.inj e; omega)⟩)
     clear hq hot hpt HI hqw hl hjn hol
     go_wp2_with fail
     refine bodyPost_ret (results_ord rfl _ _ _ _ _ _ rfl HQ.out) rfl ?_
     exact HZ.out
    ·have hj1 : decide ((j : Int) > 0) = true := by rw [decide_eq_true_eq]; omega
     have hj2 : decide ((0 : Int) < (j : Int)) = true := by rw [decide_eq_true_eq]; omega
     have hjw : IntKind.i64.wrap ((j : Int) - 1) = ((j - 1 : Nat) : Int) := by rw [IntWalk.i64_in _ (by omega)]; omega
     have HR := Lib.hid HI.out.r
     have HOWN := Lib.hid HI.out.own
     have HROW := Lib.hid HI.out.row
     have HOX := Lib.hid HI.out.oth
     have TX := Lib.hid HI.out.tape
     have hbx := HI.out.size
     have hlo : os.length ≤ 3 := by omega
     have HFM := Lib.hid (And.intro HI.out.few HI.out.mods)
     have HJN := Lib.hid hjn
     obtain ⟨lo, hlo2⟩ : ∃ lo, os.length = lo := ⟨_, rfl⟩
     have hol := Lib.hid hlo2
     rw [hlo2] at HR HOWN HROW hlo
     have yx : wr.cell? ⟨w0.heap.size, 2, none⟩ = some (.slice A lo c) := Lib.cell_of_heap HR.out 2
     have hlm : lo + 1 ≤ maxLen := by unfold maxLen; omega
     have hl40 : (lo + 1) * 40 ≤ 140737488355328 := by omega
     have hrb : w0.heap.size < w0.heap.size + 1 := Nat.lt_succ_self _
     have hTr : T < w0.heap.size := by omega
     have hrT : w0.heap.size ≠ T := by omega
     have hTow : (Value.slice A lo c).ownBlock = some T → False := fun e => by have := (HOWN.out.lt _ e).1; omega
     have hwa3 : wa.heap.size ≤ w0.heap.size := by omega
     clear HI hlo2 hjn
     go_upto_region 7 with fail
     go_region_law (first
      | (go_simp; go_at_call 30; refine (IHD.out T n _ hn0 hn1 (TX.out.below (Below.refl _ _).drew)).mono ?_; rintro e w9 ⟨⟨t9, v9, rfl, hv9, hz9, hm9⟩, T9, o9⟩; obtain ⟨k9, a9, ts9, ht9⟩ := ord_node t9; rw [ht9] at hv9; obtain ⟨A9, c9, rfl, hp9⟩ := hv9.open_; have q9 := o9.heap HR.out hrT; have y9 : w9.cell? ⟨w0.heap.size, 2, none⟩ = some (.slice A lo c) := Lib.cell_of_heap q9 2; have y9a : ∀ o, (w9.alloc o).cell? ⟨w0.heap.size, 2, none⟩ = some (.slice A lo c) := fun o => Lib.cell_of_heap ((Lib.alloc_old _ _ _ (lt_of_block q9)).trans q9) 2; have hown9 := HOWN.out.drew.kept o9 (Or.inr hTow); have hs9' : w0.heap.size + 1 ≤ w9.heap.size := Nat.le_trans hbx o9.size)
      | (refine step_append_own_at _ (by rfl) _ _ 24 (by rfl) (w0.heap.size + 1) 26 i0 (.agg #[.int .i64 0, .int .i64 0, .slice none 0 0]) 3 40 Tryz.underlying24 hi hz0 hz1 hz2 rfl (by decide) _ _ _ (by rfl) (hown9.alloc _) ⟨w9.heap.size, 0, none⟩ 1 1 [.int .i64 k9, .int .i64 a9, .slice A9 ts9.length c9] (by rfl) (by rfl) (fun j u h => ocells_new w9 _ rfl [.int .i64 k9, .int .i64 a9, .slice A9 ts9.length c9] _ j u h) oneCell3 hlm hl40 (oalloc_le hs9') ?_; intro v' w10 hown10 hg10 hloc10; obtain ⟨A10, c10, rfl⟩ := oform hown10; obtain ⟨hr10, hfin⟩ := ord_final (ts := os) hrb hTr hbx hwa3 HR.out (by rw [hol.out]; exact HOWN.out) HROW.out HOX.out o9 hp9 (by rw [hol.out]; exact hown10) hg10 (oalloc_loc hloc10); have y10 := (Lib.cell_of_heap hr10 2 : w10.cell? ⟨w0.heap.size, 2, none⟩ = some (.slice A lo c)); have f10 := Lib.frozen_of_heap hr10 2))
     all_goals
      obtain ⟨f1, f2, f3, f4, f5, f6, f7⟩ := hfin
      have HNX : Hid (MkI wa T w0.heap.size (w0.heap.size + 1) PP kk (os ++ [t9]) A10 c10 (xs ++ [.int .i64 k9, .int .i64 a9, .slice A9 ts9.length c9]) (w10.setCell ⟨w0.heap.size, 2, none⟩ (.slice A10 (lo + 1) c10))) := Lib.hid (by
       have el : (os ++ [t9]).length = lo + 1 := by rw [List.length_append, hol.out]; rfl
       refine ⟨by rw [el]; exact f1, by rw [el]; rw [← ht9, el] at f2; exact f2, by rw [el, ht9]; exact f3, f4, T9.same (fun b hb => ?_), f5, ?_, ?_⟩
       ·by_cases hbT : b = T
        ·rw [hbT]; exact f7
        ·rw [f6 b (by omega) (by omega) hbT]
         exact (o9.block b (by show b < wr.heap.size; omega) (fun e => hbT (Option.some.inj e))).symm
       ·rw [el, Lfc.Ord.sizes_app]
        have h1 := HFM.out.1
        rw [hol.out] at h1
        simp only [Lfc.Ord.sizes]
        have h2 : (lo + 1) * PP = lo * PP + PP := Nat.succ_mul _ _
        omega
       ·rw [Lfc.mods_app, HFM.out.2]
        simp only [Lfc.Ord.mods, hm9, Bool.and_true])
      have HJ2 : Hid (j - 1 + (os ++ [t9]).length = N) := Lib.hid (by
       have := HJN.out
       rw [List.length_append]
       simp only [List.length_singleton]
       omega)
      clear f1 f2 f3 f4 f5 f6 f7 hp9 o9 hown9 hown10 hg10 ht9 hz9 hm9 T9
      go_wp2_with fail
      go_roundw
      case rel => exact ⟨j - 1, os ++ [t9], A10, c10, _, HJ2.out, rfl, HNX⟩
      case measure => simp [intOf]; omega
end Go.Proofs.YtadjpadieljjlaaGreat
