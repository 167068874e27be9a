/- Parts of the proof that no input makes the law false: OcSim, OcAll. -/
import Derived.Test.YtadjpadieljjlaaGreatTvAO
set_option linter.unusedVariables false
set_option linter.unusedSimpArgs false
namespace Go.Proofs.YtadjpadieljjlaaGreat
open Go.RowKit Go.Maps
theorem oth_put {Mb g : Nat} {wr wa s4 : World} (h : Oth Mb wr wa) (ho : Oth g wa s4) (hg : wr.heap.size ≤ g) : Oth Mb wr s4 :=
 ⟨ho.os.trans h.os, ho.tape.trans h.tape, ho.output.trans h.output, Nat.le_trans h.size ho.size, fun b hb hn => (ho.block b (Nat.lt_of_lt_of_le hb h.size) (fun e => by have := Option.some.inj e; omega)).trans (h.block b hb hn)⟩
theorem PrvA.drew {ks : List Int} {fs : List Lfc.Fact} {Mb : Nat} {q : Nat → Prop} {w w' : World} {N : Nat} {r : Prop} {e : Ending} (h : PrvA ks fs Mb q w N r e w') : PrvA ks fs Mb q w N r e w'.drew := by
 obtain ⟨⟨pf, ix, A, A1, A2, n, n1, n2, c, c1, c2, b, he, hp, hz, hb⟩, hC, ho⟩ := h
 have hd : Below w'.heap.size w' w'.drew := (Below.refl _ _).drew
 exact ⟨⟨pf, ix, A, A1, A2, n, n1, n2, c, c1, c2, b, he, PfP.keep (fun b _ hlt => hd.block b hlt) hd.size (fun _ _ h => h) _ _ _ _ _ hp, hz, hb⟩, hC.below hd, ho.trans (Oth.of_below hd)⟩
set_option maxRecDepth 100000 in
set_option maxHeartbeats 8000000 in
theorem oSim3_any (q : Nat → Prop) (L W B : Nat → Nat → Prop) (Bx Mb : Nat) (ks : List Int) (fs : List Lfc.Fact) (ps : List Lfc.Ods) (A : Option Addr) (c : Nat) (w : World) (r : Prop) (hE : Cans ks fs Mb Bx L W B w A ps) (hn : ps.length ≤ 1000) (hC : Cache ks fs Mb q w) (hq : ∀ b, w.heap.size ≤ b → q b) (hqM : ∀ b, q b → b ≠ Mb) (hr0 : r ↔ Lfc.Ods.eqs W B ps) :
  Calls Tryz.prog 155 #[.agg #[.slice A ps.length c], .pointer (some ⟨Bx, 0, none⟩), .int .i64 3] w (PrvA ks fs Mb q w (Lfc.Ods.sizes ps + 1) r) := by
 obtain ⟨w1, hw1⟩ : ∃ w1, w.alloc (.cells #[.slice A ps.length c] 121) = w1 := ⟨_, rfl⟩
 obtain ⟨w2, hw2⟩ : ∃ w2, w1.alloc (.cells #[.int .i64 0, .slice none 0 0, .slice none 0 0, .slice none 0 0] 39) = w2 := ⟨_, rfl⟩
 have b1 : Below w.heap.size w w1 := by rw [← hw1]; exact (Below.refl _ _).alloc (Nat.le_refl _) _
 have b2 : Below w1.heap.size w1 w2 := by rw [← hw2]; exact (Below.refl _ _).alloc (Nat.le_refl _) _
 have q1 : w1.heap[w.heap.size]? = some (.cells #[.slice A ps.length c] 121 (0, 0)) := by rw [← hw1]; exact heap_alloc_new _ _
 have q2 : w2.heap[w1.heap.size]? = some (.cells #[.int .i64 0, .slice none 0 0, .slice none 0 0, .slice none 0 0] 39 (0, 0)) := by rw [← hw2]; exact heap_alloc_new _ _
 have l1 := lt_of_block q1
 have l2 := lt_of_block q2
 have b02 : Below w.heap.size w w2 := b1.trans (b2.mono (by omega))
 have hMb := hC.lt
 have hgM : w1.heap.size ≠ Mb := by omega
 have hgl : w.heap.size ≤ w1.heap.size := by omega
 have Q1 := Lib.hid ((b2.block _ l1).trans q1)
 have Q2 := Lib.hid q2
 have y0 : w2.cell? ⟨w.heap.size, 0, none⟩ = some (.slice A ps.length c) := Lib.cell_of_heap Q1.out 0
 have C2 : Hid (Cache ks fs Mb (fun b => q b ∧ b ≠ w1.heap.size) w2) := Lib.hid ((hC.weak (q' := fun b => q b ∧ b ≠ w1.heap.size) (fun b hb hq => ⟨hq, by omega⟩)).below b02)
 have B02 := Lib.hid b02
 have HE := Lib.hid hE
 have HQ0 := Lib.hid hq
 have HQM := Lib.hid hqM
 have s02 : w.heap.size ≤ w2.heap.size := by omega
 have HR0 := Lib.hid hr0
 obtain ⟨w3, hw3⟩ : ∃ w3, w2.alloc (.cells #[.int .i64 (ps.length : Int), .slice none 0 0, .slice none 0 0, .slice none 0 0] 39) = w3 := ⟨_, rfl⟩
 obtain ⟨b3, l3, hok, hI0⟩ := lp_init (ps := ps) (ix := (ps.length : Int)) hw3 l2 (by omega) hgM HQM.out HQ0.out s02 C2.out
 have HOK := Lib.hid hok
 have I0 := Lib.hid hI0
 have O3 : Hid (Oth Mb w w3) := Lib.hid ((Oth.of_below B02.out).trans (Oth.of_below b3))
 have G1 : Hid (w3.heap[w.heap.size]? = some (.cells #[.slice A ps.length c] 121 (0, 0))) := Lib.hid ((b3.block _ (by omega)).trans Q1.out)
 have G2 : Hid (w3.heap[w1.heap.size]? = some (.cells #[.int .i64 0, .slice none 0 0, .slice none 0 0, .slice none 0 0] 39 (0, 0))) := Lib.hid ((b3.block _ (by omega)).trans Q2.out)
 have TOT : Hid (∀ os n ix A' c' W, PSt ks fs q w2.heap.size w1.heap.size Mb w3 os n ix A' c' W → Oth Mb w W ∧ W.cell? ⟨w.heap.size, 0, none⟩ = some (.slice A ps.length c) ∧ w3.heap.size ≤ W.heap.size) := Lib.hid (fun os n ix A' c' W h => ⟨h.othw O3.out s02, (Lib.cell_of_heap (lpi_stay h G1.out (by omega) (by omega)) 0).trans rfl, h.frame.size⟩)
 have hgq : w.heap.size ≤ w2.heap.size := s02
 have hne0 : w.heap.size ≠ w2.heap.size := by omega
 clear b3 hok hI0
 clear b1 b2 q1 q2 b02 hE hC hq hqM hr0
 have y0' : w3.cell? ⟨w.heap.size, 0, none⟩ = some (.slice A ps.length c) := (Lib.cell_of_heap G1.out 0).trans rfl
 have HW3 := Lib.hid hw3
 clear hw3
 go_enter Tryz.func155, Tryz.ntmps155
 go_upto_region 5 with fail
 rw [HW3.out]
 go_wp2_with fail
 go_loopw [24] (fun i wr => ∃ k : Nat, k ≤ ps.length ∧ i = .int .i64 (k : Int) ∧ Hid (LpI ks fs q w2.heap.size w1.heap.size Mb w3 ps k (ps.length : Int) wr ∧ (r ↔ Lfc.Ods.eqs W B (ps.drop k)))) (fun i _ => ps.length - (intOf i).toNat)
 case atStart => exact ⟨0, by omega, rfl, Lib.hid ⟨I0.out, by rw [List.drop_zero]; exact HR0.out⟩⟩
 case round =>
  clear I0 HW3 y0 y0' hw1 hw2
  obtain ⟨k, hk, rfl, HI⟩ := hrel
  by_cases hlt : k < ps.length
  ·obtain ⟨⟨os, A1, c1, hS, hsz⟩, hr⟩ := HI.out
   have HRR := Lib.hid hr
   clear hr
   obtain ⟨b, o, v, rfl, hb0, hbM, hcl, T, a, f, g, rfl, hme, hmw, ⟨hcf, hcg⟩, hcan⟩ := HE.out k hlt
   have HS := Lib.hid hS
   have HSZ := Lib.hid hsz
   have szr := (TOT.out _ _ _ _ _ _ hS).2.2
   have d0 := ((TOT.out _ _ _ _ _ _ hS).1.cell (p := ⟨b, o + k, none⟩) hb0 hbM).trans hcl
   have hi0 : (0 : Int) ≤ (k : Int) := Int.natCast_nonneg _
   have hi1 : (k : Int) < (ps.length : Int) := by omega
   have HQN := Lib.hid (hS.qnew HOK.out)
   have OWr := Lib.hid (TOT.out _ _ _ _ _ _ hS).1
   have hMw3 : Mb < w3.heap.size := HOK.out.lt.2.2
   obtain ⟨wp, hwp⟩ : ∃ wp, wr.alloc (.cells #[.int .i64 0, .slice none 0 0, .slice none 0 0, .slice none 0 0] 39) = wp := ⟨_, rfl⟩
   have bp : Below wr.heap.size wr wp := by rw [← hwp]; exact (Below.refl _ _).alloc (Nat.le_refl _) _
   have qp : wp.heap[wr.heap.size]? = some (.cells #[.int .i64 0, .slice none 0 0, .slice none 0 0, .slice none 0 0] 39 (0, 0)) := by rw [← hwp]; exact heap_alloc_new _ _
   have wp_ge : wr.heap.size < wp.heap.size := lt_of_block qp
   have OP : Hid (Oth Mb wr wp) := Lib.hid (Oth.of_below bp)
   have CP : Hid (Cache ks fs Mb (fun b => PQ q w2.heap.size w1.heap.size (.slice A1 k c1) b ∧ b ≠ wr.heap.size) wp) := Lib.hid ((hS.cache.weak (q' := (fun b => PQ q w2.heap.size w1.heap.size (.slice A1 k c1) b ∧ b ≠ wr.heap.size)) (fun b hb hq => ⟨hq, by omega⟩)).below bp)
   have QP := Lib.hid qp
   have hSp := hS.below HOK.out bp
   have i0' : wp.cell? ⟨w2.heap.size, 0, none⟩ = some (.int .i64 (ps.length : Int)) := Lib.cell_of_heap hSp.blk 0
   have yb : wp.cell? ⟨w.heap.size, 0, none⟩ = some (.slice (some ⟨b, o, none⟩) ps.length c) := (TOT.out _ _ _ _ _ _ hSp).2.1
   clear hcl hb0 hbM bp qp hSp hS hsz HI
   have CE := Lib.hid ((hcan wp (fun b => PQ q w2.heap.size w1.heap.size (.slice A1 k c1) b ∧ b ≠ wr.heap.size) (OWr.out.trans OP.out) CP.out (fun b hb => ⟨HQN.out b (by omega), by omega⟩) (fun b hb => HS.out.qM HOK.out b hb.1)).1 3 _ (.inr (.inr ⟨rfl, Iff.rfl⟩)))
   clear hcan
   go_wp2_with fail
   refine CE.out.mono ?_
   rintro e wa ⟨⟨pf, ix1, A5, A6, A7, n5, n6, n7, c5, c6, c7, bz, rfl, hpf, hpz, hb⟩, hCa, hoa⟩
   have sza := hoa.size
   obtain ⟨p11, p12, p13, v1, g1, g2, g3, g4, ⟨x0, x1, x2, x3⟩, ⟨f0, f1, f2, f3⟩, hq4, ho4⟩ := put4 ((hoa.block wr.heap.size wp_ge (fun e => by have := Option.some.inj e; omega)).trans QP.out) (.int .i64 ix1) (.slice A5 n5 c5) (.slice A6 n6 c6) (.slice A7 n7 c7)
   have v1_ge : wr.heap.size < v1.heap.size := by have := wp_ge; have := ho4.size; omega
   have HC1 : Hid (Cache ks fs Mb (fun b => PQ q w2.heap.size w1.heap.size (.slice A1 k c1) b ∧ b ≠ wr.heap.size) v1) := Lib.hid (hCa.keep (row := some wr.heap.size) ho4 (fun e => by have := Option.some.inj e; omega) (fun b hb _ e => hb.2 (Option.some.inj e)) (fun _ _ h => h))
   have OW1 : Hid (Oth Mb wr v1) := Lib.hid (oth_put ((OP.out).trans hoa) ho4 (Nat.le_refl _))
   have HS1 := Lib.hid (HS.out.oth HOK.out OW1.out (HC1.out.weak (fun b _ hb => hb.1)))
   have HPF := Lib.hid (PfP.keep (q' := PQ q w2.heap.size w1.heap.size (.slice A1 k c1)) (fun b hb hlt => ho4.block b hlt (fun e => hb.2 (Option.some.inj e))) ho4.size (fun b _ hb => hb.1) _ _ _ _ _ hpf)
   have HPZ := Lib.hid hpz
   have HB := Lib.hid hb
   have QG1 := Lib.hid hq4
   clear hpf hpz hb hCa hoa hq4 ho4 CE sza
   go_upto_region 16 with fail
   clear x0 x1 x2 x3 f0 f1 f2 f3 g1 g2 g3 g4
   clear i0' yb d0 hwp
   cases bz with
   | false =>
    have HNR : Hid (¬ r) := Lib.hid (fun h => by have := HB.out.2 ((drop_eqs hlt).1 (HRR.out.1 h)).1; cases this)
    obtain ⟨s1, s2, s3, s4, h1, h2, h3, h4, ⟨c0', c1', c2', c3'⟩, ⟨t0, t1, t2, t3⟩, HQ, HZ⟩ := lpi_none HS1.out HOK.out O3.out G2.out hgl hgq HNR.out
    go_wp2_with fail
    refine bodyPost_ret (results_proof2 rfl _ _ _ _ _ _ _ rfl HQ.out) rfl ?_
    exact HZ.out
   | true =>
    obtain ⟨s3, e3, A', c', s4, s5, hrun, ⟨d1, d2⟩, e5, hP5⟩ := HS1.out.push HOK.out HPF.out (by omega)
    have HRUN := Lib.hid hrun
    have HN := Lib.hid (lpi_next hlt HSZ.out HPZ.out hP5)
    have HG : Hid (r ↔ Lfc.Ods.eqs W B (ps.drop (k + 1))) := Lib.hid (HRR.out.trans ((drop_eqs hlt).trans ⟨fun h => h.2, fun h => ⟨HB.out.1 rfl, h⟩⟩))
    have z1 : v1.cell? ⟨w2.heap.size, 1, none⟩ = some (.slice A1 k c1) := Lib.cell_of_heap HS1.out.blk 1
    obtain ⟨y0, y1, y2, y3⟩ := cells4v QG1.out
    clear hrun hP5 HPF HPZ
    go_wp2_with (at_builtin; refine wpList_append_run rfl _ _ 36 rfl _ _ _ _ rfl rfl HRUN.out ?_)
    go_roundw
    case rel => exact ⟨k + 1, by omega, by go_num, Lib.hid (⟨HN.out, HG.out⟩)⟩
    case measure => simp [intOf]; omega
  ·obtain rfl : k = ps.length := by omega
   obtain ⟨⟨os, A1, c1, hS, hsz⟩, hr⟩ := HI.out
   have HS := Lib.hid hS
   have HSZ := Lib.hid hsz
   have y0 := (TOT.out _ _ _ _ _ _ hS).2.1
   obtain ⟨z0, z1, z2, z3⟩ := cells4v hS.blk
   have HRR := Lib.hid hr
   clear hS hsz hr HI
   obtain ⟨r1, r2, r3, r4, h1, h2, h3, h4, ⟨c0', c1', c2', c3'⟩, ⟨t0, t1, t2, t3⟩, HQ, HZ⟩ := lpi_fin (r := r) (b := true) HS.out HOK.out HSZ.out O3.out G2.out hgl hgq ⟨fun _ => HRR.out.2 (by rw [List.drop_length, Lfc.Ods.eqs]; trivial), fun _ => rfl⟩
   have hor : Oth w1.heap.size wr r4 := by rw [← h4, ← h3, ← h2, ← h1]; exact (((Oth.set _ _).trans (Oth.set _ _)).trans (Oth.set _ _)).trans (Oth.set _ _)
   have lr0 : w.heap.size < wr.heap.size := by have := HS.out.frame.size; omega
   have lr1 : w2.heap.size < wr.heap.size := by have := HS.out.frame.size; omega
   have v0 := (hor.cell (p := ⟨w.heap.size, 0, none⟩) lr0 (by show w.heap.size ≠ w1.heap.size; omega)).trans y0
   have v1 := (hor.cell (p := ⟨w2.heap.size, 0, none⟩) lr1 (by show w2.heap.size ≠ w1.heap.size; omega)).trans z0
   clear hor
   go_wp2_with fail
   go_region
   go_wp2_with fail
   refine bodyPost_ret (results_proof2 rfl _ _ _ _ _ _ _ rfl HQ.out) rfl ?_
   exact HZ.out.drew
set_option maxRecDepth 100000 in
set_option maxHeartbeats 8000000 in
theorem oSim2_any (q : Nat → Prop) (L W B : Nat → Nat → Prop) (Bx Mb : Nat) (ks : List Int) (fs : List Lfc.Fact) (ps : List Lfc.Ods) (A : Option Addr) (c : Nat) (w : World) (r : Prop) (hE : Cans ks fs Mb Bx L W B w A ps) (hn : ps.length ≤ 1000) (hC : Cache ks fs Mb q w) (hq : ∀ b, w.heap.size ≤ b → q b) (hqM : ∀ b, q b → b ≠ Mb) (hr0 : r ↔ Lfc.Ods.les L W B ps) :
  Calls Tryz.prog 155 #[.agg #[.slice A ps.length c], .pointer (some ⟨Bx, 0, none⟩), .int .i64 2] w (PrvA ks fs Mb q w (Lfc.Ods.sizes ps + 1) r) := by
 obtain ⟨w1, hw1⟩ : ∃ w1, w.alloc (.cells #[.slice A ps.length c] 121) = w1 := ⟨_, rfl⟩
 obtain ⟨w2, hw2⟩ : ∃ w2, w1.alloc (.cells #[.int .i64 0, .slice none 0 0, .slice none 0 0, .slice none 0 0] 39) = w2 := ⟨_, rfl⟩
 have b1 : Below w.heap.size w w1 := by rw [← hw1]; exact (Below.refl _ _).alloc (Nat.le_refl _) _
 have b2 : Below w1.heap.size w1 w2 := by rw [← hw2]; exact (Below.refl _ _).alloc (Nat.le_refl _) _
 have q1 : w1.heap[w.heap.size]? = some (.cells #[.slice A ps.length c] 121 (0, 0)) := by rw [← hw1]; exact heap_alloc_new _ _
 have q2 : w2.heap[w1.heap.size]? = some (.cells #[.int .i64 0, .slice none 0 0, .slice none 0 0, .slice none 0 0] 39 (0, 0)) := by rw [← hw2]; exact heap_alloc_new _ _
 have l1 := lt_of_block q1
 have l2 := lt_of_block q2
 have b02 : Below w.heap.size w w2 := b1.trans (b2.mono (by omega))
 have hMb := hC.lt
 have hgM : w1.heap.size ≠ Mb := by omega
 have hgl : w.heap.size ≤ w1.heap.size := by omega
 have Q1 := Lib.hid ((b2.block _ l1).trans q1)
 have Q2 := Lib.hid q2
 have y0 : w2.cell? ⟨w.heap.size, 0, none⟩ = some (.slice A ps.length c) := Lib.cell_of_heap Q1.out 0
 have C2 : Hid (Cache ks fs Mb (fun b => q b ∧ b ≠ w1.heap.size) w2) := Lib.hid ((hC.weak (q' := fun b => q b ∧ b ≠ w1.heap.size) (fun b hb hq => ⟨hq, by omega⟩)).below b02)
 have B02 := Lib.hid b02
 have HE := Lib.hid hE
 have HQ0 := Lib.hid hq
 have HQM := Lib.hid hqM
 have s02 : w.heap.size ≤ w2.heap.size := by omega
 have HR0 := Lib.hid hr0
 obtain ⟨w3, hw3⟩ : ∃ w3, w2.alloc (.cells #[.int .i64 (ps.length : Int), .slice none 0 0, .slice none 0 0, .slice none 0 0] 39) = w3 := ⟨_, rfl⟩
 obtain ⟨b3, l3, hok, hI0⟩ := lp_init (ps := ps) (ix := (ps.length : Int)) hw3 l2 (by omega) hgM HQM.out HQ0.out s02 C2.out
 have HOK := Lib.hid hok
 have I0 := Lib.hid hI0
 have O3 : Hid (Oth Mb w w3) := Lib.hid ((Oth.of_below B02.out).trans (Oth.of_below b3))
 have G1 : Hid (w3.heap[w.heap.size]? = some (.cells #[.slice A ps.length c] 121 (0, 0))) := Lib.hid ((b3.block _ (by omega)).trans Q1.out)
 have G2 : Hid (w3.heap[w1.heap.size]? = some (.cells #[.int .i64 0, .slice none 0 0, .slice none 0 0, .slice none 0 0] 39 (0, 0))) := Lib.hid ((b3.block _ (by omega)).trans Q2.out)
 have TOT : Hid (∀ os n ix A' c' W, PSt ks fs q w2.heap.size w1.heap.size Mb w3 os n ix A' c' W → Oth Mb w W ∧ W.cell? ⟨w.heap.size, 0, none⟩ = some (.slice A ps.length c) ∧ w3.heap.size ≤ W.heap.size) := Lib.hid (fun os n ix A' c' W h => ⟨h.othw O3.out s02, (Lib.cell_of_heap (lpi_stay h G1.out (by omega) (by omega)) 0).trans rfl, h.frame.size⟩)
 have hgq : w.heap.size ≤ w2.heap.size := s02
 have hne0 : w.heap.size ≠ w2.heap.size := by omega
 clear b3 hok hI0
 clear b1 b2 q1 q2 b02 hE hC hq hqM hr0
 have y0' : w3.cell? ⟨w.heap.size, 0, none⟩ = some (.slice A ps.length c) := (Lib.cell_of_heap G1.out 0).trans rfl
 have HW3 := Lib.hid hw3
 clear hw3
 go_enter Tryz.func155, Tryz.ntmps155
 go_upto_region 5 with fail
 rw [HW3.out]
 go_wp2_with fail
 go_loopw [24] (fun i wr => ∃ k : Nat, k ≤ ps.length ∧ i = .int .i64 (k : Int) ∧ Hid (LpI ks fs q w2.heap.size w1.heap.size Mb w3 ps k (ps.length : Int) wr ∧ (r ↔ Lfc.Ods.les L W B (ps.drop k)))) (fun i _ => ps.length - (intOf i).toNat)
 case atStart => exact ⟨0, by omega, rfl, Lib.hid ⟨I0.out, by rw [List.drop_zero]; exact HR0.out⟩⟩
 case round =>
  clear I0 HW3 y0 y0' hw1 hw2
  obtain ⟨k, hk, rfl, HI⟩ := hrel
  by_cases hlt : k < ps.length
  ·obtain ⟨⟨os, A1, c1, hS, hsz⟩, hr⟩ := HI.out
   have HRR := Lib.hid hr
   clear hr
   obtain ⟨b, o, v, rfl, hb0, hbM, hcl, T, a, f, g, rfl, hme, hmw, ⟨hcf, hcg⟩, hcan⟩ := HE.out k hlt
   have HS := Lib.hid hS
   have HSZ := Lib.hid hsz
   have szr := (TOT.out _ _ _ _ _ _ hS).2.2
   have d0 := ((TOT.out _ _ _ _ _ _ hS).1.cell (p := ⟨b, o + k, none⟩) hb0 hbM).trans hcl
   have hi0 : (0 : Int) ≤ (k : Int) := Int.natCast_nonneg _
   have hi1 : (k : Int) < (ps.length : Int) := by omega
   have HQN := Lib.hid (hS.qnew HOK.out)
   have OWr := Lib.hid (TOT.out _ _ _ _ _ _ hS).1
   have hMw3 : Mb < w3.heap.size := HOK.out.lt.2.2
   obtain ⟨wp, hwp⟩ : ∃ wp, wr.alloc (.cells #[.int .i64 0, .slice none 0 0, .slice none 0 0, .slice none 0 0] 39) = wp := ⟨_, rfl⟩
   have bp : Below wr.heap.size wr wp := by rw [← hwp]; exact (Below.refl _ _).alloc (Nat.le_refl _) _
   have qp : wp.heap[wr.heap.size]? = some (.cells #[.int .i64 0, .slice none 0 0, .slice none 0 0, .slice none 0 0] 39 (0, 0)) := by rw [← hwp]; exact heap_alloc_new _ _
   have wp_ge : wr.heap.size < wp.heap.size := lt_of_block qp
   have OP : Hid (Oth Mb wr wp) := Lib.hid (Oth.of_below bp)
   have CP : Hid (Cache ks fs Mb (fun b => PQ q w2.heap.size w1.heap.size (.slice A1 k c1) b ∧ b ≠ wr.heap.size) wp) := Lib.hid ((hS.cache.weak (q' := (fun b => PQ q w2.heap.size w1.heap.size (.slice A1 k c1) b ∧ b ≠ wr.heap.size)) (fun b hb hq => ⟨hq, by omega⟩)).below bp)
   have QP := Lib.hid qp
   have hSp := hS.below HOK.out bp
   have i0' : wp.cell? ⟨w2.heap.size, 0, none⟩ = some (.int .i64 (ps.length : Int)) := Lib.cell_of_heap hSp.blk 0
   have yb : wp.cell? ⟨w.heap.size, 0, none⟩ = some (.slice (some ⟨b, o, none⟩) ps.length c) := (TOT.out _ _ _ _ _ _ hSp).2.1
   clear hcl hb0 hbM bp qp hSp hS hsz HI
   have CE := Lib.hid ((hcan wp (fun b => PQ q w2.heap.size w1.heap.size (.slice A1 k c1) b ∧ b ≠ wr.heap.size) (OWr.out.trans OP.out) CP.out (fun b hb => ⟨HQN.out b (by omega), by omega⟩) (fun b hb => HS.out.qM HOK.out b hb.1)).1 2 _ (.inr (.inl ⟨rfl, Iff.rfl⟩)))
   clear hcan
   go_wp2_with fail
   refine CE.out.mono ?_
   rintro e wa ⟨⟨pf, ix1, A5, A6, A7, n5, n6, n7, c5, c6, c7, bz, rfl, hpf, hpz, hb⟩, hCa, hoa⟩
   have sza := hoa.size
   obtain ⟨p11, p12, p13, v1, g1, g2, g3, g4, ⟨x0, x1, x2, x3⟩, ⟨f0, f1, f2, f3⟩, hq4, ho4⟩ := put4 ((hoa.block wr.heap.size wp_ge (fun e => by have := Option.some.inj e; omega)).trans QP.out) (.int .i64 ix1) (.slice A5 n5 c5) (.slice A6 n6 c6) (.slice A7 n7 c7)
   have v1_ge : wr.heap.size < v1.heap.size := by have := wp_ge; have := ho4.size; omega
   have HC1 : Hid (Cache ks fs Mb (fun b => PQ q w2.heap.size w1.heap.size (.slice A1 k c1) b ∧ b ≠ wr.heap.size) v1) := Lib.hid (hCa.keep (row := some wr.heap.size) ho4 (fun e => by have := Option.some.inj e; omega) (fun b hb _ e => hb.2 (Option.some.inj e)) (fun _ _ h => h))
   have OW1 : Hid (Oth Mb wr v1) := Lib.hid (oth_put ((OP.out).trans hoa) ho4 (Nat.le_refl _))
   have HS1 := Lib.hid (HS.out.oth HOK.out OW1.out (HC1.out.weak (fun b _ hb => hb.1)))
   have HPF := Lib.hid (PfP.keep (q' := PQ q w2.heap.size w1.heap.size (.slice A1 k c1)) (fun b hb hlt => ho4.block b hlt (fun e => hb.2 (Option.some.inj e))) ho4.size (fun b _ hb => hb.1) _ _ _ _ _ hpf)
   have HPZ := Lib.hid hpz
   have HB := Lib.hid hb
   have QG1 := Lib.hid hq4
   clear hpf hpz hb hCa hoa hq4 ho4 CE sza
   go_upto_region 16 with fail
   clear x0 x1 x2 x3 f0 f1 f2 f3 g1 g2 g3 g4
   clear i0' yb d0 hwp
   cases bz with
   | false =>
    have HNR : Hid (¬ r) := Lib.hid (fun h => by have := HB.out.2 ((drop_les hlt).1 (HRR.out.1 h)).1; cases this)
    obtain ⟨s1, s2, s3, s4, h1, h2, h3, h4, ⟨c0', c1', c2', c3'⟩, ⟨t0, t1, t2, t3⟩, HQ, HZ⟩ := lpi_none HS1.out HOK.out O3.out G2.out hgl hgq HNR.out
    go_wp2_with fail
    refine bodyPost_ret (results_proof2 rfl _ _ _ _ _ _ _ rfl HQ.out) rfl ?_
    exact HZ.out
   | true =>
    obtain ⟨s3, e3, A', c', s4, s5, hrun, ⟨d1, d2⟩, e5, hP5⟩ := HS1.out.push HOK.out HPF.out (by omega)
    have HRUN := Lib.hid hrun
    have HN := Lib.hid (lpi_next hlt HSZ.out HPZ.out hP5)
    have HG : Hid (r ↔ Lfc.Ods.les L W B (ps.drop (k + 1))) := Lib.hid (HRR.out.trans ((drop_les hlt).trans ⟨fun h => h.2, fun h => ⟨HB.out.1 rfl, h⟩⟩))
    have z1 : v1.cell? ⟨w2.heap.size, 1, none⟩ = some (.slice A1 k c1) := Lib.cell_of_heap HS1.out.blk 1
    obtain ⟨y0, y1, y2, y3⟩ := cells4v QG1.out
    clear hrun hP5 HPF HPZ
    go_wp2_with (at_builtin; refine wpList_append_run rfl _ _ 36 rfl _ _ _ _ rfl rfl HRUN.out ?_)
    go_roundw
    case rel => exact ⟨k + 1, by omega, by go_num, Lib.hid (⟨HN.out, HG.out⟩)⟩
    case measure => simp [intOf]; omega
  ·obtain rfl : k = ps.length := by omega
   obtain ⟨⟨os, A1, c1, hS, hsz⟩, hr⟩ := HI.out
   have HS := Lib.hid hS
   have HSZ := Lib.hid hsz
   have y0 := (TOT.out _ _ _ _ _ _ hS).2.1
   obtain ⟨z0, z1, z2, z3⟩ := cells4v hS.blk
   have HRR := Lib.hid hr
   clear hS hsz hr HI
   obtain ⟨r1, r2, r3, r4, h1, h2, h3, h4, ⟨c0', c1', c2', c3'⟩, ⟨t0, t1, t2, t3⟩, HQ, HZ⟩ := lpi_fin (r := r) (b := true) HS.out HOK.out HSZ.out O3.out G2.out hgl hgq ⟨fun _ => HRR.out.2 (by rw [List.drop_length, Lfc.Ods.les]; trivial), fun _ => rfl⟩
   have hor : Oth w1.heap.size wr r4 := by rw [← h4, ← h3, ← h2, ← h1]; exact (((Oth.set _ _).trans (Oth.set _ _)).trans (Oth.set _ _)).trans (Oth.set _ _)
   have lr0 : w.heap.size < wr.heap.size := by have := HS.out.frame.size; omega
   have lr1 : w2.heap.size < wr.heap.size := by have := HS.out.frame.size; omega
   have v0 := (hor.cell (p := ⟨w.heap.size, 0, none⟩) lr0 (by show w.heap.size ≠ w1.heap.size; omega)).trans y0
   have v1 := (hor.cell (p := ⟨w2.heap.size, 0, none⟩) lr1 (by show w2.heap.size ≠ w1.heap.size; omega)).trans z0
   clear hor
   go_wp2_with fail
   go_region
   go_wp2_with fail
   refine bodyPost_ret (results_proof2 rfl _ _ _ _ _ _ _ rfl HQ.out) rfl ?_
   exact HZ.out.drew
set_option maxRecDepth 100000 in
set_option maxHeartbeats 8000000 in
theorem oSim1_any (q : Nat → Prop) (L W B : Nat → Nat → Prop) (Bx Mb : Nat) (ks : List Int) (fs : List Lfc.Fact) (ps : List Lfc.Ods) (A : Option Addr) (c : Nat) (w : World) (r : Prop) (hE : Cans ks fs Mb Bx L W B w A ps) (hn : ps.length ≤ 1000) (hC : Cache ks fs Mb q w) (hq : ∀ b, w.heap.size ≤ b → q b) (hqM : ∀ b, q b → b ≠ Mb) (hr0 : r ↔ Lfc.Ods.simL L W B ps) :
  Calls Tryz.prog 155 #[.agg #[.slice A ps.length c], .pointer (some ⟨Bx, 0, none⟩), .int .i64 1] w (PrvA ks fs Mb q w (Lfc.Ods.sizes ps + 1) r) := by
 obtain ⟨w1, hw1⟩ : ∃ w1, w.alloc (.cells #[.slice A ps.length c] 121) = w1 := ⟨_, rfl⟩
 obtain ⟨w2, hw2⟩ : ∃ w2, w1.alloc (.cells #[.int .i64 0, .slice none 0 0, .slice none 0 0, .slice none 0 0] 39) = w2 := ⟨_, rfl⟩
 have b1 : Below w.heap.size w w1 := by rw [← hw1]; exact (Below.refl _ _).alloc (Nat.le_refl _) _
 have b2 : Below w1.heap.size w1 w2 := by rw [← hw2]; exact (Below.refl _ _).alloc (Nat.le_refl _) _
 have q1 : w1.heap[w.heap.size]? = some (.cells #[.slice A ps.length c] 121 (0, 0)) := by rw [← hw1]; exact heap_alloc_new _ _
 have q2 : w2.heap[w1.heap.size]? = some (.cells #[.int .i64 0, .slice none 0 0, .slice none 0 0, .slice none 0 0] 39 (0, 0)) := by rw [← hw2]; exact heap_alloc_new _ _
 have l1 := lt_of_block q1
 have l2 := lt_of_block q2
 have b02 : Below w.heap.size w w2 := b1.trans (b2.mono (by omega))
 have hMb := hC.lt
 have hgM : w1.heap.size ≠ Mb := by omega
 have hgl : w.heap.size ≤ w1.heap.size := by omega
 have Q1 := Lib.hid ((b2.block _ l1).trans q1)
 have Q2 := Lib.hid q2
 have y0 : w2.cell? ⟨w.heap.size, 0, none⟩ = some (.slice A ps.length c) := Lib.cell_of_heap Q1.out 0
 have C2 : Hid (Cache ks fs Mb (fun b => q b ∧ b ≠ w1.heap.size) w2) := Lib.hid ((hC.weak (q' := fun b => q b ∧ b ≠ w1.heap.size) (fun b hb hq => ⟨hq, by omega⟩)).below b02)
 have B02 := Lib.hid b02
 have HE := Lib.hid hE
 have HQ0 := Lib.hid hq
 have HQM := Lib.hid hqM
 have s02 : w.heap.size ≤ w2.heap.size := by omega
 have HR0 := Lib.hid hr0
 obtain ⟨w3, hw3⟩ : ∃ w3, w2.alloc (.cells #[.int .i64 (ps.length : Int), .slice none 0 0, .slice none 0 0, .slice none 0 0] 39) = w3 := ⟨_, rfl⟩
 obtain ⟨b3, l3, hok, hI0⟩ := lp_init (ps := ps) (ix := (ps.length : Int)) hw3 l2 (by omega) hgM HQM.out HQ0.out s02 C2.out
 have HOK := Lib.hid hok
 have I0 := Lib.hid hI0
 have O3 : Hid (Oth Mb w w3) := Lib.hid ((Oth.of_below B02.out).trans (Oth.of_below b3))
 have G1 : Hid (w3.heap[w.heap.size]? = some (.cells #[.slice A ps.length c] 121 (0, 0))) := Lib.hid ((b3.block _ (by omega)).trans Q1.out)
 have G2 : Hid (w3.heap[w1.heap.size]? = some (.cells #[.int .i64 0, .slice none 0 0, .slice none 0 0, .slice none 0 0] 39 (0, 0))) := Lib.hid ((b3.block _ (by omega)).trans Q2.out)
 have TOT : Hid (∀ os n ix A' c' W, PSt ks fs q w2.heap.size w1.heap.size Mb w3 os n ix A' c' W → Oth Mb w W ∧ W.cell? ⟨w.heap.size, 0, none⟩ = some (.slice A ps.length c) ∧ w3.heap.size ≤ W.heap.size) := Lib.hid (fun os n ix A' c' W h => ⟨h.othw O3.out s02, (Lib.cell_of_heap (lpi_stay h G1.out (by omega) (by omega)) 0).trans rfl, h.frame.size⟩)
 have hgq : w.heap.size ≤ w2.heap.size := s02
 have hne0 : w.heap.size ≠ w2.heap.size := by omega
 clear b3 hok hI0
 clear b1 b2 q1 q2 b02 hE hC hq hqM hr0
 have y0' : w3.cell? ⟨w.heap.size, 0, none⟩ = some (.slice A ps.length c) := (Lib.cell_of_heap G1.out 0).trans rfl
 have HW3 := Lib.hid hw3
 clear hw3
 go_enter Tryz.func155, Tryz.ntmps155
 go_upto_region 5 with fail
 rw [HW3.out]
 go_wp2_with fail
 go_loopw [24] (fun i wr => ∃ k : Nat, k ≤ ps.length ∧ i = .int .i64 (k : Int) ∧ Hid (∃ ix : Int, LpI ks fs q w2.heap.size w1.heap.size Mb w3 ps k ix wr ∧ ((ix = (ps.length : Int) ∧ (r ↔ Lfc.Ods.simL L W B (ps.drop k))) ∨ ((0 ≤ ix ∧ ix < (ps.length : Int)) ∧ (r ↔ Lfc.Ods.les L W B (ps.drop k)))))) (fun i _ => ps.length - (intOf i).toNat)
 case atStart => exact ⟨0, by omega, rfl, Lib.hid ⟨(ps.length : Int), I0.out, .inl ⟨rfl, by rw [List.drop_zero]; exact HR0.out⟩⟩⟩
 case round =>
  clear I0 HW3 y0 y0' hw1 hw2
  obtain ⟨k, hk, rfl, HI⟩ := hrel
  by_cases hlt : k < ps.length
  ·obtain ⟨ix, ⟨os, A1, c1, hS, hsz⟩, ⟨rfl, hr⟩ | ⟨⟨hx0, hx1⟩, hr⟩⟩ := HI.out
   ·have HRR := Lib.hid hr
    clear hr
    obtain ⟨b, o, v, rfl, hb0, hbM, hcl, T, a, f, g, rfl, hme, hmw, ⟨hcf, hcg⟩, hcan⟩ := HE.out k hlt
    have HS := Lib.hid hS
    have HSZ := Lib.hid hsz
    have szr := (TOT.out _ _ _ _ _ _ hS).2.2
    have d0 := ((TOT.out _ _ _ _ _ _ hS).1.cell (p := ⟨b, o + k, none⟩) hb0 hbM).trans hcl
    have hi0 : (0 : Int) ≤ (k : Int) := Int.natCast_nonneg _
    have hi1 : (k : Int) < (ps.length : Int) := by omega
    have HQN := Lib.hid (hS.qnew HOK.out)
    have OWr := Lib.hid (TOT.out _ _ _ _ _ _ hS).1
    have hMw3 : Mb < w3.heap.size := HOK.out.lt.2.2
    obtain ⟨wp, hwp⟩ : ∃ wp, wr.alloc (.cells #[.int .i64 0, .slice none 0 0, .slice none 0 0, .slice none 0 0] 39) = wp := ⟨_, rfl⟩
    have bp : Below wr.heap.size wr wp := by rw [← hwp]; exact (Below.refl _ _).alloc (Nat.le_refl _) _
    have qp : wp.heap[wr.heap.size]? = some (.cells #[.int .i64 0, .slice none 0 0, .slice none 0 0, .slice none 0 0] 39 (0, 0)) := by rw [← hwp]; exact heap_alloc_new _ _
    have wp_ge : wr.heap.size < wp.heap.size := lt_of_block qp
    have OP : Hid (Oth Mb wr wp) := Lib.hid (Oth.of_below bp)
    have CP : Hid (Cache ks fs Mb (fun b => PQ q w2.heap.size w1.heap.size (.slice A1 k c1) b ∧ b ≠ wr.heap.size) wp) := Lib.hid ((hS.cache.weak (q' := (fun b => PQ q w2.heap.size w1.heap.size (.slice A1 k c1) b ∧ b ≠ wr.heap.size)) (fun b hb hq => ⟨hq, by omega⟩)).below bp)
    have QP := Lib.hid qp
    have hSp := hS.below HOK.out bp
    have i0' : wp.cell? ⟨w2.heap.size, 0, none⟩ = some (.int .i64 (ps.length : Int)) := Lib.cell_of_heap hSp.blk 0
    have yb : wp.cell? ⟨w.heap.size, 0, none⟩ = some (.slice (some ⟨b, o, none⟩) ps.length c) := (TOT.out _ _ _ _ _ _ hSp).2.1
    clear hcl hb0 hbM bp qp hSp hS hsz HI
    have CE := Lib.hid ((hcan wp (fun b => PQ q w2.heap.size w1.heap.size (.slice A1 k c1) b ∧ b ≠ wr.heap.size) (OWr.out.trans OP.out) CP.out (fun b hb => ⟨HQN.out b (by omega), by omega⟩) (fun b hb => HS.out.qM HOK.out b hb.1)).1 1 _ (.inl ⟨rfl, Iff.rfl⟩))
    have HCAN := Lib.hid hcan
    clear hcan
    go_wp2_with fail
    refine CE.out.mono ?_
    rintro e wa ⟨⟨pf, ix1, A5, A6, A7, n5, n6, n7, c5, c6, c7, bz, rfl, hpf, hpz, hb⟩, hCa, hoa⟩
    have sza := hoa.size
    obtain ⟨p11, p12, p13, v1, g1, g2, g3, g4, ⟨x0, x1, x2, x3⟩, ⟨f0, f1, f2, f3⟩, hq4, ho4⟩ := put4 ((hoa.block wr.heap.size wp_ge (fun e => by have := Option.some.inj e; omega)).trans QP.out) (.int .i64 ix1) (.slice A5 n5 c5) (.slice A6 n6 c6) (.slice A7 n7 c7)
    have v1_ge : wr.heap.size < v1.heap.size := by have := wp_ge; have := ho4.size; omega
    have HC1 : Hid (Cache ks fs Mb (fun b => PQ q w2.heap.size w1.heap.size (.slice A1 k c1) b ∧ b ≠ wr.heap.size) v1) := Lib.hid (hCa.keep (row := some wr.heap.size) ho4 (fun e => by have := Option.some.inj e; omega) (fun b hb _ e => hb.2 (Option.some.inj e)) (fun _ _ h => h))
    have OW1 : Hid (Oth Mb wr v1) := Lib.hid (oth_put ((OP.out).trans hoa) ho4 (Nat.le_refl _))
    have HS1 := Lib.hid (HS.out.oth HOK.out OW1.out (HC1.out.weak (fun b _ hb => hb.1)))
    have HPF := Lib.hid (PfP.keep (q' := PQ q w2.heap.size w1.heap.size (.slice A1 k c1)) (fun b hb hlt => ho4.block b hlt (fun e => hb.2 (Option.some.inj e))) ho4.size (fun b _ hb => hb.1) _ _ _ _ _ hpf)
    have HPZ := Lib.hid hpz
    have HB := Lib.hid hb
    have QG1 := Lib.hid hq4
    clear hpf hpz hb hCa hoa hq4 ho4 CE sza
    go_upto_region 12 with fail
    clear x0 x1 x2 x3 f0 f1 f2 f3 g1 g2 g3 g4
    clear i0' yb d0 hwp
    cases bz with
    | true =>
     obtain ⟨v2, e2, ⟨i1, i2⟩, hS2⟩ := HS1.out.setIx HOK.out (k : Int)
     have ho2 : Oth w2.heap.size v1 v2 := by rw [← e2]; exact Oth.set _ _
     have hg2 : v2.heap[wr.heap.size]? = some (.cells #[.int .i64 ix1, .slice A5 n5 c5, .slice A6 n6 c6, .slice A7 n7 c7] 39 (0, 0)) := ho2.heap QG1.out (by have := HOK.out.lt.1; omega)
     have HPF2 := PfP.keep (q' := PQ q w2.heap.size w1.heap.size (.slice A1 k c1)) (fun b hb hlt => ho2.block b hlt (fun e => hb.2.1.1 (Option.some.inj e))) ho2.size (fun b _ hb => hb) _ _ _ _ _ HPF.out
     have HLS : Hid (Lfc.Ods.ls L W B ps[k]) := Lib.hid (HB.out.1 rfl)
     have HS2 := Lib.hid hS2
     have QG2 := Lib.hid hg2
     clear HPF
     have HPF := Lib.hid HPF2
     clear ho2 hg2 HPF2 hS2 HB
     obtain ⟨s3, e3, A', c', s4, s5, hrun, ⟨d1, d2⟩, e5, hP5⟩ := HS2.out.push HOK.out HPF.out (by omega)
     have HRUN := Lib.hid hrun
     have HN := Lib.hid (lpi_next hlt HSZ.out HPZ.out hP5)
     have HG : Hid (r ↔ Lfc.Ods.les L W B (ps.drop (k + 1))) := Lib.hid (HRR.out.trans ((drop_simL hlt).trans ⟨fun h => h.elim (fun h => h.2) (fun h => absurd HLS.out h.1), fun h => .inl ⟨HLS.out, h⟩⟩))
     have z1 : v2.cell? ⟨w2.heap.size, 1, none⟩ = some (.slice A1 k c1) := Lib.cell_of_heap HS2.out.blk 1
     obtain ⟨y0, y1, y2, y3⟩ := cells4v QG2.out
     clear hrun hP5 HPF HPZ
     go_wp2_with (at_builtin; refine wpList_append_run rfl _ _ 36 rfl _ _ _ _ rfl rfl HRUN.out ?_)
     go_roundw
     case rel => exact ⟨k + 1, by omega, by go_num, Lib.hid (⟨(k : Int), HN.out, .inr ⟨⟨hi0, hi1⟩, HG.out⟩⟩)⟩
     case measure => simp [intOf]; omega
    | false =>
     have HNL : Hid (¬ Lfc.Ods.ls L W B ps[k]) := Lib.hid (fun h => by have := HB.out.2 h; cases this)
     have hcan := HCAN.out
     clear HB HPF HPZ
     have CE := Lib.hid (hcan v1 (fun b => PQ q w2.heap.size w1.heap.size (.slice A1 k c1) b ∧ b ≠ wr.heap.size) (OWr.out.trans OW1.out) HC1.out (fun b hb => ⟨HQN.out b (by omega), by omega⟩) (fun b hb => HS.out.qM HOK.out b hb.1)).2
     clear hcan
     go_wp2_with fail
     refine CE.out.mono ?_
     rintro e wa ⟨⟨pf, ix1, A5, A6, A7, n5, n6, n7, c5, c6, c7, bz, rfl, hpf, hpz, hb⟩, hCa, hoa⟩
     have sza := hoa.size
     obtain ⟨p21, p22, p23, v2, g1, g2, g3, g4, ⟨x0, x1, x2, x3⟩, ⟨f0, f1, f2, f3⟩, hq4, ho4⟩ := put4 ((hoa.block wr.heap.size v1_ge (fun e => by have := Option.some.inj e; omega)).trans QG1.out) (.int .i64 ix1) (.slice A5 n5 c5) (.slice A6 n6 c6) (.slice A7 n7 c7)
     have v2_ge : wr.heap.size < v2.heap.size := by have := v1_ge; have := ho4.size; omega
     have HC2 : Hid (Cache ks fs Mb (fun b => PQ q w2.heap.size w1.heap.size (.slice A1 k c1) b ∧ b ≠ wr.heap.size) v2) := Lib.hid (hCa.keep (row := some wr.heap.size) ho4 (fun e => by have := Option.some.inj e; omega) (fun b hb _ e => hb.2 (Option.some.inj e)) (fun _ _ h => h))
     have OW2 : Hid (Oth Mb wr v2) := Lib.hid (oth_put ((OW1.out).trans hoa) ho4 (Nat.le_refl _))
     have HS2 := Lib.hid (HS.out.oth HOK.out OW2.out (HC2.out.weak (fun b _ hb => hb.1)))
     have HPF := Lib.hid (PfP.keep (q' := PQ q w2.heap.size w1.heap.size (.slice A1 k c1)) (fun b hb hlt => ho4.block b hlt (fun e => hb.2 (Option.some.inj e))) ho4.size (fun b _ hb => hb.1) _ _ _ _ _ hpf)
     have HPZ := Lib.hid hpz
     have HB := Lib.hid hb
     have QG2 := Lib.hid hq4
     clear hpf hpz hb hCa hoa hq4 ho4 CE sza
     go_upto_region 16 with fail
     clear x0 x1 x2 x3 f0 f1 f2 f3 g1 g2 g3 g4
     cases bz with
     | false =>
      have HNR : Hid (¬ r) := Lib.hid (fun h => ((drop_simL hlt).1 (HRR.out.1 h)).elim (fun h => HNL.out h.1) (fun h => by have := HB.out.2 h.2.1; cases this))
      obtain ⟨s1, s2, s3, s4, h1, h2, h3, h4, ⟨c0', c1', c2', c3'⟩, ⟨t0, t1, t2, t3⟩, HQ, HZ⟩ := lpi_none HS2.out HOK.out O3.out G2.out hgl hgq HNR.out
      go_wp2_with fail
      refine bodyPost_ret (results_proof2 rfl _ _ _ _ _ _ _ rfl HQ.out) rfl ?_
      exact HZ.out
     | true =>
      obtain ⟨s3, e3, A', c', s4, s5, hrun, ⟨d1, d2⟩, e5, hP5⟩ := HS2.out.push HOK.out HPF.out (by omega)
      have HRUN := Lib.hid hrun
      have HN := Lib.hid (lpi_next hlt HSZ.out HPZ.out hP5)
      have HG : Hid (r ↔ Lfc.Ods.simL L W B (ps.drop (k + 1))) := Lib.hid (HRR.out.trans ((drop_simL hlt).trans ⟨fun h => h.elim (fun h => absurd h.1 HNL.out) (fun h => h.2.2), fun h => .inr ⟨HNL.out, HB.out.1 rfl, h⟩⟩))
      have z1 : v2.cell? ⟨w2.heap.size, 1, none⟩ = some (.slice A1 k c1) := Lib.cell_of_heap HS2.out.blk 1
      obtain ⟨y0, y1, y2, y3⟩ := cells4v QG2.out
      clear hrun hP5 HPF HPZ
      go_wp2_with (at_builtin; refine wpList_append_run rfl _ _ 36 rfl _ _ _ _ rfl rfl HRUN.out ?_)
      go_roundw
      case rel => exact ⟨k + 1, by omega, by go_num, Lib.hid (⟨(ps.length : Int), HN.out, .inl ⟨rfl, HG.out⟩⟩)⟩
      case measure => simp [intOf]; omega
   ·have HRR := Lib.hid hr
    clear hr
    have hxd : decide (ix = (ps.length : Int)) = false := by rw [decide_eq_false_iff_not]; omega
    have hxb : (ix == (ps.length : Int)) = false := by simp; omega
    obtain ⟨b, o, v, rfl, hb0, hbM, hcl, T, a, f, g, rfl, hme, hmw, ⟨hcf, hcg⟩, hcan⟩ := HE.out k hlt
    have HS := Lib.hid hS
    have HSZ := Lib.hid hsz
    have szr := (TOT.out _ _ _ _ _ _ hS).2.2
    have d0 := ((TOT.out _ _ _ _ _ _ hS).1.cell (p := ⟨b, o + k, none⟩) hb0 hbM).trans hcl
    have hi0 : (0 : Int) ≤ (k : Int) := Int.natCast_nonneg _
    have hi1 : (k : Int) < (ps.length : Int) := by omega
    have HQN := Lib.hid (hS.qnew HOK.out)
    have OWr := Lib.hid (TOT.out _ _ _ _ _ _ hS).1
    have hMw3 : Mb < w3.heap.size := HOK.out.lt.2.2
    obtain ⟨wp, hwp⟩ : ∃ wp, wr.alloc (.cells #[.int .i64 0, .slice none 0 0, .slice none 0 0, .slice none 0 0] 39) = wp := ⟨_, rfl⟩
    have bp : Below wr.heap.size wr wp := by rw [← hwp]; exact (Below.refl _ _).alloc (Nat.le_refl _) _
    have qp : wp.heap[wr.heap.size]? = some (.cells #[.int .i64 0, .slice none 0 0, .slice none 0 0, .slice none 0 0] 39 (0, 0)) := by rw [← hwp]; exact heap_alloc_new _ _
    have wp_ge : wr.heap.size < wp.heap.size := lt_of_block qp
    have OP : Hid (Oth Mb wr wp) := Lib.hid (Oth.of_below bp)
    have CP : Hid (Cache ks fs Mb (fun b => PQ q w2.heap.size w1.heap.size (.slice A1 k c1) b ∧ b ≠ wr.heap.size) wp) := Lib.hid ((hS.cache.weak (q' := (fun b => PQ q w2.heap.size w1.heap.size (.slice A1 k c1) b ∧ b ≠ wr.heap.size)) (fun b hb hq => ⟨hq, by omega⟩)).below bp)
    have QP := Lib.hid qp
    have hSp := hS.below HOK.out bp
    have i0' : wp.cell? ⟨w2.heap.size, 0, none⟩ = some (.int .i64 ix) := Lib.cell_of_heap hSp.blk 0
    have yb : wp.cell? ⟨w.heap.size, 0, none⟩ = some (.slice (some ⟨b, o, none⟩) ps.length c) := (TOT.out _ _ _ _ _ _ hSp).2.1
    clear hcl hb0 hbM bp qp hSp hS hsz HI
    have CE := Lib.hid ((hcan wp (fun b => PQ q w2.heap.size w1.heap.size (.slice A1 k c1) b ∧ b ≠ wr.heap.size) (OWr.out.trans OP.out) CP.out (fun b hb => ⟨HQN.out b (by omega), by omega⟩) (fun b hb => HS.out.qM HOK.out b hb.1)).1 2 _ (.inr (.inl ⟨rfl, Iff.rfl⟩)))
    clear hcan
    go_wp2_with fail
    refine CE.out.mono ?_
    rintro e wa ⟨⟨pf, ix1, A5, A6, A7, n5, n6, n7, c5, c6, c7, bz, rfl, hpf, hpz, hb⟩, hCa, hoa⟩
    have sza := hoa.size
    obtain ⟨p11, p12, p13, v1, g1, g2, g3, g4, ⟨x0, x1, x2, x3⟩, ⟨f0, f1, f2, f3⟩, hq4, ho4⟩ := put4 ((hoa.block wr.heap.size wp_ge (fun e => by have := Option.some.inj e; omega)).trans QP.out) (.int .i64 ix1) (.slice A5 n5 c5) (.slice A6 n6 c6) (.slice A7 n7 c7)
    have v1_ge : wr.heap.size < v1.heap.size := by have := wp_ge; have := ho4.size; omega
    have HC1 : Hid (Cache ks fs Mb (fun b => PQ q w2.heap.size w1.heap.size (.slice A1 k c1) b ∧ b ≠ wr.heap.size) v1) := Lib.hid (hCa.keep (row := some wr.heap.size) ho4 (fun e => by have := Option.some.inj e; omega) (fun b hb _ e => hb.2 (Option.some.inj e)) (fun _ _ h => h))
    have OW1 : Hid (Oth Mb wr v1) := Lib.hid (oth_put ((OP.out).trans hoa) ho4 (Nat.le_refl _))
    have HS1 := Lib.hid (HS.out.oth HOK.out OW1.out (HC1.out.weak (fun b _ hb => hb.1)))
    have HPF := Lib.hid (PfP.keep (q' := PQ q w2.heap.size w1.heap.size (.slice A1 k c1)) (fun b hb hlt => ho4.block b hlt (fun e => hb.2 (Option.some.inj e))) ho4.size (fun b _ hb => hb.1) _ _ _ _ _ hpf)
    have HPZ := Lib.hid hpz
    have HB := Lib.hid hb
    have QG1 := Lib.hid hq4
    clear hpf hpz hb hCa hoa hq4 ho4 CE sza
    go_upto_region 16 with fail
    clear x0 x1 x2 x3 f0 f1 f2 f3 g1 g2 g3 g4
    clear i0' yb d0 hwp
    cases bz with
    | false =>
     have HNR : Hid (¬ r) := Lib.hid (fun h => by have := HB.out.2 ((drop_les hlt).1 (HRR.out.1 h)).1; cases this)
     obtain ⟨s1, s2, s3, s4, h1, h2, h3, h4, ⟨c0', c1', c2', c3'⟩, ⟨t0, t1, t2, t3⟩, HQ, HZ⟩ := lpi_none HS1.out HOK.out O3.out G2.out hgl hgq HNR.out
     go_wp2_with fail
     refine bodyPost_ret (results_proof2 rfl _ _ _ _ _ _ _ rfl HQ.out) rfl ?_
     exact HZ.out
    | true =>
     obtain ⟨s3, e3, A', c', s4, s5, hrun, ⟨d1, d2⟩, e5, hP5⟩ := HS1.out.push HOK.out HPF.out (by omega)
     have HRUN := Lib.hid hrun
     have HN := Lib.hid (lpi_next hlt HSZ.out HPZ.out hP5)
     have HG : Hid (r ↔ Lfc.Ods.les L W B (ps.drop (k + 1))) := Lib.hid (HRR.out.trans ((drop_les hlt).trans ⟨fun h => h.2, fun h => ⟨HB.out.1 rfl, h⟩⟩))
     have z1 : v1.cell? ⟨w2.heap.size, 1, none⟩ = some (.slice A1 k c1) := Lib.cell_of_heap HS1.out.blk 1
     obtain ⟨y0, y1, y2, y3⟩ := cells4v QG1.out
     clear hrun hP5 HPF HPZ
     go_wp2_with (at_builtin; refine wpList_append_run rfl _ _ 36 rfl _ _ _ _ rfl rfl HRUN.out ?_)
     go_roundw
     case rel => exact ⟨k + 1, by omega, by go_num, Lib.hid (⟨ix, HN.out, .inr ⟨⟨hx0, hx1⟩, HG.out⟩⟩)⟩
     case measure => simp [intOf]; omega
  ·obtain rfl : k = ps.length := by omega
   obtain ⟨ix, ⟨os, A1, c1, hS, hsz⟩, ⟨rfl, hr⟩ | ⟨⟨hx0, hx1⟩, hr⟩⟩ := HI.out
   ·have HS := Lib.hid hS
    have HSZ := Lib.hid hsz
    have y0 := (TOT.out _ _ _ _ _ _ hS).2.1
    obtain ⟨z0, z1, z2, z3⟩ := cells4v hS.blk
    have HRR := Lib.hid hr
    clear hS hsz hr HI
    obtain ⟨r1, r2, r3, r4, h1, h2, h3, h4, ⟨c0', c1', c2', c3'⟩, ⟨t0, t1, t2, t3⟩, HQ, HZ⟩ := lpi_fin (r := r) (b := false) HS.out HOK.out HSZ.out O3.out G2.out hgl hgq ⟨fun h => (by cases h), fun h => by have h := HRR.out.1 h; rw [List.drop_length, Lfc.Ods.simL] at h; exact h.elim⟩
    have hor : Oth w1.heap.size wr r4 := by rw [← h4, ← h3, ← h2, ← h1]; exact (((Oth.set _ _).trans (Oth.set _ _)).trans (Oth.set _ _)).trans (Oth.set _ _)
    have lr0 : w.heap.size < wr.heap.size := by have := HS.out.frame.size; omega
    have lr1 : w2.heap.size < wr.heap.size := by have := HS.out.frame.size; omega
    have v0 := (hor.cell (p := ⟨w.heap.size, 0, none⟩) lr0 (by show w.heap.size ≠ w1.heap.size; omega)).trans y0
    have v1 := (hor.cell (p := ⟨w2.heap.size, 0, none⟩) lr1 (by show w2.heap.size ≠ w1.heap.size; omega)).trans z0
    clear hor
    go_wp2_with fail
    go_region
    go_wp2_with fail
    refine bodyPost_ret (results_proof2 rfl _ _ _ _ _ _ _ rfl HQ.out) rfl ?_
    exact HZ.out.drew
   ·have HS := Lib.hid hS
    have HSZ := Lib.hid hsz
    have y0 := (TOT.out _ _ _ _ _ _ hS).2.1
    obtain ⟨z0, z1, z2, z3⟩ := cells4v hS.blk
    have HRR := Lib.hid hr
    clear hS hsz hr HI
    obtain ⟨r1, r2, r3, r4, h1, h2, h3, h4, ⟨c0', c1', c2', c3'⟩, ⟨t0, t1, t2, t3⟩, HQ, HZ⟩ := lpi_fin (r := r) (b := true) HS.out HOK.out HSZ.out O3.out G2.out hgl hgq ⟨fun _ => HRR.out.2 (by rw [List.drop_length, Lfc.Ods.les]; trivial), fun _ => rfl⟩
    have hor : Oth w1.heap.size wr r4 := by rw [← h4, ← h3, ← h2, ← h1]; exact (((Oth.set _ _).trans (Oth.set _ _)).trans (Oth.set _ _)).trans (Oth.set _ _)
    have lr0 : w.heap.size < wr.heap.size := by have := HS.out.frame.size; omega
    have lr1 : w2.heap.size < wr.heap.size := by have := HS.out.frame.size; omega
    have v0 := (hor.cell (p := ⟨w.heap.size, 0, none⟩) lr0 (by show w.heap.size ≠ w1.heap.size; omega)).trans y0
    have v1 := (hor.cell (p := ⟨w2.heap.size, 0, none⟩) lr1 (by show w2.heap.size ≠ w1.heap.size; omega)).trans z0
    clear hor
    go_wp2_with fail
    go_region
    go_wp2_with fail
    refine bodyPost_ret (results_proof2 rfl _ _ _ _ _ _ _ rfl HQ.out) rfl ?_
    exact HZ.out.drew
set_option maxRecDepth 100000 in
set_option maxHeartbeats 8000000 in
theorem oSimW_any (q : Nat → Prop) (L W B : Nat → Nat → Prop) (Bx Mb : Nat) (ks : List Int) (fs : List Lfc.Fact) (ps : List Lfc.Ods) (A : Option Addr) (c : Nat) (w : World) (r : Prop) (hE : Cans ks fs Mb Bx L W B w A ps) (hn : ps.length ≤ 1000) (hC : Cache ks fs Mb q w) (hq : ∀ b, w.heap.size ≤ b → q b) (hqM : ∀ b, q b → b ≠ Mb) (hr0 : r ↔ Lfc.Ods.wks W B ps) :
  Calls Tryz.prog 157 #[.agg #[.slice A ps.length c], .pointer (some ⟨Bx, 0, none⟩)] w (PrvA ks fs Mb q w (Lfc.Ods.sizes ps + 1) r) := by
 obtain ⟨w1, hw1⟩ : ∃ w1, w.alloc (.cells #[.slice A ps.length c] 121) = w1 := ⟨_, rfl⟩
 obtain ⟨w2, hw2⟩ : ∃ w2, w1.alloc (.cells #[.int .i64 0, .slice none 0 0, .slice none 0 0, .slice none 0 0] 39) = w2 := ⟨_, rfl⟩
 have b1 : Below w.heap.size w w1 := by rw [← hw1]; exact (Below.refl _ _).alloc (Nat.le_refl _) _
 have b2 : Below w1.heap.size w1 w2 := by rw [← hw2]; exact (Below.refl _ _).alloc (Nat.le_refl _) _
 have q1 : w1.heap[w.heap.size]? = some (.cells #[.slice A ps.length c] 121 (0, 0)) := by rw [← hw1]; exact heap_alloc_new _ _
 have q2 : w2.heap[w1.heap.size]? = some (.cells #[.int .i64 0, .slice none 0 0, .slice none 0 0, .slice none 0 0] 39 (0, 0)) := by rw [← hw2]; exact heap_alloc_new _ _
 have l1 := lt_of_block q1
 have l2 := lt_of_block q2
 have b02 : Below w.heap.size w w2 := b1.trans (b2.mono (by omega))
 have hMb := hC.lt
 have hgM : w1.heap.size ≠ Mb := by omega
 have hgl : w.heap.size ≤ w1.heap.size := by omega
 have Q1 := Lib.hid ((b2.block _ l1).trans q1)
 have Q2 := Lib.hid q2
 have y0 : w2.cell? ⟨w.heap.size, 0, none⟩ = some (.slice A ps.length c) := Lib.cell_of_heap Q1.out 0
 have C2 : Hid (Cache ks fs Mb (fun b => q b ∧ b ≠ w1.heap.size) w2) := Lib.hid ((hC.weak (q' := fun b => q b ∧ b ≠ w1.heap.size) (fun b hb hq => ⟨hq, by omega⟩)).below b02)
 have B02 := Lib.hid b02
 have HE := Lib.hid hE
 have HQ0 := Lib.hid hq
 have HQM := Lib.hid hqM
 have s02 : w.heap.size ≤ w2.heap.size := by omega
 have HR0 := Lib.hid hr0
 obtain ⟨w3, hw3⟩ : ∃ w3, w2.alloc (.cells #[.int .i64 (ps.length : Int), .slice none 0 0, .slice none 0 0, .slice none 0 0] 39) = w3 := ⟨_, rfl⟩
 obtain ⟨b3, l3, hok, hI0⟩ := lp_init (ps := ps) (ix := (ps.length : Int)) hw3 l2 (by omega) hgM HQM.out HQ0.out s02 C2.out
 have HOK := Lib.hid hok
 have I0 := Lib.hid hI0
 have O3 : Hid (Oth Mb w w3) := Lib.hid ((Oth.of_below B02.out).trans (Oth.of_below b3))
 have G1 : Hid (w3.heap[w.heap.size]? = some (.cells #[.slice A ps.length c] 121 (0, 0))) := Lib.hid ((b3.block _ (by omega)).trans Q1.out)
 have G2 : Hid (w3.heap[w1.heap.size]? = some (.cells #[.int .i64 0, .slice none 0 0, .slice none 0 0, .slice none 0 0] 39 (0, 0))) := Lib.hid ((b3.block _ (by omega)).trans Q2.out)
 have TOT : Hid (∀ os n ix A' c' W, PSt ks fs q w2.heap.size w1.heap.size Mb w3 os n ix A' c' W → Oth Mb w W ∧ W.cell? ⟨w.heap.size, 0, none⟩ = some (.slice A ps.length c) ∧ w3.heap.size ≤ W.heap.size) := Lib.hid (fun os n ix A' c' W h => ⟨h.othw O3.out s02, (Lib.cell_of_heap (lpi_stay h G1.out (by omega) (by omega)) 0).trans rfl, h.frame.size⟩)
 have hgq : w.heap.size ≤ w2.heap.size := s02
 have hne0 : w.heap.size ≠ w2.heap.size := by omega
 clear b3 hok hI0
 clear b1 b2 q1 q2 b02 hE hC hq hqM hr0
 have y0' : w3.cell? ⟨w.heap.size, 0, none⟩ = some (.slice A ps.length c) := (Lib.cell_of_heap G1.out 0).trans rfl
 have HW3 := Lib.hid hw3
 clear hw3
 go_enter Tryz.func157, Tryz.ntmps157
 go_upto_region 2 with fail
 rw [HW3.out]
 go_wp2_with fail
 go_loopw [18] (fun i wr => ∃ k : Nat, k ≤ ps.length ∧ i = .int .i64 (k : Int) ∧ Hid (LpI ks fs q w2.heap.size w1.heap.size Mb w3 ps k (ps.length : Int) wr ∧ (r ↔ Lfc.Ods.wks W B (ps.drop k)))) (fun i _ => ps.length - (intOf i).toNat)
 case atStart => exact ⟨0, by omega, rfl, Lib.hid ⟨I0.out, by rw [List.drop_zero]; exact HR0.out⟩⟩
 case round =>
  clear I0 HW3 y0 y0' hw1 hw2
  obtain ⟨k, hk, rfl, HI⟩ := hrel
  by_cases hlt : k < ps.length
  ·obtain ⟨⟨os, A1, c1, hS, hsz⟩, hr⟩ := HI.out
   have HRR := Lib.hid hr
   clear hr
   obtain ⟨b, o, v, rfl, hb0, hbM, hcl, T, a, f, g, rfl, hme, hmw, ⟨hcf, hcg⟩, hcan⟩ := HE.out k hlt
   have HS := Lib.hid hS
   have HSZ := Lib.hid hsz
   have szr := (TOT.out _ _ _ _ _ _ hS).2.2
   have d0 := ((TOT.out _ _ _ _ _ _ hS).1.cell (p := ⟨b, o + k, none⟩) hb0 hbM).trans hcl
   have hi0 : (0 : Int) ≤ (k : Int) := Int.natCast_nonneg _
   have hi1 : (k : Int) < (ps.length : Int) := by omega
   have HQN := Lib.hid (hS.qnew HOK.out)
   have OWr := Lib.hid (TOT.out _ _ _ _ _ _ hS).1
   have hMw3 : Mb < w3.heap.size := HOK.out.lt.2.2
   have CE := Lib.hid (hcan wr (PQ q w2.heap.size w1.heap.size (.slice A1 k c1)) (TOT.out _ _ _ _ _ _ hS).1 hS.cache (hS.qnew HOK.out) (hS.qM HOK.out)).2
   clear hme hcf hcl hb0 hbM hS hsz HI hcan
   go_wp2_with fail
   refine CE.out.mono ?_
   rintro e wa ⟨⟨pf, ix1, A5, A6, A7, n5, n6, n7, c5, c6, c7, bz, rfl, hpf, hpz, hb⟩, hCa, hoa⟩
   obtain ⟨wb, hwb⟩ : ∃ wb, wa.alloc (.cells #[.int .i64 ix1, .slice A5 n5 c5, .slice A6 n6 c6, .slice A7 n7 c7] 39) = wb := ⟨_, rfl⟩
   have bw : Below wa.heap.size wa wb := by rw [← hwb]; exact (Below.refl _ _).alloc (Nat.le_refl _) _
   have qb : wb.heap[wa.heap.size]? = some (.cells #[.int .i64 ix1, .slice A5 n5 c5, .slice A6 n6 c6, .slice A7 n7 c7] 39 (0, 0)) := by rw [← hwb]; exact heap_alloc_new _ _
   have HWB := Lib.hid hwb
   have HS1 := Lib.hid ((HS.out.oth HOK.out hoa hCa).below HOK.out bw)
   have HPF := Lib.hid (PfP.keep (fun b _ hlt => bw.block b hlt) bw.size (fun _ _ h => h) _ _ _ _ _ hpf)
   have HPZ := Lib.hid hpz
   have HB := Lib.hid hb
   have QB := Lib.hid qb
   clear hwb bw qb hpf hpz hb hCa hoa CE d0
   go_upto_region 6 with fail
   rw [HWB.out]
   clear HWB
   cases bz with
   | false =>
    have HNR : Hid (¬ r) := Lib.hid (fun h => by have := HB.out.2 ((drop_wks hlt).1 (HRR.out.1 h)).1; cases this)
    obtain ⟨s1, s2, s3, s4, h1, h2, h3, h4, ⟨c0', c1', c2', c3'⟩, ⟨t0, t1, t2, t3⟩, HQ, HZ⟩ := lpi_none HS1.out HOK.out O3.out G2.out hgl hgq HNR.out
    go_wp2_with fail
    refine bodyPost_ret (results_proof2 rfl _ _ _ _ _ _ _ rfl HQ.out) rfl ?_
    exact HZ.out
   | true =>
    obtain ⟨s3, e3, A', c', s4, s5, hrun, ⟨d1, d2⟩, e5, hP5⟩ := HS1.out.push HOK.out HPF.out (by omega)
    have HRUN := Lib.hid hrun
    have HN := Lib.hid (lpi_next hlt HSZ.out HPZ.out hP5)
    have HG : Hid (r ↔ Lfc.Ods.wks W B (ps.drop (k + 1))) := Lib.hid (HRR.out.trans ((drop_wks hlt).trans ⟨fun h => h.2, fun h => ⟨HB.out.1 rfl, h⟩⟩))
    have z1 : wb.cell? ⟨w2.heap.size, 1, none⟩ = some (.slice A1 k c1) := Lib.cell_of_heap HS1.out.blk 1
    obtain ⟨y0, y1, y2, y3⟩ := cells4v QB.out
    clear hrun hP5 HPF HPZ
    go_wp2_with (at_builtin; refine wpList_append_run rfl _ _ 36 rfl _ _ _ _ rfl rfl HRUN.out ?_)
    go_roundw
    case rel => exact ⟨k + 1, by omega, by go_num, Lib.hid (⟨HN.out, HG.out⟩)⟩
    case measure => simp [intOf]; omega
  ·obtain rfl : k = ps.length := by omega
   obtain ⟨⟨os, A1, c1, hS, hsz⟩, hr⟩ := HI.out
   have HS := Lib.hid hS
   have HSZ := Lib.hid hsz
   obtain ⟨z0, z1, z2, z3⟩ := cells4v hS.blk
   have HRR := Lib.hid hr
   clear hS hsz hr HI
   obtain ⟨r1, r2, r3, r4, h1, h2, h3, h4, ⟨c0', c1', c2', c3'⟩, ⟨t0, t1, t2, t3⟩, HQ, HZ⟩ := lpi_fin (r := r) (b := true) HS.out HOK.out HSZ.out O3.out G2.out hgl hgq ⟨fun _ => HRR.out.2 (by rw [List.drop_length, Lfc.Ods.wks]; trivial), fun _ => rfl⟩
   go_wp2_with fail
   refine bodyPost_ret (results_proof2 rfl _ _ _ _ _ _ _ rfl HQ.out) rfl ?_
   exact HZ.out
end Go.Proofs.YtadjpadieljjlaaGreat
namespace Lfc
def blk : Raw := .node 0 [] 0 []
def chF (ks : List Int) (fs : List Fact) (ts us : List Raw) (m : Int) (i j : Nat) : Prop := chn ks fs (ts.getD i blk) (us.getD j blk) m
def chB (ks : List Int) (fs : List Fact) (ts us : List Raw) (i j : Nat) : Prop := chn ks fs (us.getD j blk) (ts.getD i blk) 1
end Lfc
namespace Go.Proofs.YtadjpadieljjlaaGreat
open Go.RowKit Go.Maps
theorem callFunc_enter {f : FuncId} {fn : Func} {c : Code} (hf : Tryz.prog.funcs[f]? = some fn) (hname : (fn.name == "runtime.NumGoroutine") = false) (hb : fn.body = some c) (xs : Array Value) (W : World) : (callFunc f xs).run Tryz.prog W = .ok (.enter f xs) W := by
 have h1 : ¬ fn.name = "runtime.NumGoroutine" := by simpa using hname
 simp [callFunc, hf, h1, hb]
set_option maxRecDepth 100000 in
theorem odsCan (Bx Mb : Nat) (F A0 L R : Option Addr) (f0 c0 cl cr : Nat) (fs : List Lfc.Fact) (ks : List Int) (ts us : List Lfc.Raw) (hks : ks.length ≤ 1000000) (hfl : fs.length ≤ 400) (hfz : ∀ f ∈ fs, f.l.size ≤ 1000000 ∧ f.r.size ≤ 1000000) (hts : ∀ t ∈ ts, t.size ≤ 1000000) (hus : ∀ t ∈ us, t.size ≤ 1000000) (hnt : ts.length ≤ 1000000) (hnu : us.length ≤ 1000000) (m : Nat) (hm : m ≤ 1000) :
  ∀ (p : Lfc.Ods) (v : Value) (w : World), p.size ≤ m → p.rng ts.length us.length → PvO w Bx Mb F A0 L R f0 c0 cl cr fs ks ts us → OdsP (fun b => b ≠ Mb) w p v →
   Can ks fs Mb Bx (Lfc.chF ks fs ts us 2) (Lfc.chF ks fs ts us 1) (Lfc.chB ks fs ts us) w p v := by
 induction m with
 | zero => intro p v w h; have := p.size_pos; omega
 | succ m ih0 =>
  have ih := ih0 (by omega)
  intro p v w hsz hrg hP hv
  have parts : ∀ (ps : List Lfc.Ods) (A : Option Addr), Lfc.Ods.sizes ps ≤ m → Lfc.Ods.rngs ts.length us.length ps → (ps ≠ [] → ∃ b o, A = some ⟨b, o, none⟩ ∧ b < w.heap.size ∧ b ≠ Mb ∧ OdssP (fun b => b ≠ Mb) w b ps o) → Cans ks fs Mb Bx (Lfc.chF ks fs ts us 2) (Lfc.chF ks fs ts us 1) (Lfc.chB ks fs ts us) w A ps := fun ps A h1 h2 h3 i hi => by
   obtain ⟨b, o, v, hA, hb, hM, hc, hp⟩ := OdsSl.at_ h3 hi
   exact ⟨b, o, v, hA, hb, hM, hc, ih _ v w (Nat.le_trans (Lfc.Ods.sizes_mem ps _ (List.getElem_mem _)) h1) (Lfc.Ods.rngs_mem ps _ h2 (List.getElem_mem _)) hP hp⟩
  cases p with
  | arg i j =>
   rw [OdsP] at hv
   rw [Lfc.Ods.rng] at hrg
   obtain ⟨hi, hj⟩ := hrg
   subst hv
   have ei : ts.getD i Lfc.blk = ts[i] := by simp [List.getD, List.getElem?_eq_getElem hi]
   have ej : us.getD j Lfc.blk = us[j] := by simp [List.getD, List.getElem?_eq_getElem hj]
   have hprv : ∀ (w1 : World) (q : Nat → Prop), Oth Mb w w1 → Cache ks fs Mb q w1 → (∀ b, w1.heap.size ≤ b → q b) → (∀ b, q b → b ≠ Mb) → ∀ rel r, RelIs (Lfc.chF ks fs ts us 2) (Lfc.chF ks fs ts us 1) (Lfc.chB ks fs ts us) (.arg i j) rel r →
     Calls Tryz.prog 158 #[.agg #[.int .i64 (i : Int), .int .i64 (j : Int)], .pointer (some ⟨Bx, 0, none⟩), .int .i64 rel] w1 (PrvA ks fs Mb q w1 1 r) := fun w1 q ho hC hq hqM rel r hrel =>
    oArgP_any q Bx Mb i j F A0 L R f0 c0 cl cr fs ks ts us rel r w1 hks hfl hfz (hP.oth ho) hC hq hqM hi hj (hts _ (List.getElem_mem _)) (hus _ (List.getElem_mem _)) (by omega) (by omega) (by
     simp only [RelIs, Lfc.Ods.ls, Lfc.Ods.le, Lfc.Ods.eq, Lfc.chF, Lfc.chB, ei, ej] at hrel
     exact hrel)
   refine ⟨_, _, 158, 160, rfl, fun _ _ => by rfl, fun _ _ => by rfl, ⟨callFunc_enter Tryz.func158 (by kernel_rfl) rfl, callFunc_enter Tryz.func160 (by kernel_rfl) rfl⟩, fun w1 q ho hC hq hqM => ⟨fun rel r hrel => hprv w1 q ho hC hq hqM rel r hrel, ?_⟩⟩
   refine oArgW_any q Bx Mb i j fs ks _ w1 hC.lt hC (fun W q' hW hC' h1 h2 => hprv W q' (ho.trans (Oth.of_below hW)) hC' h1 h2 2 _ (.inr (.inl ⟨rfl, ?_⟩))) hq hqM
   simp only [Lfc.Ods.wk, Lfc.Ods.le]
  | lex ps =>
   rw [OdsP] at hv
   rw [Lfc.Ods.rng] at hrg
   rw [Lfc.Ods.size] at hsz
   obtain ⟨A, c, rfl, hc, h3⟩ := hv
   have hE := parts ps A (by omega) hrg h3
   have hn : ps.length ≤ 1000 := by have := Lfc.Ods.sizes_len ps; omega
   refine ⟨_, _, 151, 153, rfl, fun _ _ => by rfl, fun _ _ => by rfl, ⟨callFunc_enter Tryz.func151 (by kernel_rfl) rfl, callFunc_enter Tryz.func153 (by kernel_rfl) rfl⟩, fun w1 q ho hC hq hqM => ⟨fun rel r hrel => ?_, ?_⟩⟩
   ·simp only [RelIs, Lfc.Ods.ls, Lfc.Ods.le, Lfc.Ods.eq] at hrel
    rcases hrel with ⟨rfl, hr⟩ | ⟨rfl, hr⟩ | ⟨rfl, hr⟩
    ·exact oLex1_any q _ _ _ Bx Mb ks fs ps A c w1 r (hE.oth ho) hn hC hq hqM hr
    ·exact oLex2_any q _ _ _ Bx Mb ks fs ps A c w1 r (hE.oth ho) hn hC hq hqM hr
    ·exact oLex3_any q _ _ _ Bx Mb ks fs ps A c w1 r (hE.oth ho) hn hC hq hqM hr
   ·exact oLexW_any q _ _ _ Bx Mb ks fs ps A c w1 _ (hE.oth ho) hn hC hq hqM (by simp only [Lfc.Ods.wk])
  | sim ps =>
   rw [OdsP] at hv
   rw [Lfc.Ods.rng] at hrg
   rw [Lfc.Ods.size] at hsz
   obtain ⟨A, c, rfl, hc, h3⟩ := hv
   have hE := parts ps A (by omega) hrg h3
   have hn : ps.length ≤ 1000 := by have := Lfc.Ods.sizes_len ps; omega
   refine ⟨_, _, 155, 157, rfl, fun _ _ => by rfl, fun _ _ => by rfl, ⟨callFunc_enter Tryz.func155 (by kernel_rfl) rfl, callFunc_enter Tryz.func157 (by kernel_rfl) rfl⟩, fun w1 q ho hC hq hqM => ⟨fun rel r hrel => ?_, ?_⟩⟩
   ·simp only [RelIs, Lfc.Ods.ls, Lfc.Ods.le, Lfc.Ods.eq] at hrel
    rcases hrel with ⟨rfl, hr⟩ | ⟨rfl, hr⟩ | ⟨rfl, hr⟩
    ·exact oSim1_any q _ _ _ Bx Mb ks fs ps A c w1 r (hE.oth ho) hn hC hq hqM hr
    ·exact oSim2_any q _ _ _ Bx Mb ks fs ps A c w1 r (hE.oth ho) hn hC hq hqM hr
    ·exact oSim3_any q _ _ _ Bx Mb ks fs ps A c w1 r (hE.oth ho) hn hC hq hqM hr
   ·exact oSimW_any q _ _ _ Bx Mb ks fs ps A c w1 _ (hE.oth ho) hn hC hq hqM (by simp only [Lfc.Ods.wk])
end Go.Proofs.YtadjpadieljjlaaGreat
