/- The contract of argument.prove at Less where there are no facts. -/
import Derived.Test.YtadjpadieljjlaaOrChain
set_option linter.unusedVariables false
set_option linter.unusedSimpArgs false
namespace Go.Proofs.Ytadjpadieljjlaa
open Go.RowKit
theorem two_alloc (w : World) (X Y : Obj) : ((w.alloc X).alloc Y).drew.heap[w.heap.size + 1]? = some Y := by
  have h := heap_alloc_new (w.alloc X) Y
  have e : (w.alloc X).heap.size = w.heap.size + 1 := by simp
  rw [e] at h
  exact h
theorem proof_size : (Try.prog.info? 58).map (·.size) = some 4 := by kernel_rfl
theorem results_proof2 {fn : Func} {p u : Tmp} (h : fn.results = #[.cell p 58, .tmp u]) (tmps : Array Value) (w : World) (g : Nat) (v0 v1 v2 v3 : Value) (hp : tmps.getD p undef = .pointer (some ⟨g, 0, none⟩)) (hg : w.heap[g]? = some (.cells #[v0, v1, v2, v3] 58 (0, 0))) :
    (results fn tmps).run Try.prog w = .ok (.tuple #[.agg #[v0, v1, v2, v3], tmps.getD u undef]) w := by
  rw [results_cell_tmp h, hp]
  simp [asAddr, run_loadVar_row w g _ _ _ _ _ hg Try.underlying58 rfl proof_size, Result.andThen]
theorem results_proof {fn : Func} {p : Tmp} (h : fn.results = #[.cell p 58]) (tmps : Array Value) (w : World) (g : Nat) (v0 v1 v2 v3 : Value) (hp : tmps.getD p undef = .pointer (some ⟨g, 0, none⟩)) (hg : w.heap[g]? = some (.cells #[v0, v1, v2, v3] 58 (0, 0))) :
    (results fn tmps).run Try.prog w = .ok (.agg #[v0, v1, v2, v3]) w :=
  results_cell_row h tmps w g _ _ _ _ hp hg Try.underlying58 rfl proof_size
/-- A bare chain as a proof is answered. -/
def ArgAns (w : World) (r : Option (List Lfc.Link)) (e : Ending) (w' : World) : Prop :=
  ((r = none ∧ e = .returned (.tuple #[.agg #[.int .i64 0, .slice none 0 0, .slice none 0 0, .slice none 0 0], .bool false])) ∨ (∃ l A c, r = some l ∧ e = .returned (.tuple #[.agg #[.int .i64 0, .slice none 0 0, .slice A l.length c, .slice none 0 0], .bool true]) ∧ l.length ≤ c ∧ LinksP (fun b => w.heap.size ≤ b) w' A l)) ∧ Below w.heap.size w w'
/-- The prover lies there. -/
structure ProvO (w : World) (Bx : Nat) (F0 A0 L R : Option Addr) (nf f0 : Nat) (ks : List Int) (c0 : Nat) (ts us : List Lfc.Raw) (cl cr : Nat) : Prop where
  lt : Bx < w.heap.size
  facts : w.cell? ⟨Bx, 0, none⟩ = some (.slice F0 nf f0)
  kinds : w.cell? ⟨Bx, 1, none⟩ = some (.slice A0 ks.length c0)
  left : w.cell? ⟨Bx, 2, none⟩ = some (.slice L ts.length cl)
  right : w.cell? ⟨Bx, 3, none⟩ = some (.slice R us.length cr)
  ks : IntsO w A0 ks
  ts : TreesAt w L ts
  us : TreesAt w R us
theorem ProvO.below {w w' : World} {Bx : Nat} {F0 A0 L R : Option Addr} {nf f0 : Nat} {ks : List Int} {c0 : Nat} {ts us : List Lfc.Raw} {cl cr : Nat} (h : ProvO w Bx F0 A0 L R nf f0 ks c0 ts us cl cr) (hb : Below w.heap.size w w') : ProvO w' Bx F0 A0 L R nf f0 ks c0 ts us cl cr :=
  ⟨Nat.lt_of_lt_of_le h.lt hb.size, (hb.cell (p := ⟨Bx, 0, none⟩) h.lt).trans h.facts, (hb.cell (p := ⟨Bx, 1, none⟩) h.lt).trans h.kinds, (hb.cell (p := ⟨Bx, 2, none⟩) h.lt).trans h.left, (hb.cell (p := ⟨Bx, 3, none⟩) h.lt).trans h.right, h.ks.below hb, h.ts.below hb, h.us.below hb⟩

set_option maxRecDepth 100000 in
set_option maxHeartbeats 8000000 in
theorem oArgProve_any (Bx : Nat) (F0 A0 L R : Option Addr) (f0 : Nat) (ks : List Int) (c0 : Nat) (ts us : List Lfc.Raw) (cl cr i j : Nat) (w : World) (hks : ks.length ≤ 1000000) (hP : ProvO w Bx F0 A0 L R 0 f0 ks c0 ts us cl cr) (hi : i < ts.length) (hj : j < us.length) (hsi : ts[i].size ≤ 1000000) (hsj : us[j].size ≤ 1000000) (hil : i ≤ 1000000) (hjl : j ≤ 1000000) :
    Calls Try.prog 105 #[.agg #[.int .i64 (i : Int), .int .i64 (j : Int)], .pointer (some ⟨Bx, 0, none⟩), .int .i64 1] w (ArgAns w (Lfc.chain0 ks ts[i] us[j] 2)) := by
  obtain ⟨b, o, k1, n1, p1, xs, B, c1, rfl, hb, ht, d0, d1, d2, d3, hcu, hB, hT⟩ := hP.ts.at_ hi
  obtain ⟨b', o', k2, n2, p2, ys, B', c2, rfl, hb', ht', e0, e1, e2, e3, hcu', hB', hT'⟩ := hP.us.at_ hj
  obtain ⟨t, hT0⟩ : ∃ t, ts[i] = t := ⟨_, rfl⟩
  obtain ⟨u, hU0⟩ : ∃ u, us[j] = u := ⟨_, rfl⟩
  rw [hT0] at hsi hT ⊢
  rw [hU0] at hsj hT' ⊢
  have HP := Lib.hid hP
  have HT := Lib.hid hT
  have HT' := Lib.hid hT'
  obtain ⟨nts, hnts⟩ : ∃ n, ts.length = n := ⟨_, rfl⟩
  obtain ⟨nus, hnus⟩ : ∃ n, us.length = n := ⟨_, rfl⟩
  obtain ⟨w1, hw1⟩ : ∃ w1, w.alloc (.cells #[.int .i64 (i : Int), .int .i64 (j : Int)] 98) = w1 := ⟨_, rfl⟩
  obtain ⟨w2, hw2⟩ : ∃ w2, w1.alloc (.cells #[.int .i64 0, .slice none 0 0, .slice none 0 0, .slice none 0 0] 58) = w2 := ⟨_, rfl⟩
  have b1 : Below w.heap.size w w1 := by rw [← hw1]; exact (Below.refl _ _).alloc (Nat.le_refl _) _
  have b2 : Below w1.heap.size w1 w2 := by rw [← hw2]; exact (Below.refl _ _).alloc (Nat.le_refl _) _
  have q1 : w1.heap[w.heap.size]? = some (.cells #[.int .i64 (i : Int), .int .i64 (j : Int)] 98 (0, 0)) := by rw [← hw1]; exact heap_alloc_new _ _
  have q2 : w2.heap[w1.heap.size]? = some (.cells #[.int .i64 0, .slice none 0 0, .slice none 0 0, .slice none 0 0] 58 (0, 0)) := by rw [← hw2]; exact heap_alloc_new _ _
  have l1 := lt_of_block q1
  have l2 := lt_of_block q2
  have b02 : Below w.heap.size w w2 := b1.trans (b2.mono (by omega))
  have B02 := Lib.hid b02
  have s02 : w.heap.size ≤ w2.heap.size := by omega
  have Q2 := Lib.hid q2
  obtain ⟨y0, y1⟩ := cells2e ((b2.block _ l1).trans q1)
  have hp2 := hP.below b02
  have x2 := hp2.left
  have x3 := hp2.right
  rw [hnts] at x2 hi
  rw [hnus] at x3 hj
  have f0' := (b02.cell (p := ⟨b, o + i * 4, none⟩) hb).trans d0
  have f1' := (b02.cell (p := ⟨b, o + i * 4 + 1, none⟩) hb).trans d1
  have f2' := (b02.cell (p := ⟨b, o + i * 4 + 2, none⟩) hb).trans d2
  have f3' := (b02.cell (p := ⟨b, o + i * 4 + 3, none⟩) hb).trans d3
  have g0' := (b02.cell (p := ⟨b', o' + j * 4, none⟩) hb').trans e0
  have g1' := (b02.cell (p := ⟨b', o' + j * 4 + 1, none⟩) hb').trans e1
  have g2' := (b02.cell (p := ⟨b', o' + j * 4 + 2, none⟩) hb').trans e2
  have g3' := (b02.cell (p := ⟨b', o' + j * 4 + 3, none⟩) hb').trans e3
  have SX : Hid ((w2.cell? ⟨Bx, 2, none⟩ = some (.slice (some ⟨b, o, none⟩) nts cl) ∧ w2.cell? ⟨Bx, 3, none⟩ = some (.slice (some ⟨b', o', none⟩) nus cr)) ∧ (w2.cell? ⟨w.heap.size, 0, none⟩ = some (.int .i64 (i : Int)) ∧ w2.cell? ⟨w.heap.size, 1, none⟩ = some (.int .i64 (j : Int))) ∧ (w2.cell? ⟨b, o + i * 4, none⟩ = some (.int .i64 k1) ∧ w2.cell? ⟨b, o + i * 4 + 1, none⟩ = some (S n1) ∧ w2.cell? ⟨b, o + i * 4 + 2, none⟩ = some (.int .i64 p1) ∧ w2.cell? ⟨b, o + i * 4 + 3, none⟩ = some (.slice B xs.length c1)) ∧ (w2.cell? ⟨b', o' + j * 4, none⟩ = some (.int .i64 k2) ∧ w2.cell? ⟨b', o' + j * 4 + 1, none⟩ = some (S n2) ∧ w2.cell? ⟨b', o' + j * 4 + 2, none⟩ = some (.int .i64 p2) ∧ w2.cell? ⟨b', o' + j * 4 + 3, none⟩ = some (.slice B' ys.length c2))) := Lib.hid ⟨⟨x2, x3⟩, ⟨y0, y1⟩, ⟨f0', f1', f2', f3'⟩, ⟨g0', g1', g2', g3'⟩⟩
  have m1 := World.new_ne w2 _ x2
  have m2 := World.new_ne w2 _ y0
  have m3 := World.new_ne w2 _ f0'
  have m4 := World.new_ne w2 _ g0'
  simp only at m1 m2 m3 m4
  have hi0 : (0 : Int) ≤ (i : Int) := Int.natCast_nonneg _
  have hi1 : (i : Int) < (nts : Int) := by omega
  have hj0 : (0 : Int) ≤ (j : Int) := Int.natCast_nonneg _
  have hj1 : (j : Int) < (nus : Int) := by omega
  obtain ⟨r, hr⟩ : ∃ r, Lfc.chain0 ks t u 2 = r := ⟨_, rfl⟩
  rw [hr]
  have HR := Lib.hid hr
  clear hr hT hT' hP hp2 q1 q2 b1 b2 b02 ht ht' hB hB' d0 d1 d2 d3 e0 e1 e2 e3 hT0 hU0 hnts hnus
  go_enter Try.func105, Try.ntmps105
  go_upto_region 1 with fail
  clear hw1 hw2
  go_region_held3 (fun W => (W.cell? ⟨Bx, 2, none⟩ = some (.slice (some ⟨b, o, none⟩) nts cl) ∧ W.cell? ⟨Bx, 3, none⟩ = some (.slice (some ⟨b', o', none⟩) nus cr)) ∧ (W.cell? ⟨w.heap.size, 0, none⟩ = some (.int .i64 (i : Int)) ∧ W.cell? ⟨w.heap.size, 1, none⟩ = some (.int .i64 (j : Int))) ∧ (W.cell? ⟨b, o + i * 4, none⟩ = some (.int .i64 k1) ∧ W.cell? ⟨b, o + i * 4 + 1, none⟩ = some (S n1) ∧ W.cell? ⟨b, o + i * 4 + 2, none⟩ = some (.int .i64 p1) ∧ W.cell? ⟨b, o + i * 4 + 3, none⟩ = some (.slice B xs.length c1)) ∧ (W.cell? ⟨b', o' + j * 4, none⟩ = some (.int .i64 k2) ∧ W.cell? ⟨b', o' + j * 4 + 1, none⟩ = some (S n2) ∧ W.cell? ⟨b', o' + j * 4 + 2, none⟩ = some (.int .i64 p2) ∧ W.cell? ⟨b', o' + j * 4 + 3, none⟩ = some (.slice B' ys.length c2)))
    (first | exact SX.out | go_keep)
    (fail)
  · obtain ⟨w5, hw5⟩ : ∃ w5, ((w2.alloc (.cells #[.int .i64 k1, S n1, .int .i64 p1, .slice B xs.length c1] 34)).alloc (.cells #[.int .i64 k2, S n2, .int .i64 p2, .slice B' ys.length c2] 34)).drew = w5 := ⟨_, rfl⟩
    rw [hw5]
    have b5 : Below w2.heap.size w2 w5 := by rw [← hw5]; exact (((Below.refl _ _).alloc (Nat.le_refl _) _).alloc (by simp) _).drew
    have s5 : w5.heap.size = w2.heap.size + 2 := by rw [← hw5]; simp [World.drew]
    have qa : w5.heap[w2.heap.size]? = some (.cells #[.int .i64 k1, S n1, .int .i64 p1, .slice B xs.length c1] 34 (0, 0)) := by
      rw [← hw5]
      exact (Below.heap_alloc _ _ _ (by simp)).trans (heap_alloc_new _ _)
    have qb : w5.heap[w2.heap.size + 1]? = some (.cells #[.int .i64 k2, S n2, .int .i64 p2, .slice B' ys.length c2] 34 (0, 0)) := by
      rw [← hw5]
      exact two_alloc _ _ _
    obtain ⟨y0, y1, y2, y3⟩ := cells4t qa
    obtain ⟨z0, z1, z2, z3⟩ := cells4t qb
    have hp5 := HP.out.below (B02.out.trans (b5.mono s02))
    have CH := Lib.hid (oChain0_any Bx ks A0 F0 c0 f0 2 t u _ _ w5 hks hsi hsj hp5.ks (HT.out.below (B02.out.trans (b5.mono s02))) (HT'.out.below (B02.out.trans (b5.mono s02))) hp5.facts hp5.kinds hp5.lt)
    rw [HR.out] at CH
    have B5 := Lib.hid (B02.out.trans (b5.mono s02))
    have Q5 := Lib.hid ((b5.block _ l2).trans Q2.out)
    clear hw5 hp5 qa qb b5
    go_wp2_with fail
    refine CH.out.mono ?_
    rintro e w6 ⟨⟨rfl, rfl⟩ | ⟨l, Al, cll, rfl, rfl, hcl, hl⟩, b6⟩
    · obtain ⟨s1, s2, s3, s4, h1, h2, h3, h4, ⟨c0', c1', c2', c3'⟩, ⟨t0, t1, t2, t3⟩, hq, ho⟩ := put4 ((b6.block _ (by omega)).trans Q5.out) (.int .i64 0) (.slice none 0 0) (.slice none 0 0) (.slice none 0 0)
      have HQ := Lib.hid hq
      have HZ : Hid (ArgAns w none (.returned (.tuple #[.agg #[.int .i64 0, .slice none 0 0, .slice none 0 0, .slice none 0 0], .bool false])) s4) := Lib.hid ⟨.inl ⟨rfl, rfl⟩, Oth.below (B5.out.trans (b6.mono B5.out.size)) ho (by omega) (Nat.le_trans B5.out.size b6.size)⟩
      clear hq ho b6 y0 y1 y2 y3 z0 z1 z2 z3 CH
      go_wp2_with fail
      refine bodyPost_ret (results_proof2 rfl _ _ _ _ _ _ _ rfl HQ.out) rfl ?_
      exact HZ.out
    · obtain ⟨s1, s2, s3, s4, h1, h2, h3, h4, ⟨c0', c1', c2', c3'⟩, ⟨t0, t1, t2, t3⟩, hq, ho⟩ := put4 ((b6.block _ (by omega)).trans Q5.out) (.int .i64 0) (.slice none 0 0) (.slice Al l.length cll) (.slice none 0 0)
      have HQ := Lib.hid hq
      have HZ : Hid (ArgAns w (some l) (.returned (.tuple #[.agg #[.int .i64 0, .slice none 0 0, .slice Al l.length cll, .slice none 0 0], .bool true])) s4) := Lib.hid ⟨.inr ⟨l, Al, cll, rfl, rfl, hcl, hl.keep (fun b hb hlt => ho.block b hlt (fun e => by have e := Option.some.inj e; have hb : w5.heap.size ≤ b := hb; omega)) ho.size (fun b _ hb => Nat.le_trans B5.out.size hb)⟩, Oth.below (B5.out.trans (b6.mono B5.out.size)) ho (by omega) (Nat.le_trans B5.out.size b6.size)⟩
      clear hq ho b6 y0 y1 y2 y3 z0 z1 z2 z3 CH hl
      go_wp2_with fail
      refine bodyPost_ret (results_proof2 rfl _ _ _ _ _ _ _ rfl HQ.out) rfl ?_
      exact HZ.out
  · obtain ⟨w5, hw5⟩ : ∃ w5, ((w2.alloc (.cells #[.int .i64 k2, S n2, .int .i64 p2, .slice B' ys.length c2] 34)).alloc (.cells #[.int .i64 k1, S n1, .int .i64 p1, .slice B xs.length c1] 34)).drew = w5 := ⟨_, rfl⟩
    rw [hw5]
    have b5 : Below w2.heap.size w2 w5 := by rw [← hw5]; exact (((Below.refl _ _).alloc (Nat.le_refl _) _).alloc (by simp) _).drew
    have s5 : w5.heap.size = w2.heap.size + 2 := by rw [← hw5]; simp [World.drew]
    have qa : w5.heap[w2.heap.size]? = some (.cells #[.int .i64 k2, S n2, .int .i64 p2, .slice B' ys.length c2] 34 (0, 0)) := by
      rw [← hw5]
      exact (Below.heap_alloc _ _ _ (by simp)).trans (heap_alloc_new _ _)
    have qb : w5.heap[w2.heap.size + 1]? = some (.cells #[.int .i64 k1, S n1, .int .i64 p1, .slice B xs.length c1] 34 (0, 0)) := by
      rw [← hw5]
      exact two_alloc _ _ _
    obtain ⟨y0, y1, y2, y3⟩ := cells4t qb
    obtain ⟨z0, z1, z2, z3⟩ := cells4t qa
    have hp5 := HP.out.below (B02.out.trans (b5.mono s02))
    have CH := Lib.hid (oChain0_any Bx ks A0 F0 c0 f0 2 t u _ _ w5 hks hsi hsj hp5.ks (HT.out.below (B02.out.trans (b5.mono s02))) (HT'.out.below (B02.out.trans (b5.mono s02))) hp5.facts hp5.kinds hp5.lt)
    rw [HR.out] at CH
    have B5 := Lib.hid (B02.out.trans (b5.mono s02))
    have Q5 := Lib.hid ((b5.block _ l2).trans Q2.out)
    clear hw5 hp5 qa qb b5
    go_wp2_with fail
    refine CH.out.mono ?_
    rintro e w6 ⟨⟨rfl, rfl⟩ | ⟨l, Al, cll, rfl, rfl, hcl, hl⟩, b6⟩
    · obtain ⟨s1, s2, s3, s4, h1, h2, h3, h4, ⟨c0', c1', c2', c3'⟩, ⟨t0, t1, t2, t3⟩, hq, ho⟩ := put4 ((b6.block _ (by omega)).trans Q5.out) (.int .i64 0) (.slice none 0 0) (.slice none 0 0) (.slice none 0 0)
      have HQ := Lib.hid hq
      have HZ : Hid (ArgAns w none (.returned (.tuple #[.agg #[.int .i64 0, .slice none 0 0, .slice none 0 0, .slice none 0 0], .bool false])) s4) := Lib.hid ⟨.inl ⟨rfl, rfl⟩, Oth.below (B5.out.trans (b6.mono B5.out.size)) ho (by omega) (Nat.le_trans B5.out.size b6.size)⟩
      clear hq ho b6 y0 y1 y2 y3 z0 z1 z2 z3 CH
      go_wp2_with fail
      refine bodyPost_ret (results_proof2 rfl _ _ _ _ _ _ _ rfl HQ.out) rfl ?_
      exact HZ.out
    · obtain ⟨s1, s2, s3, s4, h1, h2, h3, h4, ⟨c0', c1', c2', c3'⟩, ⟨t0, t1, t2, t3⟩, hq, ho⟩ := put4 ((b6.block _ (by omega)).trans Q5.out) (.int .i64 0) (.slice none 0 0) (.slice Al l.length cll) (.slice none 0 0)
      have HQ := Lib.hid hq
      have HZ : Hid (ArgAns w (some l) (.returned (.tuple #[.agg #[.int .i64 0, .slice none 0 0, .slice Al l.length cll, .slice none 0 0], .bool true])) s4) := Lib.hid ⟨.inr ⟨l, Al, cll, rfl, rfl, hcl, hl.keep (fun b hb hlt => ho.block b hlt (fun e => by have e := Option.some.inj e; have hb : w5.heap.size ≤ b := hb; omega)) ho.size (fun b _ hb => Nat.le_trans B5.out.size hb)⟩, Oth.below (B5.out.trans (b6.mono B5.out.size)) ho (by omega) (Nat.le_trans B5.out.size b6.size)⟩
      clear hq ho b6 y0 y1 y2 y3 z0 z1 z2 z3 CH hl
      go_wp2_with fail
      refine bodyPost_ret (results_proof2 rfl _ _ _ _ _ _ _ rfl HQ.out) rfl ?_
      exact HZ.out
end Go.Proofs.Ytadjpadieljjlaa
